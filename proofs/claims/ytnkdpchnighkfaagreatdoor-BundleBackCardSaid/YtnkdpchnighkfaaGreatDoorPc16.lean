/- What bundle.Make and Lay answered, taken apart. Nothing here speaks of the program. samovarlaw11.fixed: it answers true. -/
import Derived.Test.YtnkdpchnighkfaaGreatDoorPc14
import Derived.Test.YtnkdpchnighkfaaGreatDoorPc15
import Derived.Test.YtnkdpchnighkfaaGreatDoorPc12
import Derived.Test.YtnkdpchnighkfaaGreatDoorPc4
import Derived.Lib.SlBytesConst
namespace Go.Proofs.YtnkdpchnighkfaaGreatDoor
open Go.RowKit
theorem bkOk {R : Rz (List UInt8)} {w w' : World} {e : Ending} {o : List UInt8} (h : BookPost R w e w') (hR : R = .ok o) : ∃ A n c, e = .returned (.tuple #[.slice A n c, .int .i64 0]) ∧ Bx (n = o.length) ∧ RB w' w'.heap.size A o ∧ n ≤ c ∧ (c : Int) ≤ 9223372036854775807 ∧ Below w.heap.size w w' ∧ n ≤ 65536 := by
  subst hR
  obtain ⟨hb, v, rfl, ho, hl⟩ := h
  obtain ⟨A, c, rfl, hr, hc, hm⟩ := OwL.rd ho
  exact ⟨A, _, c, rfl, bx rfl, hr, hc, hm, hb, hl⟩
theorem bkErr {R : Rz (List UInt8)} {w w' : World} {e : Ending} {k : Int} (h : BookPost R w e w') (hR : R = .err k) : e = .returned (.tuple #[.slice none 0 0, .int .i64 k]) ∧ Below w.heap.size w w' ∧ k ≠ 0 := by
  subst hR
  exact ⟨h.2.1, h.1, h.2.2⟩
/-- The error and the bytes. -/
def bkKL : Rz (List UInt8) → Int × List UInt8
  | .ok o => (0, o)
  | .err k => (k, [])
theorem bkPair {R : Rz (List UInt8)} {w w' : World} {e : Ending} {k : Int} {o : List UInt8} (h : BookPost R w e w') (hR : bkKL R = (k, o)) : ∃ A n c, e = .returned (.tuple #[.slice A n c, .int .i64 k]) ∧ Bx (n = o.length) ∧ RB w' w'.heap.size A o ∧ n ≤ c ∧ (c : Int) ≤ 9223372036854775807 ∧ Below w.heap.size w w' ∧ n ≤ 65536 := by
  cases R with
  | ok o' =>
    injection hR with h1 h2
    subst h1
    subst h2
    exact bkOk h rfl
  | err k' =>
    injection hR with h1 h2
    subst h1
    subst h2
    obtain ⟨rfl, hb, _⟩ := bkErr h rfl
    exact ⟨none, 0, 0, rfl, bx rfl, RL.nil, Nat.le_refl _, by decide, hb, by decide⟩
theorem sl_new (w : World) (l : List UInt8) (cs : Array Value) (n : Nat) (h : cs.toList = l.map bV) (hn : l.length = n) (hb : n ≤ 1000000) (e : TypeId) (fr : Nat × Nat) : SlB (w.alloc (.cells cs e fr)) (w.heap.size + 1) ⟨some ⟨w.heap.size, 0, none⟩, n, n, l⟩ :=
  ⟨hn, Nat.le_refl _, by show (n : Int) ≤ _; omega, RL.news w l cs h e fr⟩
/-- One item in new memory. -/
theorem rit_one (w : World) (B : Nat) (hB : B ≤ w.heap.size) (nm : List UInt8) (s : Sl) (sq : Bool) (hs : SlB w B s) (e : TypeId) (cs : Array Value) (hcs : cs.toList = itC ⟨nm, s, sq⟩) (fr : Nat × Nat) : RIt (w.alloc (.cells cs e fr)) (w.heap.size + 1) (some ⟨w.heap.size, 0, none⟩) [⟨nm, s, sq⟩] :=
  ⟨RS.new w _ cs hcs e fr, fun x hx => by
    rcases List.mem_cons.1 hx with rfl | hx
    · exact (hs.below (bl_alloc (Below.refl B w) hB _) (Nat.le_refl _)).more (by omega)
    · cases hx⟩
end Go.Proofs.YtnkdpchnighkfaaGreatDoor
namespace Go.Proofs.YtnkdpchnighkfaaGreatDoor
open Go.RowKit
def itX : Itm := ⟨[97], [120], false⟩
theorem fx_nil : ∃ o, layP (packZ []) = .ok (80 :: o) ∧ o.length = 21 := by
  have h1 : chkP ((packZ []).map (·.1)) = 0 := by decide +kernel
  have h2 : (bookB (packZ [])).length = 22 := by decide +kernel
  have h3 : (bookB (packZ [])).head? = some 80 := by decide +kernel
  have h4 := layP_made h1 (by rw [h2]; decide)
  cases h : bookB (packZ []) with
  | nil => rw [h] at h2; cases h2
  | cons a r =>
    rw [h] at h2 h3 h4
    injection h3 with h3
    subst h3
    exact ⟨r, h4, by simpa using h2⟩
theorem fx_one : layP (packZ [itX]) = .ok (bookB (packZ [itX])) ∧ (bookB (packZ [itX])).length = 101 ∧ findP (bookB (packZ [itX])) [97] = .ok [120] := by
  have h1 : chkP ((packZ [itX]).map (·.1)) = 0 := by decide +kernel
  have h2 : (bookB (packZ [itX])).length = 101 := by decide +kernel
  exact ⟨layP_made h1 (by rw [h2]; decide), h2, by kernel_rfl⟩
theorem fx_bad : layP (packZ [⟨[47, 97], [], false⟩]) = .err 13 := chkP_nz (by decide +kernel) (by decide)
theorem fx_two : layP (packZ [⟨[97], [], false⟩, ⟨[97], [], false⟩]) = .err 14 := chkP_nz (by decide +kernel) (by decide)
theorem rs_cells {α : Type} {fC : α → List Value} (w : World) (l : List α) (cs : Array Value) (h : cs.toList = l.flatMap fC) (e : TypeId) (fr : Nat × Nat) : RS fC (w.alloc (.cells cs e fr)) (w.heap.size + 1) (some ⟨w.heap.size, 0, none⟩) l := fun _ =>
  ⟨_, rfl, Nat.lt_succ_self _, fun i u hu => by
    have e : (⟨w.heap.size, 0, none⟩ : Addr).add i = ⟨w.heap.size, i, none⟩ := by unfold Addr.add; split <;> simp_all
    rw [e, World.cell?_alloc_mark, ← Array.getElem?_toList, h]
    exact hu⟩
def noS : Sl := ⟨none, 0, 0, []⟩
theorem noS_ok (w : World) (B : Nat) : SlB w B noS := ⟨rfl, Nat.le_refl _, by decide, RL.nil⟩
theorem rit_two (w : World) : RIt (w.alloc (.cells #[.string ⟨#[97]⟩, .slice none 0 0, .bool false, .string ⟨#[97]⟩, .slice none 0 0, .bool false] 35)) (w.heap.size + 1) (some ⟨w.heap.size, 0, none⟩) [⟨[97], noS, false⟩, ⟨[97], noS, false⟩] :=
  ⟨rs_cells w _ _ rfl _ _, fun x hx => by
    simp only [List.mem_cons, List.not_mem_nil, or_false] at hx
    rcases hx with rfl | rfl <;> exact noS_ok _ _⟩
theorem item_small {nm : List UInt8} {s : Sl} {sq : Bool} (h1 : nm.length ≤ 10) (h2 : s.n ≤ 10) : ∀ x ∈ [(⟨nm, s, sq⟩ : It)], x.name.length ≤ 140737488351232 ∧ x.s.n ≤ 140737488351232 := by
  intro x hx
  rcases List.mem_cons.1 hx with rfl | hx
  · exact ⟨Nat.le_trans h1 (by decide), Nat.le_trans h2 (by decide)⟩
  · cases hx
set_option maxRecDepth 100000 in
set_option maxHeartbeats 8000000 in
theorem fixed11_any (mx : Int) (w : World) (hm : w.cell? ⟨0, 0, none⟩ = some (.int .i64 mx)) :
    Calls Tryz.prog 4 #[] w fun e w' => e = .returned (.bool true) ∧ Below w.heap.size w w' := by
  have HM := bx hm
  have kc := fun (w : World) (C : Array Value) (n c : Nat) => Lib.run_convert_bytes_const (P := Tryz.prog) w 25 5 C n c Tryz.underlying25 Tryz.underlying5
  obtain ⟨o0, hp0, ho0⟩ := fx_nil
  obtain ⟨q0, q1, q2⟩ := fx_one
  obtain ⟨BB, hBB⟩ : ∃ b, bookB (packZ [itX]) = b := ⟨_, rfl⟩
  rw [hBB] at q0 q1 q2
  have HP0 := bx hp0
  have HO0 := bx ho0
  have HQ0 := bx q0
  have HQ1 := bx q1
  have HQ2 := bx q2
  have HMK := bx (bmake_any none 0 0 [] mx w rfl (Nat.le_refl _) (by decide) (fun x hx => by cases hx) RIt.nil hm)
  clear hm hp0 ho0 q0 q1 q2 hBB
  go_enter Tryz.func4, Tryz.ntmps4
  go_wp2_with fail
  refine HMK.out.mono ?_
  intro e w1 hp
  have hp : BookPost (layP (packZ [])) w e w1 := hp
  rw [HP0.out] at hp
  obtain ⟨hb1, v1, rfl, hv1, _⟩ := hp
  obtain ⟨A1, n1, c1, rfl, hn1, _⟩ := OwL.sl hv1
  obtain rfl : n1 = 22 := by rw [hn1.out, List.length_cons, HO0.out]
  obtain ⟨g, rfl⟩ : ∃ g, A1 = some ⟨g, 0, none⟩ := by
    rcases hv1.2 with ⟨e, _⟩ | ⟨g, _, _, e, _⟩
    · injection e with _ e _; cases e
    · injection e with e _ _; exact ⟨g, e⟩
  have HC1 : Bx (w1.cell? ⟨g, 0, none⟩ = some (.int .u8 80)) := bx (OwL.cell hv1 (k := 0) (x := 80) rfl)
  have HB1 := bx hb1
  clear hb1 hv1 HMK hn1 HP0
  go_wp2_with fail
  have hs1 := sl_new w1 [120] #[.int .u8 120] 1 rfl rfl (by decide) 5 (1, 2)
  have hz1 : (w1.alloc (.cells #[.int .u8 120] 5 (1, 2))).heap.size = w1.heap.size + 1 := by simp
  have hbA : Below w.heap.size w (w1.alloc (.cells #[.int .u8 120] 5 (1, 2))) := bl_alloc HB1.out (Nat.le_refl _) _
  have hcA : Below w1.heap.size w1 (w1.alloc (.cells #[.int .u8 120] 5 (1, 2))) := bl_alloc (Below.refl _ _) (Nat.le_refl _) _
  generalize w1.alloc (.cells #[.int .u8 120] 5 (1, 2)) = wA at hs1 hz1 hbA hcA ⊢
  have hr2 := rit_one wA (w1.heap.size + 1) (Nat.le_of_eq hz1.symm) [97] ⟨some ⟨w1.heap.size, 0, none⟩, 1, 1, [120]⟩ false hs1 35 #[.string ⟨#[97]⟩, .slice (some ⟨w1.heap.size, 0, none⟩) 1 1, .bool false] rfl (0, 0)
  have hz2 : (wA.alloc (.cells #[.string ⟨#[97]⟩, .slice (some ⟨w1.heap.size, 0, none⟩) 1 1, .bool false] 35)).heap.size = wA.heap.size + 1 := by simp
  have hb2 : Below w.heap.size w (wA.alloc (.cells #[.string ⟨#[97]⟩, .slice (some ⟨w1.heap.size, 0, none⟩) 1 1, .bool false] 35)) := bl_alloc hbA (Nat.le_refl _) _
  have hc2 : Below w1.heap.size w1 (wA.alloc (.cells #[.string ⟨#[97]⟩, .slice (some ⟨w1.heap.size, 0, none⟩) 1 1, .bool false] 35)) := bl_alloc hcA (Nat.le_refl _) _
  generalize wA.alloc (.cells #[.string ⟨#[97]⟩, .slice (some ⟨w1.heap.size, 0, none⟩) 1 1, .bool false] 35) = w2 at hr2 hz2 hb2 hc2 ⊢
  rw [← hz2, hz1] at hr2
  have HMK := bx (bmake_any (some ⟨w1.heap.size + 1, 0, none⟩) 1 1 [⟨[97], ⟨some ⟨w1.heap.size, 0, none⟩, 1, 1, [120]⟩, false⟩] mx w2 rfl (by decide) (by decide) (item_small (by decide) (by show (1 : Nat) ≤ 10; decide)) hr2 (cell_old hb2 HM.out))
  have HB2 := bx hb2
  have HC2 : Bx (w2.cell? ⟨g, 0, none⟩ = some (.int .u8 80)) := bx (cell_old hc2 HC1.out)
  clear hs1 hz1 hbA hcA hr2 hz2 hb2 hc2 HC1 HB1
  refine HMK.out.mono ?_
  intro e w3 hp
  have hp : BookPost (layP (packZ [itX])) w2 e w3 := hp
  obtain ⟨A3, n3, c3, rfl, hn3, hr3, hnc3, hcm3, hb3, _⟩ := bkOk hp HQ0.out
  obtain rfl : n3 = 101 := by rw [hn3.out, HQ1.out]
  have HB3 := bx (HB2.out.trans (hb3.mono HB2.out.size))
  have HC3 : Bx (w3.cell? ⟨g, 0, none⟩ = some (.int .u8 80)) := bx (cell_old hb3 HC2.out)
  have HR3 := bx hr3
  clear hp hb3 hr3 HMK HC2 HB2 kc
  go_wp2_with fail
  have hr4 := rit_one w3 w3.heap.size (Nat.le_refl _) [47, 97] noS false (noS_ok _ _) 35 #[.string ⟨#[47, 97]⟩, .slice none 0 0, .bool false] rfl (0, 0)
  have hz4 : (w3.alloc (.cells #[.string ⟨#[47, 97]⟩, .slice none 0 0, .bool false] 35)).heap.size = w3.heap.size + 1 := by simp
  have hb4 : Below w.heap.size w (w3.alloc (.cells #[.string ⟨#[47, 97]⟩, .slice none 0 0, .bool false] 35)) := bl_alloc HB3.out (Nat.le_refl _) _
  have hc4 : Below w3.heap.size w3 (w3.alloc (.cells #[.string ⟨#[47, 97]⟩, .slice none 0 0, .bool false] 35)) := bl_alloc (Below.refl _ _) (Nat.le_refl _) _
  generalize w3.alloc (.cells #[.string ⟨#[47, 97]⟩, .slice none 0 0, .bool false] 35) = w4 at hr4 hz4 hb4 hc4 ⊢
  rw [← hz4] at hr4
  have HMK := bx (bmake_any (some ⟨w3.heap.size, 0, none⟩) 1 1 [⟨[47, 97], noS, false⟩] mx w4 rfl (by decide) (by decide) (item_small (by decide) (by decide)) hr4 (cell_old hb4 HM.out))
  have HB4 := bx hb4
  have HC4 : Bx (w4.cell? ⟨g, 0, none⟩ = some (.int .u8 80)) := bx (cell_old hc4 HC3.out)
  have HR4 := bx (HR3.out.step hc4)
  clear hr4 hz4 hb4 hc4 HC3 HB3 HR3
  refine HMK.out.mono ?_
  intro e w5 hp
  have hp : BookPost (layP (packZ [⟨[47, 97], [], false⟩])) w4 e w5 := hp
  obtain ⟨rfl, hb5, _⟩ := bkErr hp fx_bad
  have HB5 := bx (HB4.out.trans (hb5.mono HB4.out.size))
  have HC5 : Bx (w5.cell? ⟨g, 0, none⟩ = some (.int .u8 80)) := bx (cell_old hb5 HC4.out)
  have HR5 := bx (HR4.out.step hb5)
  clear hp hb5 HMK HC4 HB4 HR4
  go_wp2_with fail
  have hr6 := rit_two w5
  have hz6 : (w5.alloc (.cells #[.string ⟨#[97]⟩, .slice none 0 0, .bool false, .string ⟨#[97]⟩, .slice none 0 0, .bool false] 35)).heap.size = w5.heap.size + 1 := by simp
  have hb6 : Below w.heap.size w (w5.alloc (.cells #[.string ⟨#[97]⟩, .slice none 0 0, .bool false, .string ⟨#[97]⟩, .slice none 0 0, .bool false] 35)) := bl_alloc HB5.out (Nat.le_refl _) _
  have hc6 : Below w5.heap.size w5 (w5.alloc (.cells #[.string ⟨#[97]⟩, .slice none 0 0, .bool false, .string ⟨#[97]⟩, .slice none 0 0, .bool false] 35)) := bl_alloc (Below.refl _ _) (Nat.le_refl _) _
  generalize w5.alloc (.cells #[.string ⟨#[97]⟩, .slice none 0 0, .bool false, .string ⟨#[97]⟩, .slice none 0 0, .bool false] 35) = w6 at hr6 hz6 hb6 hc6 ⊢
  rw [← hz6] at hr6
  have HMK := bx (bmake_any (some ⟨w5.heap.size, 0, none⟩) 2 2 [⟨[97], noS, false⟩, ⟨[97], noS, false⟩] mx w6 rfl (by decide) (by decide) (fun x hx => by
    simp only [List.mem_cons, List.not_mem_nil, or_false] at hx
    rcases hx with rfl | rfl <;> exact ⟨by decide, by decide⟩) hr6 (cell_old hb6 HM.out))
  have HB6 := bx hb6
  have HC6 : Bx (w6.cell? ⟨g, 0, none⟩ = some (.int .u8 80)) := bx (cell_old hc6 HC5.out)
  have HR6 := bx (HR5.out.step hc6)
  clear hr6 hz6 hb6 hc6 HC5 HB5 HR5
  refine HMK.out.mono ?_
  intro e w7 hp
  have hp : BookPost (layP (packZ [⟨[97], [], false⟩, ⟨[97], [], false⟩])) w6 e w7 := hp
  obtain ⟨rfl, hb7, _⟩ := bkErr hp fx_two
  have HB7 := bx (HB6.out.trans (hb7.mono HB6.out.size))
  have HC7 : Bx (w7.cell? ⟨g, 0, none⟩ = some (.int .u8 80)) := bx (cell_old hb7 HC6.out)
  have HR7 := bx (HR6.out.step hb7)
  have HFD := bx (find_any A3 101 c3 BB ⟨#[97]⟩ w7 mx HQ1.out (by decide) hnc3 hcm3 HR7.out (cell_old HB7.out HM.out))
  clear hp hb7 HMK HC6 HB6 HR6
  go_wp2_with fail
  refine HFD.out.mono ?_
  intro e w8 hp
  obtain ⟨A8, n8, c8, rfl, hn8, hr8, _, _, hb8, _⟩ := unpOk hp HQ2.out
  obtain rfl : n8 = 1 := hn8.out
  have HB8 := bx (HB7.out.trans (hb8.mono HB7.out.size))
  have hc8 := cell_old hb8 HC7.out
  have hg8 := World.block_lt_of_cell? w8 ⟨g, 0, none⟩ hc8
  have hcs := run_conv_str (P := Tryz.prog) (c := c8) (n := 1) Tryz.underlying25 Tryz.underlying5 Tryz.underlying9 rfl hr8
  clear hp hb8 hr8 hn8 HC7 HB7 HR7
  go_wp2
  go_ret
  exact ⟨rfl, HB8.out⟩
end Go.Proofs.YtnkdpchnighkfaaGreatDoor
