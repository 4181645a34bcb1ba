/- Walk of PathNil. -/
import Derived.Test.YtlmcpkomjofcgaaDoorPp15
namespace Go.Proofs.YtlmcpkomjofcgaaDoor
open Go.RowKit
theorem cell_lt {w : World} {k o : Nat} {v : Value} (h : w.cell? ⟨k, o, none⟩ = some v) : k < w.heap.size := by
  unfold World.cell? at h
  by_cases hk : k < w.heap.size
  · exact hk
  · have : w.heap[k]? = none := Array.getElem?_eq_none (by omega)
    simp [this] at h
theorem new_far {w w3 w5 : World} {a b c : Nat} (h : Below w.heap.size w w3) (hb : Below w3.heap.size w3 w5) (q1 : w3.heap.size ≤ a) (q2 : w3.heap.size ≤ b) (q3 : w3.heap.size ≤ c) : Below w.heap.size w w5 ∧ w.heap.size ≤ a ∧ w.heap.size ≤ b ∧ w.heap.size ≤ c :=
  ⟨h.trans (hb.mono h.size), Nat.le_trans h.size q1, Nat.le_trans h.size q2, Nat.le_trans h.size q3⟩
theorem zero_far {w w5 : World} {mx : Int} {a b c : Nat} (hm : w.cell? ⟨0, 0, none⟩ = some (.int .i64 mx)) (hz : 0 < w.heap.size) (h : Below w.heap.size w w5) (q : w.heap.size ≤ a ∧ w.heap.size ≤ b ∧ w.heap.size ≤ c) :
    w5.cell? ⟨0, 0, none⟩ = some (.int .i64 mx) ∧ ¬ (False ∨ 0 = a ∨ 0 = b ∨ 0 = c) ∧ 0 < w5.heap.size :=
  ⟨(cell_same (p := ⟨0, 0, none⟩) (h.block 0 hz)).trans hm, fun e => by rcases e with e | e | e | e; exact e.elim; all_goals omega, Nat.lt_of_lt_of_le hz h.size⟩
/-- A row of empty names. -/
theorem nms_empty {cs : Array Value} {k : Nat} (hcs : cs.toList = List.replicate k (.string ⟨#[]⟩)) (w : World) : RL strV (w.alloc (.cells cs 9)) (w.alloc (.cells cs 9)).heap.size (some ⟨w.heap.size, 0, none⟩) (List.replicate k []) :=
  (RL.news w (List.replicate k []) cs (by rw [hcs, List.map_replicate]; rfl) 9 (0, 0)).more (by simp)
theorem info_string : (Tryd.prog.info? 9).map (fun i => (i.zero, i.size, i.bytes)) = some (some (.string ⟨#[]⟩), 1, 16) := by kernel_rfl
set_option maxRecDepth 100000 in
set_option maxHeartbeats 4000000 in
theorem pathNil_walk (mx : Int) (w : World) (hm : w.cell? ⟨0, 0, none⟩ = some (.int .i64 mx)) (s : ByteArray) (_b0 : s.size ≤ 140737488351232) (n : Int) (hn : 0 ≤ n ∧ n ≤ 255) :
    Calls Tryd.prog 4 #[.string s, .int .u8 n] w fun e w' => e = .returned (.bool true) ∧ Below w.heap.size w w' := by
  have hz := cell_lt hm
  have HFX := bx (fixed22_any mx w hm hz)
  have HM := bx hm
  have HZ := bx hz
  obtain ⟨k, rfl⟩ : ∃ k : Nat, n = (k : Int) := ⟨n.toNat, by omega⟩
  have hk : k ≤ 255 := by omega
  clear hm hz hn
  go_enter Tryd.func4, Tryd.ntmps4
  go_wp2_with fail
  refine HFX.out.mono ?_
  rintro e w1 ⟨rfl, hb1⟩
  have HB1 := bx hb1
  clear hb1 HFX
  go_wp2_with fail
  refine (pnil_any s w1).1.mono ?_
  rintro e w2 ⟨rfl, hw⟩
  obtain rfl : w1 = w2 := hw.symm
  go_wp2_with fail
  refine (pnil_any s w1).2.1.mono ?_
  rintro e w2 ⟨rfl, hw⟩
  obtain rfl : w1 = w2 := hw.symm
  go_wp2_with fail
  have hba : Below w1.heap.size w1 (w1.alloc (.cells #[.string s] 9)) := bl_alloc (Below.refl _ _) (Nat.le_refl _) _
  have HB2 := bx (HB1.out.trans (hba.mono HB1.out.size))
  clear hba
  refine (ptnew_no none _ 1 1 _ (.inl rfl)).mono ?_
  rintro e w2 ⟨rfl, hw⟩
  rw [← hw] at HB2
  clear hw
  go_wp2_with fail
  refine (fnew_any w2 (fun _ => False) (fun _ e => e.elim)).mono ?_
  rintro e w3 ⟨gf, bR, bF, rfl, _, _, _, hb3, _⟩
  have HB3 := bx (HB2.out.trans (hb3.mono HB2.out.size))
  clear hb3
  go_wp2_with fail
  refine (ptnew_no (some ⟨gf, 0, none⟩) none 0 0 w3 (.inr (.inl rfl))).mono ?_
  rintro e w4 ⟨rfl, hw⟩
  obtain rfl : w3 = w4 := hw.symm
  obtain ⟨cs, hcs, hm1⟩ : ∃ cs : Array Value, cs.toList = List.replicate k (.string ⟨#[]⟩) ∧ ∀ w : World, (Instr.makeSlice 23 (.int .i64 (k : Int)) (.int .i64 (k : Int))).run Tryd.prog w = .ok (.slice (some ⟨w.heap.size, 0, none⟩) k k) (w.alloc (.cells cs 9)) :=
    ⟨madeCells #[.string ⟨#[]⟩] k, toList_madeCells_one _ _, fun w => run_make_row' 23 9 (.string ⟨#[]⟩) 16 Tryd.underlying23 info_string rfl .i64 .i64 k (by omega) (by omega) w⟩
  have HCS := bx hcs
  clear hcs
  have hwk : IntKind.i64.wrap (k : Int) = k := IntWalk.i64_in _ (by omega)
  by_cases h0 : k = 0
  · have hI1 : ¬ (1 : Int) ≤ (k : Int) := by omega
    have H0 := bx h0
    clear h0
    go_upto_region 8 with (fail)
    go_region_held3 (fun _ => True) (go_keep) (first
      | (go_at_call 6; refine (fnew_any _ (fun _ => False) (fun _ e => e.elim)).mono ?_; rintro e w5 ⟨gf5, bR5, bF5, rfl, q1, q2, q3, hb5, hf5⟩; have HBX : Bx (Below w.heap.size w w5 ∧ w.heap.size ≤ gf5 ∧ w.heap.size ≤ bR5 ∧ w.heap.size ≤ bF5) := bx (by first | exact new_far HB3.out.drew hb5 q1 q2 q3 | exact new_far (bl_alloc HB3.out.drew (Nat.le_refl _) _) hb5 q1 q2 q3); have HF5 := bx hf5; have HB5 := bx hb5; clear hf5 hb5 q1 q2 q3)
      | (go_at_call 8; refine (ptnew_no (some ⟨gf5, 0, none⟩) _ k k _ (.inr (.inl H0.out))).mono ?_; rintro e w6 ⟨rfl, hw6⟩; have HB6 : Bx (Below w.heap.size w w6) := bx (by rw [hw6]; first | exact HBX.out.1 | exact bl_alloc HBX.out.1 (Nat.le_refl _) _); clear hw6)
      | fail "arm")
    all_goals (
      go_wp2_with fail
      refine (pnil_any s w6).2.2.mono ?_
      rintro e w7 ⟨rfl, hw7⟩
      obtain rfl : w6 = w7 := hw7.symm
      go_wp2
      go_ret
      exact ⟨rfl, HB6.out⟩)
  by_cases h8 : 8 < k
  · have hI : ¬ (k : Int) ≤ 8 := by omega
    have hd : decide ((k : Int) ≤ 8) = false := decide_eq_false hI
    have hI1 : (1 : Int) ≤ (k : Int) := by omega
    go_upto_region 8 with (fail)
    go_region_held3 (fun _ => True) (go_keep) (first
      | (go_at_call 6; refine (fnew_any _ (fun _ => False) (fun _ e => e.elim)).mono ?_; rintro e w5 ⟨gf5, bR5, bF5, rfl, q1, q2, q3, hb5, hf5⟩; have HBX : Bx (Below w.heap.size w w5 ∧ w.heap.size ≤ gf5 ∧ w.heap.size ≤ bR5 ∧ w.heap.size ≤ bF5) := bx (by first | exact new_far HB3.out.drew hb5 q1 q2 q3 | exact new_far (bl_alloc HB3.out.drew (Nat.le_refl _) _) hb5 q1 q2 q3); have HF5 := bx hf5; have HB5 := bx hb5; clear hf5 hb5 q1 q2 q3)
      | (go_at_call 8; refine (ptnew_no (some ⟨gf5, 0, none⟩) _ k k _ (.inr (.inr ⟨h8, by omega⟩))).mono ?_; rintro e w6 ⟨rfl, hw6⟩; have HB6 : Bx (Below w.heap.size w w6) := bx (by rw [hw6]; first | exact HBX.out.1 | exact bl_alloc HBX.out.1 (Nat.le_refl _) _); clear hw6)
      | fail "arm")
    all_goals (
      go_wp2_with fail
      refine (pnil_any s w6).2.2.mono ?_
      rintro e w7 ⟨rfl, hw7⟩
      obtain rfl : w6 = w7 := hw7.symm
      go_wp2
      go_ret
      first | exact ⟨rfl, HB6.out⟩ | exact ⟨by simp, HB6.out⟩)
  · have hI : (k : Int) ≤ 8 := by omega
    have hI1 : (1 : Int) ≤ (k : Int) := by omega
    have h1 : 1 ≤ k := by omega
    have h8 : k ≤ 8 := by omega
    go_upto_region 8 with (fail)
    go_region_held3 (fun _ => True) (go_keep) (first
      | (go_at_call 6; refine (fnew_any _ (fun _ => False) (fun _ e => e.elim)).mono ?_; rintro e w5 ⟨gf5, bR5, bF5, rfl, q1, q2, q3, hb5, hf5⟩; have HBX : Bx (Below w.heap.size w w5 ∧ w.heap.size ≤ gf5 ∧ w.heap.size ≤ bR5 ∧ w.heap.size ≤ bF5) := bx (by first | exact new_far HB3.out.drew hb5 q1 q2 q3 | exact new_far (bl_alloc HB3.out.drew (Nat.le_refl _) _) hb5 q1 q2 q3); have HF5 := bx hf5; have HB5 := bx hb5; clear hf5 hb5 q1 q2 q3)
      | (go_at_call 8; refine (ptnew_any _ k k (List.replicate k []) _ (fun k => False ∨ k = gf5 ∨ k = bR5 ∨ k = bF5) gf5 bR5 bF5 FS.new mx (by first | exact HF5.out | exact HF5.out.below (bl_alloc (Below.refl _ _) (Nat.le_refl _) _)) (by first | exact zero_far HM.out HZ.out HBX.out.1 HBX.out.2 | exact zero_far HM.out HZ.out (bl_alloc HBX.out.1 (Nat.le_refl _) _) HBX.out.2) (List.length_replicate) h1 h8 (by first | exact nms_empty HCS.out _ | exact RL.step (RL.drew (nms_empty HCS.out _)) HB5.out) (fun x hx => by rw [(List.mem_replicate.1 hx).2]; exact Nat.zero_le _)).mono ?_; rintro e w6 ⟨gp6, bK6, bC6, rfl, _, _, _, hb6, _⟩; have HB6 : Bx (Below w.heap.size w w6) := bx (by first | exact HBX.out.1.trans (hb6.mono HBX.out.1.size) | exact (bl_alloc HBX.out.1 (Nat.le_refl _) _).trans (hb6.mono (Below.size (bl_alloc HBX.out.1 (Nat.le_refl _) _)))); clear hb6))
    all_goals (
      go_wp2_with fail
      refine (pnil_any s w6).2.2.mono ?_
      rintro e w7 ⟨rfl, hw7⟩
      obtain rfl : w6 = w7 := hw7.symm
      go_wp2
      go_ret
      first | exact ⟨rfl, HB6.out⟩ | exact ⟨by simp, HB6.out⟩)
end Go.Proofs.YtlmcpkomjofcgaaDoor
