/- Contract: manifest.class. -/
import Derived.Test.YthkgnidafdiolaaDoorManC
import Derived.Lib.IndexLaws
namespace Go.Proofs.YthkgnidafdiolaaDoor
open Go.RowKit

theorem idx_has {l : List UInt8} {x : UInt8} (h : l.contains x = true) : 0 ≤ Lib.indexByte l x := by
  have hge := Lib.indexByte_ge l x
  rcases Decidable.em (Lib.indexByte l x = -1) with h1 | h1
  · obtain ⟨i, hi⟩ := List.getElem?_of_mem (List.contains_iff_mem.1 h)
    exact absurd hi (Lib.indexByte_none h1 i)
  · omega
theorem idx_lacks {l : List UInt8} {x : UInt8} (h : l.contains x = false) : Lib.indexByte l x = -1 := by
  have hge := Lib.indexByte_ge l x
  rcases Decidable.em (Lib.indexByte l x = -1) with h1 | h1
  · exact h1
  · obtain ⟨hi, _⟩ := Lib.indexByte_some (l := l) (c := x) (o := (Lib.indexByte l x).toNat) (by omega)
    have := List.contains_iff_mem.2 (List.mem_of_getElem? hi)
    rw [h] at this; cases this
def partB (p : List UInt8) : Bool := !p.isEmpty && p.all okC
theorem classB_fail {s : List UInt8} {k : Nat} {x : List UInt8} (hx : (cutL 47 s)[k]? = some x) (h : partB x = false) : classB s = false := by
  have : ((cutL 47 s).all partB) = false := by
    rw [List.all_eq_false]; exact ⟨x, List.mem_of_getElem? hx, by rw [h]; decide⟩
  unfold classB
  show ((cutL 47 s).all partB && _) = false
  rw [this]; rfl
theorem classB_fine {s : List UInt8} (h : ∀ x ∈ cutL 47 s, partB x = true) : classB s = decide (s.length ≤ 58) := by
  have : ((cutL 47 s).all partB) = true := List.all_eq_true.2 h
  unfold classB
  show ((cutL 47 s).all partB && _) = _
  rw [this]; rfl
theorem part_fail {p : List UInt8} {k : Nat} {x : UInt8} (hx : p[k]? = some x) (h : okC x = false) : partB p = false := by
  unfold partB; rw [all_not hx h, Bool.and_false]
theorem part_fine {p : List UInt8} (h0 : ¬ p = []) (h : p.all okC = true) : partB p = true := by
  unfold partB; rw [h]; cases p with
  | nil => exact absurd rfl h0
  | cons => rfl
theorem cutL_le (a : UInt8) (s : List UInt8) : ∀ x ∈ cutL a s, x.length ≤ s.length := by
  induction s with
  | nil => intro x hx; simp [cutL] at hx; subst hx; simp
  | cons c r ih =>
    intro x hx
    unfold cutL at hx
    split at hx
    · rcases List.mem_cons.1 hx with rfl | hx
      · simp
      · have := ih x hx; simp; omega
    · split at hx
      · rename_i h; exact absurd h (cutL_ne a r)
      · rename_i y ys h
        rcases List.mem_cons.1 hx with rfl | hx
        · have := ih y (by rw [h]; simp); simp; omega
        · have := ih x (by rw [h]; simp [hx]); simp; omega
set_option maxHeartbeats 2000000 in
theorem class_any (s : ByteArray) (m : Int) (w : World) (hs : s.size ≤ 4000000000) (hm : w.cell? ⟨0, 0, none⟩ = some (.int .i64 m)) :
    Calls Tryd.prog 28 #[.string s] w fun e w' => e = .returned (.bool (classB s.data.toList)) ∧ Below w.heap.size w w' := by
  go_enter Tryd.func28, Tryd.ntmps28
  go_wp2_with fail
  refine (Tryd.strings_Split s ⟨#[47]⟩ m _ (by omega) hm (by decide)).mono ?_
  rintro e w3 ⟨rfl, rfl⟩
  obtain ⟨hq1, hq2⟩ := split_row s 47
  obtain ⟨p, hp⟩ : ∃ p, cutL 47 s.data.toList = p := ⟨_, rfl⟩
  rw [hp] at hq1 hq2
  rw [hq1, hq2]
  have hpl : p.length ≤ s.size + 1 := by rw [← hq1]; have := Lib.countB_le ⟨#[47]⟩ (by decide) _ s (Nat.le_refl _); omega
  have HP := Lib.hid hp
  have hbel3 : Below w.heap.size w (w.alloc (.cells (p.map sV).toArray 9)) := bl_alloc (Below.refl _ _) (Nat.le_refl _) _
  have hrow : RL sV (w.alloc (.cells (p.map sV).toArray 9)) (w.heap.size + 1) (some ⟨w.heap.size, 0, none⟩) p := fun _ => ⟨_, rfl, Nat.lt_succ_self _, fun i u hu => by
    have e : (⟨w.heap.size, 0, none⟩ : Addr).add i = ⟨w.heap.size, i, none⟩ := by unfold Addr.add; split <;> simp_all
    rw [e, World.cell?_alloc_mark, ← Array.getElem?_toList]; exact hu⟩
  clear hq1 hq2 hp hm
  obtain ⟨w3, hw3⟩ : ∃ w3, w.alloc (.cells (p.map sV).toArray 9) = w3 := ⟨_, rfl⟩
  obtain ⟨g, hg⟩ : ∃ g, w.heap.size = g := ⟨_, rfl⟩
  have hg3 : w3.heap.size = g + 1 := by rw [← hw3, ← hg]; simp
  rw [hw3] at hbel3 hrow ⊢
  rw [hg] at hrow ⊢
  have hgg : w.heap.size ≤ g + 1 := by omega
  have hbel3 : Below w.heap.size w w3 := hg ▸ hbel3
  clear hw3 hg
  have hcv := fun (w0 : World) (b : ByteArray) => run_bytes_of_string (P := Tryd.prog) w0 9 22 5 b Tryd.underlying9 Tryd.underlying22 Tryd.underlying5
  go_wp2
  go_loopw [4, 6, 10] (fun _ _ i wr => ∃ k : Nat, k ≤ p.length ∧ i = .int .i64 (k : Int) ∧ Below (g + 1) w3 wr ∧ Hid (∀ x ∈ p.take k, partB x = true)) (fun _ _ i _ => p.length - (intOf i).toNat)
  case atStart => exact ⟨0, by omega, rfl, Below.refl _ _, Lib.hid (by simp)⟩
  case round =>
    obtain ⟨k, hk, rfl, hbel, hall⟩ := hrel
    by_cases hk0 : k < p.length
    · obtain ⟨ad, x, had, hlt, hx, hc⟩ := (RL.below hrow hbel (by omega)).atl hk0
      injection had with had
      subst had
      obtain ⟨b, hb⟩ : ∃ b : ByteArray, (⟨x.toArray⟩ : ByteArray) = b := ⟨_, rfl⟩
      have hbx : b.data.toList = x := by rw [← hb]
      have hc' : wr.cell? ⟨g, k, none⟩ = some (.string b) := by
        have e : (⟨g, 0, none⟩ : Addr).add k = ⟨g, k, none⟩ := by unfold Addr.add; split <;> simp_all
        rw [← hb, ← e]; exact hc
      have hbz : b.size ≤ s.size := by rw [← size_len, hbx, ← size_len]; exact cutL_le 47 _ x (by rw [HP.out]; exact List.mem_of_getElem? hx.out)
      have HS := Lib.hid hbx
      clear hb hc
      by_cases he : b.data.toList = []
      · have h1 := tl_none he
        have h2 := size_zero he
        have HF := Lib.hid (classB_fail (s := s.data.toList) (k := k) (x := x) (by rw [HP.out]; exact hx.out) (by rw [← hbx, he]; rfl))
        clear he hbx
        go_wp2
        go_ret
        exact ⟨ret_bool HF.out.symm, hbel3.trans (hbel.mono hgg)⟩
      · have h1 := tl_some he
        have h2 := size_pos he
        have HE := Lib.hid he
        clear he hbx
        obtain ⟨wo, rfl⟩ : ∃ wo : World, wo = wr := ⟨_, rfl⟩
        go_wp2
        go_loopw [6, 19] (fun _ i wr2 => ∃ j : Nat, j ≤ b.size ∧ i = .int .i64 (j : Int) ∧ Mb wr2 wo.heap.size 5 b.data.toList ∧ Below (g + 1) w3 wr2 ∧ Hid ((b.data.toList.take j).all okC = true)) (fun _ i _ => b.size - (intOf i).toNat)
        case atStart => exact ⟨0, by omega, rfl, Mb.new wo.drew b _ _, bl_alloc hbel.drew (by omega) _, Lib.hid rfl⟩
        case round =>
          obtain ⟨j, hj, rfl, hmb, hbel2, hall2⟩ := hrel
          by_cases hj0 : j < b.size
          · have hx2 := byte_at hj0
            have hcc : wr.cell? ⟨wo.heap.size, j, none⟩ = some (.int .u8 (b[j].toNat : Int)) := hmb.cell hx2
            have HX2 := Lib.hid hx2
            have hib : (Lib.indexByte ((⟨#[46, 59, 91, 92, 40, 41, 60, 62]⟩ : ByteArray).data.toList) ((b[j].toNat : Int).toNat.toUInt8)) = Lib.indexByte [46, 59, 91, 92, 40, 41, 60, 62] b[j] := by
              rw [show ((b[j].toNat : Int).toNat.toUInt8) = b[j] by simp]
            have HIB := Lib.hid hib
            clear hx2 hib
            cases hok : okC b[j]
            · have HF := Lib.hid (classB_fail (s := s.data.toList) (k := k) (x := x) (by rw [HP.out]; exact hx.out) (by rw [← HS.out]; exact part_fail HX2.out hok))
              unfold okC at hok
              by_cases d1 : (b[j].toNat : Int) ≤ 32
              · clear hok
                go_wp2
                go_ret
                exact ⟨ret_bool HF.out.symm, hbel3.trans (hbel2.mono hgg)⟩
              · by_cases d2 : (b[j].toNat : Int) = 127
                · clear hok
                  go_wp2
                  go_ret
                  exact ⟨ret_bool HF.out.symm, hbel3.trans (hbel2.mono hgg)⟩
                · have hct : ([46, 59, 91, 92, 40, 41, 60, 62] : List UInt8).contains b[j] = true := by
                    have e1 : ¬ b[j].toNat ≤ 32 := by omega
                    have e2 : ¬ b[j].toNat = 127 := by omega
                    simp only [decide_eq_false e1, decide_eq_false e2, Bool.not_false, Bool.true_and, Bool.not_eq_false'] at hok
                    exact hok
                  have hge := idx_has hct
                  clear hok hct
                  go_wp2_with fail
                  refine (Tryd.strings_IndexByte _ _ _).mono ?_
                  rintro e w' ⟨rfl, rfl⟩
                  rw [HIB.out]
                  go_wp2
                  go_ret
                  exact ⟨ret_bool HF.out.symm, hbel3.trans (hbel2.mono hgg)⟩
            · have HN := Lib.hid (all_take hall2.out HX2.out hok)
              unfold okC at hok
              simp only [Bool.and_eq_true, Bool.not_eq_true', decide_eq_false_iff_not] at hok
              obtain ⟨⟨d1, d2⟩, d3⟩ := hok
              have e1 : ¬ (b[j].toNat : Int) ≤ 32 := by omega
              have e2 : ¬ (b[j].toNat : Int) = 127 := by omega
              have e3 := idx_lacks d3
              have E3 := Lib.hid e3
              clear d1 d2 d3 e3
              go_wp2_with fail
              refine (Tryd.strings_IndexByte _ _ _).mono ?_
              rintro e w' ⟨rfl, rfl⟩
              rw [HIB.out, E3.out]
              go_wp2
              go_roundw
              case rel => exact ⟨j + 1, by omega, by go_num, hmb, hbel2, HN⟩
              case measure => simp [intOf]; omega
          · obtain rfl : j = b.size := by omega
            have HN : Hid (∀ x ∈ p.take (k + 1), partB x = true) := Lib.hid (by
              rw [List.take_add_one, hx.out]
              intro y hy
              rcases List.mem_append.1 hy with hy | hy
              · exact hall.out y hy
              · simp at hy; subst hy; rw [← HS.out]; exact part_fine HE.out (by have := hall2.out; rwa [← size_len, List.take_length] at this))
            go_wp2
            go_roundw
            case rel => exact ⟨k + 1, by omega, by go_num, hbel2, HN⟩
            case measure => simp [intOf]; omega
    · obtain rfl : k = p.length := by omega
      have HF := Lib.hid (classB_fine (s := s.data.toList) (by rw [HP.out]; have := hall.out; rwa [List.take_length] at this))
      go_wp2
      go_ret
      exact ⟨ret_bool (by rw [HF.out, size_len, Bool.eq_iff_iff]; simp; omega), hbel3.trans (hbel.mono hgg)⟩
end Go.Proofs.YthkgnidafdiolaaDoor
