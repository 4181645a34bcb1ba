/- The walk of VtypeUnders. -/
import Derived.Test.YthblilhdjabhnaaDoorVtX
import Derived.Test.YthblilhdjabhnaaDoorVtN
namespace Go.Proofs.YthblilhdjabhnaaDoor
open Go.RowKit

set_option maxRecDepth 100000 in
set_option maxHeartbeats 4000000 in
theorem vtypeUnders_walk (m : Int) (w : World) (hm : w.cell? ⟨0, 0, none⟩ = some (.int .i64 m)) (A0 : Option Addr) (n0 c0 : Nat) (l0 : List Hdr) (e0 : l0.length = n0) (r0 : RH w w.heap.size A0 l0) (q0 : ∀ h ∈ l0, h.1.length ≤ maxLen ∧ h.2.1.length ≤ maxLen) (_b0 : n0 ≤ 140737488351232)
    (f : ByteArray) (_bf : f.size ≤ 140737488351232) (t : ByteArray) (_bt : t.size ≤ 140737488351232) :
    Calls Tryd.prog 4 #[.slice A0 n0 c0, .string f, .string t] w fun e w' => e = .returned (.bool true) ∧ Below w.heap.size w w' := by
  have E0 := Lib.hid e0
  have Q0 := Lib.hid q0
  clear e0 q0
  go_enter Tryd.func4, Tryd.ntmps4
  go_wp2_with fail
  refine (fixed17_any m _ hm).mono ?_
  rintro e w1 ⟨rfl, hb1⟩
  by_cases hz : n0 ≤ 300
  · by_cases hz1 : f.size ≤ 3000
    · by_cases hz2 : t.size ≤ 3000
      · go_wp2_with fail
        refine (under_any A0 n0 c0 l0 E0.out (by omega) Q0.out (f.size + 1) f t _ (by omega) ((r0.below hb1 (Nat.le_refl _)).top) (by omega) (by omega)).mono ?_
        rintro e w2 ⟨rfl, hb2⟩
        have hb2' := hb1.trans (hb2.mono hb1.size)
        go_wp2_with fail
        refine (refUnder_any A0 n0 c0 l0 f t _ E0.out (by omega) ((r0.below hb2' (Nat.le_refl _)).top) (by omega) (by omega)).mono ?_
        rintro e w3 ⟨rfl, hb3⟩
        have hb3' := hb2'.trans (hb3.mono hb2'.size)
        have hneed := need_false l0 f.data.toList t.data.toList
        generalize underV l0 f.data.toList t.data.toList = R at hneed ⊢
        obtain ⟨a, nd⟩ := R
        rcases hneed with h | h
        · simp only at h
          subst h
          go_wp2
          all_goals
            go_ret
            exact ⟨ret_bool (by simp), hb3'⟩
        · simp only at h
          subst h
          go_wp2
          all_goals
            go_ret
            exact ⟨ret_bool (by simp), hb3'⟩
      · have hz' : 3000 < t.size := by omega
        go_wp2
        go_ret
        exact ⟨rfl, hb1⟩
    · have hz' : 3000 < f.size := by omega
      go_wp2
      go_ret
      exact ⟨rfl, hb1⟩
  · have hz' : 300 < n0 := by omega
    go_wp2
    go_ret
    exact ⟨rfl, hb1⟩
end Go.Proofs.YthblilhdjabhnaaDoor
