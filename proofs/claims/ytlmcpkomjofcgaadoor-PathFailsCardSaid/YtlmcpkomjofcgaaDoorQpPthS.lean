/- samovarref13.SameTexts: what it answers. -/
import Derived.Test.YtlmcpkomjofcgaaDoorPp14
import Derived.Test.YtlmcpkomjofcgaaDoorPp4
namespace Go.Proofs.YtlmcpkomjofcgaaDoor
open Go.RowKit
theorem eq_of_get10 {α : Type} {a b : List α} (h : a.length = b.length) (he : ∀ i, i < a.length → a[i]? = b[i]?) : a = b := by
  apply List.ext_getElem? 
  intro i
  rcases Nat.lt_or_ge i a.length with h1 | h1
  · exact he i h1
  · rw [List.getElem?_eq_none h1, List.getElem?_eq_none (by omega)]
set_option maxHeartbeats 1000000 in
theorem sameTexts_any (A0 A1 : Option Addr) (n0 n1 c0 c1 : Nat) (l0 l1 : List (List UInt8)) (w : World) (e0 : l0.length = n0) (e1 : l1.length = n1) (b0 : n0 ≤ 140737488355328) (b1 : n1 ≤ 140737488355328)
    (r0 : RL strV w w.heap.size A0 l0) (r1 : RL strV w w.heap.size A1 l1) :
    Calls Tryd.prog 12 #[.slice A0 n0 c0, .slice A1 n1 c1] w fun e w' => e = .returned (.bool (decide (l0 = l1))) ∧ Below w.heap.size w w' := by
  by_cases hn : n0 = n1
  · subst hn
    have E0 := Lib.hid e0
    have E1 := Lib.hid e1
    clear e0 e1
    go_enter Tryd.func12, Tryd.ntmps12
    go_wp2
    go_loopw [5] (fun i wr => ∃ k : Nat, k ≤ n0 ∧ i = .int .i64 (k : Int) ∧ Hid (∀ j, j < k → l0[j]? = l1[j]?) ∧ Hid (∃ q, wr = w.drewN q)) (fun i _ => n0 - (intOf i).toNat)
    case atStart => exact ⟨0, by omega, rfl, Lib.hid (fun j hj => by omega), Lib.hid ⟨0, rfl⟩⟩
    case round =>
      obtain ⟨k, hk, rfl, hgo, hw⟩ := hrel
      obtain ⟨q, rfl⟩ := hw.out
      by_cases hk0 : k < n0
      · obtain ⟨ad0, x0, rfl, hl0, hx0, hc0⟩ := r0.atl (k := k) (by rw [E0.out]; exact hk0)
        obtain ⟨ad1, x1, rfl, hl1, hx1, hc1⟩ := r1.atl (k := k) (by rw [E1.out]; exact hk0)
        replace hc0 : w.cell? (ad0.add k) = some (.string ⟨x0.toArray⟩) := hc0
        replace hc1 : w.cell? (ad1.add k) = some (.string ⟨x1.toArray⟩) := hc1
        have s0 : (0 : Int) ≤ (k : Int) := by omega
        have s1 : (k : Int) < (n0 : Int) := by omega
        clear hw
        go_wp2
        go_quiet (fail)
        go_wp2
        · rename_i hne
          go_ret
          refine ⟨ret_bool ?_, below_drewN (below_drewN (Below.refl _ _) _) _⟩
          symm
          rw [decide_eq_false_iff_not]
          intro e
          have h0 := hx0.out
          rw [e, hx1.out] at h0
          injection h0 with h0
          subst h0
          simp at hne
        · rename_i hne
          go_roundw
          case rel =>
            refine ⟨k + 1, by omega, by go_num, Lib.hid ?_, Lib.hid ⟨_, rfl⟩⟩
            intro j hj
            rcases Nat.lt_or_ge j k with h | h
            · exact hgo.out j h
            · obtain rfl : j = k := by omega
              rw [hx0.out, hx1.out]
              simp at hne
              rw [hne]
          case measure => simp [intOf]; omega
      · obtain rfl : k = n0 := by omega
        go_wp2
        go_ret
        exact ⟨ret_bool (by symm; rw [decide_eq_true_eq]; exact eq_of_get10 (by rw [E0.out, E1.out]) (by rw [E0.out]; exact hgo.out)), below_drewN (Below.refl _ _) _⟩
  · have hnb : ((n0 : Int) != (n1 : Int)) = true := by simp; omega
    have hf : decide (l0 = l1) = false := decide_eq_false fun e => hn (by rw [← e0, ← e1, e])
    rw [hf]
    clear hf hn e0 e1
    go_enter Tryd.func12, Tryd.ntmps12
    go_wp2
    go_ret
    exact ⟨rfl, Below.refl _ _⟩
end Go.Proofs.YtlmcpkomjofcgaaDoor
