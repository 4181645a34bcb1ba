/- Contract: manifest.small. -/
import Derived.Test.YthkgnidafdiolaaDoorManP
import Derived.Test.YthkgnidafdiolaaDoorMrk
import Derived.Test.YthkgnidafdiolaaDoorFrame
import Derived.Test.YthkgnidafdiolaaDoorTl
import Derived.Test.YthkgnidafdiolaaDoorShelf
namespace Go.Proofs.YthkgnidafdiolaaDoor
open Go.RowKit

/-- The first k made small. -/
def halfS (l : List UInt8) (k : Nat) : List UInt8 := smallL (l.take k) ++ l.drop k
theorem half_zero (l : List UInt8) : halfS l 0 = l := by simp [halfS, smallL]
theorem half_full (l : List UInt8) : halfS l l.length = smallL l := by simp [halfS]
theorem half_len (l : List UInt8) (k : Nat) : (halfS l k).length = l.length := by simp [halfS, smallL]; omega
theorem half_at {l : List UInt8} {k : Nat} {x : UInt8} (h : l[k]? = some x) : (halfS l k)[k]? = some x := by
  have hk := (List.getElem?_eq_some_iff.1 h).1
  unfold halfS smallL
  rw [List.getElem?_append_right (by simp; omega)]
  simp only [List.length_map, List.length_take]
  rw [List.getElem?_drop, Nat.min_eq_left (by omega), Nat.sub_self, Nat.add_zero]; exact h
theorem half_set {l : List UInt8} {k : Nat} {x : UInt8} (h : l[k]? = some x) : (halfS l k).set k (smallB x) = halfS l (k + 1) := by
  have hk := (List.getElem?_eq_some_iff.1 h).1
  unfold halfS smallL
  rw [List.set_append_right _ _ (by simp; omega)]
  simp only [List.length_map, List.length_take]
  rw [Nat.min_eq_left (by omega), Nat.sub_self, List.take_add_one, h]
  simp only [List.drop_eq_getElem_cons hk, List.set_cons_zero, Option.toList_some, List.map_append, List.map_cons, List.map_nil, List.append_assoc, List.singleton_append]
theorem half_same {l : List UInt8} {k : Nat} {x : UInt8} (h : l[k]? = some x) (hs : smallB x = x) : halfS l (k + 1) = halfS l k := by
  rw [← half_set h, hs]
  have hh := half_at h
  apply List.ext_getElem?
  intro j
  rw [List.getElem?_set]
  split
  · rename_i e; subst e; rw [hh]; simp [(List.getElem?_eq_some_iff.1 hh).1]
  · rfl
theorem or_small {x : UInt8} (h : 65 ≤ x.toNat ∧ x.toNat ≤ 90) : bits .or .u8 (x.toNat : Int) 32 = ((smallB x).toNat : Int) := by
  revert h
  exact u8_all (P := fun x => 65 ≤ x.toNat ∧ x.toNat ≤ 90 → bits .or .u8 (x.toNat : Int) 32 = ((smallB x).toNat : Int)) (by decide +kernel) x
set_option maxHeartbeats 1000000 in
theorem small_any (s : ByteArray) (w : World) (hs : s.size ≤ 140737488355328) :
    Calls Tryd.prog 22 #[.string s] w fun e w' => e = .returned (.string ⟨(smallL s.data.toList).toArray⟩) ∧ Below w.heap.size w w' := by
  have hcv := fun w0 : World => run_bytes_of_string (P := Tryd.prog) w0 9 22 5 s Tryd.underlying9 Tryd.underlying22 Tryd.underlying5
  go_enter Tryd.func22, Tryd.ntmps22
  go_wp2
  go_loopw [4, 5, 10] (fun _ _ i wr => ∃ k : Nat, k ≤ s.size ∧ i = .int .i64 (k : Int) ∧ Mb wr w.heap.size 5 (halfS s.data.toList k) ∧ Below w.heap.size w wr) (fun _ _ i _ => s.size - (intOf i).toNat)
  case atStart =>
    refine ⟨0, by omega, rfl, ?_, ?_⟩
    · rw [half_zero]; exact Mb.new w.drew s _ _
    · exact bl_alloc (Below.refl _ _).drew (Nat.le_refl _) _
  case round =>
    obtain ⟨k, hk, rfl, hm, hbel⟩ := hrel
    by_cases hk0 : k < s.size
    · have hx := byte_at hk0
      have hc := hm.cell (half_at hx)
      have hz := hm.frz (j := k) (by rw [half_len]; exact hk0)
      have hc' : wr.cell? ⟨w.heap.size, k, none⟩ = some (.int .u8 (s[k].toNat : Int)) := hc
      have HX := Lib.hid hx
      clear hc hx
      by_cases hl : 65 ≤ s[k].toNat ∧ s[k].toNat ≤ 90
      · have ho := or_small hl
        have hl1 : 65 ≤ (s[k].toNat : Int) := by omega
        have hl2 : (s[k].toNat : Int) ≤ 90 := by omega
        have HL := Lib.hid hl
        clear hl
        go_wp2
        go_roundw
        case rel => exact ⟨k + 1, by omega, by go_num, (by rw [← half_set HX.out]; exact hm.set k _), hbel.setCell (by exact Nat.le_refl _) _⟩
        case measure => simp [intOf]; omega
      · have hsm : smallB s[k] = s[k] := by unfold smallB; rw [if_neg hl]
        have HS := Lib.hid (half_same HX.out hsm)
        have hl' : ¬ (65 ≤ (s[k].toNat : Int) ∧ (s[k].toNat : Int) ≤ 90) := by omega
        clear hl hsm
        go_wp2
        all_goals
          go_roundw
          case rel => exact ⟨k + 1, by omega, by go_num, (by rw [HS.out]; exact hm), hbel⟩
          case measure => simp [intOf]; omega
    · obtain rfl : k = s.size := by omega
      have hfin : halfS s.data.toList s.size = smallL s.data.toList := by rw [← size_len, half_full]
      rw [hfin] at hm
      have hcb := fun c : Nat => run_conv_str (P := Tryd.prog) (c := c) (n := s.size) Tryd.underlying22 Tryd.underlying5 Tryd.underlying9 (by simp [smallL]) hm.rb
      clear hfin
      go_wp2
      go_ret
      exact ⟨rfl, hbel⟩
end Go.Proofs.YthkgnidafdiolaaDoor
