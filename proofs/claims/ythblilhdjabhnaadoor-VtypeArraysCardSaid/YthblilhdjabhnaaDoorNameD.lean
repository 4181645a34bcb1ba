/- name.head: what it answers. -/
import Derived.Test.YthblilhdjabhnaaDoorNameC
import Derived.Test.YthblilhdjabhnaaDoorNameQ
import Derived.IntWalk
namespace Go.Proofs.YthblilhdjabhnaaDoor
open Go.RowKit

def HeadPost (s : ByteArray) (w : World) (e : Ending) (w' : World) : Prop :=
  (headN s.data.toList = 0 → e = .returned (.tuple #[.string .empty, .string .empty, .bool false])) ∧
  (∀ h, headN s.data.toList = h + 1 → e = .returned (.tuple #[.string (s.extract 0 (h + 1)), .string (s.extract (h + 1) s.size), .bool true])) ∧ Below w.heap.size w w'
theorem ret_of {v v' : Value} (h : v = v') : Ending.returned v = Ending.returned v' := by rw [h]
theorem headPost_no {s : ByteArray} {w : World} {w' : World} (h : headN s.data.toList = 0) (hb : Below w.heap.size w w') : HeadPost s w (.returned (.tuple #[.string .empty, .string .empty, .bool false])) w' :=
  ⟨fun _ => rfl, fun _ h' => by omega, hb⟩
theorem headPost_yes {s : ByteArray} {w : World} {w' : World} {n : Nat} (h : headN s.data.toList = n + 1) {a b : ByteArray} (ha : a = s.extract 0 (n + 1)) (hc : b = s.extract (n + 1) s.size) (hb : Below w.heap.size w w') :
    HeadPost s w (.returned (.tuple #[.string a, .string b, .bool true])) w' := by
  subst ha; subst hc
  exact ⟨fun _ => by omega, fun k hk => by obtain rfl : n = k := by omega
                                           rfl, hb⟩
theorem prim_iff (c : UInt8) : 0 ≤ Lib.indexByte [66, 67, 83, 90, 73, 74] c ↔ c ∈ primL := indexByte_mem primL c
theorem headN_far {l : List UInt8} (h : 8 < skipB l) : headN l = 0 := by unfold headN; rw [if_pos h]
theorem headN_end {l : List UInt8} (h : skipB l = l.length) : headN l = 0 := by
  unfold headN
  split
  · rfl
  · rw [h, List.getElem?_eq_none (Nat.le_refl _)]
theorem headN_prim {l : List UInt8} {c : UInt8} {k : Nat} (hk : skipB l = k) (h : ¬ 8 < k) (hc : l[k]? = some c) (hp : c ∈ primL) : headN l = k + 1 := by
  subst hk
  unfold headN; rw [if_neg h, hc]; simp [hp]
theorem headN_other {l : List UInt8} {c : UInt8} {k : Nat} (hk : skipB l = k) (hc : l[k]? = some c) (hp : ¬ c ∈ primL) (h7 : ¬ c = 76) : headN l = 0 := by
  subst hk
  unfold headN
  split
  · rfl
  · rw [hc]; simp [hp, h7]
theorem headN_nosemi {l : List UInt8} {c : UInt8} {k : Nat} (hk : skipB l = k) (hc : l[k]? = some c) (hp : ¬ c ∈ primL) (h7 : Lib.indexByte l 59 < 0) : headN l = 0 := by
  subst hk
  unfold headN
  split
  · rfl
  · rw [hc]; simp [hp]; intro _ h; omega
theorem headN_class {l : List UInt8} {k j : Nat} (hk : skipB l = k) (h : ¬ 8 < k) (hc : l[k]? = some 76) (hj : Lib.indexByte l 59 = j) (ho : classOk ((l.drop (k + 1)).take (j - (k + 1))) = true) : headN l = j + 1 := by
  subst hk
  unfold headN; rw [if_neg h, hc]; simp [hj, ho, primL]
theorem headN_noclass {l : List UInt8} {k j : Nat} (hk : skipB l = k) (hc : l[k]? = some 76) (hj : Lib.indexByte l 59 = j) (ho : classOk ((l.drop (k + 1)).take (j - (k + 1))) = false) : headN l = 0 := by
  subst hk
  unfold headN
  split
  · rfl
  · rw [hc]; simp [hj, ho, primL]
theorem extract_data (s : ByteArray) (a b : Nat) : (s.extract a b).data.toList = (s.data.toList.drop a).take (b - a) := by
  rw [ByteArray.data_extract, Array.toList_extract, List.extract_eq_take_drop]

set_option maxHeartbeats 1000000 in
theorem head_post (s : ByteArray) (m : Int) (w : World) (hs : s.size ≤ 140737488355328) (hm : w.cell? ⟨0, 0, none⟩ = some (.int .i64 m)) :
    Calls Tryd.prog 25 #[.string s] w (HeadPost s w) := by
  go_enter Tryd.func25, Tryd.ntmps25
  go_wp2
  go_loop [5] (fun i => ∃ k : Nat, k ≤ s.size ∧ i = .int .i64 (k : Int) ∧ Hid (skipB s.data.toList = k + skipB (s.data.toList.drop k))) (fun i => s.size - (intOf i).toNat)
  case atStart => exact ⟨0, by omega, rfl, Lib.hid (by simp)⟩
  case round =>
    obtain ⟨k, hk, rfl, hall⟩ := hrel
    by_cases hk0 : k < s.size
    · by_cases h91 : s[k] = 91
      · have h91' : (s[k].toNat : Int) = 91 := by rw [h91]; rfl
        have H91 := Lib.hid h91
        clear h91
        go_wp2
        go_round
        case rel => exact ⟨k + 1, by omega, by go_num, Lib.hid (skipB_step (byteAt hk0) hall.out H91.out)⟩
        case measure => simp [intOf]; omega
      · have h91' : ¬ (s[k].toNat : Int) = 91 := fun e => h91 (UInt8.toNat_inj.1 (by simpa using (by omega : s[k].toNat = 91)))
        have hsk := Lib.hid (skipB_stop (byteAt hk0) hall.out h91)
        have hat := Lib.hid (byteAt hk0)
        have hne : ((k : Int) == (s.size : Int)) = false := by simp; omega
        have hi76 : Lib.indexByte [66, 67, 83, 90, 73, 74] 76 < 0 := by decide
        clear h91
        by_cases h8 : 8 < k
        · go_wp2
          go_ret3
          exact headPost_no (headN_far (by rw [hsk.out]; exact h8)) (Below.refl _ _)
        · by_cases hp : 0 ≤ Lib.indexByte [66, 67, 83, 90, 73, 74] s[k]
          · have hp' := Lib.hid ((prim_iff _).1 hp)
            go_wp2_with (go_at_call 30; refine (Tryd.strings_IndexByte _ _ _).mono ?_; rintro e w' ⟨rfl, rfl⟩)
            have s1 : IntKind.i64.wrap ((k : Int) + 1) = (k : Int) + 1 := IntWalk.i64_in _ (by omega)
            have s2 : (0 : Int) ≤ (k : Int) + 1 := by omega
            have s3 : (k : Int) + 1 ≤ (s.size : Int) := by omega
            have s4 : ((k : Int) + 1).toNat = k + 1 := by omega
            go_quiet (fail)
            go_wp2
            go_ret3
            exact headPost_yes (headN_prim hsk.out h8 hat.out hp'.out) rfl rfl (below_drewN (Below.refl _ _) _)
          · have hp' := Lib.hid (fun h => hp ((prim_iff _).2 h))
            by_cases h76 : s[k] = 76
            · have h76' : (s[k].toNat : Int) = 76 := by rw [h76]; rfl
              have H76 : Hid (s.data.toList[k]? = some 76) := by rw [← h76]; exact byteAt hk0
              clear h76
              by_cases hj0 : Lib.indexByte s.data.toList 59 < 0
              · go_wp2_with (go_at_call 30; refine (Tryd.strings_IndexByte _ _ _).mono ?_; rintro e w' ⟨rfl, rfl⟩)
                go_ret3
                exact headPost_no (headN_nosemi hsk.out hat.out hp'.out hj0) (Below.refl _ _)
              · obtain ⟨j, hj⟩ := Int.eq_ofNat_of_zero_le (show 0 ≤ Lib.indexByte s.data.toList 59 by omega)
                obtain ⟨hj1, hj2⟩ : k + 1 ≤ j ∧ j < s.size := by
                  have h := semi_behind (l := s.data.toList) (by rw [hsk.out]; exact H76.out) (by omega)
                  rw [hj, hsk.out] at h
                  simpa using h
                have HJ := Lib.hid hj
                have hcd := Lib.hid (extract_data s (k + 1) j)
                clear hj hj0
                cases hok : (decide ((s.extract (k + 1) j).size ≤ 58) && classGo (s.extract (k + 1) j).data.toList 0)
                · have HO := Lib.hid hok
                  clear hok
                  go_wp2_with fail
                  refine (Tryd.strings_IndexByte _ _ _).mono ?_
                  rintro e w' ⟨rfl, rfl⟩
                  go_wp2_with fail
                  refine (Tryd.strings_IndexByte _ _ _).mono ?_
                  rintro e w' ⟨rfl, rfl⟩
                  rw [show Lib.indexByte s.data.toList (Int.toNat 59).toUInt8 = j from HJ.out]
                  go_wp2_with fail
                  refine (class_any _ m _ (by rw [ByteArray.size_extract]; omega) hm).mono ?_
                  rintro e w1 ⟨rfl, hb⟩
                  rw [HO.out]
                  go_wp2
                  go_ret3
                  exact headPost_no (headN_noclass hsk.out H76.out HJ.out (by unfold classOk; rw [← hcd.out]; exact HO.out)) hb
                · have HO := Lib.hid hok
                  clear hok
                  go_wp2_with fail
                  refine (Tryd.strings_IndexByte _ _ _).mono ?_
                  rintro e w' ⟨rfl, rfl⟩
                  go_wp2_with fail
                  refine (Tryd.strings_IndexByte _ _ _).mono ?_
                  rintro e w' ⟨rfl, rfl⟩
                  rw [show Lib.indexByte s.data.toList (Int.toNat 59).toUInt8 = j from HJ.out]
                  go_wp2_with fail
                  refine (class_any _ m _ (by rw [ByteArray.size_extract]; omega) hm).mono ?_
                  rintro e w1 ⟨rfl, hb⟩
                  rw [HO.out]
                  have s1 : IntKind.i64.wrap ((j : Int) + 1) = (j : Int) + 1 := IntWalk.i64_in _ (by omega)
                  have s2 : (0 : Int) ≤ (j : Int) + 1 := by omega
                  have s3 : (j : Int) + 1 ≤ (s.size : Int) := by omega
                  have s4 : ((j : Int) + 1).toNat = j + 1 := by omega
                  go_wp2_with fail
                  go_quiet (fail)
                  go_wp2
                  go_ret3
                  exact headPost_yes (headN_class hsk.out h8 H76.out HJ.out (by unfold classOk; rw [← hcd.out]; exact HO.out)) rfl rfl (below_drewN hb _)
            · have h76' : ¬ (s[k].toNat : Int) = 76 := fun e => h76 (UInt8.toNat_inj.1 (by simpa using (by omega : s[k].toNat = 76)))
              have H76 := Lib.hid h76
              clear h76
              go_wp2_with (go_at_call 30; refine (Tryd.strings_IndexByte _ _ _).mono ?_; rintro e w' ⟨rfl, rfl⟩)
              all_goals
                go_ret3
                exact headPost_no (headN_other hsk.out hat.out hp'.out H76.out) (Below.refl _ _)
    · obtain rfl : k = s.size := by omega
      go_wp2
      all_goals
        go_ret3
        exact headPost_no (headN_end (skipB_full (Nat.le_refl _) hall.out)) (Below.refl _ _)
end Go.Proofs.YthblilhdjabhnaaDoor
