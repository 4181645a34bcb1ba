/- Contracts: element, Array, find. -/
import Derived.Test.YthblilhdjabhnaaDoorNameF
import Derived.Test.YthblilhdjabhnaaDoorVtArg
namespace Go.Proofs.YthblilhdjabhnaaDoor
open Go.RowKit

theorem hasPrefix_arr (l : List UInt8) : Lib.hasPrefix l [91] = isArr l := by
  cases l with
  | nil => rfl
  | cons c r =>
    unfold Lib.hasPrefix isArr
    by_cases h : c = 91
    · subst h; rfl
    · have e1 : (91 == c) = false := by simpa using fun e => h e.symm
      have e2 : (c == 91) = false := by simpa using h
      simp [List.isPrefixOf, e1, e2]
theorem hasSuffix_one (l : List UInt8) (c : UInt8) : Lib.hasSuffix l [c] = decide (l.getLast? = some c) := by
  unfold Lib.hasSuffix List.isSuffixOf
  rw [List.getLast?_eq_head?_reverse]
  cases l.reverse with
  | nil => rfl
  | cons d r =>
    by_cases h : d = c
    · subst h; simp [List.isPrefixOf]
    · have h' : ¬ c = d := fun e => h e.symm
      simp [List.isPrefixOf, h, h']
theorem ba_of {s : ByteArray} {l : List UInt8} (h : s.data.toList = l) : (⟨l.toArray⟩ : ByteArray) = s := ba_eq (by rw [h])
theorem elem_arr {l : List UInt8} (h : isArr (l.drop 1) = true) : elem l = some (l.drop 1) := by unfold elem; rw [if_pos h]
theorem elem_cls {l : List UInt8} (h : isArr (l.drop 1) = false) (h1 : 1 < (l.drop 1).length) (h2 : (l.drop 1).head? = some 76) (h3 : (l.drop 1).getLast? = some 59) : elem l = some ((l.drop 2).dropLast) := by
  unfold elem; rw [if_neg (by rw [h]; decide), if_pos ⟨h1, h2, h3⟩]
theorem elem_num {l : List UInt8} (h : isArr (l.drop 1) = false) (h1 : ¬ (1 < (l.drop 1).length ∧ (l.drop 1).head? = some 76 ∧ (l.drop 1).getLast? = some 59)) : elem l = none := by
  unfold elem; rw [if_neg (by rw [h]; decide), if_neg h1]
theorem head_of {t : ByteArray} (h : 0 < t.size) : t.data.toList.head? = some t[0] := by
  rw [List.head?_eq_getElem?]; exact byteAt h
theorem mid_of {s t : ByteArray} (h : t.data.toList = s.data.toList.drop 1) (h1 : 1 < t.size) : (t.extract 1 (t.size - 1)).data.toList = (s.data.toList.drop 2).dropLast := by
  rw [extract_data, h, List.drop_drop, List.dropLast_eq_take]
  congr 1
  have : t.data.toList.length = t.size := rfl
  rw [h, List.length_drop] at this
  rw [List.length_drop]
  omega
def ElemPost (l : List UInt8) (w : World) (e : Ending) (w' : World) : Prop :=
  (∀ a, elem l = some a → e = .returned (.tuple #[.string ⟨a.toArray⟩, .bool true])) ∧ (elem l = none → e = .returned (.tuple #[.string .empty, .bool false])) ∧ w = w'
theorem elemPost_some {l : List UInt8} {w : World} {b : ByteArray} (h : elem l = some b.data.toList) : ElemPost l w (.returned (.tuple #[.string b, .bool true])) w :=
  ⟨fun a ha => (by rw [h] at ha; injection ha with ha; rw [← ha]), fun h' => (by rw [h] at h'; cases h'), rfl⟩
theorem elemPost_none {l : List UInt8} {w : World} (h : elem l = none) : ElemPost l w (.returned (.tuple #[.string .empty, .bool false])) w :=
  ⟨fun a ha => (by rw [h] at ha; cases ha), fun _ => rfl, rfl⟩

set_option maxHeartbeats 1000000 in
theorem element_any (s : ByteArray) (w : World) (h0 : 0 < s.size) (hs : s.size ≤ 140737488355328) :
    Calls Tryd.prog 22 #[.string s] w (ElemPost s.data.toList w) := by
  obtain ⟨t, ht⟩ : ∃ t : ByteArray, s.extract 1 s.size = t := ⟨_, rfl⟩
  have htd : t.data.toList = s.data.toList.drop 1 := by rw [← ht]; exact ext_drop s 1
  have htz : t.size + 1 = s.size := by rw [← ht, ByteArray.size_extract]; omega
  have htb : t.size ≤ 140737488355328 := by omega
  have hpre := hasPrefix_arr t.data.toList
  have hsuf := hasSuffix_one t.data.toList 59
  have HT := Lib.hid ht
  have HD := Lib.hid htd
  cases ha : isArr t.data.toList
  · have HP := Lib.hid (hpre.trans ha)
    by_cases h1 : 1 < t.size
    · have h0t : 0 < t.size := by omega
      by_cases h76 : t[0] = 76
      · have h76' : (t[0].toNat : Int) = 76 := by rw [h76]; rfl
        by_cases h59 : t.data.toList.getLast? = some 59
        · have HS := Lib.hid (show Lib.hasSuffix t.data.toList [59] = true by rw [hsuf, h59]; rfl)
          have hfin := Lib.hid (show elem s.data.toList = some (t.extract 1 (t.size - 1)).data.toList by
            rw [mid_of htd h1]
            refine elem_cls (by rw [← htd]; exact ha) (by rw [← htd]; exact h1) (by rw [← htd, head_of (by omega), h76]) (by rw [← htd]; exact h59))
          have s1 : IntKind.i64.wrap ((t.size : Int) - 1) = (t.size : Int) - 1 := IntWalk.i64_in _ (by omega)
          have s3 : ((t.size : Int) - 1).toNat = t.size - 1 := by omega
          clear ht htd hpre hsuf ha h59 h76 htz
          go_enter Tryd.func22, Tryd.ntmps22
          go_wp2_with fail
          rw [HT.out]
          refine (Tryd.strings_HasPrefix _ _ _).mono ?_
          rintro e w' ⟨rfl, rfl⟩
          rw [show Lib.hasPrefix t.data.toList (⟨#[91]⟩ : ByteArray).data.toList = false from HP.out]
          go_wp2_with fail
          refine (Tryd.strings_HasSuffix _ _ _ (by omega)).mono ?_
          rintro e w' ⟨rfl, rfl⟩
          rw [show Lib.hasSuffix t.data.toList (⟨#[59]⟩ : ByteArray).data.toList = true from HS.out]
          go_wp2
          go_ret2
          exact elemPost_some hfin.out
        · have HS := Lib.hid (show Lib.hasSuffix t.data.toList [59] = false by rw [hsuf]; exact decide_eq_false h59)
          have hfin := Lib.hid (show elem s.data.toList = none from elem_num (by rw [← htd]; exact ha) (by rw [← htd]; exact fun h => h59 h.2.2))
          clear ht htd hpre hsuf ha h59 h76 htz
          go_enter Tryd.func22, Tryd.ntmps22
          go_wp2_with fail
          rw [HT.out]
          refine (Tryd.strings_HasPrefix _ _ _).mono ?_
          rintro e w' ⟨rfl, rfl⟩
          rw [show Lib.hasPrefix t.data.toList (⟨#[91]⟩ : ByteArray).data.toList = false from HP.out]
          go_wp2_with fail
          refine (Tryd.strings_HasSuffix _ _ _ (by omega)).mono ?_
          rintro e w' ⟨rfl, rfl⟩
          rw [show Lib.hasSuffix t.data.toList (⟨#[59]⟩ : ByteArray).data.toList = false from HS.out]
          go_wp2
          go_ret2
          exact elemPost_none hfin.out
      · have h76' : ¬ (t[0].toNat : Int) = 76 := u8ne (n := 76) h76 (by omega)
        have hfin := Lib.hid (show elem s.data.toList = none from elem_num (by rw [← htd]; exact ha) (by rw [← htd, head_of (by omega)]; exact fun h => h76 (by simpa using h.2.1)))
        clear ht htd hpre hsuf ha h76 htz
        go_enter Tryd.func22, Tryd.ntmps22
        go_wp2_with fail
        rw [HT.out]
        refine (Tryd.strings_HasPrefix _ _ _).mono ?_
        rintro e w' ⟨rfl, rfl⟩
        rw [show Lib.hasPrefix t.data.toList (⟨#[91]⟩ : ByteArray).data.toList = false from HP.out]
        go_wp2
        go_ret2
        exact elemPost_none hfin.out
    · have hfin := Lib.hid (show elem s.data.toList = none from elem_num (by rw [← htd]; exact ha) (by rw [← htd]; exact fun h => h1 h.1))
      have h1' : t.size ≤ 1 := by omega
      clear ht htd hpre hsuf ha htz
      go_enter Tryd.func22, Tryd.ntmps22
      go_wp2_with fail
      rw [HT.out]
      refine (Tryd.strings_HasPrefix _ _ _).mono ?_
      rintro e w' ⟨rfl, rfl⟩
      rw [show Lib.hasPrefix t.data.toList (⟨#[91]⟩ : ByteArray).data.toList = false from HP.out]
      go_wp2
      go_ret2
      exact elemPost_none hfin.out
  · have HP := Lib.hid (hpre.trans ha)
    have hfin := Lib.hid (show elem s.data.toList = some t.data.toList by rw [htd]; exact elem_arr (by rw [← htd]; exact ha))
    clear ht htd hpre hsuf ha htz
    go_enter Tryd.func22, Tryd.ntmps22
    go_wp2_with fail
    rw [HT.out]
    refine (Tryd.strings_HasPrefix _ _ _).mono ?_
    rintro e w' ⟨rfl, rfl⟩
    rw [show Lib.hasPrefix t.data.toList (⟨#[91]⟩ : ByteArray).data.toList = true from HP.out]
    go_wp2
    go_ret2
    exact elemPost_some hfin.out

theorem isArr_at {s : ByteArray} (h : 0 < s.size) : isArr s.data.toList = decide (s[0] = 91) := by
  unfold isArr; rw [head_of h]
  by_cases h1 : s[0] = 91 <;> simp [h1]
set_option maxHeartbeats 400000 in
theorem array_any (s : ByteArray) (w : World) :
    Calls Tryd.prog 15 #[.string s] w fun e w' => e = .returned (.bool (isArr s.data.toList)) ∧ w = w' := by
  rcases Nat.eq_zero_or_pos s.size with h0 | h0
  · have hl : s.data.toList = [] := List.eq_nil_of_length_eq_zero h0
    have hv := Lib.hid (show isArr s.data.toList = false by rw [hl]; rfl)
    have h0' : s.size ≤ 0 := by omega
    clear hl h0
    go_enter Tryd.func15, Tryd.ntmps15
    go_wp2
    go_ret
    exact ⟨ret_bool (by rw [hv.out]), rfl⟩
  · have hv := isArr_at h0
    by_cases h91 : s[0] = 91
    · have h91' : (s[0].toNat : Int) = 91 := by rw [h91]; rfl
      have HV := Lib.hid (hv.trans (decide_eq_true h91))
      clear hv h91
      go_enter Tryd.func15, Tryd.ntmps15
      go_wp2
      go_ret
      exact ⟨ret_bool (by rw [HV.out]), rfl⟩
    · have h91' : ¬ (s[0].toNat : Int) = 91 := u8ne (n := 91) h91 (by omega)
      have h91b : ((s[0].toNat : Int) == 91) = false := by simpa using h91'
      have HV := Lib.hid (hv.trans (decide_eq_false h91))
      clear hv h91
      go_enter Tryd.func15, Tryd.ntmps15
      go_wp2
      go_ret
      exact ⟨ret_bool (by rw [HV.out]), rfl⟩
end Go.Proofs.YthblilhdjabhnaaDoor
