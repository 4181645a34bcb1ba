/- The walks of NameTells, NameMethods, NameUnits. -/
import Derived.Test.YthlplphpikboiaaDoorNameX
import Derived.Test.YthlplphpikboiaaDoorNameZ
namespace Go.Proofs.YthlplphpikboiaaDoor
open Go.RowKit

set_option maxRecDepth 100000 in
set_option maxHeartbeats 4000000 in
theorem nameTells_walk (m : Int) (w : World) (hm : w.cell? ⟨0, 0, none⟩ = some (.int .i64 m)) (s : ByteArray) (b : s.size ≤ 140737488351232) :
    Calls Tryd.prog 3 #[.string s] w fun e w' => e = .returned (.bool true) ∧ Below w.heap.size w w' := by
  go_enter Tryd.func3, Tryd.ntmps3
  go_wp2_with fail
  refine (fixed13_any m _ hm).mono ?_
  rintro e w1 ⟨rfl, hb1⟩
  have hm1 := cell_old hb1 hm
  by_cases hz : s.size ≤ 20000
  · go_wp2_with fail
    refine (class_any _ m _ (by omega) hm1).mono ?_
    rintro e w2 ⟨rfl, hb2⟩
    generalize hx : (decide (s.size ≤ 58) && classGo s.data.toList 0) = x
    have HX := Lib.hid hx
    clear hx
    have hb2' := hb1.trans (hb2.mono hb1.size)
    go_wp2_with fail
    refine (refClass_any _ _ (by omega)).mono ?_
    rintro e w3 ⟨rfl, hb3⟩
    rw [HX.out]
    have hb3' := hb2'.trans (hb3.mono hb2'.size)
    go_wp2_with fail
    refine (member_any _ _ _ (by omega)).mono ?_
    rintro e w' ⟨rfl, rfl⟩
    generalize hy : memB s.data.toList false = y
    have HY := Lib.hid hy
    clear hy
    go_wp2_with fail
    refine (refMember_any _ _ _ (by omega)).mono ?_
    rintro e w4 ⟨rfl, hb4⟩
    rw [HY.out]
    have hb4' := hb3'.trans (hb4.mono hb3'.size)
    go_wp2_with fail
    refine (member_any _ _ _ (by omega)).mono ?_
    rintro e w' ⟨rfl, rfl⟩
    generalize hy2 : memB s.data.toList true = y2
    have HY2 := Lib.hid hy2
    clear hy2
    go_wp2_with fail
    refine (refMember_any _ _ _ (by omega)).mono ?_
    rintro e w5 ⟨rfl, hb5⟩
    rw [HY2.out]
    have hb5' := hb4'.trans (hb5.mono hb4'.size)
    have hm5 := cell_old hb5' hm
    go_wp2_with fail
    refine (desc_any _ m _ (by omega) hm5).mono ?_
    rintro e w6 ⟨rfl, hb6⟩
    generalize hd : descB s.data.toList = d
    have HD := Lib.hid hd
    clear hd
    have hb6' := hb5'.trans (hb6.mono hb5'.size)
    go_wp2_with fail
    refine (refDesc_any _ _ (by omega)).mono ?_
    rintro e w7 ⟨rfl, hb7⟩
    rw [HD.out]
    have hb7' := hb6'.trans (hb7.mono hb6'.size)
    go_wp2_with fail
    refine (slots_any _ _).mono ?_
    rintro e w' ⟨rfl, rfl⟩
    go_wp2_with fail
    refine (refSlots_any _ _).mono ?_
    rintro e w' ⟨rfl, rfl⟩
    go_wp2
    go_ret
    exact ⟨rfl, hb7'⟩
  · have hz' : 20000 < s.size := by omega
    go_wp2
    go_ret
    exact ⟨rfl, hb1⟩

set_option maxRecDepth 100000 in
set_option maxHeartbeats 4000000 in
theorem nameMethods_walk (m : Int) (w : World) (hm : w.cell? ⟨0, 0, none⟩ = some (.int .i64 m)) (s : ByteArray) (b : s.size ≤ 140737488351232) :
    Calls Tryd.prog 4 #[.string s] w fun e w' => e = .returned (.bool true) ∧ Below w.heap.size w w' := by
  go_enter Tryd.func4, Tryd.ntmps4
  go_wp2_with fail
  refine (fixed13_any m _ hm).mono ?_
  rintro e w1 ⟨rfl, hb1⟩
  have hm1 := cell_old hb1 hm
  by_cases hz : s.size ≤ 5000
  · go_wp2_with fail
    refine (method_post _ m _ (by omega) hm1).mono ?_
    rintro e w2 ⟨A1, n1, c1, rfl, hn1, hr1, hb2⟩
    have hln : (methV s.data.toList).1.length ≤ s.size := methV_len _
    generalize hx : methV s.data.toList = x at hn1 hr1 hln
    have HX := Lib.hid hx
    clear hx
    obtain ⟨ps, r, er⟩ := x
    simp only at hn1 hr1 hln
    have hb2' := hb1.trans (hb2.mono hb1.size)
    have HN := Lib.hid hn1
    clear hn1
    go_wp2_with fail
    refine (refMethod_post _ _ (by omega)).mono ?_
    rintro e w3 ⟨A2, n2, c2, rfl, hn2, hr2, hb3⟩
    rw [HX.out] at hn2 hr2 ⊢
    simp only at hn2 hr2 ⊢
    have hr1' := hr1.step hb3
    obtain rfl : n1 = n2 := by rw [← HN.out]; exact hn2
    have hb3' := hb2'.trans (hb3.mono hb2'.size)
    clear hn2
    have hle : n1 ≤ s.size := by rw [← HN.out]; exact hln
    go_wp2_with fail
    refine (sameTexts_any _ _ _ _ _ _ ps ps _ HN.out HN.out (by omega) (by omega) hr1' hr2).mono ?_
    rintro e w4 ⟨rfl, hb4⟩
    go_wp2
    go_ret
    exact ⟨ret_bool (by simp), hb3'.trans (hb4.mono hb3'.size)⟩
  · have hz' : 5000 < s.size := by omega
    go_wp2
    go_ret
    exact ⟨rfl, hb1⟩
set_option maxRecDepth 100000 in
set_option maxHeartbeats 4000000 in
theorem nameUnits_walk (m : Int) (w : World) (hm : w.cell? ⟨0, 0, none⟩ = some (.int .i64 m)) (s : ByteArray) (_b : s.size ≤ 140737488351232)
    (A1 : Option Addr) (n1 c1 : Nat) (l1 : List UInt16) (e1 : l1.length = n1) (r1 : RL uV w w.heap.size A1 l1) (_b1 : n1 ≤ 140737488351232) :
    Calls Tryd.prog 6 #[.string s, .slice A1 n1 c1] w fun e w' => e = .returned (.bool true) ∧ Below w.heap.size w w' := by
  have E1 := Lib.hid e1
  clear e1
  go_enter Tryd.func6, Tryd.ntmps6
  go_wp2_with fail
  refine (fixed13_any m _ hm).mono ?_
  rintro e w1 ⟨rfl, hb1⟩
  by_cases hz : s.size ≤ 20000
  · by_cases hz2 : n1 ≤ 20000
    · go_wp2_with fail
      refine (units_post _ _ (by omega)).mono ?_
      rintro e w2 ⟨A2, n2, c2, rfl, hn2, hr2, hb2⟩
      have hln : (unitsV s.data.toList).1.length ≤ s.size := unitsV_len _
      generalize hx : unitsV s.data.toList = x at hn2 hr2 hln
      have HX := Lib.hid hx
      clear hx
      obtain ⟨us, er⟩ := x
      simp only at hn2 hr2 hln
      have hb2' := hb1.trans (hb2.mono hb1.size)
      have HN := Lib.hid hn2
      clear hn2
      go_wp2_with fail
      refine (refUnits_post _ _ (by omega)).mono ?_
      rintro e w3 ⟨A3, n3, c3, rfl, hn3, hr3, hb3⟩
      rw [HX.out] at hn3 hr3 ⊢
      simp only at hn3 hr3 ⊢
      have hr2' := hr2.step hb3
      obtain rfl : n2 = n3 := by rw [← HN.out]; exact hn3
      have hb3' := hb2'.trans (hb3.mono hb2'.size)
      clear hn3
      have hle : n2 ≤ s.size := by rw [← HN.out]; exact hln
      go_wp2_with fail
      refine (sameUnits_any _ _ _ _ _ _ us us _ HN.out HN.out (by omega) (by omega) hr2' hr3).mono ?_
      rintro e w4 ⟨rfl, hb4⟩
      rw [show decide (us = us) = true by simp]
      have hb4' := hb3'.trans (hb4.mono hb3'.size)
      go_wp2_with fail
      refine (text_any _ _ _ l1 _ E1.out (by omega) ((r1.below hb4' (Nat.le_refl _)).top)).mono ?_
      rintro e w5 ⟨rfl, hb5⟩
      have hb5' := hb4'.trans (hb5.mono hb4'.size)
      go_wp2_with fail
      refine (refText_any _ _ _ l1 _ E1.out (by omega) ((r1.below hb5' (Nat.le_refl _)).top)).mono ?_
      rintro e w6 ⟨rfl, hb6⟩
      go_wp2
      go_ret
      exact ⟨ret_bool (by simp), hb5'.trans (hb6.mono hb5'.size)⟩
    · have hz' : 20000 < n1 := by omega
      go_wp2
      go_ret
      exact ⟨rfl, hb1⟩
  · have hz' : 20000 < s.size := by omega
    go_wp2
    go_ret
    exact ⟨rfl, hb1⟩

set_option maxRecDepth 100000 in
set_option maxHeartbeats 4000000 in
theorem nameBack_walk (m : Int) (w : World) (hm : w.cell? ⟨0, 0, none⟩ = some (.int .i64 m)) (s : ByteArray) (_b : s.size ≤ 140737488351232)
    (A1 : Option Addr) (n1 c1 : Nat) (l1 : List UInt16) (e1 : l1.length = n1) (r1 : RL uV w w.heap.size A1 l1) (_b1 : n1 ≤ 140737488351232) :
    Calls Tryd.prog 7 #[.string s, .slice A1 n1 c1] w fun e w' => e = .returned (.bool true) ∧ Below w.heap.size w w' := by
  have E1 := Lib.hid e1
  have hut := Lib.hid (units_text l1)
  have htl : (textB l1).length ≤ 3 * n1 := by rw [← e1]; exact (textB_len l1).2
  clear e1
  go_enter Tryd.func7, Tryd.ntmps7
  go_wp2_with fail
  refine (fixed13_any m _ hm).mono ?_
  rintro e w1 ⟨rfl, hb1⟩
  by_cases hz : s.size ≤ 20000
  · by_cases hz2 : n1 ≤ 20000
    · go_wp2_with fail
      refine (text_any _ _ _ l1 _ E1.out (by omega) ((r1.below hb1 (Nat.le_refl _)).top)).mono ?_
      rintro e w2 ⟨rfl, hb2⟩
      have hb2' := hb1.trans (hb2.mono hb1.size)
      obtain ⟨t, ht⟩ : ∃ t : ByteArray, (⟨(textB l1).toArray⟩ : ByteArray) = t := ⟨_, rfl⟩
      have htd := Lib.hid (show t.data.toList = textB l1 by rw [← ht])
      have htz : t.size ≤ 60000 := by rw [← size_len, htd.out]; omega
      rw [ht]
      clear ht
      go_wp2_with fail
      refine (units_post _ _ (by omega)).mono ?_
      rintro e w3 ⟨A2, n2, c2, rfl, hn2, hr2, hb3⟩
      rw [htd.out, hut.out] at hn2 hr2 ⊢
      simp only at hn2 hr2 ⊢
      obtain rfl : n1 = n2 := by rw [← E1.out]; exact hn2
      clear hn2
      have hb3' := hb2'.trans (hb3.mono hb2'.size)
      go_wp2_with fail
      refine (sameUnits_any _ _ _ _ _ _ l1 l1 _ E1.out E1.out (by omega) (by omega) hr2 ((r1.below hb3' (Nat.le_refl _)).top)).mono ?_
      rintro e w4 ⟨rfl, hb4⟩
      rw [show decide (l1 = l1) = true by simp]
      have hb4' := hb3'.trans (hb4.mono hb3'.size)
      go_wp2_with fail
      refine (units_post _ _ (by omega)).mono ?_
      rintro e w5 ⟨A3, n3, c3, rfl, hn3, hr3, hb5⟩
      have hb5' := hb4'.trans (hb5.mono hb4'.size)
      have hln : (unitsV s.data.toList).1.length ≤ s.size := unitsV_len _
      cases hu : unitsB s.data.toList with
      | none =>
        rw [unitsV_no hu] at hn3 hr3 ⊢
        simp only at hn3 hr3 ⊢
        obtain rfl : 0 = n3 := hn3
        go_wp2
        go_ret
        exact ⟨rfl, hb5'⟩
      | some us =>
        rw [unitsV_yes hu] at hn3 hr3 hln ⊢
        simp only at hn3 hr3 hln ⊢
        have HN := Lib.hid hn3
        have hback := Lib.hid (text_units hu)
        have hle : n3 ≤ s.size := by rw [← hn3]; exact hln
        clear hn3 hu
        go_wp2_with fail
        refine (text_any _ _ _ us _ HN.out (by omega) hr3).mono ?_
        rintro e w6 ⟨rfl, hb6⟩
        rw [hback.out]
        go_wp2
        go_ret
        exact ⟨ret_bool rfl, hb5'.trans (hb6.mono hb5'.size)⟩
    · have hz' : 20000 < n1 := by omega
      go_wp2
      go_ret
      exact ⟨rfl, hb1⟩
  · have hz' : 20000 < s.size := by omega
    go_wp2
    go_ret
    exact ⟨rfl, hb1⟩
end Go.Proofs.YthlplphpikboiaaDoor
