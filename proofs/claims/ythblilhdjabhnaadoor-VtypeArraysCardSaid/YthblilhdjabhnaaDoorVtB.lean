/- Contracts: Of and Slots of vtype and of samovarref17. -/
import Derived.Test.YthblilhdjabhnaaDoorVtA
namespace Go.Proofs.YthblilhdjabhnaaDoor
open Go.RowKit

abbrev VT := Int × List UInt8 × Int
abbrev vtV (v : VT) : Value := .agg #[.int .i64 v.1, .string ⟨v.2.1.toArray⟩, .int .i64 v.2.2]
def ofV (l : List UInt8) : VT :=
  if descB l = false then (0, [], 0) else if l = [74] then (4, [], 0) else if l.head? = some 91 then (7, l, 0) else if l.head? = some 76 then (7, l.tail.dropLast, 0) else (1, [], 0)
theorem desc_L {l : List UInt8} (hd : descB l = true) (h : l.head? = some 76) : 2 ≤ l.length ∧ l.getLast? = some 59 := by
  cases l with
  | nil => cases h
  | cons c r =>
    simp at h
    subst h
    obtain ⟨h1, h2⟩ : 0 < headN (76 :: r) ∧ headN (76 :: r) = (76 :: r).length := by unfold descB at hd; simpa using hd
    have hs : skipB (76 :: r) = 0 := by simp [skipB]
    unfold headN at h1 h2
    rw [hs] at h1 h2
    simp only [Nat.not_lt_zero, if_false, List.getElem?_cons_zero] at h1 h2
    rw [if_neg (by decide)] at h1 h2
    split at h1
    · rename_i h3
      rw [if_pos h3] at h2
      obtain ⟨_, h0, _⟩ := h3
      obtain ⟨i, hi⟩ := Int.eq_ofNat_of_zero_le h0
      obtain ⟨g1, _⟩ := Lib.indexByte_some hi
      have h4 := semi_behind (l := 76 :: r) (by rw [hs]; rfl) h0
      rw [hs, hi] at h4
      rw [hi] at h2
      simp only [Int.toNat_natCast] at h2 h4
      refine ⟨by omega, ?_⟩
      rw [List.getLast?_eq_getElem?, ← h2]
      simpa using g1
    · omega
theorem trim_L {l : List UInt8} (h2 : 2 ≤ l.length) (h : l.getLast? = some 59) : Lib.trimSuffix (l.drop 1) [59] = (l.drop 1).dropLast := by
  unfold Lib.trimSuffix
  have hl : (l.drop 1).getLast? = some 59 := by
    rw [List.getLast?_drop, if_neg (by omega)]; exact h
  rw [hasSuffix_one, hl]
  simp [List.dropLast_eq_take]

theorem desc_J {l : List UInt8} (hd : descB l = true) (h : l.head? = some 74) : l = [74] := by
  cases l with
  | nil => cases h
  | cons c r =>
    simp at h
    subst h
    obtain ⟨h1, h2⟩ : 0 < headN (74 :: r) ∧ headN (74 :: r) = (74 :: r).length := by unfold descB at hd; simpa using hd
    have hs : skipB (74 :: r) = 0 := by simp [skipB]
    rw [headN_prim hs (by decide) rfl (by decide)] at h2
    simp at h2
    rw [h2]
theorem ofV_no {l : List UInt8} (h : descB l = false) : ofV l = (0, [], 0) := by unfold ofV; rw [if_pos h]
theorem ofV_J {l : List UInt8} (h : descB l = true) (h1 : l = [74]) : ofV l = (4, [], 0) := by unfold ofV; rw [if_neg (by rw [h]; decide), if_pos h1]
theorem ofV_arr {l : List UInt8} (h : descB l = true) (h1 : ¬ l = [74]) (h2 : l.head? = some 91) : ofV l = (7, l, 0) := by unfold ofV; rw [if_neg (by rw [h]; decide), if_neg h1, if_pos h2]
theorem ofV_L {l : List UInt8} (h : descB l = true) (h1 : ¬ l = [74]) (h2 : l.head? = some 76) : ofV l = (7, l.tail.dropLast, 0) := by unfold ofV; rw [if_neg (by rw [h]; decide), if_neg h1, if_neg (by rw [h2]; decide), if_pos h2]
theorem ofV_int {l : List UInt8} (h : descB l = true) (h1 : ¬ l = [74]) (h2 : ¬ l.head? = some 91) (h3 : ¬ l.head? = some 76) : ofV l = (1, [], 0) := by unfold ofV; rw [if_neg (by rw [h]; decide), if_neg h1, if_neg h2, if_neg h3]
theorem vt3 {w w1 : World} {g : Nat} {t : TypeId} {x y z : Value} (B1 : Bk w1 g t #[x, y, z]) (hb1 : Below w.heap.size w w1) (hg : w.heap.size ≤ g) (a b c : Value) :
    Below w.heap.size w (((w1.setCell ⟨g, 0, none⟩ a).setCell ⟨g, 1, none⟩ b).setCell ⟨g, 2, none⟩ c) ∧
    (((w1.setCell ⟨g, 0, none⟩ a).setCell ⟨g, 1, none⟩ b).setCell ⟨g, 2, none⟩ c).cell? ⟨g, 0, none⟩ = some a ∧
    (((w1.setCell ⟨g, 0, none⟩ a).setCell ⟨g, 1, none⟩ b).setCell ⟨g, 2, none⟩ c).cell? ⟨g, 1, none⟩ = some b ∧
    (((w1.setCell ⟨g, 0, none⟩ a).setCell ⟨g, 1, none⟩ b).setCell ⟨g, 2, none⟩ c).cell? ⟨g, 2, none⟩ = some c := by
  have B4 := ((B1.set 0 a).set 1 b).set 2 c
  have d0 := B4.cell 0
  have d1 := B4.cell 1
  have d2 := B4.cell 2
  simp at d0 d1 d2
  exact ⟨((hb1.setCell (by exact hg) _).setCell (by exact hg) _).setCell (by exact hg) _, d0, d1, d2⟩

set_option maxHeartbeats 2000000 in
theorem of_any (s : ByteArray) (m : Int) (w : World) (hs : s.size ≤ 140737488355328) (hm : w.cell? ⟨0, 0, none⟩ = some (.int .i64 m)) :
    Calls Tryd.prog 9 #[.string s] w fun e w' => e = .returned (vtV (ofV s.data.toList)) ∧ Below w.heap.size w w' := by
  have hm' := fun o : Obj => (World.cell?_alloc_lt w o ⟨0, 0, none⟩ (World.block_lt_of_cell? _ _ hm)).trans hm
  cases hd : descB s.data.toList
  · have HD := Lib.hid hd
    rw [ofV_no hd]
    clear hd
    go_enter Tryd.func9, Tryd.ntmps9
    go_wp2_with fail
    refine (desc_any _ m _ hs (hm' _)).mono ?_
    rintro e w1 ⟨rfl, hb⟩
    rw [HD.out]
    have B1 : Bk w1 w.heap.size 23 #[.int .i64 0, .string .empty, .int .i64 0] := (Bk.new w _ _).below hb (by simp)
    have hb1 := (bl_alloc (Below.refl w.heap.size w) (Nat.le_refl _) _).trans (hb.mono (by simp))
    have hc := B1.cell
    have hf := B1.frz
    have hz := B1.lt
    obtain ⟨g, hg⟩ : ∃ g, w.heap.size = g := ⟨_, rfl⟩
    rw [hg] at B1 hc hf hz ⊢
    have hgl : w.heap.size ≤ g := by omega
    have HG := Lib.hid hg
    clear hb hg
    go_wp2
    obtain ⟨hbel, d0, d1, d2⟩ := vt3 B1 hb1 hgl (.int .i64 0) (.string ⟨#[]⟩) (.int .i64 0)
    exact bodyPost_ret (v := .agg #[.int .i64 0, .string ⟨#[]⟩, .int .i64 0]) (by simp [results, Tryd.results9, go_sem, d0, d1, d2]) rfl ⟨rfl, HG.out ▸ hbel⟩
  · have HD := Lib.hid hd
    have h0 : 0 < s.size := by
      rcases Nat.eq_zero_or_pos s.size with h | h
      · rw [List.eq_nil_of_length_eq_zero (show s.data.toList.length = 0 from h)] at hd; exact absurd hd (by decide)
      · exact h
    have hh := head_of h0
    by_cases hJ : s.data.toList = [74]
    · rw [ofV_J hd hJ]
      have gJ := tl_eq hJ
      clear hd hJ hh
      go_enter Tryd.func9, Tryd.ntmps9
      go_wp2_with fail
      refine (desc_any _ m _ hs (hm' _)).mono ?_
      rintro e w1 ⟨rfl, hb⟩
      rw [HD.out]
      have B1 : Bk w1 w.heap.size 23 #[.int .i64 0, .string .empty, .int .i64 0] := (Bk.new w _ _).below hb (by simp)
      have hb1 := (bl_alloc (Below.refl w.heap.size w) (Nat.le_refl _) _).trans (hb.mono (by simp))
      have hc := B1.cell
      have hf := B1.frz
      have hz := B1.lt
      obtain ⟨g, hg⟩ : ∃ g, w.heap.size = g := ⟨_, rfl⟩
      rw [hg] at B1 hc hf hz ⊢
      have hgl : w.heap.size ≤ g := by omega
      have HG := Lib.hid hg
      clear hb hg
      go_wp2
      obtain ⟨hbel, d0, d1, d2⟩ := vt3 B1 hb1 hgl (.int .i64 4) (.string ⟨#[]⟩) (.int .i64 0)
      exact bodyPost_ret (v := .agg #[.int .i64 4, .string ⟨#[]⟩, .int .i64 0]) (by simp [results, Tryd.results9, go_sem, d0, d1, d2]) rfl ⟨rfl, HG.out ▸ hbel⟩
    · have gJ := tl_ne hJ
      by_cases h91 : s[0] = 91
      · have g91 : (s[0].toNat : Int) = 91 := by rw [h91]; rfl
        rw [ofV_arr hd hJ (by rw [hh, h91])]
        clear hd hJ hh h91
        go_enter Tryd.func9, Tryd.ntmps9
        go_wp2_with fail
        refine (desc_any _ m _ hs (hm' _)).mono ?_
        rintro e w1 ⟨rfl, hb⟩
        rw [HD.out]
        have B1 : Bk w1 w.heap.size 23 #[.int .i64 0, .string .empty, .int .i64 0] := (Bk.new w _ _).below hb (by simp)
        have hb1 := (bl_alloc (Below.refl w.heap.size w) (Nat.le_refl _) _).trans (hb.mono (by simp))
        have hc := B1.cell
        have hf := B1.frz
        have hz := B1.lt
        obtain ⟨g, hg⟩ : ∃ g, w.heap.size = g := ⟨_, rfl⟩
        rw [hg] at B1 hc hf hz ⊢
        have hgl : w.heap.size ≤ g := by omega
        have HG := Lib.hid hg
        clear hb hg
        go_wp2
        obtain ⟨hbel, d0, d1, d2⟩ := vt3 B1 hb1 hgl (.int .i64 7) (.string s) (.int .i64 0)
        exact bodyPost_ret (v := .agg #[.int .i64 7, .string s, .int .i64 0]) (by simp [results, Tryd.results9, go_sem, d0, d1, d2]) rfl ⟨rfl, HG.out ▸ hbel⟩
      · have g91 : ¬ (s[0].toNat : Int) = 91 := u8ne (n := 91) h91 (by omega)
        by_cases h76 : s[0] = 76
        · have g76 : (s[0].toNat : Int) = 76 := by rw [h76]; rfl
          obtain ⟨l1, l2⟩ := desc_L hd (by rw [hh, h76])
          have HTR := Lib.hid (trim_L l1 l2)
          obtain ⟨b, hb9⟩ : ∃ b : ByteArray, (⟨(s.data.toList.tail.dropLast).toArray⟩ : ByteArray) = b := ⟨_, rfl⟩
          have HB9 := Lib.hid hb9
          have hv9 : vtV (7, s.data.toList.tail.dropLast, 0) = .agg #[.int .i64 7, .string b, .int .i64 0] := by rw [← hb9]
          have hxd := Lib.hid (ext_drop s 1)
          have hxz : (s.extract 1 s.size).size ≤ 140737488355328 := by rw [ByteArray.size_extract]; omega
          rw [ofV_L hd hJ (by rw [hh, h76]), hv9]
          clear hd hJ hh h91 h76 l1 l2 g91 hb9 hv9
          go_enter Tryd.func9, Tryd.ntmps9
          go_wp2_with fail
          refine (desc_any _ m _ hs (hm' _)).mono ?_
          rintro e w1 ⟨rfl, hb⟩
          rw [HD.out]
          have B1 : Bk w1 w.heap.size 23 #[.int .i64 0, .string .empty, .int .i64 0] := (Bk.new w _ _).below hb (by simp)
          have hb1 := (bl_alloc (Below.refl w.heap.size w) (Nat.le_refl _) _).trans (hb.mono (by simp))
          have hc := B1.cell
          have hf := B1.frz
          have hz := B1.lt
          obtain ⟨g, hg⟩ : ∃ g, w.heap.size = g := ⟨_, rfl⟩
          rw [hg] at B1 hc hf hz ⊢
          have hgl : w.heap.size ≤ g := by omega
          have HG := Lib.hid hg
          clear hb hg
          go_wp2_with fail
          refine (Tryd.strings_TrimSuffix _ _ _ (by omega)).mono ?_
          rintro e w' ⟨rfl, rfl⟩
          rw [show (⟨(Lib.trimSuffix (s.extract 1 s.size).data.toList (⟨#[59]⟩ : ByteArray).data.toList).toArray⟩ : ByteArray) = b by rw [hxd.out, ← HB9.out, show Lib.trimSuffix (s.data.toList.drop 1) (⟨#[59]⟩ : ByteArray).data.toList = (s.data.toList.drop 1).dropLast from HTR.out, List.drop_one]]
          go_wp2
          obtain ⟨hbel, d0, d1, d2⟩ := vt3 B1 hb1 hgl (.int .i64 7) (.string b) (.int .i64 0)
          exact bodyPost_ret (v := .agg #[.int .i64 7, .string b, .int .i64 0]) (by simp [results, Tryd.results9, go_sem, d0, d1, d2]) rfl ⟨rfl, HG.out ▸ hbel⟩
        · have g76 : ¬ (s[0].toNat : Int) = 76 := u8ne (n := 76) h76 (by omega)
          rw [ofV_int hd hJ (by rw [hh]; simpa using h91) (by rw [hh]; simpa using h76)]
          clear hd hJ hh h91 h76
          go_enter Tryd.func9, Tryd.ntmps9
          go_wp2_with fail
          refine (desc_any _ m _ hs (hm' _)).mono ?_
          rintro e w1 ⟨rfl, hb⟩
          rw [HD.out]
          have B1 : Bk w1 w.heap.size 23 #[.int .i64 0, .string .empty, .int .i64 0] := (Bk.new w _ _).below hb (by simp)
          have hb1 := (bl_alloc (Below.refl w.heap.size w) (Nat.le_refl _) _).trans (hb.mono (by simp))
          have hc := B1.cell
          have hf := B1.frz
          have hz := B1.lt
          obtain ⟨g, hg⟩ : ∃ g, w.heap.size = g := ⟨_, rfl⟩
          rw [hg] at B1 hc hf hz ⊢
          have hgl : w.heap.size ≤ g := by omega
          have HG := Lib.hid hg
          clear hb hg
          go_wp2
          obtain ⟨hbel, d0, d1, d2⟩ := vt3 B1 hb1 hgl (.int .i64 1) (.string ⟨#[]⟩) (.int .i64 0)
          exact bodyPost_ret (v := .agg #[.int .i64 1, .string ⟨#[]⟩, .int .i64 0]) (by simp [results, Tryd.results9, go_sem, d0, d1, d2]) rfl ⟨rfl, HG.out ▸ hbel⟩
set_option maxHeartbeats 2000000 in
theorem refOf_any (s : ByteArray) (w : World) (hs : s.size ≤ 140737488355328) :
    Calls Tryd.prog 10 #[.string s] w fun e w' => e = .returned (vtV (ofV s.data.toList)) ∧ Below w.heap.size w w' := by
  cases hd : descB s.data.toList
  · have HD := Lib.hid hd
    rw [ofV_no hd]
    clear hd
    go_enter Tryd.func10, Tryd.ntmps10
    go_wp2_with fail
    refine (refDesc_any _ _ hs).mono ?_
    rintro e w1 ⟨rfl, hb⟩
    rw [HD.out]
    have B1 : Bk w1 w.heap.size 23 #[.int .i64 0, .string .empty, .int .i64 0] := (Bk.new w _ _).below hb (by simp)
    have hb1 := (bl_alloc (Below.refl w.heap.size w) (Nat.le_refl _) _).trans (hb.mono (by simp))
    have hc := B1.cell
    have hf := B1.frz
    have hz := B1.lt
    obtain ⟨g, hg⟩ : ∃ g, w.heap.size = g := ⟨_, rfl⟩
    rw [hg] at B1 hc hf hz ⊢
    have hgl : w.heap.size ≤ g := by omega
    have HG := Lib.hid hg
    clear hb hg
    go_wp2
    obtain ⟨hbel, d0, d1, d2⟩ := vt3 B1 hb1 hgl (.int .i64 0) (.string ⟨#[]⟩) (.int .i64 0)
    exact bodyPost_ret (v := .agg #[.int .i64 0, .string ⟨#[]⟩, .int .i64 0]) (by simp [results, Tryd.results10, go_sem, d0, d1, d2]) rfl ⟨rfl, HG.out ▸ hbel⟩
  · have HD := Lib.hid hd
    have h0 : 0 < s.size := by
      rcases Nat.eq_zero_or_pos s.size with h | h
      · rw [List.eq_nil_of_length_eq_zero (show s.data.toList.length = 0 from h)] at hd; exact absurd hd (by decide)
      · exact h
    have hh := head_of h0
    by_cases hJ : s.data.toList = [74]
    · rw [ofV_J hd hJ]
      have gJ : (s[0].toNat : Int) = 74 := by
        have : s[0] = 74 := by rw [hJ] at hh; simpa using hh.symm
        rw [this]; rfl
      clear hd hJ hh
      go_enter Tryd.func10, Tryd.ntmps10
      go_wp2_with fail
      refine (refDesc_any _ _ hs).mono ?_
      rintro e w1 ⟨rfl, hb⟩
      rw [HD.out]
      have B1 : Bk w1 w.heap.size 23 #[.int .i64 0, .string .empty, .int .i64 0] := (Bk.new w _ _).below hb (by simp)
      have hb1 := (bl_alloc (Below.refl w.heap.size w) (Nat.le_refl _) _).trans (hb.mono (by simp))
      have hc := B1.cell
      have hf := B1.frz
      have hz := B1.lt
      obtain ⟨g, hg⟩ : ∃ g, w.heap.size = g := ⟨_, rfl⟩
      rw [hg] at B1 hc hf hz ⊢
      have hgl : w.heap.size ≤ g := by omega
      have HG := Lib.hid hg
      clear hb hg
      go_wp2
      obtain ⟨hbel, d0, d1, d2⟩ := vt3 B1 hb1 hgl (.int .i64 4) (.string ⟨#[]⟩) (.int .i64 0)
      exact bodyPost_ret (v := .agg #[.int .i64 4, .string ⟨#[]⟩, .int .i64 0]) (by simp [results, Tryd.results10, go_sem, d0, d1, d2]) rfl ⟨rfl, HG.out ▸ hbel⟩
    · have gJ : ¬ (s[0].toNat : Int) = 74 := u8ne (n := 74) (fun e => hJ (desc_J hd (by rw [hh, e]; rfl))) (by omega)
      by_cases h91 : s[0] = 91
      · have g91 : (s[0].toNat : Int) = 91 := by rw [h91]; rfl
        rw [ofV_arr hd hJ (by rw [hh, h91])]
        clear hd hJ hh h91 gJ
        go_enter Tryd.func10, Tryd.ntmps10
        go_wp2_with fail
        refine (refDesc_any _ _ hs).mono ?_
        rintro e w1 ⟨rfl, hb⟩
        rw [HD.out]
        have B1 : Bk w1 w.heap.size 23 #[.int .i64 0, .string .empty, .int .i64 0] := (Bk.new w _ _).below hb (by simp)
        have hb1 := (bl_alloc (Below.refl w.heap.size w) (Nat.le_refl _) _).trans (hb.mono (by simp))
        have hc := B1.cell
        have hf := B1.frz
        have hz := B1.lt
        obtain ⟨g, hg⟩ : ∃ g, w.heap.size = g := ⟨_, rfl⟩
        rw [hg] at B1 hc hf hz ⊢
        have hgl : w.heap.size ≤ g := by omega
        have HG := Lib.hid hg
        clear hb hg
        go_wp2
        obtain ⟨hbel, d0, d1, d2⟩ := vt3 B1 hb1 hgl (.int .i64 7) (.string s) (.int .i64 0)
        exact bodyPost_ret (v := .agg #[.int .i64 7, .string s, .int .i64 0]) (by simp [results, Tryd.results10, go_sem, d0, d1, d2]) rfl ⟨rfl, HG.out ▸ hbel⟩
      · have g91 : ¬ (s[0].toNat : Int) = 91 := u8ne (n := 91) h91 (by omega)
        by_cases h76 : s[0] = 76
        · have g76 : (s[0].toNat : Int) = 76 := by rw [h76]; rfl
          obtain ⟨l1, l2⟩ := desc_L hd (by rw [hh, h76])
          have hmid : vtV (7, s.data.toList.tail.dropLast, 0) = .agg #[.int .i64 7, .string (s.extract 1 (s.size - 1)), .int .i64 0] := by
            unfold vtV
            rw [ba_of (s := s.extract 1 (s.size - 1)) (l := s.data.toList.tail.dropLast) (by
              rw [extract_data, ← List.drop_one, List.dropLast_eq_take, List.length_drop]; congr 1)]
          have hl1 : 2 ≤ s.size := l1
          have q1 : IntKind.i64.wrap ((s.size : Int) - 1) = (s.size : Int) - 1 := IntWalk.i64_in _ (by omega)
          have q3 : ((s.size : Int) - 1).toNat = s.size - 1 := by omega
          rw [ofV_L hd hJ (by rw [hh, h76]), hmid]
          clear hd hJ hh h91 h76 l1 l2 g91 hmid gJ
          go_enter Tryd.func10, Tryd.ntmps10
          go_wp2_with fail
          refine (refDesc_any _ _ hs).mono ?_
          rintro e w1 ⟨rfl, hb⟩
          rw [HD.out]
          have B1 : Bk w1 w.heap.size 23 #[.int .i64 0, .string .empty, .int .i64 0] := (Bk.new w _ _).below hb (by simp)
          have hb1 := (bl_alloc (Below.refl w.heap.size w) (Nat.le_refl _) _).trans (hb.mono (by simp))
          have hc := B1.cell
          have hf := B1.frz
          have hz := B1.lt
          obtain ⟨g, hg⟩ : ∃ g, w.heap.size = g := ⟨_, rfl⟩
          rw [hg] at B1 hc hf hz ⊢
          have hgl : w.heap.size ≤ g := by omega
          have HG := Lib.hid hg
          clear hb hg
          go_wp2
          obtain ⟨hbel, d0, d1, d2⟩ := vt3 B1 hb1 hgl (.int .i64 7) (.string (s.extract 1 (s.size - 1))) (.int .i64 0)
          exact bodyPost_ret (v := .agg #[.int .i64 7, .string (s.extract 1 (s.size - 1)), .int .i64 0]) (by simp [results, Tryd.results10, go_sem, d0, d1, d2]) rfl ⟨rfl, HG.out ▸ hbel⟩
        · have g76 : ¬ (s[0].toNat : Int) = 76 := u8ne (n := 76) h76 (by omega)
          rw [ofV_int hd hJ (by rw [hh]; simpa using h91) (by rw [hh]; simpa using h76)]
          clear hd hJ hh h91 h76
          go_enter Tryd.func10, Tryd.ntmps10
          go_wp2_with fail
          refine (refDesc_any _ _ hs).mono ?_
          rintro e w1 ⟨rfl, hb⟩
          rw [HD.out]
          have B1 : Bk w1 w.heap.size 23 #[.int .i64 0, .string .empty, .int .i64 0] := (Bk.new w _ _).below hb (by simp)
          have hb1 := (bl_alloc (Below.refl w.heap.size w) (Nat.le_refl _) _).trans (hb.mono (by simp))
          have hc := B1.cell
          have hf := B1.frz
          have hz := B1.lt
          obtain ⟨g, hg⟩ : ∃ g, w.heap.size = g := ⟨_, rfl⟩
          rw [hg] at B1 hc hf hz ⊢
          have hgl : w.heap.size ≤ g := by omega
          have HG := Lib.hid hg
          clear hb hg
          go_wp2
          obtain ⟨hbel, d0, d1, d2⟩ := vt3 B1 hb1 hgl (.int .i64 1) (.string ⟨#[]⟩) (.int .i64 0)
          exact bodyPost_ret (v := .agg #[.int .i64 1, .string ⟨#[]⟩, .int .i64 0]) (by simp [results, Tryd.results10, go_sem, d0, d1, d2]) rfl ⟨rfl, HG.out ▸ hbel⟩
set_option maxHeartbeats 400000 in
theorem vtSlots_any (k : Int) (b : ByteArray) (a : Int) (w : World) :
    Calls Tryd.prog 11 #[.agg #[.int .i64 k, .string b, .int .i64 a]] w fun e w' => e = .returned (.int .i64 (if k = 4 then 2 else 1)) ∧ Below w.heap.size w w' := by
  by_cases h : k = 4
  · subst h
    go_enter Tryd.func11, Tryd.ntmps11
    go_wp2
    go_ret
    exact ⟨rfl, bl_alloc (Below.refl _ _) (Nat.le_refl _) _⟩
  · have hv : (if k = 4 then (2 : Int) else 1) = 1 := if_neg h
    rw [hv]
    have h' : (k == 4) = false := by simpa using h
    clear hv h
    go_enter Tryd.func11, Tryd.ntmps11
    go_wp2
    go_ret
    exact ⟨rfl, bl_alloc (Below.refl _ _) (Nat.le_refl _) _⟩
set_option maxHeartbeats 400000 in
theorem refVtSlots_any (k : Int) (b : ByteArray) (a : Int) (w : World) :
    Calls Tryd.prog 12 #[.agg #[.int .i64 k, .string b, .int .i64 a]] w fun e w' => e = .returned (.int .i64 (if k = 4 then 2 else 1)) ∧ Below w.heap.size w w' := by
  by_cases h : k = 4
  · subst h
    go_enter Tryd.func12, Tryd.ntmps12
    go_wp2
    go_ret
    exact ⟨rfl, bl_alloc (Below.refl _ _) (Nat.le_refl _) _⟩
  · have hv : (if k = 4 then (2 : Int) else 1) = 1 := if_neg h
    rw [hv]
    have h' : (k == 4) = false := by simpa using h
    clear hv h
    go_enter Tryd.func12, Tryd.ntmps12
    go_wp2
    go_ret
    exact ⟨rfl, bl_alloc (Below.refl _ _) (Nat.le_refl _) _⟩
end Go.Proofs.YthblilhdjabhnaaDoor
