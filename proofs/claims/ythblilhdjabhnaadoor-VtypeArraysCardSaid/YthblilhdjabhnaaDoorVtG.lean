/- Contracts: Fits of vtype and of samovarref17. -/
import Derived.Test.YthblilhdjabhnaaDoorVtF
namespace Go.Proofs.YthblilhdjabhnaaDoor
open Go.RowKit

def fitsV (l : List Hdr) (a b : VT) : Bool × List UInt8 :=
  if a = b ∨ b.1 = 0 ∨ (a.1 = 5 ∧ b.1 = 7) then (true, []) else if a.1 = 7 ∧ b.1 = 7 then underV l a.2.1 b.2.1 else (false, [])
section
variable {l : List Hdr} {k1 k2 a1 a2 : Int} {s1 s2 : ByteArray}
theorem fits_eq : fitsV l (k1, s1.data.toList, a1) (k1, s1.data.toList, a1) = (true, []) := by unfold fitsV; rw [if_pos (.inl rfl)]
theorem fits_top : fitsV l (k1, s1.data.toList, a1) (0, s2.data.toList, a2) = (true, []) := by unfold fitsV; rw [if_pos (.inr (.inl rfl))]
theorem fits_null : fitsV l (5, s1.data.toList, a1) (7, s2.data.toList, a2) = (true, []) := by unfold fitsV; rw [if_pos (.inr (.inr ⟨rfl, rfl⟩))]
theorem fits_ref (h : ¬ (s1.toList = s2.toList ∧ a1 = a2)) : fitsV l (7, s1.data.toList, a1) (7, s2.data.toList, a2) = underV l s1.data.toList s2.data.toList := by
  unfold fitsV
  rw [if_neg (by
    rintro (e | e | e)
    · simp only [Prod.mk.injEq, true_and] at e; exact h ⟨by rw [Lib.toList_data, Lib.toList_data]; exact e.1, e.2⟩
    · simp at e
    · simp at e), if_pos ⟨rfl, rfl⟩]
theorem fits_no (h : ¬ (k1 = k2 ∧ s1.toList = s2.toList ∧ a1 = a2)) (h0 : ¬ k2 = 0) (h5 : ¬ (k1 = 5 ∧ k2 = 7)) (h7 : ¬ (k1 = 7 ∧ k2 = 7)) : fitsV l (k1, s1.data.toList, a1) (k2, s2.data.toList, a2) = (false, []) := by
  unfold fitsV
  rw [if_neg (by
    rintro (e | e | e)
    · simp only [Prod.mk.injEq] at e; exact h ⟨e.1, by rw [Lib.toList_data, Lib.toList_data]; exact e.2.1, e.2.2⟩
    · exact h0 e
    · exact h5 e), if_neg h7]
end
theorem bel2 (w : World) (a b : Obj) : Below w.heap.size w ((w.alloc a).alloc b) := bl_alloc (bl_alloc (Below.refl _ _) (Nat.le_refl _) a) (Nat.le_refl _) b
set_option maxHeartbeats 4000000 in
theorem fits_any (A : Option Addr) (n c : Nat) (l : List Hdr) (hn : l.length = n) (hz : n ≤ 1000000) (hk : ∀ h ∈ l, h.1.length ≤ maxLen ∧ h.2.1.length ≤ maxLen)
    (k1 : Int) (s1 : ByteArray) (a1 : Int) (k2 : Int) (s2 : ByteArray) (a2 : Int) (w : World) (hr : RH w w.heap.size A l) (h1 : s1.size ≤ 140737488355328) (h2 : s2.size ≤ 140737488355328) :
    Calls Tryd.prog 16 #[.slice A n c, .agg #[.int .i64 k1, .string s1, .int .i64 a1], .agg #[.int .i64 k2, .string s2, .int .i64 a2]] w (UPost (fitsV l (k1, s1.data.toList, a1) (k2, s2.data.toList, a2)) w) := by
  have HN := Lib.hid hn
  have HK := Lib.hid hk
  clear hn hk
  by_cases he : k1 = k2 ∧ s1.toList = s2.toList ∧ a1 = a2
  · obtain ⟨rfl, e2, rfl⟩ := he
    obtain rfl : s1 = s2 := ba_eq (by rw [← Lib.toList_data, ← Lib.toList_data]; exact e2)
    have hfin := Lib.hid (fits_eq (l := l) (k1 := k1) (s1 := s1) (a1 := a1))
    clear e2
    go_enter Tryd.func16, Tryd.ntmps16
    go_wp2
    all_goals
      go_ret2
      exact uPost_of hfin.out (bel2 _ _ _)
  · by_cases h0 : k2 = 0
    · subst h0
      have hfin := Lib.hid (fits_top (l := l) (k1 := k1) (s1 := s1) (a1 := a1) (s2 := s2) (a2 := a2))
      clear he
      go_enter Tryd.func16, Tryd.ntmps16
      go_wp2
      all_goals
        go_ret2
        exact uPost_of hfin.out (bel2 _ _ _)
    · by_cases h57 : k1 = 5 ∧ k2 = 7
      · obtain ⟨rfl, rfl⟩ := h57
        have hfin := Lib.hid (fits_null (l := l) (s1 := s1) (a1 := a1) (s2 := s2) (a2 := a2))
        clear he h0
        go_enter Tryd.func16, Tryd.ntmps16
        go_wp2
        all_goals
          go_ret2
          exact uPost_of hfin.out (bel2 _ _ _)
      · by_cases h77 : k1 = 7 ∧ k2 = 7
        · obtain ⟨rfl, rfl⟩ := h77
          have hne : ¬ (s1.toList = s2.toList ∧ a1 = a2) := fun h => he ⟨rfl, h⟩
          have HNE := Lib.hid hne
          have hfin := Lib.hid (fits_ref (l := l) hne)
          clear he hne h0 h57
          go_enter Tryd.func16, Tryd.ntmps16
          go_wp2_with fail
          all_goals first
            | (refine (under_any _ n c l HN.out hz HK.out (s1.size + 1) s1 s2 _ (by omega) ((Rd.alloc (Rd.alloc hr (Nat.le_refl _) _) (by simp) _).top) h1 h2).mono ?_; rintro e w1 ⟨rfl, hb⟩; go_wp2; go_ret2; rw [hfin.out]; exact ⟨rfl, (bel2 _ _ _).trans (hb.mono (by simp; omega))⟩)
            | exact absurd (And.intro (by assumption) (by assumption)) HNE.out
        · have hfin := Lib.hid (fits_no (l := l) he h0 h57 h77)
          have HNE := Lib.hid he
          have b0 : (k2 == 0) = false := by simpa using h0
          have h0' := Lib.hid h0
          clear he
          by_cases h5 : k1 = 5
          · subst h5
            have b7 : (k2 == 7) = false := by simpa using fun e => h57 ⟨rfl, e⟩
            have b7' : ¬ k2 = 7 := fun e => h57 ⟨rfl, e⟩
            clear h57 h77
            go_enter Tryd.func16, Tryd.ntmps16
            go_wp2
            all_goals first
              | (go_ret2; exact uPost_of hfin.out (bel2 _ _ _))
              | exact absurd (And.intro (by assumption) (And.intro (by assumption) (by assumption))) HNE.out
          · by_cases h7 : k1 = 7
            · subst h7
              have b7 : (k2 == 7) = false := by simpa using fun e => h77 ⟨rfl, e⟩
              have b7' : ¬ k2 = 7 := fun e => h77 ⟨rfl, e⟩
              clear h57 h77
              go_enter Tryd.func16, Tryd.ntmps16
              go_wp2
              all_goals first
                | (go_ret2; exact uPost_of hfin.out (bel2 _ _ _))
                | exact absurd (And.intro (by assumption) (And.intro (by assumption) (by assumption))) HNE.out
            · clear h57 h77
              go_enter Tryd.func16, Tryd.ntmps16
              go_wp2
              all_goals first
                | (go_ret2; exact uPost_of hfin.out (bel2 _ _ _))
                | exact absurd (And.intro (by assumption) (And.intro (by assumption) (by assumption))) HNE.out
set_option maxHeartbeats 4000000 in
theorem refFits_any (A : Option Addr) (n c : Nat) (l : List Hdr) (hn : l.length = n) (hz : n ≤ 1000000) (hk : ∀ h ∈ l, h.1.length ≤ maxLen ∧ h.2.1.length ≤ maxLen)
    (k1 : Int) (s1 : ByteArray) (a1 : Int) (k2 : Int) (s2 : ByteArray) (a2 : Int) (w : World) (hr : RH w w.heap.size A l) (h1 : s1.size ≤ 140737488355328) (h2 : s2.size ≤ 140737488355328) :
    Calls Tryd.prog 17 #[.slice A n c, .agg #[.int .i64 k1, .string s1, .int .i64 a1], .agg #[.int .i64 k2, .string s2, .int .i64 a2]] w (UPost (fitsV l (k1, s1.data.toList, a1) (k2, s2.data.toList, a2)) w) := by
  have HN := Lib.hid hn
  have HK := Lib.hid hk
  clear hn hk
  by_cases he : k1 = k2 ∧ s1.toList = s2.toList ∧ a1 = a2
  · obtain ⟨rfl, e2, rfl⟩ := he
    obtain rfl : s1 = s2 := ba_eq (by rw [← Lib.toList_data, ← Lib.toList_data]; exact e2)
    have hfin := Lib.hid (fits_eq (l := l) (k1 := k1) (s1 := s1) (a1 := a1))
    clear e2
    go_enter Tryd.func17, Tryd.ntmps17
    go_wp2
    all_goals
      go_ret2
      exact uPost_of hfin.out (bel2 _ _ _)
  · by_cases h0 : k2 = 0
    · subst h0
      have hfin := Lib.hid (fits_top (l := l) (k1 := k1) (s1 := s1) (a1 := a1) (s2 := s2) (a2 := a2))
      clear he
      go_enter Tryd.func17, Tryd.ntmps17
      go_wp2
      all_goals
        go_ret2
        exact uPost_of hfin.out (bel2 _ _ _)
    · by_cases h57 : k1 = 5 ∧ k2 = 7
      · obtain ⟨rfl, rfl⟩ := h57
        have hfin := Lib.hid (fits_null (l := l) (s1 := s1) (a1 := a1) (s2 := s2) (a2 := a2))
        clear he h0
        go_enter Tryd.func17, Tryd.ntmps17
        go_wp2
        all_goals
          go_ret2
          exact uPost_of hfin.out (bel2 _ _ _)
      · by_cases h77 : k1 = 7 ∧ k2 = 7
        · obtain ⟨rfl, rfl⟩ := h77
          have hne : ¬ (s1.toList = s2.toList ∧ a1 = a2) := fun h => he ⟨rfl, h⟩
          have HNE := Lib.hid hne
          have hfin := Lib.hid (fits_ref (l := l) hne)
          clear he hne h0 h57
          go_enter Tryd.func17, Tryd.ntmps17
          go_wp2_with fail
          all_goals first
            | (refine (refUnder_any _ n c l s1 s2 _ HN.out hz ((Rd.alloc (Rd.alloc hr (Nat.le_refl _) _) (by simp) _).top) h1 h2).mono ?_; rintro e w1 ⟨rfl, hb⟩; go_wp2; go_ret2; rw [hfin.out]; exact ⟨rfl, (bel2 _ _ _).trans (hb.mono (by simp; omega))⟩)
            | exact absurd (And.intro (by assumption) (by assumption)) HNE.out
        · have hfin := Lib.hid (fits_no (l := l) he h0 h57 h77)
          have HNE := Lib.hid he
          have b0 : (k2 == 0) = false := by simpa using h0
          have h0' := Lib.hid h0
          clear he
          by_cases h5 : k1 = 5
          · subst h5
            have b7 : (k2 == 7) = false := by simpa using fun e => h57 ⟨rfl, e⟩
            have b7' : ¬ k2 = 7 := fun e => h57 ⟨rfl, e⟩
            clear h57 h77
            go_enter Tryd.func17, Tryd.ntmps17
            go_wp2
            all_goals first
              | (go_ret2; exact uPost_of hfin.out (bel2 _ _ _))
              | exact absurd (And.intro (by assumption) (And.intro (by assumption) (by assumption))) HNE.out
          · by_cases h7 : k1 = 7
            · subst h7
              have b7 : (k2 == 7) = false := by simpa using fun e => h77 ⟨rfl, e⟩
              have b7' : ¬ k2 = 7 := fun e => h77 ⟨rfl, e⟩
              clear h57 h77
              go_enter Tryd.func17, Tryd.ntmps17
              go_wp2
              all_goals first
                | (go_ret2; exact uPost_of hfin.out (bel2 _ _ _))
                | exact absurd (And.intro (by assumption) (And.intro (by assumption) (by assumption))) HNE.out
            · clear h57 h77
              go_enter Tryd.func17, Tryd.ntmps17
              go_wp2
              all_goals first
                | (go_ret2; exact uPost_of hfin.out (bel2 _ _ _))
                | exact absurd (And.intro (by assumption) (And.intro (by assumption) (by assumption))) HNE.out
end Go.Proofs.YthblilhdjabhnaaDoor
