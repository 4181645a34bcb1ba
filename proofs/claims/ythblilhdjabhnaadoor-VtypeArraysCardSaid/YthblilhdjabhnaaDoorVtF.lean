/- Contract: vtype.Under, whole. -/
import Derived.Test.YthblilhdjabhnaaDoorVtE
namespace Go.Proofs.YthblilhdjabhnaaDoor
open Go.RowKit

set_option maxRecDepth 100000 in
set_option maxHeartbeats 4000000 in
theorem under_any (A : Option Addr) (n c : Nat) (l : List Hdr) (hn : l.length = n) (hz : n ≤ 1000000) (hk : ∀ h ∈ l, h.1.length ≤ maxLen ∧ h.2.1.length ≤ maxLen) :
    ∀ (q : Nat) (f t : ByteArray) (w : World), f.size < q → RH w w.heap.size A l → f.size ≤ 140737488355328 → t.size ≤ 140737488355328 →
    Calls Tryd.prog 13 #[.slice A n c, .string f, .string t] w (UPost (underV l f.data.toList t.data.toList) w) := by
  intro q
  induction q with
  | zero => intro f t w h; omega
  | succ q ih =>
    intro f t w hq hr hf ht
    have IH := Lib.hid ih
    clear ih
    by_cases hft : f.data.toList = t.data.toList
    · obtain rfl : f = t := ba_eq hft
      have hfin := Lib.hid (underV_true (known := l) (x := f.data.toList) (y := f.data.toList) (.inl rfl))
      clear hft
      go_enter Tryd.func13, Tryd.ntmps13
      go_wp2
      go_ret2
      exact uPost_of hfin.out (Below.refl _ _)
    · obtain ⟨g1, g2⟩ := ba_ne2 hft
      by_cases hob : t.data.toList = objL
      · have hfin := Lib.hid (underV_true (known := l) (x := f.data.toList) (y := t.data.toList) (.inr hob))
        have g3 : (t.toList == [106, 97, 118, 97, 47, 108, 97, 110, 103, 47, 79, 98, 106, 101, 99, 116]) = true := tl_eq hob
        clear hft hob
        go_enter Tryd.func13, Tryd.ntmps13
        go_wp2
        go_ret2
        exact uPost_of hfin.out (Below.refl _ _)
      · have g3 : (t.toList == [106, 97, 118, 97, 47, 108, 97, 110, 103, 47, 79, 98, 106, 101, 99, 116]) = false := tl_ne hob
        have hno := Lib.hid (show ¬ (f.data.toList = t.data.toList ∨ t.data.toList = objL) from fun h => h.elim hft hob)
        clear hft hob
        by_cases hf0 : f.data.toList = []
        · have hfin := Lib.hid (underV_empty (known := l) hno.out (.inl hf0))
          have g4 := tl_none hf0
          clear hf0
          go_enter Tryd.func13, Tryd.ntmps13
          go_wp2
          go_ret2
          exact uPost_of hfin.out (Below.refl _ _)
        · have g4 := tl_some hf0
          by_cases ht0 : t.data.toList = []
          · have hfin := Lib.hid (underV_empty (known := l) hno.out (.inr ht0))
            have g5 := tl_none ht0
            clear ht0 hf0
            go_enter Tryd.func13, Tryd.ntmps13
            go_wp2
            go_ret2
            exact uPost_of hfin.out (Below.refl _ _)
          · have g5 := tl_some ht0
            have hno2 := Lib.hid (show ¬ (f.data.toList = [] ∨ t.data.toList = []) from fun h => h.elim hf0 ht0)
            have hfp := pos_of hf0
            have htp := pos_of ht0
            cases haf : isArr f.data.toList
            · cases hat : isArr t.data.toList
              · exact under_cls A n c l f t w hn hz hr hk hf ht hno.out hf0 ht0 haf hat
              · have hfin := Lib.hid (underV_mixed (known := l) hno.out hno2.out (by rw [haf]; simp) (.inr hat))
                have HPF := Lib.hid ((hasPrefix_arr f.data.toList).trans haf)
                have HPT := Lib.hid ((hasPrefix_arr t.data.toList).trans hat)
                clear haf hat hf0 ht0
                go_enter Tryd.func13, Tryd.ntmps13
                go_wp2_with fail
                refine (Tryd.strings_HasPrefix _ _ _).mono ?_
                rintro e w' ⟨rfl, rfl⟩
                rw [show Lib.hasPrefix f.data.toList (⟨#[91]⟩ : ByteArray).data.toList = false from HPF.out]
                go_wp2_with fail
                refine (Tryd.strings_HasPrefix _ _ _).mono ?_
                rintro e w' ⟨rfl, rfl⟩
                rw [show Lib.hasPrefix t.data.toList (⟨#[91]⟩ : ByteArray).data.toList = true from HPT.out]
                go_wp2
                go_ret2
                exact uPost_of hfin.out (Below.refl _ _)
            · cases hat : isArr t.data.toList
              · have hfin := Lib.hid (underV_mixed (known := l) hno.out hno2.out (by rw [hat]; simp) (.inl haf))
                have HPF := Lib.hid ((hasPrefix_arr f.data.toList).trans haf)
                have HPT := Lib.hid ((hasPrefix_arr t.data.toList).trans hat)
                clear haf hat hf0 ht0
                go_enter Tryd.func13, Tryd.ntmps13
                go_wp2_with fail
                refine (Tryd.strings_HasPrefix _ _ _).mono ?_
                rintro e w' ⟨rfl, rfl⟩
                rw [show Lib.hasPrefix f.data.toList (⟨#[91]⟩ : ByteArray).data.toList = true from HPF.out]
                go_wp2_with fail
                refine (Tryd.strings_HasPrefix _ _ _).mono ?_
                rintro e w' ⟨rfl, rfl⟩
                rw [show Lib.hasPrefix t.data.toList (⟨#[91]⟩ : ByteArray).data.toList = false from HPT.out]
                go_wp2
                go_ret2
                exact uPost_of hfin.out (Below.refl _ _)
              · have HPF := Lib.hid ((hasPrefix_arr f.data.toList).trans haf)
                have HPT := Lib.hid ((hasPrefix_arr t.data.toList).trans hat)
                have HAF := Lib.hid haf
                have HAT := Lib.hid hat
                have hf0' := Lib.hid hf0
                have ht0' := Lib.hid ht0
                have HE1 := Lib.hid (fun w => element_any f w hfp hf)
                have HE2 := Lib.hid (fun w => element_any t w htp ht)
                clear haf hat hf0 ht0
                cases hea : elem f.data.toList with
                | none =>
                  have hfin := Lib.hid (underV_num (known := l) hno.out hno2.out HAF.out HAT.out (.inl hea))
                  have HEA := Lib.hid hea
                  clear hea
                  go_enter Tryd.func13, Tryd.ntmps13
                  go_wp2_with fail
                  refine (Tryd.strings_HasPrefix _ _ _).mono ?_
                  rintro e w' ⟨rfl, rfl⟩
                  rw [show Lib.hasPrefix f.data.toList (⟨#[91]⟩ : ByteArray).data.toList = true from HPF.out]
                  go_wp2_with fail
                  refine (Tryd.strings_HasPrefix _ _ _).mono ?_
                  rintro e w' ⟨rfl, rfl⟩
                  rw [show Lib.hasPrefix t.data.toList (⟨#[91]⟩ : ByteArray).data.toList = true from HPT.out]
                  go_wp2_with fail
                  refine (HE1.out _).mono ?_
                  rintro e w' ⟨_, h2, rfl⟩
                  have h3 := h2 HEA.out
                  clear h2
                  subst h3
                  go_wp2_with fail
                  cases heb : elem t.data.toList with
                  | none =>
                    have HEB := Lib.hid heb
                    clear heb
                    refine (HE2.out _).mono ?_
                    rintro e w' ⟨_, h2, rfl⟩
                    have h3 := h2 HEB.out
                    clear h2
                    subst h3
                    go_wp2
                    go_ret2
                    exact uPost_of hfin.out (Below.refl _ _)
                  | some b =>
                    have HEB := Lib.hid heb
                    clear heb
                    refine (HE2.out _).mono ?_
                    rintro e w' ⟨h2, _, rfl⟩
                    have h3 := h2 _ HEB.out
                    clear h2
                    subst h3
                    go_wp2
                    go_ret2
                    exact uPost_of hfin.out (Below.refl _ _)
                | some a =>
                  have HEA := Lib.hid hea
                  have hal := elem_lt hea hf0'.out
                  rw [size_len] at hal
                  clear hea
                  go_enter Tryd.func13, Tryd.ntmps13
                  go_wp2_with fail
                  refine (Tryd.strings_HasPrefix _ _ _).mono ?_
                  rintro e w' ⟨rfl, rfl⟩
                  rw [show Lib.hasPrefix f.data.toList (⟨#[91]⟩ : ByteArray).data.toList = true from HPF.out]
                  go_wp2_with fail
                  refine (Tryd.strings_HasPrefix _ _ _).mono ?_
                  rintro e w' ⟨rfl, rfl⟩
                  rw [show Lib.hasPrefix t.data.toList (⟨#[91]⟩ : ByteArray).data.toList = true from HPT.out]
                  go_wp2_with fail
                  refine (HE1.out _).mono ?_
                  rintro e w' ⟨h2, _, rfl⟩
                  have h3 := h2 _ HEA.out
                  clear h2
                  subst h3
                  go_wp2_with fail
                  cases heb : elem t.data.toList with
                  | none =>
                    have hfin := Lib.hid (underV_num (known := l) hno.out hno2.out HAF.out HAT.out (.inr heb))
                    have HEB := Lib.hid heb
                    clear heb
                    refine (HE2.out _).mono ?_
                    rintro e w' ⟨_, h2, rfl⟩
                    have h3 := h2 HEB.out
                    clear h2
                    subst h3
                    go_wp2
                    go_ret2
                    exact uPost_of hfin.out (Below.refl _ _)
                  | some b =>
                    have hfin := Lib.hid (underV_arr (known := l) hno.out hno2.out HAF.out HAT.out HEA.out heb)
                    have HEB := Lib.hid heb
                    have hbl := elem_lt heb ht0'.out
                    rw [size_len] at hbl
                    clear heb
                    refine (HE2.out _).mono ?_
                    rintro e w' ⟨h2, _, rfl⟩
                    have h3 := h2 _ HEB.out
                    clear h2
                    subst h3
                    go_wp2_with fail
                    refine (IH.out ⟨a.toArray⟩ ⟨b.toArray⟩ _ (by rw [size_mk]; omega) hr (by rw [size_mk]; omega) (by rw [size_mk]; omega)).mono ?_
                    rintro e w1 ⟨rfl, hb⟩
                    go_wp2
                    go_ret2
                    rw [hfin.out]
                    exact ⟨rfl, hb⟩
end Go.Proofs.YthblilhdjabhnaaDoor
