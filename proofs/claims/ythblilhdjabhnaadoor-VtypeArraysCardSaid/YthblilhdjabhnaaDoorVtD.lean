/- Contract: samovarref17.Under. -/
import Derived.Test.YthblilhdjabhnaaDoorVtC
namespace Go.Proofs.YthblilhdjabhnaaDoor
open Go.RowKit

theorem ba_ne2 {s t : ByteArray} (h : ¬ s.data.toList = t.data.toList) : (s.toList == t.toList) = false ∧ ¬ s = t := ⟨by rw [Lib.toList_data, Lib.toList_data]; simpa using h, fun e => h (by rw [e])⟩
theorem pos_of {s : ByteArray} (h : ¬ s.data.toList = []) : 0 < s.size := by
  rcases Nat.eq_zero_or_pos s.size with h0 | h0
  · exact absurd (List.eq_nil_of_length_eq_zero (show s.data.toList.length = 0 from h0)) h
  · exact h0
theorem size_mk (l : List UInt8) : (⟨l.toArray⟩ : ByteArray).size = l.length := by rw [← size_len]
theorem chain_none {known : List Hdr} {y x : List UInt8} {n : Nat} (h : findN known x = none) : chain known y (n + 1) x = (false, x) := by unfold chain; rw [findN_none h]
theorem chain_hit {known : List Hdr} {y x : List UInt8} {n k : Nat} {a : Hdr} (h : findN known x = some k) (ha : known[k]? = some a) (h1 : a.2.1 = y) : chain known y (n + 1) x = (true, []) := by
  unfold chain; rw [(findN_lt h).2, ha]; simp only; rw [if_pos h1]
theorem chain_end {known : List Hdr} {y x : List UInt8} {n k : Nat} {a : Hdr} (h : findN known x = some k) (ha : known[k]? = some a) (h1 : ¬ a.2.1 = y) (h2 : a.2.1 = []) : chain known y (n + 1) x = (false, []) := by
  unfold chain; rw [(findN_lt h).2, ha]; simp only; rw [if_neg h1, if_pos h2]
theorem chain_on {known : List Hdr} {y x : List UInt8} {n k : Nat} {a : Hdr} (h : findN known x = some k) (ha : known[k]? = some a) (h1 : ¬ a.2.1 = y) (h2 : ¬ a.2.1 = []) : chain known y (n + 1) x = chain known y n a.2.1 := by
  conv => lhs; unfold chain
  rw [(findN_lt h).2, ha]; simp only; rw [if_neg h1, if_neg h2]
theorem classU_none {known : List Hdr} {y x : List UInt8} (h : findN known y = none) : classU known x y = (false, y) := by unfold classU; rw [findN_none h]
theorem classU_iface {known : List Hdr} {y x : List UInt8} {k : Nat} {a : Hdr} (h : findN known y = some k) (ha : known[k]? = some a) (h1 : ifaceB a.2.2.1 = true) : classU known x y = (true, []) := by
  unfold classU; rw [(findN_lt h).2, ha]; simp only; rw [if_pos h1]
theorem classU_cls {known : List Hdr} {y x : List UInt8} {k : Nat} {a : Hdr} (h : findN known y = some k) (ha : known[k]? = some a) (h1 : ifaceB a.2.2.1 = false) : classU known x y = chain known y known.length x := by
  unfold classU; rw [(findN_lt h).2, ha]; simp only; rw [if_neg (by rw [h1]; decide)]

set_option maxRecDepth 100000 in
set_option maxHeartbeats 4000000 in
theorem refUnder_any (A : Option Addr) (n c : Nat) (l : List Hdr) (F T : ByteArray) (w : World) (hn : l.length = n) (hz : n ≤ 1000000) (hr : RH w w.heap.size A l) (hF : F.size ≤ 140737488355328) (hT : T.size ≤ 140737488355328) :
    Calls Tryd.prog 14 #[.slice A n c, .string F, .string T] w (UPost (underV l F.data.toList T.data.toList) w) := by
  have HN := Lib.hid hn
  clear hn
  obtain ⟨R, hR⟩ : ∃ R, underV l F.data.toList T.data.toList = R := ⟨_, rfl⟩
  rw [hR]
  have HR := Lib.hid hR
  clear hR
  go_enter Tryd.func14, Tryd.ntmps14
  go_wp2
  go_loop [1, 2] (fun a b => ∃ f t : ByteArray, a = .string f ∧ b = .string t ∧ f.size ≤ 140737488355328 ∧ t.size ≤ 140737488355328 ∧ Hid (R = underV l f.data.toList t.data.toList)) (fun a _ => match a with | .string f => f.size | _ => 0)
  case atStart => exact ⟨F, T, rfl, rfl, hF, hT, Lib.hid HR.out.symm⟩
  case round =>
    obtain ⟨f, t, rfl, rfl, hf, ht, hgo⟩ := hrel
    by_cases hft : f.data.toList = t.data.toList
    · obtain rfl : f = t := ba_eq hft
      have hfin := Lib.hid (hgo.out.trans (underV_true (.inl rfl)))
      clear hft
      go_wp2
      go_ret2
      exact uPost_of hfin.out (Below.refl _ _)
    · by_cases hob : t.data.toList = objL
      · have hfin := Lib.hid (hgo.out.trans (underV_true (.inr hob)))
        obtain ⟨g1, g2⟩ := ba_ne2 hft
        have g3 : (t.toList == [106, 97, 118, 97, 47, 108, 97, 110, 103, 47, 79, 98, 106, 101, 99, 116]) = true := tl_eq hob
        clear hft hob
        go_wp2
        go_ret2
        exact uPost_of hfin.out (Below.refl _ _)
      · obtain ⟨g1, g2⟩ := ba_ne2 hft
        have g3 : (t.toList == [106, 97, 118, 97, 47, 108, 97, 110, 103, 47, 79, 98, 106, 101, 99, 116]) = false := tl_ne hob
        have hno := Lib.hid (show ¬ (f.data.toList = t.data.toList ∨ t.data.toList = objL) from fun h => h.elim hft hob)
        clear hft hob
        by_cases hf0 : f.data.toList = []
        · have hfin := Lib.hid (hgo.out.trans (underV_empty hno.out (.inl hf0)))
          have g4 := tl_none hf0
          clear hf0
          go_wp2
          go_ret2
          exact uPost_of hfin.out (Below.refl _ _)
        · by_cases ht0 : t.data.toList = []
          · have hfin := Lib.hid (hgo.out.trans (underV_empty hno.out (.inr ht0)))
            have g4 := tl_some hf0
            have g5 := tl_none ht0
            clear ht0 hf0
            go_wp2
            go_ret2
            exact uPost_of hfin.out (Below.refl _ _)
          · have g4 := tl_some hf0
            have g5 := tl_some ht0
            have hno2 := Lib.hid (show ¬ (f.data.toList = [] ∨ t.data.toList = []) from fun h => h.elim hf0 ht0)
            have hfp := pos_of hf0
            have htp := pos_of ht0
            have hf0' := Lib.hid hf0
            have ht0' := Lib.hid ht0
            clear hf0 ht0
            cases hat : isArr t.data.toList
            · have HAT := Lib.hid hat
              clear hat
              cases haf : isArr f.data.toList
              · have HAF := Lib.hid haf
                have hcls := Lib.hid (hgo.out.trans (underV_cls hno.out hno2.out haf HAT.out))
                clear haf
                go_wp2_with (go_at_call 15; refine (array_any _ _).mono ?_; rintro e w' ⟨rfl, rfl⟩; first | rw [HAT.out] | rw [HAF.out])
                refine (find_any A n c l t _ HN.out hz hr).mono ?_
                rintro e w' ⟨rfl, rfl⟩
                cases hfi : findN l t.data.toList with
                | none =>
                  have hfin := Lib.hid (hcls.out.trans (classU_none hfi))
                  rw [show findI l t.data.toList = -1 by unfold findI; rw [hfi]]
                  clear hfi
                  go_wp2
                  go_ret2
                  exact uPost_of hfin.out (Below.refl _ _)
                | some k =>
                  rw [show findI l t.data.toList = (k : Int) by unfold findI; rw [hfi]]
                  have hkl : k < n := by rw [← HN.out]; exact (findN_lt hfi).1
                  obtain ⟨ad, x, rfl, hl, hx, hc0, hc1, hc2, hc3⟩ := hr.at_ (k := k) (by rw [HN.out]; exact hkl)
                  have HFI := Lib.hid hfi
                  clear hfi hc0 hc1 hc3
                  cases hif : ifaceB x.2.2.1
                  · have hcl2 := Lib.hid (hcls.out.trans (classU_cls HFI.out hx.out hif))
                    have g6 : (bits BinOp.and IntKind.i64 x.2.2.1 512 != 0) = false := hif
                    clear hif
                    have hk0 : (0 : Int) ≤ (k : Int) := by omega
                    have hk1 : (k : Int) < (n : Int) := by omega
                    go_wp2
                    clear hc2 g6
                    go_loop [1, 13] (fun a i => ∃ (f : ByteArray) (i' : Nat), a = .string f ∧ i = .int .i64 (i' : Int) ∧ i' ≤ n ∧ Hid (R = chain l t.data.toList (n - i') f.data.toList)) (fun _ i => n - (intOf i).toNat)
                    case atStart => exact ⟨f, 0, rfl, rfl, by omega, Lib.hid (by rw [hcl2.out, HN.out]; rfl)⟩
                    case round =>
                      obtain ⟨f, i, rfl, rfl, hi, hgo2⟩ := hrel
                      by_cases hi0 : i < n
                      · obtain ⟨q, hq⟩ : ∃ q, n - i = q + 1 := ⟨n - i - 1, by omega⟩
                        have HQ := Lib.hid hq
                        have hstep := Lib.hid (show R = chain l t.data.toList (q + 1) f.data.toList by rw [hgo2.out, hq])
                        have hq2 : q + 1 + i ≤ n ∧ n ≤ q + 1 + i := by omega
                        clear hq
                        go_wp2_with fail
                        refine (find_any _ n c l f _ HN.out hz hr).mono ?_
                        rintro e w' ⟨rfl, rfl⟩
                        cases hfj : findN l f.data.toList with
                        | none =>
                          have hfin := Lib.hid (hstep.out.trans (chain_none hfj))
                          rw [show findI l f.data.toList = -1 by unfold findI; rw [hfj]]
                          clear hfj
                          go_wp2
                          go_ret2
                          exact uPost_of hfin.out (Below.refl _ _)
                        | some j =>
                          rw [show findI l f.data.toList = (j : Int) by unfold findI; rw [hfj]]
                          have hjl : j < n := by rw [← HN.out]; exact (findN_lt hfj).1
                          obtain ⟨ad2, y, hA2, hl2, hy, hd0, hd1, hd2, hd3⟩ := hr.at_ (k := j) (by rw [HN.out]; exact hjl)
                          injection hA2 with hA2
                          subst hA2
                          have HFJ := Lib.hid hfj
                          obtain ⟨f2, hf2⟩ : ∃ f2 : ByteArray, (⟨y.2.1.toArray⟩ : ByteArray) = f2 := ⟨_, rfl⟩
                          rw [hf2] at hd1
                          have hfd := Lib.hid (show f2.data.toList = y.2.1 by rw [← hf2])
                          have hj0 : (0 : Int) ≤ (j : Int) := by omega
                          have hj1 : (j : Int) < (n : Int) := by omega
                          clear hfj hd0 hd2 hd3 hf2
                          by_cases he1 : f2.data.toList = t.data.toList
                          · have hfin := Lib.hid (hstep.out.trans (chain_hit HFJ.out hy.out (by rw [← hfd.out]; exact he1)))
                            obtain rfl : f2 = t := ba_eq he1
                            clear he1
                            go_wp2
                            go_ret2
                            exact uPost_of hfin.out (Below.refl _ _)
                          · by_cases he2 : f2.data.toList = []
                            · have hfin := Lib.hid (hstep.out.trans (chain_end HFJ.out hy.out (by rw [← hfd.out]; exact he1) (by rw [← hfd.out]; exact he2)))
                              obtain ⟨k1, k2⟩ := ba_ne2 he1
                              have k3 := tl_none he2
                              clear he1 he2
                              go_wp2
                              go_ret2
                              exact uPost_of hfin.out (Below.refl _ _)
                            · have hnx := Lib.hid (hstep.out.trans (chain_on HFJ.out hy.out (by rw [← hfd.out]; exact he1) (by rw [← hfd.out]; exact he2)))
                              obtain ⟨k1, k2⟩ := ba_ne2 he1
                              have k3 := tl_some he2
                              clear he1 he2
                              go_wp2
                              go_round
                              case rel => exact ⟨f2, i + 1, rfl, by go_num, by omega, Lib.hid (by rw [hnx.out, hfd.out, show n - (i + 1) = q by omega])⟩
                              case measure => simp [intOf]; omega
                      · obtain rfl : i = n := by omega
                        have hfin := Lib.hid (hgo2.out.trans (show chain l t.data.toList (i - i) f.data.toList = (false, []) by rw [Nat.sub_self]; rfl))
                        go_wp2
                        go_ret2
                        exact uPost_of hfin.out (Below.refl _ _)
                  · have hfin := Lib.hid (hcls.out.trans (classU_iface HFI.out hx.out hif))
                    have g6 : (bits BinOp.and IntKind.i64 x.2.2.1 512 != 0) = true := hif
                    clear hif
                    have hk0 : (0 : Int) ≤ (k : Int) := by omega
                    have hk1 : (k : Int) < (n : Int) := by omega
                    go_wp2
                    go_ret2
                    exact uPost_of hfin.out (Below.refl _ _)
              · have HAF := Lib.hid haf
                have hfin := Lib.hid (hgo.out.trans (underV_mixed hno.out hno2.out (by rw [HAT.out]; simp) (.inl haf)))
                clear haf
                go_wp2_with (go_at_call 15; refine (array_any _ _).mono ?_; rintro e w' ⟨rfl, rfl⟩; first | rw [HAT.out] | rw [HAF.out])
                go_ret2
                exact uPost_of hfin.out (Below.refl _ _)
            · have HAT := Lib.hid hat
              clear hat
              cases haf : isArr f.data.toList
              · have HAF := Lib.hid haf
                have hfin := Lib.hid (hgo.out.trans (underV_mixed hno.out hno2.out (by rw [haf]; simp) (.inr HAT.out)))
                clear haf
                go_wp2_with (go_at_call 15; refine (array_any _ _).mono ?_; rintro e w' ⟨rfl, rfl⟩; first | rw [HAT.out] | rw [HAF.out])
                go_ret2
                exact uPost_of hfin.out (Below.refl _ _)
              · have HAF := Lib.hid haf
                clear haf
                have HE1 := Lib.hid (fun w => refElement_any f w hfp hf)
                have HE2 := Lib.hid (fun w => refElement_any t w htp ht)
                cases hea : elem f.data.toList with
                | none =>
                  have hfin := Lib.hid (hgo.out.trans (underV_num hno.out hno2.out HAF.out HAT.out (.inl hea)))
                  have HEA := Lib.hid hea
                  clear hea
                  go_wp2_with (go_at_call 15; refine (array_any _ _).mono ?_; rintro e w' ⟨rfl, rfl⟩; first | rw [HAT.out] | rw [HAF.out])
                  refine (HE1.out _).mono ?_
                  rintro e w' ⟨_, h2, rfl⟩
                  obtain ⟨q, rfl⟩ := h2 HEA.out
                  clear h2
                  go_wp2_with fail
                  cases heb : elem t.data.toList with
                  | none =>
                    have HEB := Lib.hid heb
                    clear heb
                    refine (HE2.out _).mono ?_
                    rintro e w' ⟨_, h2, rfl⟩
                    obtain ⟨q2, rfl⟩ := h2 HEB.out
                    clear h2
                    go_wp2
                    go_ret2
                    exact uPost_of hfin.out (Below.refl _ _)
                  | some b =>
                    have HEB := Lib.hid heb
                    clear heb
                    refine (HE2.out _).mono ?_
                    rintro e w' ⟨h2, _, rfl⟩
                    have h3 := h2 _ HEB.out
                    clear h2
                    subst h3
                    go_wp2
                    go_ret2
                    exact uPost_of hfin.out (Below.refl _ _)
                | some a =>
                  have HEA := Lib.hid hea
                  have hal := elem_lt hea hf0'.out
                  rw [size_len] at hal
                  clear hea
                  go_wp2_with (go_at_call 15; refine (array_any _ _).mono ?_; rintro e w' ⟨rfl, rfl⟩; first | rw [HAT.out] | rw [HAF.out])
                  refine (HE1.out _).mono ?_
                  rintro e w' ⟨h2, _, rfl⟩
                  have h3 := h2 _ HEA.out
                  clear h2
                  subst h3
                  go_wp2_with fail
                  cases heb : elem t.data.toList with
                  | none =>
                    have hfin := Lib.hid (hgo.out.trans (underV_num hno.out hno2.out HAF.out HAT.out (.inr heb)))
                    have HEB := Lib.hid heb
                    clear heb
                    refine (HE2.out _).mono ?_
                    rintro e w' ⟨_, h2, rfl⟩
                    obtain ⟨q2, rfl⟩ := h2 HEB.out
                    clear h2
                    go_wp2
                    go_ret2
                    exact uPost_of hfin.out (Below.refl _ _)
                  | some b =>
                    have HEB := Lib.hid heb
                    have hbl := elem_lt heb ht0'.out
                    rw [size_len] at hbl
                    clear heb
                    refine (HE2.out _).mono ?_
                    rintro e w' ⟨h2, _, rfl⟩
                    have h3 := h2 _ HEB.out
                    clear h2
                    subst h3
                    go_wp2
                    go_round
                    case rel => exact ⟨⟨a.toArray⟩, ⟨b.toArray⟩, rfl, rfl, by rw [size_mk]; omega, by rw [size_mk]; omega, Lib.hid (hgo.out.trans (underV_arr hno.out hno2.out HAF.out HAT.out HEA.out HEB.out))⟩
                    case measure =>
                      show (⟨a.toArray⟩ : ByteArray).size < f.size
                      rw [size_mk]; exact hal
end Go.Proofs.YthblilhdjabhnaaDoor
