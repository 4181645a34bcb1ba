/- Contract: samovarref12.Read. -/
import Derived.Test.YthkgnidafdiolaaDoorManI
import Derived.Test.YthkgnidafdiolaaDoorManD
import Derived.Test.YthkgnidafdiolaaDoorManE
import Derived.Test.YthkgnidafdiolaaDoorManF
import Derived.Deep.RegionHeld3
import Derived.Lib.IndexBytes
namespace Go.Proofs.YthkgnidafdiolaaDoor
open Go.RowKit

theorem rpairTy : ETy Tryd.prog 28 37 (.agg #[.string .empty, .string .empty]) 2 32 := ⟨Tryd.underlying28, info_parts (by kernel_rfl), rfl, by decide⟩
theorem rcat_tail (s b : ByteArray) : s ++ b.extract 1 b.size = ⟨(s.data.toList ++ b.data.toList.drop 1).toArray⟩ := ba_eq (by
  rw [ByteArray.data_append, Array.toList_append, Lib.extract_to_end])
theorem rdec_long {l : List UInt8} (h : ∀ (j : Nat) (x : UInt8), j < l.length → l[j]? = some x → ¬ x = 0) (h2 : l.length ≤ 72) : longL l = false := by
  unfold longL
  rw [decide_eq_false (by omega : ¬ 72 < l.length), Bool.false_or]
  rw [List.contains_eq_mem]
  refine decide_eq_false fun hm => ?_
  obtain ⟨i, hi⟩ := List.getElem?_of_mem hm
  exact h i 0 (List.getElem?_eq_some_iff.1 hi).1 hi rfl
theorem rkey_at {l : List UInt8} {k : Nat} (h : ∀ (j : Nat) (x : UInt8), j < k → l[j]? = some x → ¬ x = 58) (hk : k ≤ l.length) (he : k = l.length ∨ l[k]? = some 58) : (keyP l).length = k := by
  unfold keyP
  induction l generalizing k with
  | nil => simp at hk; simp [hk]
  | cons c r ih =>
    cases k with
    | zero =>
      rcases he with he | he
      · simp at he
      · simp at he; subst he; simp
    | succ k =>
      have hc : ¬ c = 58 := h 0 c (by omega) rfl
      rw [List.takeWhile_cons, if_pos (by simpa using hc), List.length_cons, ih (k := k) (fun j x hj hx => h (j + 1) x (by omega) (by simpa using hx)) (by simpa using hk) (by
        rcases he with he | he
        · left; simpa using he
        · right; simpa using he)]
theorem rfine {l : List UInt8} {k : Nat} (h : (keyP l).length = k) : fineL l = (nameB (keyP l) && decide (l[k + 1]? = some 32)) := by
  unfold fineL restP
  rw [h, List.head?_drop]
  by_cases hk : k < l.length
  · rw [decide_eq_true hk, Bool.true_and]
  · rw [decide_eq_false hk, List.getElem?_eq_none (by omega)]; simp
set_option maxRecDepth 100000 in
set_option maxHeartbeats 8000000 in
theorem refRead_any (A : Option Addr) (n c : Nat) (l : List UInt8) (w : World) (hn : l.length = n) (hz : n ≤ 140737488355328) (hcap : n ≤ c) (hr : RB w w.heap.size A l) :
    Calls Tryd.prog 9 #[.slice A n c] w (ReadPost (readM l) w) := by
  have HL := Lib.hid hn
  obtain ⟨R, hR⟩ : ∃ R, readM l = R := ⟨_, rfl⟩
  rw [hR]
  by_cases h9 : 32768 < n
  · have HR : Hid (R = (8, [])) := Lib.hid (by rw [← hR]; unfold readM; rw [if_pos (by omega)])
    clear hn hR
    go_enter Tryd.func9, Tryd.ntmps9
    go_wp2
    go_ret2
    exact readPost_err HR.out (Below.refl _ _)
  · have HR : Hid (R = readL (linesM l) []) := Lib.hid (by rw [← hR]; unfold readM; rw [if_neg (by omega)])
    clear hn hR
    go_enter Tryd.func9, Tryd.ntmps9
    go_wp2_with fail
    refine (lines_any A n c l w HL.out (by omega) hcap hr).mono ?_
    rintro e w2 ⟨A2, c2, rfl, hrow, hb2, _⟩
    obtain ⟨p, hp⟩ : ∃ p, linesM l = p := ⟨_, rfl⟩
    rw [hp] at hrow HR ⊢
    have hpl : p.length ≤ 32769 := by have := linesM_len l; rw [hp, HL.out] at this; omega
    have hpne : Hid (∀ x ∈ p, x ≠ [] ∧ x.length ≤ 32768) := Lib.hid (fun x hx => by rw [← hp] at hx; exact ⟨linesM_ne hx, by have := linesM_sz hx; rw [HL.out] at this; omega⟩)
    clear hp
    obtain ⟨B2, hB2⟩ : ∃ B2, w2.heap.size = B2 := ⟨_, rfl⟩
    have hs2 : w.heap.size ≤ B2 := by have := hb2.size; omega
    rw [hB2] at hrow
    have HB2 := Lib.hid hB2
    have hz2 : B2 ≤ w2.heap.size := by omega
    clear hB2
    go_wp2_with fail
    go_loopw [4, 6, 7, 8, 9, 10] (fun v i _ _ _ _ wr => ∃ (k : Nat) (out : List Attr), k ≤ p.length ∧ i = .int .i64 (k : Int) ∧ OwS pairC 2 wr B2 37 v out ∧
      Below B2 w2 wr ∧ Hid (AttrsOk out k) ∧ Hid (R = readL (p.drop k) out)) (fun _ i _ _ _ _ _ => p.length - (intOf i).toNat)
    case atStart => exact ⟨0, [], by omega, rfl, OwS.nil, Below.refl _ _, Lib.hid attrsOk_nil, Lib.hid HR.out⟩
    case round =>
      obtain ⟨k, out, hk, rfl, hown, hbel, hok, hgo⟩ := hrel
      have hfb : Below w.heap.size w wr := hb2.trans (hbel.mono hs2)
      by_cases hk0 : k < p.length
      · obtain ⟨ad, x, had, hlt, hx, hc⟩ := (RL.below hrow hbel (Nat.le_refl _)).atl hk0
        subst had
        have hxne := hpne.out x (List.mem_of_getElem? hx.out)
        obtain ⟨b, hb⟩ : ∃ b : ByteArray, (⟨x.toArray⟩ : ByteArray) = b := ⟨_, rfl⟩
        have hbx : b.data.toList = x := by rw [← hb]
        have hc' : wr.cell? (ad.add k) = some (.string b) := by rw [← hb]; exact hc
        have hbs : b.size ≤ 32768 := by rw [← size_len, hbx]; exact hxne.2
        have hbp : 0 < b.size := size_pos (by rw [hbx]; exact hxne.1)
        have HS := Lib.hid hbx
        have hxb : x.length = b.size := by rw [← hbx]; exact size_len b
        have HXB := Lib.hid hxb
        clear hb hc hbx hxne hxb
        go_wp2
        go_loop [8] (fun i => ∃ j : Nat, j ≤ b.size ∧ i = .int .i64 (j : Int) ∧ Hid (∀ (q : Nat) (y : UInt8), q < j → x[q]? = some y → ¬ y = 0)) (fun i => b.size - (intOf i).toNat)
        case atStart => exact ⟨0, by omega, rfl, Lib.hid (fun q y h => by omega)⟩
        case round =>
          obtain ⟨j, hj, rfl, hno⟩ := hrel
          by_cases hj0 : j < b.size
          · have HX2 := Lib.hid (byte_at hj0)
            by_cases hz0 : b[j] = 0
            · have hz1 : (b[j].toNat : Int) = 0 := by rw [hz0]; rfl
              have HF := Lib.hid (hgo.out.trans (read_long hx.out (out := out) (by
                have : x.contains 0 = true := List.contains_iff_mem.2 (List.mem_of_getElem? (by rw [← HS.out, HX2.out, hz0]))
                unfold longL; rw [this]; simp)))
              clear hz0
              go_wp2
              go_ret2
              exact readPost_err HF.out hfb
            · have hz1 : ¬ (b[j].toNat : Int) = 0 := u8_ne (y := 0) hz0
              have hnx : Hid (∀ (q : Nat) (y : UInt8), q < j + 1 → x[q]? = some y → ¬ y = 0) := Lib.hid (fun q y hq hy => by
                rcases Nat.lt_or_ge q j with h | h
                · exact hno.out q y h hy
                · obtain rfl : q = j := by omega
                  rw [← HS.out, HX2.out] at hy; injection hy with hy; subst hy; exact hz0)
              clear hz0
              go_wp2
              go_round
              case rel => exact ⟨j + 1, by omega, by go_num, hnx⟩
              case measure => simp [intOf]; omega
          · obtain rfl : j = b.size := by omega
            by_cases h72 : 72 < b.size
            · have HF := Lib.hid (hgo.out.trans (read_long hx.out (out := out) (by unfold longL; rw [HXB.out, decide_eq_true h72]; rfl)))
              go_wp2
              go_ret2
              exact readPost_err HF.out hfb
            · have HLG : Hid (longL x = false) := Lib.hid (rdec_long (fun q y hq hy => hno.out q y (by rw [HXB.out] at hq; exact hq) hy) (by rw [HXB.out]; omega))
              have hxl : Hid (x.length ≤ 72) := Lib.hid (by rw [HXB.out]; omega)
              have HH := Lib.hid (head_at hbp)
              clear hno
              by_cases h32 : b[0] = 32
              · have h32' : (b[0].toNat : Int) = 32 := by rw [h32]; rfl
                have HX32 : Hid (x.head? = some 32) := Lib.hid (by rw [← HS.out, HH.out, h32])
                clear h32
                by_cases hk00 : k = 0
                · have HF := Lib.hid (hgo.out.trans (read_lead hx.out HLG.out HX32.out (hok.out.2.1.2 hk00)))
                  have hnk : ((k : Int) == 0) = true := by simpa using hk00
                  clear hk00
                  go_wp2
                  go_ret2
                  exact readPost_err HF.out hfb
                · have hne : ¬ out = [] := fun e => hk00 (hok.out.2.1.1 e)
                  have hnk : ((k : Int) == 0) = false := by simpa using hk00
                  have hq0 : 0 < out.length := List.length_pos_iff.2 hne
                  obtain ⟨g, cp, rfl, hg1, hg2⟩ := hown.form hq0
                  obtain ⟨q, hq⟩ : ∃ q, out.length = q := ⟨_, rfl⟩
                  rw [hq] at hown hq0 ⊢
                  obtain ⟨a, ha⟩ : ∃ a, out[q - 1]? = some a := ⟨_, List.getElem?_eq_getElem (by omega)⟩
                  obtain ⟨sv, hsv⟩ : ∃ sv : ByteArray, (⟨a.2.toArray⟩ : ByteArray) = sv := ⟨_, rfl⟩
                  have hcl : wr.cell? ⟨g, (q - 1) * 2 + 1, none⟩ = some (.string sv) := by rw [← hsv]; exact hown.cell pairK ha rfl
                  have hfz := hown.frz ((q - 1) * 2 + 1)
                  have hsvs : sv.size ≤ 72 * k := by
                    rw [← hsv]; exact (hok.out.2.2 a (List.mem_of_getElem? ha)).2
                  have hol : q ≤ k := by have := hok.out.1; omega
                  have HQ := Lib.hid hq
                  have HA := Lib.hid ha
                  have HSV := Lib.hid hsv
                  have HF := Lib.hid (hgo.out.trans (read_more hx.out HLG.out HX32.out hne))
                  have i1 : IntKind.i64.wrap ((q : Int) - 1) = (q : Int) - 1 := IntWalk.i64_in _ (by omega)
                  have i2 : 0 ≤ (q : Int) - 1 := by omega
                  have i3 : (q : Int) - 1 < (q : Int) := by omega
                  have i4 : ((q : Int) - 1).toNat = q - 1 := by omega
                  clear hne hq ha hsv hk00
                  go_wp2
                  go_region
                  have own2 : OwS pairC 2 _ B2 37 _ _ := hown.set pairK (k := q - 1) (j := 1) (x' := (a.1, a.2 ++ x.drop 1)) HA.out (by decide) (u := .string (sv ++ b.extract 1 b.size)) (by
                    rw [rcat_tail, HS.out, ← HSV.out]; rfl)
                  have HAL := Lib.hid (addLast_set (out := out) (v := x.drop 1) (by rw [HQ.out]; exact HA.out))
                  have hb2 := hbel.setCell (p := ⟨g, (q - 1) * 2 + 1, none⟩) hg1 (.string (sv ++ b.extract 1 b.size))
                  have hown2 := own2.drewN 1
                  rw [HQ.out] at HAL
                  clear hown own2 hbel
                  go_wp2
                  go_roundw
                  case rel => exact ⟨k + 1, addLast out (x.drop 1), by omega, by go_num, by rw [HAL.out]; exact hown2, hb2.drew, Lib.hid (attrsOk_add hok.out (by omega) hxl.out), HF⟩
                  case measure => simp [intOf]; omega
              · have h32' : ¬ (b[0].toNat : Int) = 32 := u8_ne (y := 32) h32
                have h32b : ((b[0].toNat : Int) == 32) = false := by simpa using h32'
                have HX32 : Hid (¬ x.head? = some 32) := Lib.hid (by rw [← HS.out, HH.out]; intro e; injection e with e; exact h32 e)
                clear h32
                go_wp2
                go_loop [9] (fun i => ∃ j : Nat, j ≤ b.size ∧ i = .int .i64 (j : Int) ∧ Hid (∀ (q : Nat) (y : UInt8), q < j → x[q]? = some y → ¬ y = 58)) (fun i => b.size - (intOf i).toNat)
                case atStart => exact ⟨0, by omega, rfl, Lib.hid (fun q y h => by omega)⟩
                case round =>
                  obtain ⟨j, hj, rfl, hno⟩ := hrel
                  by_cases hgo58 : ∃ h : j < b.size, ¬ b[j] = 58
                  · obtain ⟨hj0, h58⟩ := hgo58
                    have e1 : ¬ (b[j].toNat : Int) = 58 := u8_ne (y := 58) h58
                    have e2 : ((b[j].toNat : Int) != 58) = true := by simpa using e1
                    have HX2 := Lib.hid (byte_at hj0)
                    have hnx : Hid (∀ (q : Nat) (y : UInt8), q < j + 1 → x[q]? = some y → ¬ y = 58) := Lib.hid (fun q y hq hy => by
                      rcases Nat.lt_or_ge q j with h | h
                      · exact hno.out q y h hy
                      · obtain rfl : q = j := by omega
                        rw [← HS.out, HX2.out] at hy; injection hy with hy; subst hy; exact h58)
                    clear h58
                    go_wp2
                    go_round
                    case rel => exact ⟨j + 1, by omega, by go_num, hnx⟩
                    case measure => simp [intOf]; omega
                  · have HKL : Hid ((keyP x).length = j) := Lib.hid (rkey_at hno.out (by rw [HXB.out]; exact hj) (by
                      by_cases hj0 : j < b.size
                      · right
                        have := byte_at hj0
                        rw [HS.out] at this
                        rw [this]
                        congr 1
                        exact Classical.not_not.1 fun e => hgo58 ⟨hj0, e⟩
                      · left; rw [HXB.out]; omega))
                    obtain ⟨kb, hkb⟩ : ∃ kb : ByteArray, b.extract 0 j = kb := ⟨_, rfl⟩
                    have hkd : kb.data.toList = keyP x := by rw [← hkb, Lib.extract_data, HS.out, List.drop_zero, Nat.sub_zero, ← HKL.out, take_key]
                    have hks : kb.size ≤ b.size := by rw [← hkb, ByteArray.size_extract]; omega
                    have HKB := Lib.hid hkb
                    have HKD := Lib.hid hkd
                    have HFN := Lib.hid (rfine HKL.out)
                    have HJ : (∃ h : j < b.size, b[j] = 58) ∨ j = b.size := by
                      by_cases hj0 : j < b.size
                      · exact .inl ⟨hj0, Classical.not_not.1 fun e => hgo58 ⟨hj0, e⟩⟩
                      · exact .inr (by omega)
                    clear hno hgo58 hkb hkd
                    rcases HJ with ⟨hj0, h58⟩ | hje
                    · have e1 : (b[j].toNat : Int) = 58 := by rw [h58]; rfl
                      have e2 : ((b[j].toNat : Int) != 58) = false := by rw [e1]; rfl
                      clear h58
                      go_wp2_with fail
                      rw [HKB.out]
                      refine (refName_any kb _ (by omega)).mono ?_
                      rintro e w' ⟨rfl, rfl⟩
                      rw [HKD.out]
                      clear e1 e2
                      cases hnm : nameB (keyP x)
                      · have HF := Lib.hid (hgo.out.trans (read_bad hx.out HLG.out HX32.out (by rw [HFN.out, hnm]; rfl)))
                        go_wp2
                        go_ret2
                        exact readPost_err HF.out hfb
                      · by_cases hj1 : j + 1 < b.size
                        · have hj1' : (j : Int) + 1 < (b.size : Int) := by omega
                          have HX3 := Lib.hid (byte_at hj1)
                          by_cases h32c : b[j + 1] = 32
                          · have f1 : (b[j + 1].toNat : Int) = 32 := by rw [h32c]; rfl
                            have f2 : ((b[j + 1].toNat : Int) != 32) = false := by rw [f1]; rfl
                            have HFY : Hid (fineL x = true) := Lib.hid (by rw [HFN.out, hnm, ← HS.out, HX3.out, h32c]; rfl)
                            clear h32c
                            obtain ⟨Av, cv, rfl, hrs, _⟩ := hown.rd
                            have hol : out.length ≤ k := hok.out.1
                            go_wp2
                            obtain ⟨wo, rfl⟩ : ∃ wo : World, wo = wr := ⟨_, rfl⟩
                            go_loopw [10] (fun i wr => ∃ t : Nat, t ≤ out.length ∧ i = .int .i64 (t : Int) ∧ Below wo.heap.size wo wr ∧ Hid (∀ (q : Nat) (a : Attr), q < t → out[q]? = some a → ¬ smallL a.1 = smallL (keyP x))) (fun i _ => out.length - (intOf i).toNat)
                            case atStart => exact ⟨0, by omega, rfl, Below.refl _ _, Lib.hid (fun q a h => by omega)⟩
                            case round =>
                              obtain ⟨t, ht, rfl, hb3, hnone⟩ := hrel
                              by_cases ht0 : t < out.length
                              · obtain ⟨ad2, a, rfl, hl2, hax, hc0, _⟩ := (hrs.below hb3 (Nat.le_refl _)).at_ pairK ht0
                                have hc0' := hc0 _ rfl
                                have hab : a.1.length ≤ 70 := (nameB_all (hok.out.2.2 a (List.mem_of_getElem? hax.out)).1).2.1
                                obtain ⟨ab, hae⟩ : ∃ ab : ByteArray, (⟨a.1.toArray⟩ : ByteArray) = ab := ⟨_, rfl⟩
                                have hc2 : wr.cell? (ad2.add (t * 2)) = some (.string ab) := by rw [← hae]; exact hc0'
                                have habs : ab.size ≤ 70 := by rw [← size_len, ← hae]; exact hab
                                have habd : ab.data.toList = a.1 := by rw [← hae]
                                have HAB := Lib.hid habd
                                clear hc0 hc0' hae habd
                                have i1 : (0 : Int) ≤ (t : Int) := by omega
                                have i2 : (t : Int) < (out.length : Int) := by omega
                                have i3 : (t : Int).toNat = t := by omega
                                have i4 : (0 : Int) ≤ (j : Int) := by omega
                                have i5 : (j : Int) ≤ (b.size : Int) := by omega
                                have i6 : (j : Int).toNat = j := by omega
                                go_wp2
                                go_still_tail 8, (by kernel_rfl)
                                change wpList _ _ _ _ _ wr.drew
                                have hb4 := hb3.drew
                                have hc4 : wr.drew.cell? (ad2.add (t * 2)) = some (.string ab) := hc2
                                generalize wr.drew = w5 at hb4 hc4 ⊢
                                clear i1 i2 i3 i4 i5 i6
                                go_wp2_with fail
                                rw [HKB.out]
                                refine (one_any ab kb _ (by omega) (by omega)).mono ?_
                                rintro e w6 ⟨rfl, hb6⟩
                                rw [HAB.out, HKD.out]
                                have hb7 := hb4.trans (hb6.mono hb4.size)
                                by_cases hsm : smallL a.1 = smallL (keyP x)
                                · rw [decide_eq_true hsm]
                                  have HF := Lib.hid (hgo.out.trans (read_twice hx.out HLG.out HX32.out HFY.out (by rw [← hsm]; exact List.mem_map_of_mem (f := fun a : Attr => smallL a.1) (List.mem_of_getElem? hax.out))))
                                  clear hsm
                                  go_wp2
                                  go_ret2
                                  exact readPost_err HF.out (hfb.trans (hb7.mono hfb.size))
                                · rw [decide_eq_false hsm]
                                  have hnx : Hid (∀ (q : Nat) (a : Attr), q < t + 1 → out[q]? = some a → ¬ smallL a.1 = smallL (keyP x)) := Lib.hid (fun q a' hq hy => by
                                    rcases Nat.lt_or_ge q t with h | h
                                    · exact hnone.out q a' h hy
                                    · obtain rfl : q = t := by omega
                                      rw [hax.out] at hy; injection hy with hy; subst hy; exact hsm)
                                  clear hsm
                                  go_wp2
                                  go_roundw
                                  case rel => exact ⟨t + 1, by omega, by go_num, hb7, hnx⟩
                                  case measure => simp [intOf]; omega
                              · have HNO : Hid (¬ smallL (keyP x) ∈ out.map (fun a => smallL a.1)) := Lib.hid (fun hm => by
                                  obtain ⟨a, ha, he⟩ := List.mem_map.1 hm
                                  obtain ⟨q, hq⟩ := List.getElem?_of_mem ha
                                  exact hnone.out q a (by have := (List.getElem?_eq_some_iff.1 hq).1; omega) hq he)
                                have HF := Lib.hid (hgo.out.trans (read_new hx.out HLG.out HX32.out HFY.out HNO.out))
                                obtain ⟨rt, hrt⟩ : ∃ rt, (restP x).drop 1 = rt := ⟨_, rfl⟩
                                have HOKN : Hid (AttrsOk (out ++ [(keyP x, rt)]) (k + 1)) := Lib.hid (hrt ▸ attrsOk_new hok.out (fine_name HFY.out) hxl.out)
                                rw [hrt] at HF
                                have HSL : Hid ((sV (keyP x) = .string (b.extract 0 j)) ∧ sV rt = .string (b.extract (j + 2) b.size)) := Lib.hid ⟨by
                                  rw [HKB.out, ← HKD.out]; rfl, by
                                  rw [← hrt]; unfold sV restP; rw [List.drop_drop, HKL.out, ← HS.out]
                                  congr 1
                                  exact ba_eq (by rw [Lib.extract_to_end, show j + 1 + 1 = j + 2 from rfl])⟩
                                have HSL2 : Hid ((#[.string (b.extract 0 j), .string (b.extract (j + 2) b.size)] : Array Value).toList = pairC (keyP x, rt)) := Lib.hid (by simp only [pairC, HSL.out.1, HSL.out.2])
                                have hown2 := hown.step hb3
                                have hbel2 : Below B2 w2 wr := hbel.trans (hb3.mono (by have := hbel.size; omega))
                                have hsz2 : B2 ≤ wr.heap.size := by have := hbel2.size; omega
                                clear hrt hnone
                                have i0 : IntKind.i64.wrap ((j : Int) + 2) = (j : Int) + 2 := IntWalk.i64_in _ (by omega)
                                have i1 : (0 : Int) ≤ (j : Int) + 2 := by omega
                                have i2 : (j : Int) + 2 ≤ (b.size : Int) := by omega
                                have i3 : ((j : Int) + 2).toNat = j + 2 := by omega
                                have i4 : (0 : Int) ≤ (j : Int) := by omega
                                have i5 : (j : Int) ≤ (b.size : Int) := by omega
                                have i6 : (j : Int).toNat = j := by omega
                                have hpad : (out.length + [(keyP x, rt)].length) * 32 ≤ 140737488355328 := by simp; omega
                                have HPAD := Lib.hid hpad
                                clear hpad
                                go_wp2
                                go_region_held3 (fun _ => True) (go_keep) ((refine step_appS _ pairK rfl (.tmp 106) (.tmp 115) rfl rpairTy (by decide) B2 (.slice Av out.length cv) out rfl (OwS.drew (OwS.alloc hown2 _)) _ _ 1 1 [(keyP x, rt)] rfl rfl (RS.drew (RS.new _ _ _ HSL2.out _ _)) HPAD.out (le_alloc hsz2 _) ?_; intro v8 w8 own8 _ _ hb8))
                                have hbel8 := (bl_alloc hbel2 (show B2 ≤ w2.heap.size by omega) _).drew.trans hb8
                                clear i0 i1 i2 i3 i4 i5 i6 hb8
                                go_wp2
                                go_roundw
                                case rel => exact ⟨k + 1, out ++ [(keyP x, rt)], by omega, by go_num, own8, hbel8, HOKN, HF⟩
                                case measure => simp [intOf]; omega
                          · have f1 : ¬ (b[j + 1].toNat : Int) = 32 := u8_ne (y := 32) h32c
                            have f2 : ((b[j + 1].toNat : Int) != 32) = true := by simpa using f1
                            have HF := Lib.hid (hgo.out.trans (read_bad hx.out HLG.out HX32.out (by
                              rw [HFN.out, ← HS.out, HX3.out, decide_eq_false (fun e => h32c (by injection e)), Bool.and_false])))
                            clear h32c
                            go_wp2
                            go_ret2
                            exact readPost_err HF.out hfb
                        · have hj1' : (b.size : Int) ≤ (j : Int) + 1 := by omega
                          have HF := Lib.hid (hgo.out.trans (read_bad hx.out HLG.out HX32.out (by rw [HFN.out, List.getElem?_eq_none (by rw [HXB.out]; omega)]; simp)))
                          go_wp2
                          go_ret2
                          exact readPost_err HF.out hfb
                    · have HF := Lib.hid (hgo.out.trans (read_bad hx.out HLG.out HX32.out (by rw [HFN.out, List.getElem?_eq_none (by rw [HXB.out]; omega)]; simp)))
                      have hje2 : b.size ≤ j := by omega
                      clear hje
                      go_wp2_with fail
                      rw [HKB.out]
                      refine (refName_any kb _ (by omega)).mono ?_
                      rintro e w' ⟨rfl, rfl⟩
                      cases nameB kb.data.toList <;> go_wp2
                      all_goals
                        go_ret2
                        exact readPost_err HF.out hfb
      · obtain rfl : k = p.length := by omega
        have hend := Lib.hid (hgo.out.trans read_end)
        by_cases h0 : out = []
        · obtain ⟨Av, cv, rfl, _⟩ := hown.rd
          have HF : Hid (R = (22, [])) := Lib.hid (by rw [hend.out, h0]; rfl)
          subst h0
          go_wp2
          go_ret2
          exact readPost_err HF.out hfb
        · have hq0 : 0 < out.length := List.length_pos_iff.2 h0
          obtain ⟨g, cp, rfl, hg1, hg2⟩ := hown.form hq0
          obtain ⟨a, r, ha⟩ : ∃ a r, out = a :: r := by
            cases out with
            | nil => exact absurd rfl h0
            | cons a r => exact ⟨a, r, rfl⟩
          obtain ⟨sb, hsb⟩ : ∃ sb : ByteArray, (⟨a.1.toArray⟩ : ByteArray) = sb := ⟨_, rfl⟩
          have hcl : wr.cell? ⟨g, 0, none⟩ = some (.string sb) := by rw [← hsb]; exact hown.cell pairK (k := 0) (j := 0) (x := a) (by rw [ha]; rfl) rfl
          have hsbz : sb.size ≤ 70 := by
            rw [← hsb]; exact (nameB_all (hok.out.2.2 a (by rw [ha]; simp)).1).2.1
          obtain ⟨q, hq⟩ : ∃ q, out.length = q := ⟨_, rfl⟩
          rw [hq] at hq0 hown ⊢
          have hqe : ((q : Int) == 0) = false := by simp; omega
          have hsd : sb.data.toList = a.1 := by rw [← hsb]
          have HEND : Hid (R = if smallL a.1 = mvL then (0, out) else (22, [])) := Lib.hid (by rw [hend.out, ha]; rfl)
          have HQ := Lib.hid hq
          have HSD := Lib.hid hsd
          clear hsb ha hq hsd h0
          go_wp2_with fail
          refine (one_any sb _ _ (by omega) (by decide)).mono ?_
          rintro e w5 ⟨rfl, hb5⟩
          rw [HSD.out, show smallL (⟨#[77, 97, 110, 105, 102, 101, 115, 116, 45, 86, 101, 114, 115, 105, 111, 110]⟩ : ByteArray).data.toList = mvL by decide]
          have hown5 := hown.step hb5
          have hbel5 := hfb.trans (hb5.mono hfb.size)
          by_cases hmv : smallL a.1 = mvL
          · have HF : Hid (R = (0, out)) := Lib.hid (by rw [HEND.out, if_pos hmv])
            rw [decide_eq_true hmv]
            clear hmv hown hbel hfb hb5
            go_wp2
            go_ret2
            exact readPost_ok HF.out hown5 hbel5
          · have HF : Hid (R = (22, [])) := Lib.hid (by rw [HEND.out, if_neg hmv])
            rw [decide_eq_false hmv]
            clear hmv hown hbel hfb hb5
            go_wp2
            go_ret2
            exact readPost_err HF.out hbel5
end Go.Proofs.YthkgnidafdiolaaDoor
