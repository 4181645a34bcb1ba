/- Contract: (image.pool).holds. -/
import Derived.Test.YtdioijhmmmnbgaaQiImF
import Derived.Test.YtdioijhmmmnbgaaPi5
namespace Go.Proofs.Ytdioijhmmmnbgaa
open Go.RowKit
theorem cst_ext {x : Cst} (h0 : x.tag = 0) (h1 : x.a = 0) (h2 : x.b = 0) (h3 : x.num = 0) (h4 : x.text = []) : x = cst0 := by obtain ⟨t, a, b, n, s⟩ := x; simp at h0 h1 h2 h3 h4; subst h0 h1 h2 h3 h4; rfl
theorem rights_first {pool : List Cst} {x : Cst} (h : pool[0]? = some x) (hx : x ≠ cst0) : rightsP pool = false := by
  cases hr : rightsP pool with
  | false => rfl
  | true =>
    exfalso
    have := right_at hr h
    unfold rightP at this
    by_cases h0 : x.tag = 0
    · rw [if_pos h0] at this; simp at this; exact hx this
    · rw [if_neg h0] at this; simp at this
theorem getD_want (k : Int) (p q : Int) (h : wantA k = some (p, q)) : (needG k).getD (.agg #[.int .i64 0, .int .i64 0]) = .agg #[.int .i64 p, .int .i64 q] ∧ (needG k).isSome = true := by unfold needG; rw [h]; exact ⟨rfl, rfl⟩
theorem getD_none (k : Int) (h : wantA k = none) : (needG k).getD (.agg #[.int .i64 0, .int .i64 0]) = .agg #[.int .i64 0, .int .i64 0] ∧ (needG k).isSome = false := by unfold needG; rw [h]; exact ⟨rfl, rfl⟩
theorem zeroWa_run (w : World) : (zeroValue 104).run Try.prog w = .ok (.agg #[.int .i64 0, .int .i64 0]) w := by kernel_rfl
theorem want_bd {k p q : Int} (h : wantA k = some (p, q)) : (0 ≤ p ∧ p ≤ 12) ∧ (0 ≤ q ∧ q ≤ 12) := by
  unfold wantA at h
  by_cases h1 : k = 1 ∨ k = 3 ∨ k = 5
  · rw [if_pos h1] at h; simp at h; omega
  rw [if_neg h1] at h
  by_cases h2 : k = 7 ∨ k = 8
  · rw [if_pos h2] at h; simp at h; omega
  rw [if_neg h2] at h
  by_cases h3 : k = 9 ∨ k = 10 ∨ k = 11
  · rw [if_pos h3] at h; simp at h; omega
  rw [if_neg h3] at h
  by_cases h4 : k = 12
  · rw [if_pos h4] at h; simp at h; omega
  rw [if_neg h4] at h; cases h
/-- What the loop keeps. -/
def HoldR (L : List Cst) (k : Nat) : Prop := 1 ≤ k ∧ (RestOk L 1 ↔ RestOk L k) ∧ (L[k - 1]?).map (·.tag) ≠ some 5
theorem rest_A {x : Cst} (h1 : x.tag = 1) (h : x.num = 0) : restC x = true := by unfold restC; rw [h1, h]; rfl
theorem rest_Abad {x : Cst} (h1 : x.tag = 1) (h : x.num ≠ 0) : restC x = false := by unfold restC; rw [h1, decide_eq_false h]; rfl
theorem rest_text {x : Cst} (h1 : x.tag ≠ 1) (h : x.text ≠ []) : restC x = false := by unfold restC; rw [decide_eq_false h1, decide_eq_false h]; rfl
theorem rest_35 {x : Cst} (h : x.text = []) (h1 : x.tag = 3 ∨ x.tag = 5) : restC x = true := by unfold restC; rw [h]; rcases h1 with e | e <;> rw [e] <;> simp
theorem rest_num {x : Cst} (h : x.text = []) (h1 : x.num = 0) : restC x = true := by unfold restC; rw [h, h1]; simp
theorem rest_numBad {x : Cst} (h3 : x.tag ≠ 3) (h5 : x.tag ≠ 5) (h1 : x.num ≠ 0) : restC x = false := by unfold restC; rw [decide_eq_false h3, decide_eq_false h5, decide_eq_false h1]; simp
theorem last_1 {x : Cst} (h : x.tag = 1) : lastC x = (uOk x.text && decide (x.text.length ≤ 65535)) := by unfold lastC; rw [if_pos h]
theorem last_3 {x : Cst} (h : x.tag = 3) : lastC x = decide (-2147483648 ≤ x.num ∧ x.num ≤ 2147483647) := by unfold lastC; rw [if_neg (by omega), if_pos h]
theorem last_0 {x : Cst} (h1 : x.tag ≠ 1) (h3 : x.tag ≠ 3) : lastC x = true := by unfold lastC; rw [if_neg h1, if_neg h3]
theorem units_0 {l : List UInt8} (h : uOk l = true) : (unitsV l).2 = 0 := by unfold uOk at h; cases hu : unitsB l with | none => rw [hu] at h; cases h | some us => rw [unitsV_yes hu]
theorem units_1 {l : List UInt8} (h : uOk l = false) : (unitsV l).2 = 23 := by unfold uOk at h; cases hu : unitsB l with | none => rw [unitsV_no hu] | some us => rw [hu] at h; cases h
theorem hold_one {L : List Cst} {k : Nat} {x : Cst} (h : HoldR L k) (hx : L[k]? = some x) (hg : cGood L x = true) (h5 : x.tag ≠ 5) : HoldR L (k + 1) := by
  obtain ⟨a, b⟩ := rest_one h.1 hx hg h5
  exact ⟨by omega, h.2.1.trans a, b⟩
theorem hold_long {L : List Cst} {k : Nat} {x : Cst} (h : HoldR L k) (hx : L[k]? = some x) (hg : cGood L x = true) (h5 : x.tag = 5) (hz : L[k + 1]? = some cst0) : HoldR L (k + 2) := by
  obtain ⟨a, b⟩ := rest_long h.1 hx hg h5 hz
  exact ⟨by omega, h.2.1.trans a, b⟩
theorem w32_in {v : Int} (h : -2147483648 ≤ v ∧ v ≤ 2147483647) : wrap64 (wrap32 v) = v := by unfold wrap64 wrap32; omega
theorem w32_out {v : Int} (h : ¬ (-2147483648 ≤ v ∧ v ≤ 2147483647)) : wrap64 (wrap32 v) ≠ v := by unfold wrap64 wrap32; omega
def okTo (L : List Cst) (p q a b : Int) (j : Nat) : Prop := (1 ≤ j → atOk L p a = true) ∧ (2 ≤ j → atOk L q b = true)
def poolOk (L : List Cst) : Bool := decide (1 ≤ L.length ∧ L.length ≤ 1024) && rightsP L
set_option maxRecDepth 100000 in
set_option maxHeartbeats 8000000 in
theorem pholds_any (A : Option Addr) (n c : Nat) (L : List Cst) (w : World) (hn : L.length = n) (hb : (n : Int) ≤ 9223372036854775807) (hr : RS cstC w w.heap.size A L) (hT : ∀ x ∈ L, (-9223372036854775808 ≤ x.tag ∧ x.tag ≤ 9223372036854775807) ∧ x.text.length ≤ 2000000) :
    Calls Try.prog 49 #[.slice A n c] w fun e w' => e = .returned (.bool (poolOk L)) ∧ Below w.heap.size w w' := by
  have HL := bx hn
  have HR := bx hr
  have HT := bx hT
  obtain ⟨R, hR⟩ : ∃ R, poolOk L = R := ⟨_, rfl⟩
  rw [hR]
  have HRR := bx hR
  clear hn hr hT hR
  by_cases h1 : n < 1
  · have h1I : (n : Int) < 1 := by omega
    have HN : Bx (R = false) := bx (by rw [← HRR.out]; unfold poolOk; rw [decide_eq_false (by rw [HL.out]; omega)]; rfl)
    clear h1
    go_enter Try.func49, Try.ntmps49
    go_wp2
    go_ret
    exact ⟨by rw [HN.out]; rfl, Below.refl _ _⟩
  have h1I : ¬ (n : Int) < 1 := by omega
  by_cases h2 : 1024 < n
  · have h2I : (1024 : Int) < (n : Int) := by omega
    have HN : Bx (R = false) := bx (by rw [← HRR.out]; unfold poolOk; rw [decide_eq_false (by rw [HL.out]; omega)]; rfl)
    clear h1 h2
    go_enter Try.func49, Try.ntmps49
    go_wp2
    go_ret
    exact ⟨by rw [HN.out]; rfl, Below.refl _ _⟩
  have h2I : ¬ (1024 : Int) < (n : Int) := by omega
  obtain ⟨ad, x, rfl, _, HX, p0, p1, p2, p3, p4⟩ := cst_at HR.out (k := 0) (by rw [HL.out]; omega)
  rw [Nat.zero_mul] at p0 p1 p2 p3 p4
  have ha0 : ad.add 0 = ad := by simp [Addr.add]
  rw [ha0] at p0 p1 p2 p3 p4
  have h0n : (0 : Int) < (n : Int) := by omega
  by_cases hx0 : ¬ x = cst0
  · have HN : Bx (R = false) := bx (by rw [← HRR.out]; unfold poolOk; rw [rights_first HX.out hx0, Bool.and_false])
    have HNE := bx hx0
    clear hx0
    go_enter Try.func49, Try.ntmps49
    go_wp2_with fail
    all_goals first
      | (go_ret; exact ⟨by rw [HN.out]; rfl, Below.refl _ _⟩)
      | (exfalso; refine HNE.out (cst_ext ?_ ?_ ?_ ?_ ?_) <;> assumption)
  have hx0 : x = cst0 := Decidable.not_not.1 hx0
  have HX0 : Bx (L[0]? = some cst0) := bx (by rw [HX.out, hx0])
  have HRES : Bx ((RestOk L 1 → R = true) ∧ (¬ RestOk L 1 → R = false)) := bx (by
    have e1 : R = rightsP L := by rw [← HRR.out]; unfold poolOk; rw [decide_eq_true (by rw [HL.out]; omega), Bool.true_and]
    refine ⟨fun h => ?_, fun h => ?_⟩
    · rw [e1]; exact rights_iff.2 ((rest_first HX0.out).2 h)
    · rw [e1]
      cases hr : rightsP L with
      | false => rfl
      | true => exact absurd ((rest_first HX0.out).1 (rights_iff.1 hr)) h)
  have HK0 : Bx (HoldR L 1) := bx ⟨by omega, Iff.rfl, by rw [HX0.out]; decide⟩
  subst hx0
  replace p0 : w.cell? ad = some (.int .i64 0) := p0
  replace p1 : w.cell? ⟨ad.block, ad.off + 1, none⟩ = some (.int .i64 0) := p1
  replace p2 : w.cell? ⟨ad.block, ad.off + 2, none⟩ = some (.int .i64 0) := p2
  replace p3 : w.cell? ⟨ad.block, ad.off + 3, none⟩ = some (.int .i64 0) := p3
  replace p4 : w.cell? ⟨ad.block, ad.off + 4, none⟩ = some (.string ⟨#[]⟩) := p4
  go_enter Try.func49, Try.ntmps49
  go_wp2_with fail
  refine (needs_any _).mono ?_
  rintro e w1 ⟨g, rfl, hg, hM, hb1⟩
  have HM := bx hM
  have HB1 := bx hb1
  clear hM hb1 p0 p1 p2 p3 p4 HX HX0 ha0
  clear hx0
  go_wp2
  go_loopw [4] (fun iv wx => ∃ k : Nat, k ≤ n ∧ iv = .int .i64 (k : Int) ∧ Bx (HoldR L k) ∧ Bx (Below w1.heap.size w1 wx)) (fun i _ => n - (intOf i).toNat)
  case atStart => exact ⟨1, by omega, rfl, HK0, bx (Below.refl _ _)⟩
  case round =>
    clear HK0
    obtain ⟨k, hk, rfl, HK, HB⟩ := hrel
    have HBW : Bx (Below w.heap.size w wr) := bx (HB1.out.trans (HB.out.mono HB1.out.size))
    by_cases hkn : k < n
    · have hkI : (k : Int) < (n : Int) := by omega
      obtain ⟨ad2, x, he, hlt, HX, p0, p1, p2, p3, p4⟩ := cst_at (HR.out.below HBW.out (Nat.le_refl _)) (k := k) (by rw [HL.out]; exact hkn)
      injection he with he
      subst he
      have hkJ : (0 : Int) ≤ (k : Int) := by omega
      have hkK : (k : Int).toNat = k := by omega
      have HXT := bx (HT.out x (List.mem_of_getElem? HX.out))
      have htb := HXT.out.1
      have HM0 : Bx (MapT niV wr Try.prog 3 g 9 needG) := bx (HM.out.below HB.out HM.out.lt)
      obtain ⟨C, hC⟩ : ∃ C, wr.heap.size = C := ⟨_, rfl⟩
      have HKC := bx (Bk.newAt wr 53 #[.int .i64 x.tag, .int .i64 x.a, .int .i64 x.b, .int .i64 x.num, .string ⟨x.text.toArray⟩] hC)
      have hbc := bl_alloc HB.out (Nat.le_refl _) (.cells #[.int .i64 x.tag, .int .i64 x.a, .int .i64 x.b, .int .i64 x.num, .string ⟨x.text.toArray⟩] 53)
      have HBC := bx hbc
      have HMC := bx (HM0.out.alloc (.cells #[.int .i64 x.tag, .int .i64 x.a, .int .i64 x.b, .int .i64 x.num, .string ⟨x.text.toArray⟩] 53))
      have HCZ : Bx (w1.heap.size ≤ C) := bx (by rw [← hC]; exact HB.out.size)
      have hcs : (wr.alloc (.cells #[.int .i64 x.tag, .int .i64 x.a, .int .i64 x.b, .int .i64 x.num, .string ⟨x.text.toArray⟩] 53)).heap.size = C + 1 := by rw [← hC]; simp
      have HC := bx hC
      clear hbc hC
      go_upto_region 8 with (fail)
      rw [HC.out]
      generalize wr.alloc (.cells #[.int .i64 x.tag, .int .i64 x.a, .int .i64 x.b, .int .i64 x.num, .string ⟨x.text.toArray⟩] 53) = wc at HKC HBC HMC hcs ⊢
      have HCS := bx hcs
      clear hcs HM0 p0 p1 p2 p3 p4 HC
      have c0 : wc.cell? ⟨C, 0, none⟩ = some (.int .i64 x.tag) := (HKC.out.cell 0).trans rfl
      have HKY := bx (niKey x.tag htb)
      cases hwa : wantA x.tag with
      | none =>
        obtain ⟨e1, e2⟩ := getD_none x.tag hwa
        have HN : Bx (R = false) := bx (HRES.out.2 (fun h => rest_bad HK.out.1 HK.out.2.2 HX.out (good_none hwa) (HK.out.2.1.1 h)))
        have HE1 := bx e1
        have HE2 := bx e2
        clear e1 e2 hwa
        go_wp2_with (at_lookup; refine wpList_lookV_ok rfl (.tmp 39) (.tmp 41) _ rfl 104 intK Try.underlying101 (.agg #[.int .i64 0, .int .i64 0]) (zeroWa_run _) rfl HMC.out x.tag _ rfl HKY.out _ _ HE1.out HE2.out ?_)
        go_ret
        exact ⟨by rw [HN.out]; rfl, HB1.out.trans ((bl_alloc HBC.out (Nat.le_refl _) _).mono HB1.out.size)⟩
      | some pq =>
        obtain ⟨p, q⟩ := pq
        obtain ⟨e1, e2⟩ := getD_want x.tag p q hwa
        have HE1 := bx e1
        have HE2 := bx e2
        have HWA := bx hwa
        clear e1 e2 hwa
        go_upto_region 11 with (at_lookup; refine wpList_lookV_ok rfl (.tmp 39) (.tmp 41) _ rfl 104 intK Try.underlying101 (.agg #[.int .i64 0, .int .i64 0]) (zeroWa_run _) rfl HMC.out x.tag _ rfl HKY.out _ _ HE1.out HE2.out ?_)
        have HKD := bx (Bk.newAt wc 104 #[.int .i64 p, .int .i64 q] HCS.out)
        have HKC2 := bx (HKC.out.alloc (.cells #[.int .i64 p, .int .i64 q] 104))
        have HBD := bx (bl_alloc HBC.out (Nat.le_refl _) (.cells #[.int .i64 p, .int .i64 q] 104))
        have HDS : Bx ((wc.alloc (.cells #[.int .i64 p, .int .i64 q] 104)).heap.size = C + 2) := bx (by rw [World.size_alloc, HCS.out])
        rw [HCS.out]
        generalize wc.alloc (.cells #[.int .i64 p, .int .i64 q] 104) = wd at HKD HKC2 HBD HDS ⊢
        clear c0 HKC HBC HMC HCS
        have c0 : wd.cell? ⟨C, 0, none⟩ = some (.int .i64 x.tag) := (HKC2.out.cell 0).trans rfl
        have c1 : wd.cell? ⟨C, 1, none⟩ = some (.int .i64 x.a) := (HKC2.out.cell 1).trans rfl
        have c2 : wd.cell? ⟨C, 2, none⟩ = some (.int .i64 x.b) := (HKC2.out.cell 2).trans rfl
        go_upto_region 12 with (fail)
        have HKE := bx (Bk.newAt wd 3 #[.int .i64 x.a, .int .i64 x.b] HDS.out)
        have HKD3 := bx (HKD.out.alloc (.cells #[.int .i64 x.a, .int .i64 x.b] 3))
        have HKC3 := bx (HKC2.out.alloc (.cells #[.int .i64 x.a, .int .i64 x.b] 3))
        have HBE := bx (bl_alloc HBD.out (Nat.le_refl _) (.cells #[.int .i64 x.a, .int .i64 x.b] 3))
        rw [HDS.out]
        generalize wd.alloc (.cells #[.int .i64 x.a, .int .i64 x.b] 3) = we at HKE HKD3 HKC3 HBE ⊢
        clear c0 c1 c2 HKD HKC2 HBD HDS
        have HBX : Bx (Below w.heap.size w we) := bx (HB1.out.trans (HBE.out.mono HB1.out.size))
        have HRE : Bx (RS cstC we we.heap.size (some ad) L) := bx (HR.out.step HBX.out)
        have HGN : Bx (cGood L x = ((atOk L p x.a && atOk L q x.b) && (restC x && lastC x))) := bx (good_some HWA.out)
        have HBAD : Bx (cGood L x = false → R = false) := bx (fun hg => HRES.out.2 (fun h => rest_bad HK.out.1 HK.out.2.2 HX.out hg (HK.out.2.1.1 h)))
        have HPQ := bx (want_bd HWA.out)
        have HO0 : Bx (okTo L p q x.a x.b 0) := bx ⟨fun h => absurd h (by omega), fun h => absurd h (by omega)⟩
        clear HE1 HE2 HKY HWA hlt
        go_loop [53] (fun jv => ∃ j : Nat, j ≤ 2 ∧ jv = .int .i64 (j : Int) ∧ Bx (okTo L p q x.a x.b j)) (fun i => 2 - (intOf i).toNat)
        case atStart => exact ⟨0, by omega, rfl, HO0⟩
        case round =>
          clear HO0
          obtain ⟨j, hj, rfl, HO⟩ := hrel
          by_cases hj2 : j < 2
          · have hjI : (j : Int) < 2 := by omega
            have hj0 : (0 : Int) ≤ (j : Int) := by omega
            have hjn : (j : Int).toNat = j := by omega
            obtain ⟨av, wv, ca, cw, hwv, hno, hyes⟩ : ∃ av wv, we.cell? ⟨C + 2, j, none⟩ = some (.int .i64 av) ∧ we.cell? ⟨C + 1, j, none⟩ = some (.int .i64 wv) ∧ (0 ≤ wv ∧ wv ≤ 12) ∧ (atOk L wv av = false → Bx (R = false)) ∧ (atOk L wv av = true → Bx (okTo L p q x.a x.b (j + 1))) := by
              rcases (show j = 0 ∨ j = 1 by omega) with rfl | rfl
              · refine ⟨x.a, p, (HKE.out.cell 0).trans rfl, (HKD3.out.cell 0).trans rfl, HPQ.out.1, fun h => bx (HBAD.out ?_), fun h => bx ⟨fun _ => h, fun h2 => absurd h2 (by omega)⟩⟩
                rw [HGN.out, h]; rfl
              · refine ⟨x.b, q, (HKE.out.cell 1).trans rfl, (HKD3.out.cell 1).trans rfl, HPQ.out.2, fun h => bx (HBAD.out ?_), fun h => bx ⟨fun _ => HO.out.1 (by omega), fun _ => h⟩⟩
                rw [HGN.out, h, Bool.and_false]; rfl
            have HBE2 : Bx (Below w.heap.size w we) := HBX
            by_cases hw0 : wv = 0
            · subst hw0
              clear hwv
              by_cases ha0 : av = 0
              · subst ha0
                have HO2 := hyes (by unfold atOk; rw [if_pos rfl]; rfl)
                clear hyes hno
                go_wp2
                go_round
                case rel => exact ⟨j + 1, by omega, by go_num, HO2⟩
                case measure => simp [intOf]; omega
              · have HN := hno (by unfold atOk; rw [if_pos rfl]; exact decide_eq_false ha0)
                have ha1 : (av != 0) = true := by rw [bne_iff_ne]; exact ha0
                clear hyes hno
                go_wp2
                go_ret
                exact ⟨by rw [HN.out]; rfl, HBX.out⟩
            · have hw1 : (wv != 0) = true := by rw [bne_iff_ne]; exact hw0
              have hw2 : (wv == 0) = false := by rw [beq_eq_false_iff_ne]; exact hw0
              have hek : atOk L wv av = decide (tagP L av = wv) := by unfold atOk; rw [if_neg hw0]
              have hW0 := bx hw0
              cases hq : decide (tagP L av = wv) with
              | true =>
                have HO2 := hyes (hek.trans hq)
                have HQ := bx hq
                clear hyes hno hek hq hw0
                go_wp2_with (go_at_call 50; refine (is_any _ n _ L av wv we HL.out hb hW0.out HRE.out).mono ?_; rintro e w' ⟨rfl, rfl⟩; rw [HQ.out])
                go_round
                case rel => exact ⟨j + 1, by omega, by go_num, HO2⟩
                case measure => simp [intOf]; omega
              | false =>
                have HN := hno (hek.trans hq)
                have HQ := bx hq
                clear hyes hno hek hq hw0
                go_wp2_with (go_at_call 50; refine (is_any _ n _ L av wv we HL.out hb hW0.out HRE.out).mono ?_; rintro e w' ⟨rfl, rfl⟩; rw [HQ.out])
                go_ret
                exact ⟨by rw [HN.out]; rfl, HBX.out⟩
          · obtain rfl : j = 2 := by omega
            have HOK := bx (show atOk L p x.a = true ∧ atOk L q x.b = true from ⟨HO.out.1 (by omega), HO.out.2 (by omega)⟩)
            have HG2 : Bx (cGood L x = (restC x && lastC x)) := bx (by rw [HGN.out, HOK.out.1, HOK.out.2]; rfl)
            have c0 : we.cell? ⟨C, 0, none⟩ = some (.int .i64 x.tag) := (HKC3.out.cell 0).trans rfl
            have c3 : we.cell? ⟨C, 3, none⟩ = some (.int .i64 x.num) := (HKC3.out.cell 3).trans rfl
            have c4 : we.cell? ⟨C, 4, none⟩ = some (.string ⟨x.text.toArray⟩) := (HKC3.out.cell 4).trans rfl
            have hl2 : ¬ (2 : Int) < 2 := by omega
            have HCL : Bx (∀ {w5 : World}, Below we.heap.size we w5 → w5.cell? ⟨C, 4, none⟩ = we.cell? ⟨C, 4, none⟩) := bx (fun hb => by rw [(HKC3.out.below hb HKC3.out.lt).cell 4, HKC3.out.cell 4])
            clear HO hj hj2 HGN HKC3
            by_cases t1 : x.tag = 1
            · have t3 : ¬ x.tag = 3 := by omega
              have t5 : ¬ x.tag = 5 := by omega
              by_cases hnum : x.num = 0
              · have HREST := bx (rest_A t1 hnum)
                have HG3 : Bx (cGood L x = (uOk x.text && decide (x.text.length ≤ 65535))) := bx (by rw [HG2.out, HREST.out, last_1 t1]; rfl)
                have htl := HXT.out.2
                have hsz : (⟨x.text.toArray⟩ : ByteArray).size = x.text.length := by simp [ByteArray.size]
                have hsl : (⟨x.text.toArray⟩ : ByteArray).data.toList = x.text := rfl
                obtain ⟨sn, hsn⟩ : ∃ sn : ByteArray, sn = ⟨x.text.toArray⟩ := ⟨_, rfl⟩
                rw [← hsn] at c4 hsz hsl
                have HSZ := bx hsz
                have HSL := bx hsl
                have hs2 : sn.size ≤ 2000000 := by rw [hsz]; exact htl
                clear hsz hsl hsn htl
                cases hu : uOk x.text with
                | false =>
                  have HN := bx (HBAD.out (by rw [HG3.out, hu]; rfl))
                  have HU := bx (units_1 hu)
                  clear hu
                  go_wp2_with (go_at_call 61; refine (units_post sn we hs2).mono ?_; rintro e w5 ⟨A5, n5, c5, rfl, -, -, hb5⟩; rw [HSL.out, HU.out]; have HB5 := bx hb5; clear hb5)
                  go_ret
                  exact ⟨by rw [HN.out]; rfl, HBX.out.trans (HB5.out.mono HBX.out.size)⟩
                | true =>
                  have HU := bx (units_0 hu)
                  by_cases hlen : x.text.length ≤ 65535
                  · have HG4 : Bx (cGood L x = true) := bx (by rw [HG3.out, hu, decide_eq_true hlen]; rfl)
                    have HK2 := bx (hold_one HK.out HX.out HG4.out t5)
                    have hsI : ¬ (65535 : Int) < (sn.size : Int) := by rw [HSZ.out]; omega
                    clear hu
                    go_wp2_with (go_at_call 61; refine (units_post sn we hs2).mono ?_; rintro e w5 ⟨A5, n5, c5, rfl, -, -, hb5⟩; rw [HSL.out, HU.out]; have HB5 := bx hb5; have c45 : w5.cell? ⟨C, 4, none⟩ = some (.string sn) := (HCL.out hb5).trans c4; clear hb5)
                    go_roundw
                    case rel => exact ⟨k + 1, by omega, by go_num, HK2, bx (HBE.out.trans (HB5.out.mono HBE.out.size))⟩
                    case measure => simp [intOf]; omega
                  · have HN := bx (HBAD.out (by rw [HG3.out, decide_eq_false hlen, Bool.and_false]))
                    have hsI : (65535 : Int) < (sn.size : Int) := by rw [HSZ.out]; omega
                    clear hu
                    go_wp2_with (go_at_call 61; refine (units_post sn we hs2).mono ?_; rintro e w5 ⟨A5, n5, c5, rfl, -, -, hb5⟩; rw [HSL.out, HU.out]; have HB5 := bx hb5; have c45 : w5.cell? ⟨C, 4, none⟩ = some (.string sn) := (HCL.out hb5).trans c4; clear hb5)
                    go_ret
                    exact ⟨by rw [HN.out]; rfl, HBX.out.trans (HB5.out.mono HBX.out.size)⟩
              · have HN := bx (HBAD.out (by rw [HG2.out, rest_Abad t1 hnum]; rfl))
                go_wp2
                go_ret
                exact ⟨by rw [HN.out]; rfl, HBX.out⟩
            · by_cases htx : x.text = []
              · by_cases t3 : x.tag = 3
                · have t5 : ¬ x.tag = 5 := by omega
                  have HREST := bx (rest_35 htx (Or.inl t3))
                  have HG3 : Bx (cGood L x = decide (-2147483648 ≤ x.num ∧ x.num ≤ 2147483647)) := bx (by rw [HG2.out, HREST.out, last_3 t3, Bool.true_and])
                  by_cases hr : -2147483648 ≤ x.num ∧ x.num ≤ 2147483647
                  · have HG4 : Bx (cGood L x = true) := bx (by rw [HG3.out, decide_eq_true hr])
                    have HK2 := bx (hold_one HK.out HX.out HG4.out t5)
                    have HWR := bx hr
                    have hw : (wrap64 (wrap32 x.num) != x.num) = false := by rw [bne_eq_false_iff_eq]; exact w32_in hr
                    clear hr
                    go_wp2
                    go_roundw
                    case rel => exact ⟨k + 1, by omega, by go_num, HK2, HBE⟩
                    case measure => simp [intOf]; omega
                  · have HN := bx (HBAD.out (by rw [HG3.out, decide_eq_false hr]))
                    have hw : (wrap64 (wrap32 x.num) != x.num) = true := by rw [bne_iff_ne]; exact w32_out hr
                    clear hr
                    go_wp2
                    go_ret
                    exact ⟨by rw [HN.out]; rfl, HBX.out⟩
                · by_cases t5 : x.tag = 5
                  · have HREST := bx (rest_35 htx (Or.inr t5))
                    have HG3 : Bx (cGood L x = true) := bx (by rw [HG2.out, HREST.out, last_0 t1 t3]; rfl)
                    by_cases hk1 : k + 1 < n
                    · have hkI1 : (k : Int) + 1 < (n : Int) := by omega
                      have hkJ1 : (0 : Int) ≤ (k : Int) + 1 := by omega
                      have hkK1 : ((k : Int) + 1).toNat = k + 1 := by omega
                      obtain ⟨ad3, y, he, _, HY, q0, q1, q2, q3, q4⟩ := cst_at HRE.out (k := k + 1) (by rw [HL.out]; exact hk1)
                      injection he with he
                      subst he
                      by_cases hy0 : ¬ y = cst0
                      · have HNE := bx hy0
                        have HN : Bx (R = false) := bx (HRES.out.2 (fun h => rest_longBad HK.out.1 HX.out HG3.out t5 (by rw [HY.out]; intro e; injection e with e; exact hy0 e) (HK.out.2.1.1 h)))
                        clear hy0
                        go_wp2_with fail
                        all_goals first
                          | (go_ret; exact ⟨by rw [HN.out]; rfl, HBX.out⟩)
                          | (exfalso; refine HNE.out (cst_ext ?_ ?_ ?_ ?_ ?_) <;> assumption)
                      · have hy0 : y = cst0 := Decidable.not_not.1 hy0
                        have HK2 := bx (hold_long HK.out HX.out HG3.out t5 (by rw [HY.out, hy0]))
                        subst hy0
                        replace q0 : we.cell? (ad.add ((k + 1) * 5)) = some (.int .i64 0) := q0
                        replace q1 : we.cell? ⟨(ad.add ((k + 1) * 5)).block, (ad.add ((k + 1) * 5)).off + 1, none⟩ = some (.int .i64 0) := q1
                        replace q2 : we.cell? ⟨(ad.add ((k + 1) * 5)).block, (ad.add ((k + 1) * 5)).off + 2, none⟩ = some (.int .i64 0) := q2
                        replace q3 : we.cell? ⟨(ad.add ((k + 1) * 5)).block, (ad.add ((k + 1) * 5)).off + 3, none⟩ = some (.int .i64 0) := q3
                        replace q4 : we.cell? ⟨(ad.add ((k + 1) * 5)).block, (ad.add ((k + 1) * 5)).off + 4, none⟩ = some (.string ⟨#[]⟩) := q4
                        clear hy0
                        go_wp2
                        go_roundw
                        case rel => exact ⟨k + 2, by omega, by go_num, HK2, HBE⟩
                        case measure => simp [intOf]; omega
                    · have hkI1 : ¬ (k : Int) + 1 < (n : Int) := by omega
                      have HN : Bx (R = false) := bx (HRES.out.2 (fun h => rest_longBad HK.out.1 HX.out HG3.out t5 (by rw [List.getElem?_eq_none (by rw [HL.out]; omega)]; intro e; cases e) (HK.out.2.1.1 h)))
                      go_wp2
                      go_ret
                      exact ⟨by rw [HN.out]; rfl, HBX.out⟩
                  · by_cases hnum : x.num = 0
                    · have HG3 : Bx (cGood L x = true) := bx (by rw [HG2.out, rest_num htx hnum, last_0 t1 t3]; rfl)
                      have HK2 := bx (hold_one HK.out HX.out HG3.out t5)
                      go_wp2
                      go_roundw
                      case rel => exact ⟨k + 1, by omega, by go_num, HK2, HBE⟩
                      case measure => simp [intOf]; omega
                    · have HN := bx (HBAD.out (by rw [HG2.out, rest_numBad t3 t5 hnum]; rfl))
                      have b3 : (x.tag != 3) = true := by rw [bne_iff_ne]; exact t3
                      have b5 : (x.tag != 5) = true := by rw [bne_iff_ne]; exact t5
                      have bn : (x.num != 0) = true := by rw [bne_iff_ne]; exact hnum
                      go_wp2
                      go_ret
                      exact ⟨by rw [HN.out]; rfl, HBX.out⟩
              · have HN := bx (HBAD.out (by rw [HG2.out, rest_text t1 htx]; rfl))
                go_wp2
                go_ret
                exact ⟨by rw [HN.out]; rfl, HBX.out⟩
    · obtain rfl : n = k := by omega
      have hkI : ¬ (n : Int) < (n : Int) := by omega
      have HN : Bx (R = true) := bx (HRES.out.1 (HK.out.2.1.2 (rest_end (by rw [HL.out]; exact Nat.le_refl _))))
      go_wp2
      go_ret
      exact ⟨by rw [HN.out]; rfl, HBW.out⟩
end Go.Proofs.Ytdioijhmmmnbgaa
