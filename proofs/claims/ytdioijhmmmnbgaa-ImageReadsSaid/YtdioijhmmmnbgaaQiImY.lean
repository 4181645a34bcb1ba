/- Contract: image.Parse. -/
import Derived.Test.YtdioijhmmmnbgaaQiImV
import Derived.Test.YtdioijhmmmnbgaaPi2
import Derived.Deep.RegionHeld3
import Derived.Deep.RegionWith
import Derived.BigRegion
namespace Go.Proofs.Ytdioijhmmmnbgaa
open Go.RowKit
def ParsePost (R : Rz Img) (w : World) (e : Ending) (w' : World) : Prop :=
  Below w.heap.size w w' ∧ match R with
    | .ok m => ∃ x : ImE, x.p = m ∧ e = .returned (.tuple #[.agg (imC x), .int .i64 0]) ∧ RIm w' w'.heap.size x
    | .err k => e = .returned (.tuple #[.agg imZ, .int .i64 k]) ∧ k ≠ 0
theorem pp_err {R : Rz Img} {w w' : World} {k : Int} (h : R = .err k) (hb : Below w.heap.size w w') (hk : k ≠ 0) : ParsePost R w (.returned (.tuple #[.agg imZ, .int .i64 k])) w' := by
  subst h; exact ⟨hb, rfl, hk⟩
theorem pp_ok {R : Rz Img} {w w' : World} {x : ImE} (h : R = .ok x.p) (hb : Below w.heap.size w w') (hr : RIm w' w'.heap.size x) : ParsePost R w (.returned (.tuple #[.agg (imC x), .int .i64 0])) w' := by
  subst h; exact ⟨hb, x, rfl, rfl, hr⟩
theorem ifTy : ETy Try.prog 25 3 (.int .i64 0) 1 8 := ⟨Try.underlying25, info_parts (by kernel_rfl), rfl, by decide⟩
theorem imC_one (x : ImE) : (imC x).all (·.oneCell') = true := by kernel_rfl
theorem cstTy : ETy Try.prog 24 53 (.agg #[.int .i64 0, .int .i64 0, .int .i64 0, .int .i64 0, .string ⟨#[]⟩]) 5 48 := ⟨Try.underlying24, info_parts (by kernel_rfl), rfl, by decide⟩
theorem results_img (tmps : Array Value) (w : World) (g : Nat) (cs : Array Value) (h2 : tmps.getD 2 undef = .pointer (some ⟨g, 0, none⟩)) (hk : Bk w g 29 cs) (hs : cs.size = 10) :
    (results Try.f10 tmps).run Try.prog w = .ok (.tuple #[.agg cs, tmps.getD 3 undef]) w := by
  rw [results_cell_tmp (p := 2) (u := 3) (ty := 29) Try.results10]
  have h2' : tmps[2]?.getD undef = .pointer (some ⟨g, 0, none⟩) := by simpa using h2
  have hl := run_loadVar_row (P := Try.prog) w g 29 29 cs (0, 0) _ hk Try.underlying29 rfl (by rw [hs]; exact info_image)
  simp [h2', asAddr, hl, Result.andThen]
theorem imZ_one : imZ.all (·.oneCell') = true := by kernel_rfl
set_option maxRecDepth 100000 in
set_option maxHeartbeats 16000000 in
theorem parse_any (A : Option Addr) (n c : Nat) (b : List UInt8) (w : World) (hn : b.length = n) (hz : (n : Int) ≤ 140737488355328) (hr : RB w w.heap.size A b) :
    Calls Try.prog 10 #[.slice A n c] w (ParsePost (parseP b) w) := by
  have HL := bx hn
  have HR := bx hr
  obtain ⟨W, hW⟩ : ∃ W, parseP b = W := ⟨_, rfl⟩
  rw [hW]
  have HW := bx hW
  obtain ⟨gq, hq⟩ : ∃ gq, w.heap.size = gq := ⟨_, rfl⟩
  have HKQ := bx (Bk.newAt w 29 imZ hq)
  have HB0 := bx (bl_alloc (Below.refl w.heap.size w) (Nat.le_refl _) (.cells imZ 29))
  have HGQ := bx hq
  clear hn hr hW hq
  go_enter Try.func10, Try.ntmps10
  go_upto_region 1 with (fail)
  rw [HGQ.out]
  change Code.wp _ _ _ _ (w.alloc (.cells imZ 29))
  generalize w.alloc (.cells imZ 29) = w0 at HKQ HB0 ⊢
  by_cases hbig : 32768 < n
  · have hbI : (32768 : Int) < (n : Int) := by omega
    have HN : Bx (W = .err 8) := bx (by rw [← HW.out]; unfold parseP; rw [if_pos (by rw [HL.out]; exact hbig)])
    go_wp2_with (refine wpList_store_row rfl 29 (.tmp 2) (.tmp 12) rfl gq imZ rfl rfl 29 imZ HKQ.out info_image rfl imZ_one ?_)
    exact bodyPost_ret (v := .tuple #[.agg imZ, .int .i64 8]) (results_img _ _ gq imZ rfl (HKQ.out.setRow imZ) rfl) rfl (pp_err HN.out (bl_setRow HB0.out (by rw [HGQ.out]; exact Nat.le_refl _) imZ) (by decide))
  · have hbI : ¬ (32768 : Int) < (n : Int) := by omega
    have HBL : Bx (b.length ≤ 1000000) := bx (by rw [HL.out]; omega)
    have HKQ1 := bx (HR.out.step HB0.out)
    have hgq : gq < w0.heap.size := HKQ.out.lt
    go_wp2_with fail
    refine (new_any A n c w0 b HL.out hz HKQ1.out).mono ?_
    rintro e w1 ⟨gr, rfl, hgr, hrd, hb1⟩
    obtain ⟨gs, hgs⟩ : ∃ gs, w1.heap.size = gs := ⟨_, rfl⟩
    have HP2 : Bx (Pa0 w (w1.alloc (.cells #[.pointer (some ⟨gr, 0, none⟩), .int .i64 0] 49)) b gq gs gr (.ok 0)) := bx (by
      have hl := hrd.ltr
      have hbb : Below w1.heap.size w1 (w1.alloc (.cells #[.pointer (some ⟨gr, 0, none⟩), .int .i64 0] 49)) := bl_alloc (Below.refl _ _) (Nat.le_refl _) _
      have hb9 := hb1.size
      have hq1 : Bk w1 gq 29 imZ := HKQ.out.below hb1 hgq
      have hs0 := HB0.out.size
      exact ⟨(HB0.out.trans (hb1.mono HB0.out.size)).trans (hbb.mono (by omega)), hq1.alloc _, ⟨0, false, 0, Bk.newAt _ _ _ hgs, hrd.below hbb, by omega, rfl, rfl, rfl⟩, ⟨by rw [← HGQ.out]; exact Nat.le_refl _, by omega, by omega⟩, ⟨by omega, by omega⟩⟩)
    have HGS := bx hgs
    clear hrd hb1 hgs hgq hgr HKQ HB0 HR HKQ1
    go_upto_region 4 with (fail)
    rw [HGS.out]
    generalize w1.alloc (.cells #[.pointer (some ⟨gr, 0, none⟩), .int .i64 0] 49) = w2 at HP2 ⊢
    clear HGS
    obtain ⟨r0, hr0⟩ : ∃ r, onR (.ok 0) (rdN 4) b = r := ⟨_, rfl⟩
    have HN0 := bx (snum_small gs gr 4 b (.ok 0) w2 HP2.out.src (by decide) (by decide))
    rw [hr0] at HN0
    obtain ⟨x0, hx0⟩ : ∃ x, valN r0 = x := ⟨_, rfl⟩
    rw [hx0] at HN0
    obtain ⟨s1, hs1⟩ : ∃ s, (if valN r0 ≠ 3405691582 then failR (stR r0) 24 else stR r0) = s := ⟨_, rfl⟩
    have HR0 := bx hr0
    have HS1 := bx hs1
    have HX0 := bx hx0
    clear hr0 hs1 hx0
    go_wp2_with fail
    refine HN0.out.mono ?_
    rintro e w3 ⟨rfl, hs3, hc3⟩
    have HP3 := bx (HP2.out.next hs3 hc3)
    clear hs3 hc3 HN0 HP2
    go_upto_if 19 with (fail)
    go_cut [4] (fun v wx => v = .pointer (some ⟨gs, 0, none⟩) ∧ Bx (Pa0 w wx b gq gs gr s1))
    case first =>
      -- DEV{
      by_cases hm : x0 = 3405691582
      · have HE : Bx (s1 = stR r0) := bx (by rw [← HS1.out, if_neg (by rw [HX0.out]; exact fun h => h hm)])
        have hm1 : (x0 != 3405691582) = false := by simp [hm]
        have HP4 : Bx (Pa0 w w3 b gq gs gr s1) := bx (by rw [HE.out]; exact HP3.out)
        clear hm
        go_wp2
        go_meet
        case rel => exact ⟨rfl, HP4⟩
      · have HE : Bx (s1 = failR (stR r0) 24) := bx (by rw [← HS1.out, if_pos (by rw [HX0.out]; exact hm)])
        have hm1 : (x0 != 3405691582) = true := by simp [hm]
        have HF := bx (sfail_any gs gr b (stR r0) 24 w3 HP3.out.src (by decide))
        clear hm
        go_wp2_with fail
        refine HF.out.mono ?_
        rintro e w4 ⟨⟨q, rfl⟩, hs4, hc4⟩
        have HP4 : Bx (Pa0 w w4 b gq gs gr s1) := bx (by rw [HE.out]; exact HP3.out.next hs4 hc4)
        clear hs4 hc4
        go_wp2
        go_meet
        case rel => exact ⟨rfl, HP4⟩
      -- DEV}
    case rest =>
      obtain ⟨rfl, HP⟩ := hcut
      clear HP3
      obtain ⟨r2, hr2⟩ : ∃ r, onR s1 (rdN 2) b = r := ⟨_, rfl⟩
      have HN2 := bx (snum_small gs gr 2 b s1 wc HP.out.src (by decide) (by decide))
      have hv2 := valN_lt 2 s1 b
      rw [hr2] at HN2 hv2
      obtain ⟨x2, hx2⟩ : ∃ x, valN r2 = x := ⟨_, rfl⟩
      rw [hx2] at HN2 hv2
      have HV2 := bx hv2
      have HR2 := bx hr2
      have HX2 := bx hx2
      clear hr2 hx2 hv2
      go_step
      go_wp2_with fail
      refine HN2.out.mono ?_
      rintro e w5 ⟨rfl, hs5, hc5⟩
      have HP5 := bx ((HP.out.next hs5 hc5).make #[.int .i64 x2, .int .i64 0, .slice none 0 0, .int .i64 0, .int .i64 0, .int .i64 0, .slice none 0 0, .slice none 0 0, .slice none 0 0, .slice none 0 0])
      obtain ⟨gm, hgm⟩ : ∃ gm, w5.heap.size = gm := ⟨_, rfl⟩
      have HGM := bx hgm
      rw [hgm] at HP5
      clear hs5 hc5 HN2 hgm HP
      go_upto_region 7 with (fail)
      rw [HGM.out]
      generalize w5.alloc (.cells #[.int .i64 x2, .int .i64 0, .slice none 0 0, .int .i64 0, .int .i64 0, .int .i64 0, .slice none 0 0, .slice none 0 0, .slice none 0 0, .slice none 0 0] 29) = w6 at HP5 ⊢
      obtain ⟨r3, hr3⟩ : ∃ r, onR (stR r2) (rdN 2) b = r := ⟨_, rfl⟩
      have HN3 := bx (snum_small gs gr 2 b (stR r2) w6 HP5.out.src (by decide) (by decide))
      have hv3 := valN_lt 2 (stR r2) b
      rw [hr3] at HN3 hv3
      obtain ⟨x3, hx3⟩ : ∃ x, valN r3 = x := ⟨_, rfl⟩
      rw [hx3] at HN3 hv3
      have HV3 := bx hv3
      have HR3 := bx hr3
      have HX3 := bx hx3
      clear hr3 hx3 hv3 HGM
      go_wp2_with fail
      refine HN3.out.mono ?_
      rintro e w7 ⟨rfl, hs7, hc7⟩
      have HP7 := bx (HP5.out.next hs7 hc7)
      have HP8 := bx (HP7.out.set 1 (.int .i64 x3))
      have m1 : w7.cell? ⟨gm, 1, none⟩ = some (.int .i64 0) := (HP7.out.im.cell 1).trans rfl
      have z1 : w7.frozen? ⟨gm, 1, none⟩ = false := HP7.out.im.frz 1
      clear hs7 hc7 HN3 HP5
      go_upto_region 8 with (fail)
      clear m1 z1
      generalize w7.setCell ⟨gm, 1, none⟩ (.int .i64 x3) = w8 at HP8 ⊢
      have m1 : w8.cell? ⟨gm, 1, none⟩ = some (.int .i64 x3) := (HP8.out.im.cell 1).trans rfl
      obtain ⟨cs1, hcs1⟩ : ∃ cs : Array Value, #[.int .i64 x2, .int .i64 x3, .slice none 0 0, .int .i64 0, .int .i64 0, .int .i64 0, .slice none 0 0, .slice none 0 0, .slice none 0 0, .slice none 0 0] = cs := ⟨_, rfl⟩
      have HP9 : Bx (PaR w w8 b gq gs gr gm cs1 (stR r3)) := bx (by rw [← hcs1]; exact HP8.out)
      have HCS1 := bx hcs1
      obtain ⟨s4, hs4⟩ : ∃ s, (if valN r3 < 45 ∨ 52 < valN r3 then failR (stR r3) 24 else stR r3) = s := ⟨_, rfl⟩
      have HS4 := bx hs4
      clear hs4 HP7 HP8 hcs1
      obtain ⟨qb, hqb⟩ : ∃ q, decide (x3 < 45 ∨ 52 < x3) = q := ⟨_, rfl⟩
      have HQB := bx hqb
      clear hqb
      go_cut [35] (fun v wx => v = .bool qb ∧ w8 = wx)
      case first =>
        -- DEV{
        by_cases ha : x3 < 45
        · have HE : Bx (qb = true) := bx (by rw [← HQB.out]; exact decide_eq_true (.inl ha))
          go_wp2
          go_meet
          case rel => exact ⟨by rw [HE.out]; try rfl, rfl⟩
        · by_cases hb : 52 < x3
          · have HE : Bx (qb = true) := bx (by rw [← HQB.out]; exact decide_eq_true (.inr hb))
            go_wp2
            go_meet
            case rel => exact ⟨by rw [HE.out]; try rfl, rfl⟩
          · have HE : Bx (qb = false) := bx (by rw [← HQB.out]; exact decide_eq_false (by omega))
            go_wp2
            go_meet
            case rel => exact ⟨by rw [HE.out]; try rfl, rfl⟩
        -- DEV}
      case rest =>
      obtain ⟨rfl, rfl⟩ := hcut
      go_upto_if 35 with (fail)
      go_cut [4, 5] (fun v v5 wx => v = .pointer (some ⟨gs, 0, none⟩) ∧ v5 = .pointer (some ⟨gm, 0, none⟩) ∧ Bx (PaR w wx b gq gs gr gm cs1 s4))
      case first =>
        -- DEV{
        have HF := bx (sfail_any gs gr b (stR r3) 24 w8 HP9.out.src (by decide))
        cases qb with
        | true =>
          have HE : Bx (s4 = failR (stR r3) 24) := bx (by rw [← HS4.out, if_pos (by rw [HX3.out]; exact of_decide_eq_true HQB.out)])
          go_wp2_with fail
          refine HF.out.mono ?_
          rintro e w9 ⟨⟨q, rfl⟩, hs9, hc9⟩
          have HP10 : Bx (PaR w w9 b gq gs gr gm cs1 s4) := bx (by rw [HE.out]; exact HP9.out.next hs9 hc9)
          clear hs9 hc9
          go_wp2
          go_meet
          case rel => exact ⟨rfl, rfl, HP10⟩
        | false =>
          have HE : Bx (s4 = stR r3) := bx (by rw [← HS4.out, if_neg (by rw [HX3.out]; exact of_decide_eq_false HQB.out)])
          have HP10 : Bx (PaR w w8 b gq gs gr gm cs1 s4) := bx (by rw [HE.out]; exact HP9.out)
          go_wp2
          go_meet
          case rel => exact ⟨rfl, rfl, HP10⟩
        -- DEV}
      case rest =>
        obtain ⟨rfl, rfl, HPA⟩ := hcut
        clear HP9 m1
        obtain ⟨r5, hr5⟩ : ∃ r, onR s4 (rdN 2) b = r := ⟨_, rfl⟩
        have HN5 := bx (snum_small gs gr 2 b s4 wc HPA.out.src (by decide) (by decide))
        have hv5 := valN_lt 2 s4 b
        rw [hr5] at HN5 hv5
        obtain ⟨k, hk⟩ : ∃ k : Nat, valN r5 = (k : Int) := ⟨(valN r5).toNat, by omega⟩
        rw [hk] at HN5 hv5
        have HV5 : Bx (k < 65536) := bx (by have := hv5.2; have : (k : Int) < 65536 := this; omega)
        have HR5 := bx hr5
        have HK5 := bx hk
        obtain ⟨s6, hs6⟩ : ∃ s, (if (k : Int) < 1 ∨ 1024 < (k : Int) then failR (stR r5) 24 else stR r5) = s := ⟨_, rfl⟩
        have HS6 := bx hs6
        obtain ⟨qc, hqc⟩ : ∃ q, decide ((k : Int) < 1 ∨ 1024 < (k : Int)) = q := ⟨_, rfl⟩
        have HQC := bx hqc
        clear hr5 hk hv5 hs6 hqc
        go_step
        go_wp2_with fail
        refine HN5.out.mono ?_
        rintro e w10 ⟨rfl, hs10, hc10⟩
        have HP11 := bx (HPA.out.next hs10 hc10)
        clear hs10 hc10 HN5 HPA
        go_upto_region 11 with (fail)
        go_cut [45] (fun v wx => v = .bool qc ∧ w10 = wx)
        case first =>
          -- DEV{
          by_cases ha : (k : Int) < 1
          · have HE : Bx (qc = true) := bx (by rw [← HQC.out]; exact decide_eq_true (.inl ha))
            go_wp2
            go_meet
            case rel => exact ⟨by rw [HE.out]; try rfl, rfl⟩
          · by_cases hb : 1024 < (k : Int)
            · have HE : Bx (qc = true) := bx (by rw [← HQC.out]; exact decide_eq_true (.inr hb))
              go_wp2
              go_meet
              case rel => exact ⟨by rw [HE.out]; try rfl, rfl⟩
            · have HE : Bx (qc = false) := bx (by rw [← HQC.out]; exact decide_eq_false (by omega))
              go_wp2
              go_meet
              case rel => exact ⟨by rw [HE.out]; try rfl, rfl⟩
          -- DEV}
        case rest =>
        obtain ⟨rfl, rfl⟩ := hcut
        go_upto_if 45 with (fail)
        go_cut [4, 5, 6] (fun v v5 v6 wx => v = .pointer (some ⟨gs, 0, none⟩) ∧ v5 = .pointer (some ⟨gm, 0, none⟩) ∧ v6 = .int .i64 (k : Int) ∧ Bx (PaR w wx b gq gs gr gm cs1 s6))
        case first =>
          -- DEV{
          have HF := bx (sfail_any gs gr b (stR r5) 24 w10 HP11.out.src (by decide))
          cases qc with
          | true =>
            have HE : Bx (s6 = failR (stR r5) 24) := bx (by rw [← HS6.out, if_pos (of_decide_eq_true HQC.out)])
            go_wp2_with fail
            refine HF.out.mono ?_
            rintro e w9 ⟨⟨q, rfl⟩, hs9, hc9⟩
            have HP12 : Bx (PaR w w9 b gq gs gr gm cs1 s6) := bx (by rw [HE.out]; exact HP11.out.next hs9 hc9)
            clear hs9 hc9
            go_wp2
            go_meet
            case rel => exact ⟨rfl, rfl, rfl, HP12⟩
          | false =>
            have HE : Bx (s6 = stR r5) := bx (by rw [← HS6.out, if_neg (of_decide_eq_false HQC.out)])
            have HP12 : Bx (PaR w w10 b gq gs gr gm cs1 s6) := bx (by rw [HE.out]; exact HP11.out)
            go_wp2
            go_meet
            case rel => exact ⟨rfl, rfl, rfl, HP12⟩
          -- DEV}
        case rest =>
          obtain ⟨rfl, rfl, rfl, HPB⟩ := hcut
          clear HP11
          have HNW := bx (RS.new (fC := cstC) wc cst0 #[.int .i64 0, .int .i64 0, .int .i64 0, .int .i64 0, .string ⟨#[]⟩] rfl 53 (0, 0))
          have HBA := bx (bl_alloc (Below.refl wc.heap.size wc) (Nat.le_refl _) (.cells #[.int .i64 0, .int .i64 0, .int .i64 0, .int .i64 0, .string ⟨#[]⟩] 53))
          have m2 : wc.cell? ⟨gm, 2, none⟩ = some (.slice none 0 0) := (HPB.out.im.cell 2).trans (by rw [← HCS1.out]; rfl)
          have hz6 : wc.heap.size ≤ (wc.alloc (.cells #[.int .i64 0, .int .i64 0, .int .i64 0, .int .i64 0, .string ⟨#[]⟩] 53)).heap.size := HBA.out.size
          go_step
          go_wp2_with (at_builtin; refine wpList_appS _ cstCels rfl (.tmp 49) (.tmp 51) rfl cstTy (by decide) wc.heap.size (.slice none 0 0) [] rfl OwS.nil (wc.heap.size + 1) (some ⟨wc.heap.size, 0, none⟩) 1 1 [cst0] rfl rfl HNW.out (by decide) hz6 ?_; intro V7 w7 hO7 hg7 hv7 hb7; obtain ⟨A7, c7, e7, -, -⟩ := OwS.rd hO7; replace e7 : V7 = .slice A7 1 c7 := e7; subst e7; have HO7 := bx hO7; have HP7 := bx (HPB.out.below (HBA.out.trans hb7)); have m27 : w7.cell? ⟨gm, 2, none⟩ = some (.slice none 0 0) := (HP7.out.im.cell 2).trans (by rw [← HCS1.out]; rfl); have z27 : w7.frozen? ⟨gm, 2, none⟩ = false := HP7.out.im.frz 2; clear hO7 hg7 hv7 hb7)
          have hgm : gm + 1 ≤ wc.heap.size := HPB.out.im.lt
          have HPP : Bx (PaP w (w7.setCell ⟨gm, 2, none⟩ (.slice A7 1 c7)) b gq gs gr gm cs1 (.slice A7 1 c7) [cst0] s6) := bx ⟨HP7.out.set 2 _, (HO7.out.low hgm).set_other (fun e => by have := (HO7.out.blk e).1; simp only at this; omega) _⟩
          obtain ⟨R7, hR7⟩ : ∃ R, poolR b [cst0] s6 k (k - 1) = R := ⟨_, rfl⟩
          have HR7 := bx hR7
          have HK0 := bx (PoolAt.start HS6.out)
          clear m27 z27 hgm hR7 HP7 HO7 HPB HBA HNW m2 hz6
          generalize w7.setCell ⟨gm, 2, none⟩ (.slice A7 1 c7) = w8 at HPP ⊢
          go_loopw [] (fun wx => ∃ (A : Option Addr) (c : Nat) (L : List Cst) (s' : Rz Nat) (f m : Nat), Bx (PaP w wx b gq gs gr gm cs1 (.slice A (L.length + 1) c) (cst0 :: L) s') ∧ Bx (poolR b (cst0 :: L) s' f m = R7) ∧ Bx (PoolAt L s' f m k)) (fun wx => poolM gm k wx)
          case atStart => exact ⟨A7, c7, [], s6, k, k - 1, HPP, HR7, HK0⟩
          case round =>
            clear HPP HK0
            obtain ⟨A, c, L, s', f, m, HP, HRR, HKK⟩ := hrel
            obtain ⟨nV, hnV⟩ : ∃ nV, L.length + 1 = nV := ⟨_, rfl⟩
            have HNV := bx hnV
            rw [hnV] at HP
            clear hnV
            have m2 : wr.cell? ⟨gm, 2, none⟩ = some (.slice A nV c) := (HP.out.par.im.cell 2).trans (by rw [← HCS1.out]; rfl)
            obtain ⟨qd, hqd⟩ : ∃ q : Bool, (q = true ↔ nV < k ∧ ∃ p, s' = .ok p) := bool_of _
            have HQD := bx hqd
            clear hqd
            go_upto_region 14 with (fail)
            go_cut [65] from 54 to 89 (fun v wx => v = .bool qd ∧ wr = wx)
            case first =>
              -- DEV{
              cases s' with
              | err e =>
                have HE : Bx (qd = false) := bx (Bool.eq_false_iff.2 fun h => by obtain ⟨_, p, hp⟩ := HQD.out.1 h; cases hp)
                obtain ⟨hB1, hk0⟩ := HP.out.par.src.err_
                have c1 : wr.cell? ⟨gs, 1, none⟩ = some (.int .i64 e) := (hB1.cell 1).trans rfl
                have hkI : (e == 0) = false := by rw [beq_eq_false_iff_ne]; exact hk0
                clear hB1 hk0
                by_cases hl : nV < k
                · have hlI : (nV : Int) < (k : Int) := by omega
                  clear hl
                  go_wp2
                  go_meet
                  case rel => exact ⟨by rw [HE.out]; try rfl, rfl⟩
                · have hlI : ¬ (nV : Int) < (k : Int) := by omega
                  clear hl
                  go_wp2
                  go_meet
                  case rel => exact ⟨by rw [HE.out]; try rfl, rfl⟩
              | ok p =>
                obtain ⟨hB1, _, _⟩ := HP.out.par.src.ok_
                have c1 : wr.cell? ⟨gs, 1, none⟩ = some (.int .i64 0) := (hB1.cell 1).trans rfl
                clear hB1
                by_cases hl : nV < k
                · have HE : Bx (qd = true) := bx (HQD.out.2 ⟨hl, p, rfl⟩)
                  have hlI : (nV : Int) < (k : Int) := by omega
                  clear hl
                  go_wp2
                  go_meet
                  case rel => exact ⟨by rw [HE.out]; try rfl, rfl⟩
                · have HE : Bx (qd = false) := bx (Bool.eq_false_iff.2 fun h => hl (HQD.out.1 h).1)
                  have hlI : ¬ (nV : Int) < (k : Int) := by omega
                  clear hl
                  go_wp2
                  go_meet
                  case rel => exact ⟨by rw [HE.out]; try rfl, rfl⟩
              -- DEV}
            case rest =>
            obtain ⟨rfl, rfl⟩ := hcut
            cases qd with
            | false =>
              have he := HKK.out.done (fun h => by
                have := HQD.out.2 ⟨by rw [← HNV.out]; exact h.1, h.2⟩
                cases this)
              have HE7 := bx (pool_end HRR.out he)
              obtain ⟨x0, hx0⟩ : ∃ x : ImE, x = ⟨x2, x3, A, nV, c, cst0 :: L, 0, 0, 0, none, 0, 0, [], none, 0, 0, [], none, 0, 0, [], none, 0, 0, []⟩ := ⟨_, rfl⟩
              have HX : Bx (PaX w wr b gq gs gr gm wr.heap.size x0 s') := bx (by
                have h := HP.out
                rw [← HCS1.out] at h
                rw [hx0]; exact h.fin)
              have HX0 := bx hx0
              obtain ⟨he1, HL7⟩ : stR R7 = s' ∧ Bx (∀ x, R7 = .ok x → (cst0 :: L) = x.1) := ⟨HE7.out.1, bx HE7.out.2⟩
              clear HE7
              subst he1
              clear he hx0 HP HRR HKK HQD m2
              go_step
              obtain ⟨r8, hr8⟩ : ∃ r, onR (stR R7) (rdN 2) b = r := ⟨_, rfl⟩
              have HN8 := bx (snum_small gs gr 2 b (stR R7) wr HX.out.par.src (by decide) (by decide))
              rw [hr8] at HN8
              obtain ⟨v8, hv8⟩ : ∃ x, valN r8 = x := ⟨_, rfl⟩
              rw [hv8] at HN8
              have HR8 := bx hr8
              have HV8 := bx hv8
              clear hr8 hv8
              go_wp2_with fail
              refine HN8.out.mono ?_
              rintro e w11 ⟨rfl, hs11, hc11⟩
              have HXa := bx (HX.out.next hs11 hc11)
              have m3 : w11.cell? ⟨gm, 3, none⟩ = some (.int .i64 x0.access) := HXa.out.par.im.im3 rfl
              have z3 : w11.frozen? ⟨gm, 3, none⟩ = false := HXa.out.par.im.frz 3
              clear hs11 hc11 HN8 HX
              obtain ⟨x1, hx1⟩ : ∃ x : ImE, x = { x0 with access := v8 } := ⟨_, rfl⟩
              have HXb := bx (HXa.out.num3 v8)
              rw [← hx1] at HXb
              have HX1 := bx hx1
              clear hx1 HXa
              go_upto_region 22 with (fail)
              clear m3 z3
              generalize w11.setCell ⟨gm, 3, none⟩ (.int .i64 v8) = w12 at HXb ⊢
              obtain ⟨r9, hr9⟩ : ∃ r, onR (stR r8) (rdN 2) b = r := ⟨_, rfl⟩
              have HN9 := bx (snum_small gs gr 2 b (stR r8) w12 HXb.out.par.src (by decide) (by decide))
              rw [hr9] at HN9
              obtain ⟨v9, hv9⟩ : ∃ x, valN r9 = x := ⟨_, rfl⟩
              rw [hv9] at HN9
              have HR9 := bx hr9
              have HV9 := bx hv9
              clear hr9 hv9
              go_wp2_with fail
              refine HN9.out.mono ?_
              rintro e w13 ⟨rfl, hs11, hc11⟩
              have HXa := bx (HXb.out.next hs11 hc11)
              have m3 : w13.cell? ⟨gm, 4, none⟩ = some (.int .i64 x1.this) := HXa.out.par.im.im4 rfl
              have z3 : w13.frozen? ⟨gm, 4, none⟩ = false := HXa.out.par.im.frz 4
              clear hs11 hc11 HN9 HXb
              obtain ⟨x4, hx4⟩ : ∃ x : ImE, x = { x1 with this := v9 } := ⟨_, rfl⟩
              have HXb := bx (HXa.out.num4 v9)
              rw [← hx4] at HXb
              have HX4 := bx hx4
              clear hx4 HXa
              go_upto_region 23 with (fail)
              clear m3 z3
              generalize w13.setCell ⟨gm, 4, none⟩ (.int .i64 v9) = w14 at HXb ⊢
              obtain ⟨r10, hr10⟩ : ∃ r, onR (stR r9) (rdN 2) b = r := ⟨_, rfl⟩
              have HN10 := bx (snum_small gs gr 2 b (stR r9) w14 HXb.out.par.src (by decide) (by decide))
              rw [hr10] at HN10
              obtain ⟨v10, hv10⟩ : ∃ x, valN r10 = x := ⟨_, rfl⟩
              rw [hv10] at HN10
              have HR10 := bx hr10
              have HV10 := bx hv10
              clear hr10 hv10
              go_wp2_with fail
              refine HN10.out.mono ?_
              rintro e w15 ⟨rfl, hs11, hc11⟩
              have HXa := bx (HXb.out.next hs11 hc11)
              have m3 : w15.cell? ⟨gm, 5, none⟩ = some (.int .i64 x4.super) := HXa.out.par.im.im5 rfl
              have z3 : w15.frozen? ⟨gm, 5, none⟩ = false := HXa.out.par.im.frz 5
              clear hs11 hc11 HN10 HXb
              obtain ⟨x5, hx5⟩ : ∃ x : ImE, x = { x4 with super := v10 } := ⟨_, rfl⟩
              have HXb := bx (HXa.out.num5 v10)
              rw [← hx5] at HXb
              have HX5 := bx hx5
              clear hx5 HXa
              go_upto_region 24 with (fail)
              clear m3 z3
              generalize w15.setCell ⟨gm, 5, none⟩ (.int .i64 v10) = w16 at HXb ⊢
              have HMY := bx (smany_any gs gr b (stR r10) w16 HXb.out.par.src)
              obtain ⟨rc, hrc⟩ : ∃ r, onR (stR r10) cntI b = r := ⟨_, rfl⟩
              have hvc := cnt_le (s := stR r10) (b := b)
              rw [hrc] at HMY hvc
              obtain ⟨ni, hni⟩ : ∃ ni : Nat, valN rc = (ni : Int) := ⟨(valN rc).toNat, by omega⟩
              rw [hni] at HMY hvc
              obtain ⟨RR, hRR⟩ : ∃ R, repR (rdN 2) b [] (stR rc) ni = R := ⟨_, rfl⟩
              obtain ⟨r11, hr11⟩ : ∃ r : Rz (List Int × Nat), (RR.bind fun z => .ok (z.1.map (fun x : Nat => (x : Int)), z.2)) = r := ⟨_, rfl⟩
              have HR11 : Bx (onR (stR r10) ifP b = r11) := bx (by rw [if_chain hrc hni, hRR]; exact hr11)
              have HRB := bx hr11
              have HRR := bx hRR
              have hn64 : ni ≤ 64 := by omega
              have HN64 : Bx (([] : List Nat).length + ni ≤ 64) := bx (by simpa using hn64)
              clear hrc hvc hni hRR hr11 hn64
              go_wp2_with fail
              refine HMY.out.mono ?_
              rintro e w17 ⟨rfl, hs11, hc11⟩
              have HXc := bx (HXb.out.next hs11 hc11)
              have HPI := bx (HXc.out.start (V := .slice none 0 0) (by rw [HX5.out, HX4.out, HX1.out, HX0.out]) rfl)
              have HN17 := bx HXc.out.le
              clear hs11 hc11 HMY HXb HXc
              obtain ⟨n17, hn17⟩ : ∃ n, w17.heap.size = n := ⟨_, rfl⟩
              rw [hn17] at HPI
              clear hn17 HN17
              obtain ⟨wb, hwb⟩ : ∃ wb, wb = wr := ⟨_, rfl⟩
              subst hwb
              go_wp2_with fail
              go_loopw [8] (fun nv wx => ∃ (A : Option Addr) (c m : Nat) (LN : List Nat) (s' : Rz Nat), nv = .int .i64 (m : Int) ∧ Bx (LN.length + m ≤ 64) ∧ Bx (PaI w wx b gq gs gr gm n17 x5 (.slice A LN.length c) (LN.map (fun x : Nat => (x : Int))) s') ∧ Bx (repR (rdN 2) b LN s' m = RR)) (fun nv _ => (intOf nv).toNat)
              case atStart => exact ⟨none, 0, ni, [], stR rc, rfl, HN64, HPI, HRR⟩
              case round =>
                clear HPI HRR HN64
                obtain ⟨Ai, ci, m, LN, s', rfl, HLM, HP, HRX⟩ := hrel
                obtain ⟨nI, hnI⟩ : ∃ nI, LN.length = nI := ⟨_, rfl⟩
                have HNI := bx hnI
                rw [hnI] at HP
                clear hnI
                cases m with
                | zero =>
                  have HE11 := bx (if_end HRX.out HRB.out)
                  have HX := bx HP.out.fin
                  have hmI : ¬ (0 : Int) < ((0 : Nat) : Int) := by omega
                  obtain ⟨he11, HL11⟩ : stR r11 = s' ∧ Bx (∀ x, r11 = .ok x → LN.map (fun x : Nat => (x : Int)) = x.1) := ⟨HE11.out.1, bx HE11.out.2⟩
                  clear HP HRX HLM HE11
                  subst he11
                  obtain ⟨x6, hx6⟩ : ∃ x : ImE, x = { x5 with iA := Ai, i_n := nI, ic := ci, ifs := LN.map (fun x : Nat => (x : Int)) } := ⟨_, rfl⟩
                  rw [← hx6] at HX
                  have HX6 := bx hx6
                  clear hx6
                  obtain ⟨r12, hr12⟩ : ∃ r, onR (stR r11) memsP b = r := ⟨_, rfl⟩
                  have HM12 := bx (smems_any gs gr b (stR r11) wr HX.out.par.src)
                  rw [hr12] at HM12
                  have HR12 := bx hr12
                  obtain ⟨n12, hn12⟩ : ∃ n, wr.heap.size = n := ⟨_, rfl⟩
                  have HN12 := bx hn12
                  clear hr12 hn12
                  go_wp2_with fail
                  refine HM12.out.mono ?_
                  rintro e w20 ⟨V1, L1, rfl, hmm1, hl1, hx1⟩
                  have HMM1 := bx hmm1
                  have HL12 := bx hx1
                  have HXa := bx (HX.out.next hmm1.src hmm1.ch)
                  clear hmm1 hl1 hx1 HM12 HX
                  obtain ⟨r13, hr13⟩ : ∃ r, onR (stR r12) memsP b = r := ⟨_, rfl⟩
                  have HM13 := bx (smems_any gs gr b (stR r12) w20 HXa.out.par.src)
                  rw [hr13] at HM13
                  have HR13 := bx hr13
                  clear hr13
                  go_wp2_with fail
                  refine HM13.out.mono ?_
                  rintro e w21 ⟨V2, L2, rfl, hmm2, hl2, hx2⟩
                  have HMM2 := bx hmm2
                  have HL13 := bx hx2
                  have HXb := bx (HXa.out.next hmm2.src hmm2.ch)
                  have hgn : gm < wr.heap.size := HXa.out.gn
                  have hgo : gm < w20.heap.size := Nat.lt_of_lt_of_le hgn HXa.out.le
                  obtain ⟨A1, c1, e1, -, -⟩ := OwS.rd HMM1.out.own
                  obtain ⟨n1, hn1⟩ : ∃ n, L1.length = n := ⟨_, rfl⟩
                  rw [hn1] at e1
                  subst e1
                  obtain ⟨A2, c2, e2, -, -⟩ := OwS.rd HMM2.out.own
                  obtain ⟨n2, hn2⟩ : ∃ n, L2.length = n := ⟨_, rfl⟩
                  rw [hn2] at e2
                  subst e2
                  have HF1 := bx (mems_x (HMM1.out.own.ch hmm2.ch (HXa.out.par.two hgn)) (HMM1.out.sub.ch hmm2.ch (HXa.out.par.two hgn)) hgn)
                  have HF2 := bx (mems_x HMM2.out.own HMM2.out.sub hgo)
                  have HXc := bx (HXb.out.top.mem2 HF1.out HF2.out)
                  have m7 : w21.cell? ⟨gm, 7, none⟩ = some (.slice x6.fA x6.fn x6.fc) := HXb.out.par.im.im7 rfl
                  have m8 : w21.cell? ⟨gm, 8, none⟩ = some (.slice x6.mA x6.mn x6.mc) := HXb.out.par.im.im8 rfl
                  have z7 : w21.frozen? ⟨gm, 7, none⟩ = false := HXb.out.par.im.frz 7
                  have z8 : w21.frozen? ⟨gm, 8, none⟩ = false := HXb.out.par.im.frz 8
                  obtain ⟨x8, hx8⟩ : ∃ x : ImE, x = { x6 with fA := A1, fn := n1, fc := c1, fs := L1, mA := A2, mn := n2, mc := c2, ms := L2 } := ⟨_, rfl⟩
                  rw [← hx8] at HXc
                  have HX8 := bx hx8
                  obtain ⟨n21, hn21⟩ : ∃ n, w21.heap.size = n := ⟨_, rfl⟩
                  rw [hn21] at HXc
                  clear hn21 hx8 hmm2 hl2 hx2 HM13 HXa HXb hgn hgo hn1 hn2 HF1 HF2 HMM1 HMM2
                  go_upto_region 29 with (fail)
                  clear m7 m8 z7 z8
                  generalize (w21.setCell ⟨gm, 7, none⟩ (.slice A1 n1 c1)).setCell ⟨gm, 8, none⟩ (.slice A2 n2 c2) = w22 at HXc ⊢
                  obtain ⟨r14, hr14⟩ : ∃ r, onR (stR r13) attsP b = r := ⟨_, rfl⟩
                  have HM14 := bx (sattrs_any gs gr b (stR r13) w22 HXc.out.par.src)
                  rw [hr14] at HM14
                  have HR14 := bx hr14
                  clear hr14
                  go_wp2_with fail
                  refine HM14.out.mono ?_
                  rintro e w23 ⟨V3, L3, rfl, hmm3, hl3, hx3⟩
                  have HL14 := bx hx3
                  have HXd := bx (HXc.out.next hmm3.src hmm3.ch)
                  have hgo : gm < w22.heap.size := Nat.lt_of_lt_of_le HXc.out.gn HXc.out.le
                  obtain ⟨A3, c3, e3, -, -⟩ := OwS.rd hmm3.own
                  obtain ⟨n3, hn3⟩ : ∃ n, L3.length = n := ⟨_, rfl⟩
                  rw [hn3] at e3
                  subst e3
                  have HF3 := bx (atts_x hmm3.own hmm3.sub hgo)
                  have HXe := bx (HXd.out.top.att1 HF3.out)
                  have m9 : w23.cell? ⟨gm, 9, none⟩ = some (.slice x8.aA x8.an x8.ac) := HXd.out.par.im.im9 rfl
                  have z9 : w23.frozen? ⟨gm, 9, none⟩ = false := HXd.out.par.im.frz 9
                  obtain ⟨x9, hx9⟩ : ∃ x : ImE, x = { x8 with aA := A3, an := n3, ac := c3, as_ := L3 } := ⟨_, rfl⟩
                  rw [← hx9] at HXe
                  have HX9 := bx hx9
                  obtain ⟨n23, hn23⟩ : ∃ n, w23.heap.size = n := ⟨_, rfl⟩
                  rw [hn23] at HXe
                  clear hn23 hx9 hmm3 hl3 hx3 HM14 HXd HXc hgo hn3 HF3
                  go_upto_region 30 with (fail)
                  clear m9 z9
                  generalize w23.setCell ⟨gm, 9, none⟩ (.slice A3 n3 c3) = w24 at HXe ⊢
                  have HP0 : Bx ((x9.p = ⟨x2, x3, cst0 :: L, v8, v9, v10, LN.map (fun x : Nat => (x : Int)), L1.map MmE.p, L2.map MmE.p, L3.map AtE.p⟩)) := bx (by
                    rw [HX9.out, HX8.out, HX6.out, HX5.out, HX4.out, HX1.out, HX0.out]; rfl)
                  have HFIN : Bx (W = (fin15 r14 b x9.p).bind (fun _ => .ok x9.p) ∧ ∀ z, r14 = .ok z → imgP b 0 = .ok (x9.p, z.2)) := bx (by
                    have hc1 := img_chain HR0.out HS1.out
                    have hc2 := im2_chain HR2.out HR3.out HS4.out
                    have hc5 := im5_chain (mi := (valN r2).toNat) (ma := (valN r3).toNat) HR5.out HK5.out HS6.out
                    rw [← HW.out]
                    refine parse_fin (by rw [HL.out]; omega) (hc1.trans (hc2.trans hc5)) HR7.out HR8.out HR9.out HR10.out HR11.out HR12.out HR13.out HR14.out HL7.out HL11.out HL12.out HL13.out HL14.out ?_
                    rw [HP0.out, HX2.out, HX3.out, HV8.out, HV9.out, HV10.out, Int.toNat_of_nonneg HV2.out.1, Int.toNat_of_nonneg HV3.out.1])
                  obtain ⟨qz, hqz⟩ : ∃ q : Bool, (q = true ↔ ∃ z, r14 = .ok z ∧ (z.2 ≠ b.length ∨ holdsP x9.p = false)) := bool_of _
                  have HQZ := bx hqz
                  obtain ⟨s15, hs15⟩ : ∃ s, fin15 r14 b x9.p = s := ⟨_, rfl⟩
                  have HS15 := bx hs15
                  clear hqz hs15
                  go_cut [138] from 121 to 138 (fun v wx => v = .bool qz ∧ Bx (PaX w wx b gq gs gr gm n23 x9 (stR r14)))
                  case first =>
                    -- DEV{
                    cases r14 with
                    | err k9 =>
                      have HE : Bx (qz = false) := bx (Bool.eq_false_iff.2 fun h => by obtain ⟨z, hz, _⟩ := HQZ.out.1 h; cases hz)
                      have hsr : Src w24 gs gr b (.err k9) := HXe.out.par.src
                      obtain ⟨hB1, hk0⟩ := hsr.err_
                      have c1 : w24.cell? ⟨gs, 1, none⟩ = some (.int .i64 k9) := (hB1.cell 1).trans rfl
                      have hkI : (k9 == 0) = false := by rw [beq_eq_false_iff_ne]; exact hk0
                      clear hB1 hk0 hsr
                      go_wp2
                      go_meet
                      case rel => exact ⟨by rw [HE.out]; try rfl, HXe⟩
                    | ok z =>
                      have hsr : Src w24 gs gr b (.ok z.2) := HXe.out.par.src
                      obtain ⟨hB1, hR1, _⟩ := hsr.ok_
                      have c0 : w24.cell? ⟨gs, 0, none⟩ = some (.pointer (some ⟨gr, 0, none⟩)) := (hB1.cell 0).trans rfl
                      have c1 : w24.cell? ⟨gs, 1, none⟩ = some (.int .i64 0) := (hB1.cell 1).trans rfl
                      have hle : z.2 ≤ b.length := by obtain ⟨_, _, _, _, _, _, _, h⟩ := hR1; exact h
                      obtain ⟨lf, hlf⟩ : ∃ lf : Nat, (b.length : Int) - (z.2 : Int) = (lf : Int) := ⟨b.length - z.2, by omega⟩
                      have HLF := bx (left_any gr b z.2 false w24 hR1)
                      rw [hlf] at HLF
                      have HLE : Bx (lf = 0 ↔ z.2 = b.length) := bx (by omega)
                      clear hB1 hR1 hsr hle hlf
                      go_wp2_with fail
                      refine HLF.out.mono ?_
                      rintro e w25 ⟨rfl, q, hq⟩
                      have HXf : Bx (PaX w w25 b gq gs gr gm n23 x9 (stR (.ok z))) := bx (by rw [hq]; exact HXe.out.below (below_drewN (Below.refl _ _) q))
                      clear hq HLF c0 c1
                      by_cases hl : lf = 0
                      · have hlI : ¬ (0 : Int) < (lf : Int) := by omega
                        have hzl := HLE.out.1 hl
                        have HH := bx (holds_any x9 w25 HXf.out.rim (by
                          have := img_texts (HFIN.out.2 z rfl)
                          exact this))
                        have HZL := bx hzl
                        obtain ⟨hb9, hhb⟩ : ∃ h, holdsP x9.p = h := ⟨_, rfl⟩
                        rw [hhb] at HH
                        have HHB := bx hhb
                        have f0 := HXf.out.par.im.im0 rfl
                        have f1 := HXf.out.par.im.im1 rfl
                        have f2 := HXf.out.par.im.im2 rfl
                        have f3 := HXf.out.par.im.im3 rfl
                        have f4 := HXf.out.par.im.im4 rfl
                        have f5 := HXf.out.par.im.im5 rfl
                        have f6 := HXf.out.par.im.im6 rfl
                        have f7 := HXf.out.par.im.im7 rfl
                        have f8 := HXf.out.par.im.im8 rfl
                        have f9 := HXf.out.par.im.im9 rfl
                        clear hl hzl hhb
                        go_wp2_with fail
                        refine HH.out.mono ?_
                        rintro e w26 ⟨rfl, hb26⟩
                        have HXg := bx (HXf.out.below hb26)
                        clear hb26 HH f0 f1 f2 f3 f4 f5 f6 f7 f8 f9
                        cases hb9 with
                        | true =>
                          have HE : Bx (qz = false) := bx (Bool.eq_false_iff.2 fun h => by
                            obtain ⟨z', hz, hh⟩ := HQZ.out.1 h
                            injection hz with hz
                            subst hz
                            rcases hh with hh | hh
                            · exact hh HZL.out
                            · rw [HHB.out] at hh; cases hh)
                          go_wp2
                          go_meet
                          case rel => exact ⟨by rw [HE.out]; try rfl, HXg⟩
                        | false =>
                          have HE : Bx (qz = true) := bx (HQZ.out.2 ⟨z, rfl, .inr HHB.out⟩)
                          go_wp2
                          go_meet
                          case rel => exact ⟨by rw [HE.out]; try rfl, HXg⟩
                      · have hlI : (0 : Int) < (lf : Int) := by omega
                        have HE : Bx (qz = true) := bx (HQZ.out.2 ⟨z, rfl, .inl (fun e => hl (HLE.out.2 e))⟩)
                        clear hl
                        go_wp2
                        go_meet
                        case rel => exact ⟨by rw [HE.out]; try rfl, HXf⟩
                    -- DEV}
                  case rest =>
                  obtain ⟨rfl, HXf⟩ := hcut
                  clear HXe
                  go_upto_if 138 with (fail)
                  go_cut [] from 139 to 140 (fun wx => Bx (PaX w wx b gq gs gr gm n23 x9 s15))
                  case first =>
                    -- DEV{
                    cases qz with
                    | true =>
                      have HF := bx (sfail_any gs gr b (stR r14) 24 wc HXf.out.par.src (by decide))
                      have HE : Bx (s15 = failR (stR r14) 24) := bx (by rw [← HS15.out, fin15_true (HQZ.out.1 rfl)])
                      go_wp2_with fail
                      refine HF.out.mono ?_
                      rintro e w27 ⟨⟨q, rfl⟩, hs9, hc9⟩
                      have HXg : Bx (PaX w w27 b gq gs gr gm n23 x9 s15) := bx (by rw [HE.out]; exact HXf.out.next hs9 hc9)
                      clear hs9 hc9
                      go_wp2
                      go_meet
                      case rel => exact HXg
                    | false =>
                      have HE : Bx (s15 = stR r14) := bx (by rw [← HS15.out, fin15_false (fun h => by have := HQZ.out.2 h; cases this)])
                      have HXg : Bx (PaX w wc b gq gs gr gm n23 x9 s15) := bx (by rw [HE.out]; exact HXf.out)
                      go_wp2
                      go_meet
                      case rel => exact HXg
                    -- DEV}
                  case rest =>
                  replace hcut : Bx (PaX w wc b gq gs gr gm n23 x9 s15) := hcut
                  obtain ⟨wd, hwd⟩ : ∃ wd, wd = wc := ⟨_, rfl⟩
                  rw [← hwd] at hcut ⊢
                  clear hwd HXf
                  have HWE : Bx (W = s15.bind (fun _ => .ok x9.p)) := bx (by rw [HFIN.out.1, HS15.out])
                  cases s15 with
                  | err k9 =>
                    have HWE2 : Bx (W = .err k9) := bx HWE.out
                    obtain ⟨hB1, hk0⟩ := hcut.out.par.src.err_
                    have HK0 := bx hk0
                    have c1 : wd.cell? ⟨gs, 1, none⟩ = some (.int .i64 k9) := (hB1.cell 1).trans rfl
                    have hkI : (k9 != 0) = true := by rw [bne_iff_ne]; exact hk0
                    clear hB1 hk0
                    have HKQ := bx hcut.out.par.zr
                    have hS0 : wd.drew.cell? ⟨gs, 1, none⟩ = some (.int .i64 k9) := c1
                    have hS1 : (wd.drew.setRow gq imZ).cell? ⟨gs, 1, none⟩ = some (.int .i64 k9) := (cell_same (p := ⟨gs, 1, none⟩) (heap_setRow wd.drew gq imZ gs (fun e => hcut.out.par.ne.1 e.symm))).trans c1
                    go_upto_region 33 with (fail)
                    obtain ⟨F, hF⟩ : ∃ F, setF wd.drew gq imZ = F := ⟨_, rfl⟩
                    have hF0 : wd.drew = F 0 := by rw [← hF]; rfl
                    have hF1 : (F 0).setRow gq imZ = F 1 := by rw [← hF]; rfl
                    have hFc : ∀ n, (F n).cell? ⟨gs, 1, none⟩ = some (.int .i64 k9) := fun n => by
                      rw [← hF]
                      cases n with
                      | zero => exact hS0
                      | succ n => exact hS1
                    have HF0 := bx hF0
                    have HF1 := bx hF1
                    have HFK : Bx (Bk (F 0) gq 29 imZ) := bx (by rw [← hF0]; exact HKQ.out.drewN 1)
                    have HFB : Bx (Below w.heap.size w (F 0)) := bx (by rw [← hF0]; exact below_drewN hcut.out.par.bel 1)
                    clear hF hF0 hF1 hS0 hS1 c1
                    refine wp_region_same 5 F (by kernel_rfl) (by kernel_rfl) (by kernel_rfl) (by kernel_rfl) (by decide) HF0.out (fun _ _ _ d _ h => by cases d <;> exact h) ?_
                    simp only [List.take_succ_cons, List.take_zero, List.drop_succ_cons, List.drop_zero]
                    repeat (
                      refine wpSame_step (fun K hK => ?_)
                      simp only [SameAt]
                      go_simp
                      refine hK _ ?_
                      clear hK K)
                    refine wpSame_nil ?_
                    refine wpChain_step rfl (fun K hK => ?_)
                    refine wp_store_row 29 (.tmp 2) (.tmp 146) rfl gq imZ rfl rfl 29 imZ HFK.out info_image rfl imZ_one ?_
                    rw [HF1.out]
                    refine hK _ _ ⟨1, rfl⟩ ?_
                    clear hK K
                    refine wpChain_step rfl (fun K hK => ?_)
                    go_simp
                    refine hK _ _ ⟨1, rfl⟩ ?_
                    clear hK K
                    refine wpChain_nil ?_
                    clear hFc
                    go_wp2
                    exact bodyPost_ret (v := .tuple #[.agg imZ, .int .i64 k9]) (results_img _ _ gq imZ rfl (by rw [← HF1.out]; exact HFK.out.setRow imZ) rfl) rfl (pp_err HWE2.out (by rw [← HF1.out]; exact bl_setRow HFB.out hcut.out.par.lo.1 imZ) HK0.out)
                  | ok p9 =>
                    have HWE2 : Bx (W = .ok x9.p) := bx HWE.out
                    obtain ⟨hB1, _, _⟩ := hcut.out.par.src.ok_
                    have c1 : wd.cell? ⟨gs, 1, none⟩ = some (.int .i64 0) := (hB1.cell 1).trans rfl
                    have HKQ := bx hcut.out.par.zr
                    have f0 := hcut.out.par.im.im0 rfl
                    have f1 := hcut.out.par.im.im1 rfl
                    have f2 := hcut.out.par.im.im2 rfl
                    have f3 := hcut.out.par.im.im3 rfl
                    have f4 := hcut.out.par.im.im4 rfl
                    have f5 := hcut.out.par.im.im5 rfl
                    have f6 := hcut.out.par.im.im6 rfl
                    have f7 := hcut.out.par.im.im7 rfl
                    have f8 := hcut.out.par.im.im8 rfl
                    have f9 := hcut.out.par.im.im9 rfl
                    clear hB1
                    go_wp2_with (refine wpList_store_row rfl 29 (.tmp 2) (.tmp 151) rfl gq (imC x9) rfl rfl 29 imZ HKQ.out info_image rfl (imC_one x9) ?_)
                    exact bodyPost_ret (v := .tuple #[.agg (imC x9), .int .i64 0]) (results_img _ _ gq (imC x9) rfl (HKQ.out.setRow (imC x9)) rfl) rfl (pp_ok HWE2.out (bl_setRow hcut.out.par.bel hcut.out.par.lo.1 (imC x9)) (by
                      have hr := hcut.out.rows.step (w' := wd.setRow gq (imC x9)) (fun k hk => heap_setRow wd gq (imC x9) k (fun e => by have := hcut.out.par.hi.2.2; have := hk.1; omega)) (fun _ h => h)
                      exact hr.rim (fun k hk => by have := hk.2; have := hcut.out.le; simpa [World.setRow] using (by omega : k < wd.heap.size))))
                | succ m =>
                  -- DEV{
                  have hmI : (0 : Int) < ((m + 1 : Nat) : Int) := by omega
                  have m6 : wr.cell? ⟨gm, 6, none⟩ = some (.slice Ai nI ci) := (HP.out.par.im.cell 6).trans rfl
                  have HPd := bx (HP.out.below (below_drewN (Below.refl wr.heap.size wr) 1))
                  obtain ⟨r, hr⟩ : ∃ r, onR s' (rdN 2) b = r := ⟨_, rfl⟩
                  have HN := bx (snum_small gs gr 2 b s' wr.drew HPd.out.par.src (by decide) (by decide))
                  have hv := valN_lt 2 s' b
                  rw [hr] at HN hv
                  obtain ⟨y, hy⟩ : ∃ y : Nat, valN r = (y : Int) := ⟨(valN r).toNat, by omega⟩
                  rw [hy] at HN
                  have HRN := bx (if_round HRX.out hr hy)
                  clear hr hv hy
                  have hS0 : wr.drew.cell? ⟨gm, 6, none⟩ = some (.slice Ai nI ci) := m6
                  have HB2 : Bx (((LN.map (fun x : Nat => (x : Int))).length + [(y : Int)].length) * 8 ≤ 140737488355328) := bx (by
                    have := HLM.out
                    simp only [List.length_map, List.length_cons, List.length_nil]; omega)
                  obtain ⟨nJ, hnJ⟩ : ∃ nJ, (LN ++ [y]).length = nJ := ⟨_, rfl⟩
                  have HNJ := bx hnJ
                  have HLL : Bx ((LN.map (fun x : Nat => (x : Int)) ++ [(y : Int)]).length = nJ) := bx (by rw [← hnJ]; simp)
                  have hm64 : m + 1 ≤ 64 := by have := HLM.out; omega
                  clear hnJ
                  clear m6
                  go_upto_region 27 with (fail)
                  go_region_law ((first
                    | (go_simp; go_at_call 25; refine HN.out.mono ?_; rintro e w2 ⟨rfl, hs2, hc2⟩; have HP1 := bx (HPd.out.next hs2 hc2); have hS1 : w2.cell? ⟨gm, 6, none⟩ = some (.slice Ai nI ci) := (HP1.out.par.im.cell 6).trans rfl; have HP2 := bx (HP1.out.below (bl_alloc (Below.refl w2.heap.size w2) (Nat.le_refl _) (.cells #[.int .i64 (y : Int)] 3))); have hS2 : (w2.alloc (.cells #[.int .i64 (y : Int)] 3)).cell? ⟨gm, 6, none⟩ = some (.slice Ai nI ci) := (HP2.out.par.im.cell 6).trans rfl; have hz2 := HP2.out.le; clear hs2 hc2 HP1)
                    | (refine step_appL (w2.alloc (.cells #[.int .i64 (y : Int)] 3)) iV_one rfl (.tmp 106) (.tmp 109) rfl ifTy (by decide) n17 (.slice Ai nI ci) (LN.map (fun x : Nat => (x : Int))) rfl HP2.out.own (w2.heap.size + 1) (some ⟨w2.heap.size, 0, none⟩) 1 1 [(y : Int)] rfl rfl (RL.freshe w2 _ rfl _) HB2.out hz2 ?_; intro V7 w7 hO7 hg7 hv7 hb7; obtain ⟨A7, c7, e7, -, -⟩ := OwL.rd hO7; replace e7 : V7 = .slice A7 nJ c7 := e7.trans (by rw [HLL.out]); subst e7; have HP7 := bx (HP2.out.app hO7 hb7); have hi7 := HP2.out.par.over hb7 HP2.out.gn; have hS3 : w7.cell? ⟨gm, 6, none⟩ = some (.slice Ai nI ci) := (hi7.im.cell 6).trans rfl; have z7 : w7.frozen? ⟨gm, 6, none⟩ = false := hi7.im.frz 6; clear hO7 hg7 hv7 hb7 hi7)))
                  all_goals (
                    have HP9 : Bx (PaI w (w7.setCell ⟨gm, 6, none⟩ (.slice A7 nJ c7)) b gq gs gr gm n17 x5 (.slice A7 (LN ++ [y]).length c7) ((LN ++ [y]).map (fun x : Nat => (x : Int))) (stR r)) := bx (by
                      rw [List.map_append, HNJ.out]; exact HP7.out)
                    have HLN : Bx ((LN ++ [y]).length + m ≤ 64) := bx (by
                      have := HLM.out
                      rw [List.length_append, List.length_singleton]; omega)
                    have HRM := bx HRN
                    clear HP7 HP2 HRN hz2 hS1 hS2 hS3 z7 hS0
                    go_wp2
                    go_roundw
                    case rel => exact ⟨A7, c7, m, LN ++ [y], stR r, by go_num, HLN, HP9, HRM.out⟩
                    case measure => simp [intOf])
                  -- DEV}
            | true =>
              -- DEV{
              have h9 := HQD.out.1 rfl
              obtain ⟨hl, p, hp⟩ := h9
              subst hp
              have hl0 : L.length + 1 < k := by rw [HNV.out]; exact hl
              obtain ⟨f', m', hf, hm, hLk, hk1⟩ := HKK.out.get hl0
              subst hf
              subst hm
              obtain ⟨R, hR⟩ : ∃ R, onR (.ok p) cstP b = R := ⟨_, rfl⟩
              have HCN := bx (sconst_any gs gr b (.ok p) wr HP.out.par.src HBL.out)
              rw [hR] at HCN
              have HR := bx hR
              have HM0 : Bx (poolM gm k wr = k - nV) := bx (poolM_of m2)
              have HHL : Bx (nV < k ∧ k ≤ 1024) := bx ⟨hl, hk1⟩
              clear hl hl0 hLk hk1 hR m2 HQD
              go_wp2_with fail
              refine HCN.out.mono ?_
              rintro e w1 ⟨cn, he, hs1, hc1, hx1⟩
              replace he : e = .returned (.agg #[.int .i64 cn.tag, .int .i64 cn.a, .int .i64 cn.b, .int .i64 cn.num, .string ⟨cn.text.toArray⟩]) := he
              subst he
              have HX1 := bx hx1
              have HP1 := bx (HP.out.next hs1 hc1)
              clear hx1 hs1 hc1 HCN HP
              obtain ⟨gc, hgc⟩ : ∃ g, w1.heap.size = g := ⟨_, rfl⟩
              have HGC := bx hgc
              have HK2 := bx (Bk.newAt w1 53 #[.int .i64 cn.tag, .int .i64 cn.a, .int .i64 cn.b, .int .i64 cn.num, .string ⟨cn.text.toArray⟩] hgc)
              have HP2 := bx (HP1.out.below (bl_alloc (Below.refl _ _) (Nat.le_refl _) (.cells #[.int .i64 cn.tag, .int .i64 cn.a, .int .i64 cn.b, .int .i64 cn.num, .string ⟨cn.text.toArray⟩] 53)))
              have hgg : gm < gc := by rw [← hgc]; exact HP1.out.sz
              have HGG := bx hgg
              have HOB : Bx (∀ g, (Value.slice A nV c).ownBlock = some g → g < gc) := bx (fun g hg => by rw [← hgc]; exact (World.ownsRow.lt HP1.out.own g hg).2)
              clear hgc hgg HP1
              go_upto_region 16 with (fail)
              rw [HGC.out]
              generalize w1.alloc (.cells #[.int .i64 cn.tag, .int .i64 cn.a, .int .i64 cn.b, .int .i64 cn.num, .string ⟨cn.text.toArray⟩] 53) = w2 at HK2 HP2 ⊢
              have HNW := bx (RS.new (fC := cstC) w2 cn #[.int .i64 cn.tag, .int .i64 cn.a, .int .i64 cn.b, .int .i64 cn.num, .string ⟨cn.text.toArray⟩] rfl 53 (0, 0))
              have hbn : Below w2.heap.size w2 (w2.alloc (.cells #[.int .i64 cn.tag, .int .i64 cn.a, .int .i64 cn.b, .int .i64 cn.num, .string ⟨cn.text.toArray⟩] 53)) := bl_alloc (Below.refl _ _) (Nat.le_refl _) _
              have HP3 := bx (HP2.out.below hbn)
              have HK3 := bx (HK2.out.alloc (.cells #[.int .i64 cn.tag, .int .i64 cn.a, .int .i64 cn.b, .int .i64 cn.num, .string ⟨cn.text.toArray⟩] 53))
              have m2 : w2.cell? ⟨gm, 2, none⟩ = some (.slice A nV c) := (HP2.out.par.im.cell 2).trans (by rw [← HCS1.out]; rfl)
              have q0 : w2.cell? ⟨gc, 0, none⟩ = some (.int .i64 cn.tag) := (HK2.out.cell 0).trans rfl
              have q1 : w2.cell? ⟨gc, 1, none⟩ = some (.int .i64 cn.a) := (HK2.out.cell 1).trans rfl
              have q2 : w2.cell? ⟨gc, 2, none⟩ = some (.int .i64 cn.b) := (HK2.out.cell 2).trans rfl
              have q3 : w2.cell? ⟨gc, 3, none⟩ = some (.int .i64 cn.num) := (HK2.out.cell 3).trans rfl
              have q4 : w2.cell? ⟨gc, 4, none⟩ = some (.string ⟨cn.text.toArray⟩) := (HK2.out.cell 4).trans rfl
              have HN2 : Bx (((cst0 :: L).length + [cn].length) * 48 ≤ 140737488355328) := bx (by
                have h1 := HNV.out
                have h2 := HHL.out
                simp only [List.length_cons, List.length_nil]; omega)
              obtain ⟨n1, hn1⟩ : ∃ n1, nV + 1 = n1 := ⟨_, rfl⟩
              have HN1 := bx hn1
              have HLL : Bx (((cst0 :: L) ++ [cn]).length = n1) := bx (by rw [List.length_append]; show L.length + 1 + 1 = n1; rw [HNV.out]; exact hn1)
              have hz6 := HP3.out.sz
              clear hn1 hbn
              go_upto_region 17 with (at_builtin; refine wpList_appS _ cstCels rfl (.tmp 69) (.tmp 71) rfl cstTy (by decide) (gm + 1) (.slice A nV c) (cst0 :: L) rfl HP3.out.own (w2.heap.size + 1) (some ⟨w2.heap.size, 0, none⟩) 1 1 [cn] rfl rfl HNW.out HN2.out hz6 ?_; intro V7 w7 hO7 hg7 hv7 hb7; obtain ⟨A7, c7, e7, -, -⟩ := OwS.rd hO7; replace e7 : V7 = .slice A7 n1 c7 := e7.trans (by rw [HLL.out]); subst e7; have HP7 := bx (HP3.out.app hO7 hb7); have HK7 := bx (HK3.out.grown hg7 (fun e => absurd (HOB.out gc e.symm) (Nat.lt_irrefl _))); have hi7 := HP3.out.par.over hb7 (Nat.lt_succ_self _); have m27 : w7.cell? ⟨gm, 2, none⟩ = some (.slice A nV c) := (hi7.im.cell 2).trans (by rw [← HCS1.out]; rfl); have z27 : w7.frozen? ⟨gm, 2, none⟩ = false := hi7.im.frz 2; clear hO7 hg7 hv7 hb7 hi7)
              have m2 := HP7.out.par.im.cell 2
              replace m2 : (w7.setCell ⟨gm, 2, none⟩ (.slice A7 n1 c7)).cell? ⟨gm, 2, none⟩ = some (.slice A7 n1 c7) := m2.trans (by rw [← HCS1.out]; rfl)
              have HK8 : Bx (Bk (w7.setCell ⟨gm, 2, none⟩ (.slice A7 n1 c7)) gc 53 #[.int .i64 cn.tag, .int .i64 cn.a, .int .i64 cn.b, .int .i64 cn.num, .string ⟨cn.text.toArray⟩]) := bx (HK7.out.far (fun e => by have := HGG.out; simp only at e; omega) _)
              clear m27 z27 q0 q1 q2 q3 q4 HK7 HNW HP3 HK3 HP2 HK2 hz6 HN2 HLL HOB
              generalize w7.setCell ⟨gm, 2, none⟩ (.slice A7 n1 c7) = w8 at HP7 HK8 m2 ⊢
              have q0 : w8.cell? ⟨gc, 0, none⟩ = some (.int .i64 cn.tag) := (HK8.out.cell 0).trans rfl
              by_cases h5 : cn.tag = 5
              · have h5b : (cn.tag == 5) = true := by rw [h5]; rfl
                obtain ⟨s3, hs3⟩ : ∃ s3, (if n1 = k then failR (stR R) 24 else stR R) = s3 := ⟨_, rfl⟩
                have HS3 := bx hs3
                have HRN := bx (pool_five HRR.out HR.out HX1.out h5 HKK.out (by rw [HNV.out]; exact HN1.out) hs3)
                clear h5 hs3
                go_upto_if 81 with (fail)
                go_cut [] from 54 to 89 (fun wx => Bx (PaP w wx b gq gs gr gm cs1 (.slice A7 n1 c7) (cst0 :: L ++ [cn]) s3))
                case first =>
                  -- DEV{
                  have HF := bx (sfail_any gs gr b (stR R) 24 w8 HP7.out.par.src (by decide))
                  by_cases hk : n1 = k
                  · have hkI : ((n1 : Int) == (k : Int)) = true := by rw [hk]; exact beq_self_eq_true _
                    have HE : Bx (s3 = failR (stR R) 24) := bx (by rw [← HS3.out, if_pos hk])
                    clear hk
                    go_wp2_with fail
                    refine HF.out.mono ?_
                    rintro e w9 ⟨⟨q, rfl⟩, hs9, hc9⟩
                    have HP10 : Bx (PaP w w9 b gq gs gr gm cs1 (.slice A7 n1 c7) (cst0 :: L ++ [cn]) s3) := bx (by rw [HE.out]; exact HP7.out.next hs9 hc9)
                    clear hs9 hc9
                    go_wp2
                    go_meet
                    case rel => exact HP10
                  · have hkI : ((n1 : Int) == (k : Int)) = false := by rw [beq_eq_false_iff_ne]; omega
                    have HE : Bx (s3 = stR R) := bx (by rw [← HS3.out, if_neg hk])
                    have HP10 : Bx (PaP w w8 b gq gs gr gm cs1 (.slice A7 n1 c7) (cst0 :: L ++ [cn]) s3) := bx (by rw [HE.out]; exact HP7.out)
                    clear hk
                    go_wp2
                    go_meet
                    case rel => exact HP10
                  -- DEV}
                case rest =>
                replace hcut : Bx (PaP w wc b gq gs gr gm cs1 (.slice A7 n1 c7) (cst0 :: L ++ [cn]) s3) := hcut
                clear HP7 HK8 q0 m2 HS3
                have HNW := bx (RS.new (fC := cstC) wc cst0 #[.int .i64 0, .int .i64 0, .int .i64 0, .int .i64 0, .string ⟨#[]⟩] rfl 53 (0, 0))
                have HP3 := bx (hcut.out.below (bl_alloc (Below.refl wc.heap.size wc) (Nat.le_refl _) (.cells #[.int .i64 0, .int .i64 0, .int .i64 0, .int .i64 0, .string ⟨#[]⟩] 53)))
                have m2 : wc.cell? ⟨gm, 2, none⟩ = some (.slice A7 n1 c7) := (hcut.out.par.im.cell 2).trans (by rw [← HCS1.out]; rfl)
                have hz6 := HP3.out.sz
                have HN2 : Bx (((cst0 :: L ++ [cn]).length + [cst0].length) * 48 ≤ 140737488355328) := bx (by
                  have h1 := HNV.out
                  have h2 := HHL.out
                  simp only [List.length_append, List.length_cons, List.length_nil]; omega)
                obtain ⟨n2, hn2⟩ : ∃ n2, n1 + 1 = n2 := ⟨_, rfl⟩
                have HN3 := bx hn2
                have HLL : Bx (((cst0 :: L ++ [cn]) ++ [cst0]).length = n2) := bx (by rw [List.length_append, List.length_append]; show L.length + 1 + 1 + 1 = n2; rw [HNV.out, HN1.out]; exact hn2)
                clear hn2
                go_step
                go_wp2_with (at_builtin; refine wpList_appS _ cstCels rfl (.tmp 85) (.tmp 87) rfl cstTy (by decide) (gm + 1) (.slice A7 n1 c7) (cst0 :: L ++ [cn]) rfl HP3.out.own (wc.heap.size + 1) (some ⟨wc.heap.size, 0, none⟩) 1 1 [cst0] rfl rfl HNW.out HN2.out hz6 ?_; intro V9 w9 hO9 hg9 hv9 hb9; obtain ⟨A9, c9, e9, -, -⟩ := OwS.rd hO9; replace e9 : V9 = .slice A9 n2 c9 := e9.trans (by rw [HLL.out]); subst e9; have HP9 := bx (HP3.out.app hO9 hb9); have hi9 := HP3.out.par.over hb9 (Nat.lt_succ_self _); have m29 : w9.cell? ⟨gm, 2, none⟩ = some (.slice A7 n1 c7) := (hi9.im.cell 2).trans (by rw [← HCS1.out]; rfl); have z29 : w9.frozen? ⟨gm, 2, none⟩ = false := hi9.im.frz 2; clear hO9 hg9 hv9 hb9 hi9)
                have HM9 : Bx (poolM gm k (w9.setCell ⟨gm, 2, none⟩ (.slice A9 n2 c9)) = k - n2) := bx (poolM_of ((HP9.out.par.im.cell 2).trans (by rw [← HCS1.out]; rfl)))
                clear hcut HNW HP3 hz6 HN2
                go_roundw
                case rel => exact ⟨A9, c9, L ++ [cn] ++ [cst0], s3, f', m' - 1, bx (by rw [show (L ++ [cn] ++ [cst0]).length + 1 = n2 from HLL.out]; exact HP9.out), bx HRN.out.1, bx HRN.out.2⟩
                case measure =>
                  rw [HM9.out, HM0.out]
                  have h1 := HN3.out
                  have h2 := HN1.out
                  have h3 := HHL.out
                  omega
              · have h5b : (cn.tag == 5) = false := by rw [beq_eq_false_iff_ne]; exact h5
                have HRN := bx (pool_one HRR.out HR.out HX1.out h5)
                have HKN := bx (HKK.out.one (c := cn) (s := stR R))
                have HM9 : Bx (poolM gm k w8 = k - n1) := bx (poolM_of m2)
                clear h5 m2
                go_wp2
                go_roundw
                case rel => exact ⟨A7, c7, L ++ [cn], stR R, f', m', bx (by rw [List.length_append, List.length_singleton, HNV.out, HN1.out]; exact HP7.out), bx HRN.out, HKN⟩
                case measure =>
                  rw [HM9.out, HM0.out]
                  have h2 := HN1.out
                  have h3 := HHL.out
                  omega
              -- DEV}
end Go.Proofs.Ytdioijhmmmnbgaa
