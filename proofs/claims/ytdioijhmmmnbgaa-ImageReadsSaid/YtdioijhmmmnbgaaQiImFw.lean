/- Contract: samovarlaw14.few: it answers something. -/
import Derived.Test.YtdioijhmmmnbgaaQiImK
import Derived.Test.YtdioijhmmmnbgaaQiImU
namespace Go.Proofs.Ytdioijhmmmnbgaa
open Go.RowKit
def FewPost (w : World) (e : Ending) (w' : World) : Prop := (∃ q, e = .returned (.bool q)) ∧ Below w.heap.size w w'
set_option maxRecDepth 100000 in
set_option maxHeartbeats 8000000 in
theorem few_any (x : ImE) (w : World) (hx : RIm w w.heap.size x) : Calls Try.prog 14 #[.agg (imC x)] w (FewPost w) := by
  obtain ⟨mi, ma, PA, pn, pc, P, ac, th, su, IA, i_n, ic, IF, FA, fn, fc, F, MA, mn, mc, M, AA, an, acp, AT⟩ := x
  have HP := bx (show RS cstC w w.heap.size PA P from hx.pool)
  have HPL : Bx (P.length = pn) := bx hx.pl.1
  have HF := bx (show RM w w.heap.size FA F from hx.fs)
  have HFL : Bx (F.length = fn) := bx hx.fl.1
  have HM := bx (show RM w w.heap.size MA M from hx.ms)
  have HML : Bx (M.length = mn) := bx hx.ml.1
  have HA := bx (show RA w w.heap.size AA AT from hx.as_)
  have HAL : Bx (AT.length = an) := bx hx.al.1
  have hpb : (pn : Int) ≤ 9223372036854775807 := by have h1 : pn ≤ pc := hx.pl.2.1; have h2 : (pc : Int) ≤ 9223372036854775807 := hx.pl.2.2; omega
  have hib : (i_n : Int) ≤ 9223372036854775807 := by have h1 : i_n ≤ ic := hx.il.2.1; have h2 : (ic : Int) ≤ 9223372036854775807 := hx.il.2.2; omega
  have hfb : (fn : Int) ≤ 9223372036854775807 := by have h1 : fn ≤ fc := hx.fl.2.1; have h2 : (fc : Int) ≤ 9223372036854775807 := hx.fl.2.2; omega
  have hmb : (mn : Int) ≤ 9223372036854775807 := by have h1 : mn ≤ mc := hx.ml.2.1; have h2 : (mc : Int) ≤ 9223372036854775807 := hx.ml.2.2; omega
  have hab : (an : Int) ≤ 9223372036854775807 := by have h1 : an ≤ acp := hx.al.2.1; have h2 : (acp : Int) ≤ 9223372036854775807 := hx.al.2.2; omega
  show Calls Try.prog 14 #[.agg #[.int .i64 mi, .int .i64 ma, .slice PA pn pc, .int .i64 ac, .int .i64 th, .int .i64 su, .slice IA i_n ic, .slice FA fn fc, .slice MA mn mc, .slice AA an acp]] w _
  obtain ⟨cs, hcs⟩ : ∃ cs : Array Value, #[.int .i64 mi, .int .i64 ma, .slice PA pn pc, .int .i64 ac, .int .i64 th, .int .i64 su, .slice IA i_n ic, .slice FA fn fc, .slice MA mn mc, .slice AA an acp] = cs := ⟨_, rfl⟩
  rw [hcs]
  have HCS := bx hcs
  obtain ⟨B, hB⟩ : ∃ B, w.heap.size = B := ⟨_, rfl⟩
  have HKB := bx (Bk.newAt w 29 cs hB)
  have HBB := bx (bl_alloc (Below.refl w.heap.size w) (Nat.le_refl _) (.cells cs 29))
  have HB := bx hB
  clear hx hcs hB
  go_enter Try.func14, Try.ntmps14
  go_upto_region 1 with (fail)
  rw [HB.out]
  change Code.wp _ _ _ _ (w.alloc (.cells cs 29))
  generalize w.alloc (.cells cs 29) = w0 at HKB HBB ⊢
  have f2 : w0.cell? ⟨B, 2, none⟩ = some (.slice PA pn pc) := (HKB.out.cell 2).trans (by rw [← HCS.out]; rfl)
  have f6 : w0.cell? ⟨B, 6, none⟩ = some (.slice IA i_n ic) := (HKB.out.cell 6).trans (by rw [← HCS.out]; rfl)
  have f7 : w0.cell? ⟨B, 7, none⟩ = some (.slice FA fn fc) := (HKB.out.cell 7).trans (by rw [← HCS.out]; rfl)
  have f8 : w0.cell? ⟨B, 8, none⟩ = some (.slice MA mn mc) := (HKB.out.cell 8).trans (by rw [← HCS.out]; rfl)
  have f9 : w0.cell? ⟨B, 9, none⟩ = some (.slice AA an acp) := (HKB.out.cell 9).trans (by rw [← HCS.out]; rfl)
  go_cut [3] from 14 to 32 (fun v wx => ∃ u : Int, v = .int .i64 u ∧ w0 = wx)
  case first =>
    go_wp2
    go_meet
    case rel => exact ⟨_, rfl, rfl⟩
  case rest =>
  obtain ⟨u, rfl, rfl⟩ := hcut
  by_cases hu : 3000 < u
  · clear f6 f7 f8 f9
    go_wp2
    go_ret
    exact ⟨⟨_, rfl⟩, HBB.out⟩
  clear f6 f7 f8 f9
  go_wp2_with fail
  clear f2
  go_loopw [3, 38] (fun nv iv wx => ∃ (k : Nat) (u : Int), k ≤ pn ∧ nv = .int .i64 u ∧ iv = .int .i64 (k : Int) ∧ Bx (Below w.heap.size w wx) ∧ Bx (Bk wx B 29 cs)) (fun _ i _ => pn - (intOf i).toNat)
  case atStart => exact ⟨0, u, by omega, rfl, rfl, HBB, HKB⟩
  case round =>
    clear HBB HKB hu
    obtain ⟨k, u1, hk, rfl, rfl, HW, HK⟩ := hrel
    by_cases hkn : k < pn
    · have hkI : (k : Int) < (pn : Int) := by omega
      obtain ⟨ad, c, rfl, hlt, HX, p0, pj⟩ := (HP.out.below HW.out (Nat.le_refl _)).at_ cstCels (k := k) (by rw [HPL.out]; exact hkn)
      obtain ⟨sn, hsn⟩ : ∃ s : ByteArray, ⟨c.text.toArray⟩ = s := ⟨_, rfl⟩
      have q0 : wr.cell? (ad.add (k * 5)) = some (.int .i64 c.tag) := p0 _ rfl
      have q1 : wr.cell? ⟨(ad.add (k * 5)).block, (ad.add (k * 5)).off + 1, none⟩ = some (.int .i64 c.a) := pj 0 _ rfl
      have q2 : wr.cell? ⟨(ad.add (k * 5)).block, (ad.add (k * 5)).off + 2, none⟩ = some (.int .i64 c.b) := pj 1 _ rfl
      have q3 : wr.cell? ⟨(ad.add (k * 5)).block, (ad.add (k * 5)).off + 3, none⟩ = some (.int .i64 c.num) := pj 2 _ rfl
      have q4 : wr.cell? ⟨(ad.add (k * 5)).block, (ad.add (k * 5)).off + 4, none⟩ = some (.string sn) := pj 3 _ (by rw [← hsn]; rfl)
      obtain ⟨C, hC⟩ : ∃ C, wr.heap.size = C := ⟨_, rfl⟩
      have HKC := bx (Bk.newAt wr 53 #[.int .i64 c.tag, .int .i64 c.a, .int .i64 c.b, .int .i64 c.num, .string sn] hC)
      have HWC := bx (bl_alloc HW.out (Nat.le_refl _) (.cells #[.int .i64 c.tag, .int .i64 c.a, .int .i64 c.b, .int .i64 c.num, .string sn] 53))
      have HK2 := bx (HK.out.alloc (.cells #[.int .i64 c.tag, .int .i64 c.a, .int .i64 c.b, .int .i64 c.num, .string sn] 53))
      have HC := bx hC
      clear hC p0 pj hsn
      go_upto_region 7 with (fail)
      rw [HC.out]
      generalize wr.alloc (.cells #[.int .i64 c.tag, .int .i64 c.a, .int .i64 c.b, .int .i64 c.num, .string sn] 53) = wc at HKC HWC HK2 ⊢
      clear q0 q1 q2 q3 q4
      have c4 : wc.cell? ⟨C, 4, none⟩ = some (.string sn) := (HKC.out.cell 4).trans rfl
      go_wp2
      go_roundw
      case rel => exact ⟨k + 1, _, by omega, rfl, by go_num, HWC, HK2⟩
      case measure => simp [intOf]; omega
    · have hkI : ¬ (k : Int) < (pn : Int) := by omega
      obtain ⟨w1, hw1⟩ : ∃ w1, w1 = wr := ⟨_, rfl⟩
      rw [← hw1] at HW HK ⊢
      clear hw1
      have f7 : w1.cell? ⟨B, 7, none⟩ = some (.slice FA fn fc) := (HK.out.cell 7).trans (by rw [← HCS.out]; rfl)
      have f8 : w1.cell? ⟨B, 8, none⟩ = some (.slice MA mn mc) := (HK.out.cell 8).trans (by rw [← HCS.out]; rfl)
      obtain ⟨G, hG⟩ : ∃ G, w1.heap.size = G := ⟨_, rfl⟩
      have HKG := bx (Bk.newAt w1 26 #[.slice FA fn fc, .slice MA mn mc] hG)
      have HWG := bx (bl_alloc HW.out (Nat.le_refl _) (.cells #[.slice FA fn fc, .slice MA mn mc] 26))
      have HK2 := bx (HK.out.alloc (.cells #[.slice FA fn fc, .slice MA mn mc] 26))
      have HG := bx hG
      clear hG HW HK
      go_wp2_with fail
      rw [HG.out]
      generalize w1.alloc (.cells #[.slice FA fn fc, .slice MA mn mc] 26) = w2 at HKG HWG HK2 ⊢
      clear f7 f8
      go_loopw [3, 54] (fun nv iv wx => ∃ (j : Nat) (u : Int), j ≤ 2 ∧ nv = .int .i64 u ∧ iv = .int .i64 (j : Int) ∧ Bx (Below w.heap.size w wx) ∧ Bx (Bk wx B 29 cs) ∧ Bx (Bk wx G 26 #[.slice FA fn fc, .slice MA mn mc])) (fun _ i _ => 2 - (intOf i).toNat)
      case atStart => exact ⟨0, u1, by omega, rfl, rfl, HWG, HK2, HKG⟩
      case round =>
        clear HKG HWG HK2
        obtain ⟨j, u2, hj, rfl, rfl, HW, HK, HKG⟩ := hrel
        by_cases hj2 : j < 2
        · have hjI : (j : Int) < 2 := by omega
          obtain ⟨AX, nX, cX, LX, hcell, hrow, hlen, hbx⟩ : ∃ AX nX cX LX, wr.cell? ⟨G, j, none⟩ = some (.slice AX nX cX) ∧ Bx (RM w w.heap.size AX LX) ∧ Bx (LX.length = nX) ∧ (nX : Int) ≤ 9223372036854775807 := by
            rcases (by omega : j = 0 ∨ j = 1) with rfl | rfl
            · exact ⟨FA, fn, fc, F, (HKG.out.cell 0).trans rfl, HF, HFL, hfb⟩
            · exact ⟨MA, mn, mc, M, (HKG.out.cell 1).trans rfl, HM, HML, hmb⟩
          obtain ⟨wo, hwo⟩ : ∃ wo, wo = wr := ⟨_, rfl⟩
          rw [← hwo] at hcell HW HK HKG ⊢
          clear hwo
          go_wp2_with fail
          clear hcell
          go_loopw [3, 60] (fun nv iv wx => ∃ (i : Nat) (u : Int), i ≤ nX ∧ nv = .int .i64 u ∧ iv = .int .i64 (i : Int) ∧ Bx (Below w.heap.size w wx) ∧ Bx (Bk wx B 29 cs) ∧ Bx (Bk wx G 26 #[.slice FA fn fc, .slice MA mn mc])) (fun _ i _ => nX - (intOf i).toNat)
          case atStart => exact ⟨0, u2, by omega, rfl, rfl, HW, HK, HKG⟩
          case round =>
            clear HKG HW HK
            obtain ⟨i, u3, hi, rfl, rfl, HW, HK, HKG⟩ := hrel
            by_cases hin : i < nX
            · have hiI : (i : Int) < (nX : Int) := by omega
              obtain ⟨ad, y, rfl, _, HX, p0, p1, p2, p3, HSX⟩ := (hrow.out.below HW.out (Nat.le_refl _)).at_ (k := i) (by rw [hlen.out]; exact hin)
              have HSX2 := bx (hrow.out.2 y (List.mem_of_getElem? HX.out))
              obtain ⟨C, hC⟩ : ∃ C, wr.heap.size = C := ⟨_, rfl⟩
              have HKC := bx (Bk.newAt wr 69 #[.int .i64 y.access, .int .i64 y.name, .int .i64 y.desc, .slice y.A y.n y.c] hC)
              have HWC := bx (bl_alloc HW.out (Nat.le_refl _) (.cells #[.int .i64 y.access, .int .i64 y.name, .int .i64 y.desc, .slice y.A y.n y.c] 69))
              have HK2 := bx (HK.out.alloc (.cells #[.int .i64 y.access, .int .i64 y.name, .int .i64 y.desc, .slice y.A y.n y.c] 69))
              have HKG2 := bx (HKG.out.alloc (.cells #[.int .i64 y.access, .int .i64 y.name, .int .i64 y.desc, .slice y.A y.n y.c] 69))
              have HC := bx hC
              clear hC
              go_upto_region 15 with (fail)
              rw [HC.out]
              generalize wr.alloc (.cells #[.int .i64 y.access, .int .i64 y.name, .int .i64 y.desc, .slice y.A y.n y.c] 69) = wc at HKC HWC HK2 HKG2 ⊢
              obtain ⟨YA, yn, yc, YL, hYA, hyn, hyc, hYL⟩ : ∃ YA yn yc YL, y.A = YA ∧ y.n = yn ∧ y.c = yc ∧ y.L = YL := ⟨_, _, _, _, rfl, rfl, rfl, rfl⟩
              have hynb : (yn : Int) ≤ 9223372036854775807 := by rw [← hyn]; have h1 := HSX2.out.2.1; have h2 := HSX2.out.2.2.1; omega
              have HYR : Bx (RA w w.heap.size YA YL) := bx (by rw [← hYA, ← hYL]; exact HSX2.out.2.2.2)
              have HYL : Bx (YL.length = yn) := bx (by rw [← hYL, ← hyn]; exact HSX2.out.1)
              clear p0 p1 p2 p3 HSX HSX2
              rw [hYA, hyn, hyc] at HKC
              have c3 : wc.cell? ⟨C, 3, none⟩ = some (.slice YA yn yc) := (HKC.out.cell 3).trans rfl
              clear hYA hyn hyc hYL
              go_cut [3, 60] from 60 to 84 (fun v v6 wx => ∃ u : Int, v = .int .i64 u ∧ v6 = .int .i64 (i : Int) ∧ wc = wx)
              case first =>
                go_wp2
                go_meet
                case rel => exact ⟨_, rfl, rfl, rfl⟩
              case rest =>
              obtain ⟨u4, rfl, rfl, rfl⟩ := hcut
              by_cases hu4 : 90000 < u4
              · go_wp2
                go_ret
                exact ⟨⟨_, rfl⟩, HWC.out⟩
              obtain ⟨wo, hwo⟩ : ∃ wo, wo = wc := ⟨_, rfl⟩
              rw [← hwo] at c3 HWC HK2 HKG2 ⊢
              clear hwo HKC
              go_wp2_with fail
              clear c3 hu4
              go_loopw [3, 74] (fun nv iv wx => ∃ (q : Nat) (u : Int), q ≤ yn ∧ nv = .int .i64 u ∧ iv = .int .i64 (q : Int) ∧ Bx (Below w.heap.size w wx) ∧ Bx (Bk wx B 29 cs) ∧ Bx (Bk wx G 26 #[.slice FA fn fc, .slice MA mn mc])) (fun _ i _ => yn - (intOf i).toNat)
              case atStart => exact ⟨0, u4, by omega, rfl, rfl, HWC, HK2, HKG2⟩
              case round =>
                clear HWC HK2 HKG2
                obtain ⟨q, u5, hq, rfl, rfl, HW, HK, HKG⟩ := hrel
                by_cases hqn : q < yn
                · have hqI : (q : Int) < (yn : Int) := by omega
                  obtain ⟨ae, z, rfl, _, HX, p0, p1, HSX⟩ := (HYR.out.below HW.out (Nat.le_refl _)).at_ (k := q) (by rw [HYL.out]; exact hqn)
                  have hzb : (z.s.n : Int) ≤ 9223372036854775807 := by have := HSX.out.2.1; have := HSX.out.2.2.1; omega
                  obtain ⟨D, hD⟩ : ∃ D, wr.heap.size = D := ⟨_, rfl⟩
                  have HKD := bx (Bk.newAt wr 71 #[.int .i64 z.name, .slice z.s.A z.s.n z.s.c] hD)
                  have HWD := bx (bl_alloc HW.out (Nat.le_refl _) (.cells #[.int .i64 z.name, .slice z.s.A z.s.n z.s.c] 71))
                  have HK3 := bx (HK.out.alloc (.cells #[.int .i64 z.name, .slice z.s.A z.s.n z.s.c] 71))
                  have HKG3 := bx (HKG.out.alloc (.cells #[.int .i64 z.name, .slice z.s.A z.s.n z.s.c] 71))
                  have HD := bx hD
                  clear hD HSX
                  go_upto_region 21 with (fail)
                  rw [HD.out]
                  generalize wr.alloc (.cells #[.int .i64 z.name, .slice z.s.A z.s.n z.s.c] 71) = wd at HKD HWD HK3 HKG3 ⊢
                  clear p0 p1
                  have d1 : wd.cell? ⟨D, 1, none⟩ = some (.slice z.s.A z.s.n z.s.c) := (HKD.out.cell 1).trans rfl
                  go_wp2
                  go_roundw
                  case rel => exact ⟨q + 1, _, by omega, rfl, by go_num, HWD, HK3, HKG3⟩
                  case measure => simp [intOf]; omega
                · have hqI : ¬ (q : Int) < (yn : Int) := by omega
                  go_wp2
                  go_roundw
                  case rel => exact ⟨i + 1, u5, by omega, rfl, by go_num, HW, HK, HKG⟩
                  case measure => simp [intOf]; omega
            · have hiI : ¬ (i : Int) < (nX : Int) := by omega
              go_wp2
              go_roundw
              case rel => exact ⟨j + 1, u3, by omega, rfl, by go_num, HW, HK, HKG⟩
              case measure => simp [intOf]; omega
        · have hjI : ¬ (j : Int) < 2 := by omega
          obtain ⟨wo, hwo⟩ : ∃ wo, wo = wr := ⟨_, rfl⟩
          rw [← hwo] at HW HK HKG ⊢
          clear hwo
          have f9 : wo.cell? ⟨B, 9, none⟩ = some (.slice AA an acp) := (HK.out.cell 9).trans (by rw [← HCS.out]; rfl)
          go_wp2_with fail
          clear f9
          go_loopw [3, 89] (fun nv iv wx => ∃ (q : Nat) (u : Int), q ≤ an ∧ nv = .int .i64 u ∧ iv = .int .i64 (q : Int) ∧ Bx (Below w.heap.size w wx)) (fun _ i _ => an - (intOf i).toNat)
          case atStart => exact ⟨0, u2, by omega, rfl, rfl, HW⟩
          case round =>
            clear HW HK HKG
            obtain ⟨q, u5, hq, rfl, rfl, HW⟩ := hrel
            by_cases hqn : q < an
            · have hqI : (q : Int) < (an : Int) := by omega
              obtain ⟨ae, z, rfl, _, HX, p0, p1, HSX⟩ := (HA.out.below HW.out (Nat.le_refl _)).at_ (k := q) (by rw [HAL.out]; exact hqn)
              have hzb : (z.s.n : Int) ≤ 9223372036854775807 := by have := HSX.out.2.1; have := HSX.out.2.2.1; omega
              obtain ⟨D, hD⟩ : ∃ D, wr.heap.size = D := ⟨_, rfl⟩
              have HKD := bx (Bk.newAt wr 71 #[.int .i64 z.name, .slice z.s.A z.s.n z.s.c] hD)
              have HWD := bx (bl_alloc HW.out (Nat.le_refl _) (.cells #[.int .i64 z.name, .slice z.s.A z.s.n z.s.c] 71))
              have HD := bx hD
              clear hD HSX
              go_upto_region 28 with (fail)
              rw [HD.out]
              generalize wr.alloc (.cells #[.int .i64 z.name, .slice z.s.A z.s.n z.s.c] 71) = wd at HKD HWD ⊢
              clear p0 p1
              have d1 : wd.cell? ⟨D, 1, none⟩ = some (.slice z.s.A z.s.n z.s.c) := (HKD.out.cell 1).trans rfl
              go_wp2
              go_roundw
              case rel => exact ⟨q + 1, _, by omega, rfl, by go_num, HWD⟩
              case measure => simp [intOf]; omega
            · have hqI : ¬ (q : Int) < (an : Int) := by omega
              go_wp2
              go_ret
              exact ⟨⟨_, rfl⟩, HW.out⟩
end Go.Proofs.Ytdioijhmmmnbgaa
