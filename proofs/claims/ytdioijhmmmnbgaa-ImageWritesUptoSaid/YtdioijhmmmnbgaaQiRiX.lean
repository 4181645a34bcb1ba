/- Contract: samovarref14.Write: the document's. -/
import Derived.Test.YtdioijhmmmnbgaaQiRiW
import Derived.BigQuiet
namespace Go.Proofs.Ytdioijhmmmnbgaa
open Go.RowKit
set_option maxRecDepth 100000 in
set_option maxHeartbeats 16000000 in
theorem rwrite_any (x : ImE) (w : World) (hx : RIm w w.heap.size x) (hT : ∀ c ∈ x.pool, c.text.length ≤ 2000000) (hN : numsOk x.p) :
    Calls Try.prog 16 #[.agg (imC x)] w (ImgWPost (writeP x.p) w) := by
  have HX := bx hx
  have HT := bx hT
  have HNM := bx hN
  have hpb : (x.pn : Int) ≤ 9223372036854775807 := by have := hx.pl; omega
  obtain ⟨W, hW⟩ : ∃ W, writeP x.p = W := ⟨_, rfl⟩
  rw [hW]
  have HW := bx hW
  obtain ⟨cs, hcs⟩ : ∃ cs, cs = imC x := ⟨_, rfl⟩
  rw [← hcs]
  have HCS := bx hcs
  obtain ⟨B, hB⟩ : ∃ B, w.heap.size = B := ⟨_, rfl⟩
  have HKB := bx (Bk.newAt w 29 cs hB)
  have HBB := bx (bl_alloc (Below.refl w.heap.size w) (Nat.le_refl _) (.cells cs 29))
  have HB := bx hB
  clear hx hT hN hW hcs hB
  go_enter Try.func16, Try.ntmps16
  go_upto_region 1 with (fail)
  rw [HB.out]
  change Code.wp _ _ _ _ (w.alloc (.cells cs 29))
  generalize w.alloc (.cells cs 29) = wb at HKB HBB ⊢
  have HS : Bx (ImS w wb B x) := bx ⟨HBB.out, by rw [← HCS.out]; exact HKB.out⟩
  have HHO := bx (rholds_any x wb (HX.out.up HS.out.bel) HT.out)
  obtain ⟨qh, hqh⟩ : ∃ q, holdsP x.p = q := ⟨_, rfl⟩
  rw [hqh] at HHO
  have HQH := bx hqh
  obtain ⟨f0, f1, f2, f3, f4, f5, f6, f7, f8, f9⟩ := im_all HS.out.im
  clear HKB HBB hqh
  go_wp2_with fail
  refine HHO.out.mono ?_
  rintro e w1 ⟨rfl, hb1⟩
  have HS1 := bx (HS.out.below hb1)
  clear hb1 HHO HS f0 f1 f2 f3 f4 f5 f6 f7 f8 f9
  cases qh with
  | false =>
    have HE : Bx (W = .err 24) := bx (by rw [← HW.out]; unfold writeP; rw [HQH.out]; rfl)
    go_wp2
    go_ret2
    rw [HE.out]
    exact ⟨HS1.out.bel, rfl, .inl rfl⟩
  | true =>
    have HIV := bx (holds_v HNM.out HQH.out)
    have HPL := bx HX.out.pl.1
    have hpl : x.pn ≤ 1024 := by
      obtain ⟨_, _, ⟨pl, hp, hpl, _⟩, _⟩ := HIV.out
      have e : x.pool = cst0 :: pl := hp
      rw [← HX.out.pl.1, e, List.length_cons]; omega
    have HSM : Bx (∀ k c, x.pool[k]? = some c → sumT (x.pool.take k) ≤ 2048000000 ∧ c.text.length ≤ 2000000) := bx (fun k c hc => by
      refine ⟨?_, HT.out c (List.mem_of_getElem? hc)⟩
      refine Nat.le_trans (sumT_take x.pool k) (Nat.le_trans (sumT_bound x.pool HT.out) ?_)
      rw [HPL.out]
      exact Nat.mul_le_mul hpl (Nat.le_refl 2000000))
    go_wp2_with fail
    go_loopw [4, 5] (fun nv iv wx => ∃ k : Nat, k ≤ x.pn ∧ nv = .int .i64 (sumT (x.pool.take k) : Int) ∧ iv = .int .i64 (k : Int) ∧ Bx (ImS w wx B x)) (fun _ iv _ => x.pn - (intOf iv).toNat)
    case atStart => exact ⟨0, by omega, rfl, rfl, HS1⟩
    case round =>
      clear HS1
      obtain ⟨k, hk, rfl, rfl, HS⟩ := hrel
      have f2 := HS.out.im.im2 rfl
      obtain ⟨T, hT⟩ : ∃ T, sumT (x.pool.take k) = T := ⟨_, rfl⟩
      have HTT := bx hT
      rw [hT]
      clear hT
      by_cases hkn : k < x.pn
      · -- DEV{
        have hkI : (k : Int) < (x.pn : Int) := by omega
        have hkJ : (0 : Int) ≤ (k : Int) := by omega
        obtain ⟨ad, c, hA, _, HC', p0, p1, p2, p3, p4⟩ := cst_at ((HX.out.up HS.out.bel).pool) (k := k) (by rw [HPL.out]; exact hkn)
        obtain ⟨sn, hsn⟩ : ∃ s : ByteArray, ⟨c.text.toArray⟩ = s := ⟨_, rfl⟩
        have hsz : sn.size = c.text.length := by rw [← hsn]; show c.text.toArray.size = _; rw [List.size_toArray]
        rw [hsn] at p4
        rw [hA] at f2
        have hb2 := HSM.out k c HC'.out
        have hTb : T ≤ 2048000000 := by rw [← HTT.out]; exact hb2.1
        have hs2 : sn.size ≤ 2000000 := by rw [hsz]; exact hb2.2
        have HNX : Bx (sumT (x.pool.take (k + 1)) = T + sn.size) := bx (by rw [sumT_next HC'.out, HTT.out, hsz])
        clear hA p0 p1 p2 p3 hsn hsz hb2
        go_wp2
        go_roundw
        case rel => exact ⟨k + 1, by omega, by rw [HNX.out]; go_num, by go_num, HS⟩
        case measure => simp [intOf]; omega
        -- DEV}
      · obtain rfl : x.pn = k := by omega
        have hkI : ¬ (x.pn : Int) < (x.pn : Int) := by omega
        have HTA : Bx (sumT x.pool = T) := bx (by rw [← HTT.out, List.take_of_length_le (by rw [HPL.out]; exact Nat.le_refl _)])
        by_cases hbig : 32768 < T
        · have hbI : (32768 : Int) < (T : Int) := by omega
          have HE : Bx (W = .err 8) := bx (by
            have h9 := img_sum HIV.out
            have e9 : sumT x.p.pool = T := HTA.out
            rw [← HW.out]; unfold writeP
            rw [if_neg (by rw [HQH.out]; simp), if_pos (by omega)])
          clear hbig
          go_wp2
          go_ret2
          rw [HE.out]
          exact ⟨HS.out.bel, rfl, .inr rfl⟩
        · have hbI : ¬ (32768 : Int) < (T : Int) := by omega
          have HCL : Bx (∀ k, ((x.pool.take k).flatMap cstB).length ≤ 50000) := bx (fun k => by
            have h1 := csts_len (x.pool.take k)
            have h2 := sumT_take x.pool k
            have h3 : (x.pool.take k).length ≤ 1024 := by rw [List.length_take, HPL.out]; omega
            have h4 := HTA.out
            omega)
          clear hbig
          obtain ⟨wo, hwo⟩ : ∃ v, v = wr := ⟨_, rfl⟩
          rw [← hwo] at HS f2 ⊢
          clear hwo
          have HWS0 : Bx (WrS w (wo.alloc (.cells #[.int .u8 202, .int .u8 254, .int .u8 186, .int .u8 190] 5)) B wo.heap.size x (.slice (some ⟨wo.heap.size, 0, none⟩) 4 4) [202, 254, 186, 190]) := bx (by
            have ho := own_lit wo [202, 254, 186, 190] #[.int .u8 202, .int .u8 254, .int .u8 186, .int .u8 190] rfl (by decide) 5
            have hbb : Below wo.heap.size wo (wo.alloc (.cells #[.int .u8 202, .int .u8 254, .int .u8 186, .int .u8 190] 5)) := bl_alloc (Below.refl _ _) (Nat.le_refl _) _
            exact ⟨HS.out.bel.trans (hbb.mono HS.out.bel.size), HS.out.im.below hbb HS.out.im.lt, ho, HS.out.bel.size, HS.out.im.lt, hbb.size⟩)
          have HAL : Bx ((∀ z ∈ [x.minor, x.major, (x.pn : Int)], -9223372036854775808 ≤ z ∧ z ≤ 9223372036854775807)) := bx (by
            obtain ⟨h1, h2, _⟩ := HIV.out
            have h1 : 0 ≤ x.minor ∧ x.minor ≤ 65535 := h1
            have h2 : 45 ≤ x.major ∧ x.major ≤ 52 := h2
            intro z hz
            simp only [List.mem_cons, List.not_mem_nil, or_false] at hz
            rcases hz with e | e | e <;> rw [e] <;> omega)
          obtain ⟨lh, hlh⟩ : ∃ l : List UInt8, [202, 254, 186, 190] ++ [x.minor, x.major, (x.pn : Int)].flatMap (beB 2) = l := ⟨_, rfl⟩
          have HLH := bx hlh
          have HP := bx (wr_new 2 3 [x.minor, x.major, (x.pn : Int)] #[.int .i64 x.minor, .int .i64 x.major, .int .i64 (x.pn : Int)] HWS0.out rfl rfl HAL.out (by decide) (by decide) (by decide) (by decide) hlh (g := wo.heap.size + 1) (by simp))
          clear HS hlh
          go_upto_region 10 with (fail)
          clear f2
          have f0 := HWS0.out.im.im0 rfl
          have f1 := HWS0.out.im.im1 rfl
          have f2 := HWS0.out.im.im2 rfl
          go_wp2_with fail
          refine HP.out.mono ?_
          rintro e w2 ⟨V2, rfl, hs2⟩
          have HS2 := bx hs2
          clear hs2 HP HWS0 f0 f1 f2
          generalize wo.heap.size = b0 at HS2
          have HS3 : Bx (WrS w w2 B b0 x V2 (lh ++ (x.pool.take 0).flatMap cstB)) := bx (by simpa using HS2.out)
          have hlh : lh.length = 10 := by rw [← HLH.out, List.length_append, beBs_len]; rfl
          clear HS2
          go_wp2_with fail
          go_loopw [6, 7] (fun V iv wx => ∃ k : Nat, k ≤ x.pn ∧ iv = .int .i64 (k : Int) ∧ Bx (WrS w wx B b0 x V (lh ++ (x.pool.take k).flatMap cstB))) (fun _ iv _ => x.pn - (intOf iv).toNat)
          case atStart => exact ⟨0, by omega, rfl, HS3⟩
          case round =>
            clear HS3
            obtain ⟨k, hk, rfl, HS⟩ := hrel
            obtain ⟨AV, nV, cV, rfl, _, _⟩ := OwL.sl HS.out.own
            by_cases hkn : k < x.pn
            · have f2 := HS.out.im.im2 rfl
              have hkI : (k : Int) < (x.pn : Int) := by omega
              have hkJ : (0 : Int) ≤ (k : Int) := by omega
              obtain ⟨ad, c, hA, _, HC', p0, p1, p2, p3, p4⟩ := cst_at ((HX.out.up HS.out.bel).pool) (k := k) (by rw [HPL.out]; exact hkn)
              obtain ⟨sn, hsn⟩ : ∃ s : ByteArray, ⟨c.text.toArray⟩ = s := ⟨_, rfl⟩
              have hsz : sn.size = c.text.length := by rw [← hsn]; show c.text.toArray.size = _; rw [List.size_toArray]
              have HSL : Bx (sn.data.toList = c.text) := bx (by rw [← hsn])
              have hs2 : sn.size ≤ 2000000 := by rw [hsz]; exact (HSM.out k c HC'.out).2
              have HSZ := bx hsz
              rw [hsn] at p4
              rw [hA] at f2
              have HTC := bx (tag_cases (right_at (holds_rights HQH.out) (show x.p.pool[k]? = some c from HC'.out)))
              obtain ⟨l5, hl5⟩ : ∃ l, lh ++ (x.pool.take k).flatMap cstB = l := ⟨_, rfl⟩
              have HN5 : Bx (lh ++ (x.pool.take (k + 1)).flatMap cstB = l5 ++ cstB c) := bx (by
                rw [take_next HC'.out, List.flatMap_append, ← List.append_assoc, hl5]; simp)
              have hz5 : l5.length ≤ 50010 := by rw [← hl5, List.length_append]; have := HCL.out k; omega
              rw [hl5] at HS
              obtain ⟨C, hC⟩ : ∃ C, wr.heap.size = C := ⟨_, rfl⟩
              have HKC := bx (Bk.newAt wr 53 #[.int .i64 c.tag, .int .i64 c.a, .int .i64 c.b, .int .i64 c.num, .string sn] hC)
              have HNB : Bx (-9223372036854775808 ≤ c.num ∧ c.num ≤ 9223372036854775807) := bx (HNM.out c (List.mem_of_getElem? HC'.out))
              have HVC : Bx (cstV c ∨ c = cst0) := bx (img_mem HIV.out c (List.mem_of_getElem? HC'.out))
              have HNF : Bx (¬ Fow (.slice AV nV cV) C) := bx (fun hf => by have := (World.ownsRow.lt HS.out.own C hf).2; omega)
              have HSB := bx (HS.out.below (bl_alloc (Below.refl wr.heap.size wr) (Nat.le_refl _) (.cells #[.int .i64 c.tag, .int .i64 c.a, .int .i64 c.b, .int .i64 c.num, .string sn] 53)))
              have HCC := bx hC
              clear hC hl5 hsn hsz hA
              go_upto_region 15 with (fail)
              rw [HCC.out]
              generalize wr.alloc (.cells #[.int .i64 c.tag, .int .i64 c.a, .int .i64 c.b, .int .i64 c.num, .string sn] 53) = w5 at HKC HSB ⊢
              have HC5 : Bx (WrC w w5 B b0 C x #[.int .i64 c.tag, .int .i64 c.a, .int .i64 c.b, .int .i64 c.num, .string sn] (.slice AV nV cV) l5) := bx ⟨HSB.out, HKC.out, HNF.out⟩
              clear p0 p1 p2 p3 p4 HCC HS HKC HSB HNF f2
              have HZ6 : Bx (b0 ≤ (w5.alloc (.cells #[.int .u8 0] 5)).heap.size) := bx (Nat.le_trans HC5.out.st.le (by simp))
              have HZ6' : ∀ o, b0 ≤ (w5.alloc o).heap.size := fun o => Nat.le_trans HC5.out.st.le (by simp)
              have HZ7 := bx HZ6'
              clear HZ6 HZ6'
              rcases HTC.out with t0 | t1 | t3 | t5 | t7 | t9

              · -- DEV{
                have HTE : Bx (c.tag = 0) := bx (by omega)
                have c0 : w5.cell? ⟨C, 0, none⟩ = some (.int .i64 0) := ((HC5.out.bk.cell 0).trans rfl).trans (by rw [HTE.out]; rfl)
                have N1 : Bx (WrS w w5 B b0 x (.slice AV nV cV) (lh ++ (x.pool.take (k + 1)).flatMap cstB)) := bx (by rw [HN5.out, cstB_0 HTE.out, List.append_nil]; exact HC5.out.st)
                clear t0 HC5
                go_wp2
                go_roundw
                case rel => exact ⟨k + 1, by omega, by go_num, N1⟩
                case measure => simp [intOf]; omega
                -- DEV}
              · -- DEV{
                have HTE : Bx (c.tag = 1) := bx (by omega)
                have HCB := bx (cstB_t 1 (by rw [HTE.out]; rfl) (cstB_1 HTE.out))
                have HC5' : Bx (WrC w w5 B b0 C x #[.int .i64 1, .int .i64 c.a, .int .i64 c.b, .int .i64 c.num, .string sn] (.slice AV nV cV) l5) := bx (by have := HC5.out; rwa [HTE.out] at this)
                have c0 : w5.cell? ⟨C, 0, none⟩ = some (.int .i64 1) := (HC5'.out.bk.cell 0).trans rfl
                have HN6 : Bx ((l5.length + [(1 : UInt8)].length) * 1 ≤ 140737488355328) := bx (by simp only [List.length_singleton]; omega)
                obtain ⟨l6, hl6⟩ : ∃ l, l5 ++ [(1 : UInt8)] = l := ⟨_, rfl⟩
                have hz6 : l6.length ≤ 50011 := by rw [← hl6, List.length_append, List.length_singleton]; omega
                have HL6 := bx hl6
                clear hl6 HC5 t1
                obtain ⟨l7, hl7⟩ : ∃ l, l6 ++ [(sn.size : Int)].flatMap (beB 2) = l := ⟨_, rfl⟩
                have HL7 := bx hl7
                have hz7 : l7.length ≤ 50013 := by rw [← hl7, List.length_append, beBs_len]; simp only [List.length_singleton]; omega
                have HE7 : Bx (lh ++ (x.pool.take (k + 1)).flatMap cstB = l7 ++ sn.data.toList) := bx (by rw [HN5.out, HCB.out, ← hl7, ← HL6.out, HSL.out, HSZ.out]; simp)
                have HN7 : Bx (l7.length + sn.size ≤ 140737488355328) := bx (by omega)
                have HAL : Bx (∀ z ∈ [(sn.size : Int)], -9223372036854775808 ≤ z ∧ z ≤ 9223372036854775807) := bx (by intro z hz; simp only [List.mem_cons, List.not_mem_nil, or_false] at hz; rw [hz]; omega)
                clear hl7 HTE
                go_upto_region 20 with (at_builtin; refine wpList_appL _ bV_one rfl (.tmp 55) (.tmp 59) rfl byteTyP (by decide) b0 (.slice AV nV cV) l5 rfl (OwL.alloc HC5'.out.st.own _) (w5.heap.size + 1) _ 1 1 [(1 : UInt8)] rfl rfl (RL.freshe w5 (1 : UInt8) rfl _) HN6.out (HZ7.out _) ?_; intro V6 w6 hO6 hg6 hv6 hb6; have hc6 := HC5'.out.app _ hO6 hg6 hv6; rw [HL6.out] at hc6; have HC6 := bx hc6; clear hc6 hO6 hg6 hv6 hb6; have d0 : w6.cell? ⟨C, 0, none⟩ = some (.int .i64 1) := (HC6.out.bk.cell 0).trans rfl; have d4 : w6.cell? ⟨C, 4, none⟩ = some (.string sn) := (HC6.out.bk.cell 4).trans rfl)
                have S6 : w6.cell? ⟨C, 4, none⟩ = some (.string sn) := d4
                go_region_held3 (fun w' => w'.cell? ⟨C, 4, none⟩ = some (.string sn)) (first | exact S6 | exact cell_al S6 _ | exact S7 | exact S8 | fail) (first | (go_at_call 44; refine (wc_new (wx := w6.drew) 2 1 [(sn.size : Int)] #[.int .i64 (sn.size : Int)] (HC6.out.below (below_drewN (Below.refl _ _) 1)) rfl rfl HAL.out (by decide) (by decide) (by decide) (by omega) HL7.out rfl).mono ?_; rintro e w7 ⟨V7, rfl, hs7⟩; have HC7 := bx hs7; clear hs7; have S7 : (fun w' : World => w'.cell? ⟨C, 4, none⟩ = some (.string sn)) w7 := (HC7.out.bk.cell 4).trans rfl) | (refine step_appStrG _ rfl (.tmp 77) (.tmp 79) rfl byteTyP Try.underlying9 b0 V7 l7 rfl (OwL.drew HC7.out.st.own) sn rfl HN7.out HC7.out.st.le ?_; intro V8 w8 hO8 hc8 hn8; have hs8 := HC7.out.ch hO8 hc8 hn8; have HS8 := bx hs8.st; have S8 : (fun w' : World => w'.cell? ⟨C, 4, none⟩ = some (.string sn)) w8 := (hs8.bk.cell 4).trans rfl; clear hs8 hO8 hc8 hn8) | fail "arm")
                have N1 : Bx (WrS w w8 B b0 x V8 (lh ++ (x.pool.take (k + 1)).flatMap cstB)) := bx (by rw [HE7.out]; exact HS8.out)
                clear HS8 S6 S7 S8 HC7 HC6
                go_wp2
                go_roundw
                case rel => exact ⟨k + 1, by omega, by go_num, N1⟩
                case measure => simp [intOf]; omega
                -- DEV}
              · -- DEV{
                have HTE : Bx (c.tag = 3) := bx (by omega)
                have HCB := bx (cstB_t 3 (by rw [HTE.out]; rfl) (cstB_3 HTE.out))
                have HC5' : Bx (WrC w w5 B b0 C x #[.int .i64 3, .int .i64 c.a, .int .i64 c.b, .int .i64 c.num, .string sn] (.slice AV nV cV) l5) := bx (by have := HC5.out; rwa [HTE.out] at this)
                have c0 : w5.cell? ⟨C, 0, none⟩ = some (.int .i64 3) := (HC5'.out.bk.cell 0).trans rfl
                have HN6 : Bx ((l5.length + [(3 : UInt8)].length) * 1 ≤ 140737488355328) := bx (by simp only [List.length_singleton]; omega)
                obtain ⟨l6, hl6⟩ : ∃ l, l5 ++ [(3 : UInt8)] = l := ⟨_, rfl⟩
                have hz6 : l6.length ≤ 50011 := by rw [← hl6, List.length_append, List.length_singleton]; omega
                have HL6 := bx hl6
                clear hl6 HC5 t3
                obtain ⟨l7, hl7⟩ : ∃ l, l6 ++ beB 4 c.num = l := ⟨_, rfl⟩
                have HL7 := bx hl7
                have HE7 : Bx (lh ++ (x.pool.take (k + 1)).flatMap cstB = l7) := bx (by rw [HN5.out, HCB.out, ← hl7, ← HL6.out]; simp)
                have HPUT := fun w => refPutBig_ok 4 c.num w (by decide) (by decide) HNB.out.1 HNB.out.2
                have HPB := bx HPUT
                have HN7 : Bx ((l6.length + (beB 4 c.num).length) * 1 ≤ 140737488355328) := bx (by rw [beB_len]; omega)
                have HBL : Bx ((leB 4 c.num).reverse.length = 4) := bx (beB_len 4 c.num)
                clear hl7 HTE HPUT
                go_wp2_with (first | (at_builtin; refine wpList_appL _ bV_one rfl (.tmp 55) (.tmp 59) rfl byteTyP (by decide) b0 (.slice AV nV cV) l5 rfl (OwL.alloc HC5'.out.st.own _) (w5.heap.size + 1) _ 1 1 [(3 : UInt8)] rfl rfl (RL.freshe w5 (3 : UInt8) rfl _) HN6.out (HZ7.out _) ?_; intro V6 w6 hO6 hg6 hv6 hb6; have hc6 := HC5'.out.app _ hO6 hg6 hv6; rw [HL6.out] at hc6; have HC6 := bx hc6; clear hc6 hO6 hg6 hv6 hb6; have d0 : w6.cell? ⟨C, 0, none⟩ = some (.int .i64 3) := (HC6.out.bk.cell 0).trans rfl; have d3 : w6.cell? ⟨C, 3, none⟩ = some (.int .i64 c.num) := (HC6.out.bk.cell 3).trans rfl) | (go_at_call 45; refine (HPB.out w6).mono ?_; rintro e w7 ⟨r, rfl, hr7, hb7⟩; obtain ⟨A7, c7, rfl, hr7, _, _⟩ := hr7.rd; rw [HBL.out]; have HC7 := bx (HC6.out.below hb7); have HR7 : Bx (RB w7 w7.heap.size A7 (beB 4 c.num)) := bx hr7; clear hr7 hb7) | (at_builtin; refine wpList_appL _ bV_one rfl (.tmp 83) (.tmp 86) rfl byteTyP (by decide) b0 V6 l6 rfl HC7.out.st.own w7.heap.size A7 4 c7 (beB 4 c.num) rfl (beB_len 4 c.num) HR7.out HN7.out HC7.out.st.le ?_; intro V8 w8 hO8 hg8 hv8 hb8; have hc8 := HC7.out.app0 hO8 hg8 hv8; rw [HL7.out] at hc8; have HS8 := bx hc8.st; clear hc8 hO8 hg8 hv8 hb8))
                have N1 : Bx (WrS w w8 B b0 x V8 (lh ++ (x.pool.take (k + 1)).flatMap cstB)) := bx (by rw [HE7.out]; exact HS8.out)
                clear HS8
                go_roundw
                case rel => exact ⟨k + 1, by omega, by go_num, N1⟩
                case measure => simp [intOf]; omega
                -- DEV}
              · -- DEV{
                have HTE : Bx (c.tag = 5) := bx (by omega)
                have HCB := bx (cstB_t 5 (by rw [HTE.out]; rfl) (cstB_5 HTE.out))
                have HC5' : Bx (WrC w w5 B b0 C x #[.int .i64 5, .int .i64 c.a, .int .i64 c.b, .int .i64 c.num, .string sn] (.slice AV nV cV) l5) := bx (by have := HC5.out; rwa [HTE.out] at this)
                have c0 : w5.cell? ⟨C, 0, none⟩ = some (.int .i64 5) := (HC5'.out.bk.cell 0).trans rfl
                have HN6 : Bx ((l5.length + [(5 : UInt8)].length) * 1 ≤ 140737488355328) := bx (by simp only [List.length_singleton]; omega)
                obtain ⟨l6, hl6⟩ : ∃ l, l5 ++ [(5 : UInt8)] = l := ⟨_, rfl⟩
                have hz6 : l6.length ≤ 50011 := by rw [← hl6, List.length_append, List.length_singleton]; omega
                have HL6 := bx hl6
                clear hl6 HC5 t5
                obtain ⟨l7, hl7⟩ : ∃ l, l6 ++ beB 8 c.num = l := ⟨_, rfl⟩
                have HL7 := bx hl7
                have HE7 : Bx (lh ++ (x.pool.take (k + 1)).flatMap cstB = l7) := bx (by rw [HN5.out, HCB.out, ← hl7, ← HL6.out]; simp)
                have HPUT := fun w => refPutBig_ok 8 c.num w (by decide) (by decide) HNB.out.1 HNB.out.2
                have HPB := bx HPUT
                have HN7 : Bx ((l6.length + (beB 8 c.num).length) * 1 ≤ 140737488355328) := bx (by rw [beB_len]; omega)
                have HBL : Bx ((leB 8 c.num).reverse.length = 8) := bx (beB_len 8 c.num)
                clear hl7 HTE HPUT
                go_wp2_with (first | (at_builtin; refine wpList_appL _ bV_one rfl (.tmp 55) (.tmp 59) rfl byteTyP (by decide) b0 (.slice AV nV cV) l5 rfl (OwL.alloc HC5'.out.st.own _) (w5.heap.size + 1) _ 1 1 [(5 : UInt8)] rfl rfl (RL.freshe w5 (5 : UInt8) rfl _) HN6.out (HZ7.out _) ?_; intro V6 w6 hO6 hg6 hv6 hb6; have hc6 := HC5'.out.app _ hO6 hg6 hv6; rw [HL6.out] at hc6; have HC6 := bx hc6; clear hc6 hO6 hg6 hv6 hb6; have d0 : w6.cell? ⟨C, 0, none⟩ = some (.int .i64 5) := (HC6.out.bk.cell 0).trans rfl; have d3 : w6.cell? ⟨C, 3, none⟩ = some (.int .i64 c.num) := (HC6.out.bk.cell 3).trans rfl) | (go_at_call 45; refine (HPB.out w6).mono ?_; rintro e w7 ⟨r, rfl, hr7, hb7⟩; obtain ⟨A7, c7, rfl, hr7, _, _⟩ := hr7.rd; rw [HBL.out]; have HC7 := bx (HC6.out.below hb7); have HR7 : Bx (RB w7 w7.heap.size A7 (beB 8 c.num)) := bx hr7; clear hr7 hb7) | (at_builtin; refine wpList_appL _ bV_one rfl (.tmp 90) (.tmp 93) rfl byteTyP (by decide) b0 V6 l6 rfl HC7.out.st.own w7.heap.size A7 8 c7 (beB 8 c.num) rfl (beB_len 8 c.num) HR7.out HN7.out HC7.out.st.le ?_; intro V8 w8 hO8 hg8 hv8 hb8; have hc8 := HC7.out.app0 hO8 hg8 hv8; rw [HL7.out] at hc8; have HS8 := bx hc8.st; clear hc8 hO8 hg8 hv8 hb8))
                have N1 : Bx (WrS w w8 B b0 x V8 (lh ++ (x.pool.take (k + 1)).flatMap cstB)) := bx (by rw [HE7.out]; exact HS8.out)
                clear HS8
                go_roundw
                case rel => exact ⟨k + 1, by omega, by go_num, N1⟩
                case measure => simp [intOf]; omega
                -- DEV}
              · rcases t7 with t7 | t8
                · -- DEV{
                  have HTE : Bx (c.tag = 7) := bx (by omega)
                  have HCB := bx (cstB_t 7 (by rw [HTE.out]; rfl) (cstB_7 (Or.inl HTE.out)))
                  have HC5' : Bx (WrC w w5 B b0 C x #[.int .i64 7, .int .i64 c.a, .int .i64 c.b, .int .i64 c.num, .string sn] (.slice AV nV cV) l5) := bx (by have := HC5.out; rwa [HTE.out] at this)
                  have c0 : w5.cell? ⟨C, 0, none⟩ = some (.int .i64 7) := (HC5'.out.bk.cell 0).trans rfl
                  have HN6 : Bx ((l5.length + [(7 : UInt8)].length) * 1 ≤ 140737488355328) := bx (by simp only [List.length_singleton]; omega)
                  obtain ⟨l6, hl6⟩ : ∃ l, l5 ++ [(7 : UInt8)] = l := ⟨_, rfl⟩
                  have hz6 : l6.length ≤ 50011 := by rw [← hl6, List.length_append, List.length_singleton]; omega
                  have HL6 := bx hl6
                  clear hl6 HC5 t7
                  have HAL : Bx (∀ z ∈ [c.a], -9223372036854775808 ≤ z ∧ z ≤ 9223372036854775807) := bx (by
                    rcases HVC.out with h | h
                    · unfold cstV at h
                      rw [if_neg (by rw [HTE.out]; decide), if_neg (by rw [HTE.out]; decide), if_neg (by rw [HTE.out]; decide), if_pos (by rw [HTE.out]; decide)] at h
                      intro z hz
                      simp only [List.mem_cons, List.not_mem_nil, or_false] at hz
                      rw [hz]; omega
                    · exfalso; have h9 := HTE.out; rw [h] at h9; exact absurd h9 (by decide))
                  obtain ⟨l7, hl7⟩ : ∃ l, l6 ++ [c.a].flatMap (beB 2) = l := ⟨_, rfl⟩
                  have HL7 := bx hl7
                  have HE7 : Bx (lh ++ (x.pool.take (k + 1)).flatMap cstB = l7) := bx (by rw [HN5.out, HCB.out, ← hl7, ← HL6.out]; simp)
                  clear hl7 HTE
                  go_wp2_with (first | (at_builtin; refine wpList_appL _ bV_one rfl (.tmp 55) (.tmp 59) rfl byteTyP (by decide) b0 (.slice AV nV cV) l5 rfl (OwL.alloc HC5'.out.st.own _) (w5.heap.size + 1) _ 1 1 [(7 : UInt8)] rfl rfl (RL.freshe w5 (7 : UInt8) rfl _) HN6.out (HZ7.out _) ?_; intro V6 w6 hO6 hg6 hv6 hb6; have hc6 := HC5'.out.app _ hO6 hg6 hv6; rw [HL6.out] at hc6; have HC6 := bx hc6; clear hc6 hO6 hg6 hv6 hb6; have d0 : w6.cell? ⟨C, 0, none⟩ = some (.int .i64 7) := (HC6.out.bk.cell 0).trans rfl; have d1 : w6.cell? ⟨C, 1, none⟩ = some (.int .i64 c.a) := (HC6.out.bk.cell 1).trans rfl) | (go_at_call 44; refine (wc_new 2 1 [c.a] #[.int .i64 c.a] HC6.out rfl rfl HAL.out (by decide) (by decide) (by decide) (by omega) HL7.out rfl).mono ?_; rintro e w7 ⟨V7, rfl, hs7⟩; have HS7 := bx hs7.st; clear hs7))
                  have N1 : Bx (WrS w w7 B b0 x V7 (lh ++ (x.pool.take (k + 1)).flatMap cstB)) := bx (by rw [HE7.out]; exact HS7.out)
                  clear HS7
                  go_roundw
                  case rel => exact ⟨k + 1, by omega, by go_num, N1⟩
                  case measure => simp [intOf]; omega
                  -- DEV}
                · -- DEV{
                  have HTE : Bx (c.tag = 8) := bx (by omega)
                  have HCB := bx (cstB_t 8 (by rw [HTE.out]; rfl) (cstB_7 (Or.inr HTE.out)))
                  have HC5' : Bx (WrC w w5 B b0 C x #[.int .i64 8, .int .i64 c.a, .int .i64 c.b, .int .i64 c.num, .string sn] (.slice AV nV cV) l5) := bx (by have := HC5.out; rwa [HTE.out] at this)
                  have c0 : w5.cell? ⟨C, 0, none⟩ = some (.int .i64 8) := (HC5'.out.bk.cell 0).trans rfl
                  have HN6 : Bx ((l5.length + [(8 : UInt8)].length) * 1 ≤ 140737488355328) := bx (by simp only [List.length_singleton]; omega)
                  obtain ⟨l6, hl6⟩ : ∃ l, l5 ++ [(8 : UInt8)] = l := ⟨_, rfl⟩
                  have hz6 : l6.length ≤ 50011 := by rw [← hl6, List.length_append, List.length_singleton]; omega
                  have HL6 := bx hl6
                  clear hl6 HC5 t8
                  have HAL : Bx (∀ z ∈ [c.a], -9223372036854775808 ≤ z ∧ z ≤ 9223372036854775807) := bx (by
                    rcases HVC.out with h | h
                    · unfold cstV at h
                      rw [if_neg (by rw [HTE.out]; decide), if_neg (by rw [HTE.out]; decide), if_neg (by rw [HTE.out]; decide), if_pos (by rw [HTE.out]; decide)] at h
                      intro z hz
                      simp only [List.mem_cons, List.not_mem_nil, or_false] at hz
                      rw [hz]; omega
                    · exfalso; have h9 := HTE.out; rw [h] at h9; exact absurd h9 (by decide))
                  obtain ⟨l7, hl7⟩ : ∃ l, l6 ++ [c.a].flatMap (beB 2) = l := ⟨_, rfl⟩
                  have HL7 := bx hl7
                  have HE7 : Bx (lh ++ (x.pool.take (k + 1)).flatMap cstB = l7) := bx (by rw [HN5.out, HCB.out, ← hl7, ← HL6.out]; simp)
                  clear hl7 HTE
                  go_wp2_with (first | (at_builtin; refine wpList_appL _ bV_one rfl (.tmp 55) (.tmp 59) rfl byteTyP (by decide) b0 (.slice AV nV cV) l5 rfl (OwL.alloc HC5'.out.st.own _) (w5.heap.size + 1) _ 1 1 [(8 : UInt8)] rfl rfl (RL.freshe w5 (8 : UInt8) rfl _) HN6.out (HZ7.out _) ?_; intro V6 w6 hO6 hg6 hv6 hb6; have hc6 := HC5'.out.app _ hO6 hg6 hv6; rw [HL6.out] at hc6; have HC6 := bx hc6; clear hc6 hO6 hg6 hv6 hb6; have d0 : w6.cell? ⟨C, 0, none⟩ = some (.int .i64 8) := (HC6.out.bk.cell 0).trans rfl; have d1 : w6.cell? ⟨C, 1, none⟩ = some (.int .i64 c.a) := (HC6.out.bk.cell 1).trans rfl) | (go_at_call 44; refine (wc_new 2 1 [c.a] #[.int .i64 c.a] HC6.out rfl rfl HAL.out (by decide) (by decide) (by decide) (by omega) HL7.out rfl).mono ?_; rintro e w7 ⟨V7, rfl, hs7⟩; have HS7 := bx hs7.st; clear hs7))
                  have N1 : Bx (WrS w w7 B b0 x V7 (lh ++ (x.pool.take (k + 1)).flatMap cstB)) := bx (by rw [HE7.out]; exact HS7.out)
                  clear HS7
                  go_roundw
                  case rel => exact ⟨k + 1, by omega, by go_num, N1⟩
                  case measure => simp [intOf]; omega
                  -- DEV}
              · rcases t9 with t9 | t10 | t11 | t12
                · -- DEV{
                  have HTE : Bx (c.tag = 9) := bx (by omega)
                  have HCB := bx (cstB_t 9 (by rw [HTE.out]; rfl) (cstB_9 (Or.inl HTE.out)))
                  have HC5' : Bx (WrC w w5 B b0 C x #[.int .i64 9, .int .i64 c.a, .int .i64 c.b, .int .i64 c.num, .string sn] (.slice AV nV cV) l5) := bx (by have := HC5.out; rwa [HTE.out] at this)
                  have c0 : w5.cell? ⟨C, 0, none⟩ = some (.int .i64 9) := (HC5'.out.bk.cell 0).trans rfl
                  have HN6 : Bx ((l5.length + [(9 : UInt8)].length) * 1 ≤ 140737488355328) := bx (by simp only [List.length_singleton]; omega)
                  obtain ⟨l6, hl6⟩ : ∃ l, l5 ++ [(9 : UInt8)] = l := ⟨_, rfl⟩
                  have hz6 : l6.length ≤ 50011 := by rw [← hl6, List.length_append, List.length_singleton]; omega
                  have HL6 := bx hl6
                  clear hl6 HC5 t9
                  have HAL : Bx (∀ z ∈ [c.a, c.b], -9223372036854775808 ≤ z ∧ z ≤ 9223372036854775807) := bx (by
                    rcases HVC.out with h | h
                    · unfold cstV at h
                      rw [if_neg (by rw [HTE.out]; decide), if_neg (by rw [HTE.out]; decide), if_neg (by rw [HTE.out]; decide), if_neg (by rw [HTE.out]; decide)] at h
                      intro z hz
                      simp only [List.mem_cons, List.not_mem_nil, or_false] at hz
                      rcases hz with e | e <;> rw [e] <;> omega
                    · exfalso; have h9 := HTE.out; rw [h] at h9; exact absurd h9 (by decide))
                  obtain ⟨l7, hl7⟩ : ∃ l, l6 ++ [c.a, c.b].flatMap (beB 2) = l := ⟨_, rfl⟩
                  have HL7 := bx hl7
                  have HE7 : Bx (lh ++ (x.pool.take (k + 1)).flatMap cstB = l7) := bx (by rw [HN5.out, HCB.out, ← hl7, ← HL6.out]; simp)
                  clear hl7 HTE
                  go_wp2_with (first | (at_builtin; refine wpList_appL _ bV_one rfl (.tmp 55) (.tmp 59) rfl byteTyP (by decide) b0 (.slice AV nV cV) l5 rfl (OwL.alloc HC5'.out.st.own _) (w5.heap.size + 1) _ 1 1 [(9 : UInt8)] rfl rfl (RL.freshe w5 (9 : UInt8) rfl _) HN6.out (HZ7.out _) ?_; intro V6 w6 hO6 hg6 hv6 hb6; have hc6 := HC5'.out.app _ hO6 hg6 hv6; rw [HL6.out] at hc6; have HC6 := bx hc6; clear hc6 hO6 hg6 hv6 hb6; have d0 : w6.cell? ⟨C, 0, none⟩ = some (.int .i64 9) := (HC6.out.bk.cell 0).trans rfl; have d1 : w6.cell? ⟨C, 1, none⟩ = some (.int .i64 c.a) := (HC6.out.bk.cell 1).trans rfl; have d2 : w6.cell? ⟨C, 2, none⟩ = some (.int .i64 c.b) := (HC6.out.bk.cell 2).trans rfl) | (go_at_call 44; refine (wc_new 2 2 [c.a, c.b] #[.int .i64 c.a, .int .i64 c.b] HC6.out rfl rfl HAL.out (by decide) (by decide) (by decide) (by omega) HL7.out rfl).mono ?_; rintro e w7 ⟨V7, rfl, hs7⟩; have HS7 := bx hs7.st; clear hs7))
                  have N1 : Bx (WrS w w7 B b0 x V7 (lh ++ (x.pool.take (k + 1)).flatMap cstB)) := bx (by rw [HE7.out]; exact HS7.out)
                  clear HS7
                  go_roundw
                  case rel => exact ⟨k + 1, by omega, by go_num, N1⟩
                  case measure => simp [intOf]; omega
                  -- DEV}
                · -- DEV{
                  have HTE : Bx (c.tag = 10) := bx (by omega)
                  have HCB := bx (cstB_t 10 (by rw [HTE.out]; rfl) (cstB_9 (Or.inr (Or.inl HTE.out))))
                  have HC5' : Bx (WrC w w5 B b0 C x #[.int .i64 10, .int .i64 c.a, .int .i64 c.b, .int .i64 c.num, .string sn] (.slice AV nV cV) l5) := bx (by have := HC5.out; rwa [HTE.out] at this)
                  have c0 : w5.cell? ⟨C, 0, none⟩ = some (.int .i64 10) := (HC5'.out.bk.cell 0).trans rfl
                  have HN6 : Bx ((l5.length + [(10 : UInt8)].length) * 1 ≤ 140737488355328) := bx (by simp only [List.length_singleton]; omega)
                  obtain ⟨l6, hl6⟩ : ∃ l, l5 ++ [(10 : UInt8)] = l := ⟨_, rfl⟩
                  have hz6 : l6.length ≤ 50011 := by rw [← hl6, List.length_append, List.length_singleton]; omega
                  have HL6 := bx hl6
                  clear hl6 HC5 t10
                  have HAL : Bx (∀ z ∈ [c.a, c.b], -9223372036854775808 ≤ z ∧ z ≤ 9223372036854775807) := bx (by
                    rcases HVC.out with h | h
                    · unfold cstV at h
                      rw [if_neg (by rw [HTE.out]; decide), if_neg (by rw [HTE.out]; decide), if_neg (by rw [HTE.out]; decide), if_neg (by rw [HTE.out]; decide)] at h
                      intro z hz
                      simp only [List.mem_cons, List.not_mem_nil, or_false] at hz
                      rcases hz with e | e <;> rw [e] <;> omega
                    · exfalso; have h9 := HTE.out; rw [h] at h9; exact absurd h9 (by decide))
                  obtain ⟨l7, hl7⟩ : ∃ l, l6 ++ [c.a, c.b].flatMap (beB 2) = l := ⟨_, rfl⟩
                  have HL7 := bx hl7
                  have HE7 : Bx (lh ++ (x.pool.take (k + 1)).flatMap cstB = l7) := bx (by rw [HN5.out, HCB.out, ← hl7, ← HL6.out]; simp)
                  clear hl7 HTE
                  go_wp2_with (first | (at_builtin; refine wpList_appL _ bV_one rfl (.tmp 55) (.tmp 59) rfl byteTyP (by decide) b0 (.slice AV nV cV) l5 rfl (OwL.alloc HC5'.out.st.own _) (w5.heap.size + 1) _ 1 1 [(10 : UInt8)] rfl rfl (RL.freshe w5 (10 : UInt8) rfl _) HN6.out (HZ7.out _) ?_; intro V6 w6 hO6 hg6 hv6 hb6; have hc6 := HC5'.out.app _ hO6 hg6 hv6; rw [HL6.out] at hc6; have HC6 := bx hc6; clear hc6 hO6 hg6 hv6 hb6; have d0 : w6.cell? ⟨C, 0, none⟩ = some (.int .i64 10) := (HC6.out.bk.cell 0).trans rfl; have d1 : w6.cell? ⟨C, 1, none⟩ = some (.int .i64 c.a) := (HC6.out.bk.cell 1).trans rfl; have d2 : w6.cell? ⟨C, 2, none⟩ = some (.int .i64 c.b) := (HC6.out.bk.cell 2).trans rfl) | (go_at_call 44; refine (wc_new 2 2 [c.a, c.b] #[.int .i64 c.a, .int .i64 c.b] HC6.out rfl rfl HAL.out (by decide) (by decide) (by decide) (by omega) HL7.out rfl).mono ?_; rintro e w7 ⟨V7, rfl, hs7⟩; have HS7 := bx hs7.st; clear hs7))
                  have N1 : Bx (WrS w w7 B b0 x V7 (lh ++ (x.pool.take (k + 1)).flatMap cstB)) := bx (by rw [HE7.out]; exact HS7.out)
                  clear HS7
                  go_roundw
                  case rel => exact ⟨k + 1, by omega, by go_num, N1⟩
                  case measure => simp [intOf]; omega
                  -- DEV}
                · -- DEV{
                  have HTE : Bx (c.tag = 11) := bx (by omega)
                  have HCB := bx (cstB_t 11 (by rw [HTE.out]; rfl) (cstB_9 (Or.inr (Or.inr (Or.inl HTE.out)))))
                  have HC5' : Bx (WrC w w5 B b0 C x #[.int .i64 11, .int .i64 c.a, .int .i64 c.b, .int .i64 c.num, .string sn] (.slice AV nV cV) l5) := bx (by have := HC5.out; rwa [HTE.out] at this)
                  have c0 : w5.cell? ⟨C, 0, none⟩ = some (.int .i64 11) := (HC5'.out.bk.cell 0).trans rfl
                  have HN6 : Bx ((l5.length + [(11 : UInt8)].length) * 1 ≤ 140737488355328) := bx (by simp only [List.length_singleton]; omega)
                  obtain ⟨l6, hl6⟩ : ∃ l, l5 ++ [(11 : UInt8)] = l := ⟨_, rfl⟩
                  have hz6 : l6.length ≤ 50011 := by rw [← hl6, List.length_append, List.length_singleton]; omega
                  have HL6 := bx hl6
                  clear hl6 HC5 t11
                  have HAL : Bx (∀ z ∈ [c.a, c.b], -9223372036854775808 ≤ z ∧ z ≤ 9223372036854775807) := bx (by
                    rcases HVC.out with h | h
                    · unfold cstV at h
                      rw [if_neg (by rw [HTE.out]; decide), if_neg (by rw [HTE.out]; decide), if_neg (by rw [HTE.out]; decide), if_neg (by rw [HTE.out]; decide)] at h
                      intro z hz
                      simp only [List.mem_cons, List.not_mem_nil, or_false] at hz
                      rcases hz with e | e <;> rw [e] <;> omega
                    · exfalso; have h9 := HTE.out; rw [h] at h9; exact absurd h9 (by decide))
                  obtain ⟨l7, hl7⟩ : ∃ l, l6 ++ [c.a, c.b].flatMap (beB 2) = l := ⟨_, rfl⟩
                  have HL7 := bx hl7
                  have HE7 : Bx (lh ++ (x.pool.take (k + 1)).flatMap cstB = l7) := bx (by rw [HN5.out, HCB.out, ← hl7, ← HL6.out]; simp)
                  clear hl7 HTE
                  go_wp2_with (first | (at_builtin; refine wpList_appL _ bV_one rfl (.tmp 55) (.tmp 59) rfl byteTyP (by decide) b0 (.slice AV nV cV) l5 rfl (OwL.alloc HC5'.out.st.own _) (w5.heap.size + 1) _ 1 1 [(11 : UInt8)] rfl rfl (RL.freshe w5 (11 : UInt8) rfl _) HN6.out (HZ7.out _) ?_; intro V6 w6 hO6 hg6 hv6 hb6; have hc6 := HC5'.out.app _ hO6 hg6 hv6; rw [HL6.out] at hc6; have HC6 := bx hc6; clear hc6 hO6 hg6 hv6 hb6; have d0 : w6.cell? ⟨C, 0, none⟩ = some (.int .i64 11) := (HC6.out.bk.cell 0).trans rfl; have d1 : w6.cell? ⟨C, 1, none⟩ = some (.int .i64 c.a) := (HC6.out.bk.cell 1).trans rfl; have d2 : w6.cell? ⟨C, 2, none⟩ = some (.int .i64 c.b) := (HC6.out.bk.cell 2).trans rfl) | (go_at_call 44; refine (wc_new 2 2 [c.a, c.b] #[.int .i64 c.a, .int .i64 c.b] HC6.out rfl rfl HAL.out (by decide) (by decide) (by decide) (by omega) HL7.out rfl).mono ?_; rintro e w7 ⟨V7, rfl, hs7⟩; have HS7 := bx hs7.st; clear hs7))
                  have N1 : Bx (WrS w w7 B b0 x V7 (lh ++ (x.pool.take (k + 1)).flatMap cstB)) := bx (by rw [HE7.out]; exact HS7.out)
                  clear HS7
                  go_roundw
                  case rel => exact ⟨k + 1, by omega, by go_num, N1⟩
                  case measure => simp [intOf]; omega
                  -- DEV}
                · -- DEV{
                  have HTE : Bx (c.tag = 12) := bx (by omega)
                  have HCB := bx (cstB_t 12 (by rw [HTE.out]; rfl) (cstB_9 (Or.inr (Or.inr (Or.inr HTE.out)))))
                  have HC5' : Bx (WrC w w5 B b0 C x #[.int .i64 12, .int .i64 c.a, .int .i64 c.b, .int .i64 c.num, .string sn] (.slice AV nV cV) l5) := bx (by have := HC5.out; rwa [HTE.out] at this)
                  have c0 : w5.cell? ⟨C, 0, none⟩ = some (.int .i64 12) := (HC5'.out.bk.cell 0).trans rfl
                  have HN6 : Bx ((l5.length + [(12 : UInt8)].length) * 1 ≤ 140737488355328) := bx (by simp only [List.length_singleton]; omega)
                  obtain ⟨l6, hl6⟩ : ∃ l, l5 ++ [(12 : UInt8)] = l := ⟨_, rfl⟩
                  have hz6 : l6.length ≤ 50011 := by rw [← hl6, List.length_append, List.length_singleton]; omega
                  have HL6 := bx hl6
                  clear hl6 HC5 t12
                  have HAL : Bx (∀ z ∈ [c.a, c.b], -9223372036854775808 ≤ z ∧ z ≤ 9223372036854775807) := bx (by
                    rcases HVC.out with h | h
                    · unfold cstV at h
                      rw [if_neg (by rw [HTE.out]; decide), if_neg (by rw [HTE.out]; decide), if_neg (by rw [HTE.out]; decide), if_neg (by rw [HTE.out]; decide)] at h
                      intro z hz
                      simp only [List.mem_cons, List.not_mem_nil, or_false] at hz
                      rcases hz with e | e <;> rw [e] <;> omega
                    · exfalso; have h9 := HTE.out; rw [h] at h9; exact absurd h9 (by decide))
                  obtain ⟨l7, hl7⟩ : ∃ l, l6 ++ [c.a, c.b].flatMap (beB 2) = l := ⟨_, rfl⟩
                  have HL7 := bx hl7
                  have HE7 : Bx (lh ++ (x.pool.take (k + 1)).flatMap cstB = l7) := bx (by rw [HN5.out, HCB.out, ← hl7, ← HL6.out]; simp)
                  clear hl7 HTE
                  go_wp2_with (first | (at_builtin; refine wpList_appL _ bV_one rfl (.tmp 55) (.tmp 59) rfl byteTyP (by decide) b0 (.slice AV nV cV) l5 rfl (OwL.alloc HC5'.out.st.own _) (w5.heap.size + 1) _ 1 1 [(12 : UInt8)] rfl rfl (RL.freshe w5 (12 : UInt8) rfl _) HN6.out (HZ7.out _) ?_; intro V6 w6 hO6 hg6 hv6 hb6; have hc6 := HC5'.out.app _ hO6 hg6 hv6; rw [HL6.out] at hc6; have HC6 := bx hc6; clear hc6 hO6 hg6 hv6 hb6; have d0 : w6.cell? ⟨C, 0, none⟩ = some (.int .i64 12) := (HC6.out.bk.cell 0).trans rfl; have d1 : w6.cell? ⟨C, 1, none⟩ = some (.int .i64 c.a) := (HC6.out.bk.cell 1).trans rfl; have d2 : w6.cell? ⟨C, 2, none⟩ = some (.int .i64 c.b) := (HC6.out.bk.cell 2).trans rfl) | (go_at_call 44; refine (wc_new 2 2 [c.a, c.b] #[.int .i64 c.a, .int .i64 c.b] HC6.out rfl rfl HAL.out (by decide) (by decide) (by decide) (by omega) HL7.out rfl).mono ?_; rintro e w7 ⟨V7, rfl, hs7⟩; have HS7 := bx hs7.st; clear hs7))
                  have N1 : Bx (WrS w w7 B b0 x V7 (lh ++ (x.pool.take (k + 1)).flatMap cstB)) := bx (by rw [HE7.out]; exact HS7.out)
                  clear HS7
                  go_roundw
                  case rel => exact ⟨k + 1, by omega, by go_num, N1⟩
                  case measure => simp [intOf]; omega
                  -- DEV}
            · obtain rfl : x.pn = k := by omega
              have hkI : ¬ (x.pn : Int) < (x.pn : Int) := by omega
              have f2 := HS.out.im.im2 rfl
              obtain ⟨g8, hg8⟩ : ∃ l, lh ++ x.pool.flatMap cstB = l := ⟨_, rfl⟩
              have HSF : Bx (WrS w wr B b0 x (.slice AV nV cV) g8) := bx (by
                have := HS.out
                rwa [List.take_of_length_le (by rw [HPL.out]; exact Nat.le_refl _), hg8] at this)
              have hz8 : g8.length ≤ 50010 := by
                rw [← hg8, List.length_append]
                have := HCL.out x.pn
                rw [List.take_of_length_le (by rw [HPL.out]; exact Nat.le_refl _)] at this
                omega
              have HLIM := bx (holds_lim HQH.out)
              have hi64 : x.i_n ≤ 64 := by have := HLIM.out.1; have := HX.out.il.1; omega
              have hf64 : x.fn ≤ 64 := by have := HLIM.out.2.1.1; have := HX.out.fl.1; omega
              have hm64 : x.mn ≤ 64 := by have := HLIM.out.2.2.1.1; have := HX.out.ml.1; omega
              have ha64 : x.an ≤ 64 := by have := HLIM.out.2.2.2.1; have := HX.out.al.1; omega
              have HWF : Bx (∀ y ∈ x.fs, MmW y) := bx (mems_W HX.out.fs HIV.out.2.2.2.2.2.2.2.1.2 HLIM.out.2.1.2)
              have HWM : Bx (∀ y ∈ x.ms, MmW y) := bx (mems_W HX.out.ms HIV.out.2.2.2.2.2.2.2.2.1.2 HLIM.out.2.2.1.2)
              have HWA := bx (atts_W HX.out.as_ HIV.out.2.2.2.2.2.2.2.2.2.2 HLIM.out.2.2.2.2)
              have HBI : Bx (∀ z ∈ x.ifs, -9223372036854775808 ≤ z ∧ z ≤ 9223372036854775807) := bx (fun z hz => by have := HIV.out.2.2.2.2.2.2.1.2 z hz; omega)
              have HB4 : Bx (∀ z ∈ [x.access, x.this, x.super, (x.i_n : Int)], -9223372036854775808 ≤ z ∧ z ≤ 9223372036854775807) := bx (by
                have h1 : 0 ≤ x.access ∧ x.access ≤ 65535 := HIV.out.2.2.2.1
                have h2 : 0 ≤ x.this ∧ x.this ≤ 65535 := HIV.out.2.2.2.2.1
                have h3 : 0 ≤ x.super ∧ x.super ≤ 65535 := HIV.out.2.2.2.2.2.1
                intro z hz
                simp only [List.mem_cons, List.not_mem_nil, or_false] at hz
                rcases hz with e | e | e | e <;> rw [e] <;> omega)
              obtain ⟨g9, hg9⟩ : ∃ l, g8 ++ [x.access, x.this, x.super, (x.i_n : Int)].flatMap (beB 2) = l := ⟨_, rfl⟩
              obtain ⟨g10, hg10⟩ : ∃ l, g9 ++ x.ifs.flatMap (beB 2) = l := ⟨_, rfl⟩
              obtain ⟨g11, hg11⟩ : ∃ l, g10 ++ (beB 2 (x.fn : Int) ++ x.fs.flatMap memB') = l := ⟨_, rfl⟩
              obtain ⟨g12, hg12⟩ : ∃ l, g11 ++ (beB 2 (x.mn : Int) ++ x.ms.flatMap memB') = l := ⟨_, rfl⟩
              obtain ⟨g13, hg13⟩ : ∃ l, g12 ++ (beB 2 (x.an : Int) ++ x.as_.flatMap attB') = l := ⟨_, rfl⟩
              have HIM : Bx (g13 = imgB x.p) := bx (by rw [← img_all HX.out, ← hg13, ← hg12, ← hg11, ← hg10, ← hg9, ← hg8, ← HLH.out])
              have hz9 : g9.length ≤ 50018 := by rw [← hg9, List.length_append, beBs_len]; simp only [List.length_cons, List.length_nil]; omega
              have hz10 : g10.length ≤ 50146 := by rw [← hg10, List.length_append, beBs_len, HX.out.il.1]; omega
              have hz11 : g11.length ≤ 140000000 := by
                rw [← hg11, List.length_append, List.length_append, beB_len]
                have h1 := memBs_len (w := w) (B := w.heap.size) x.fs (fun y hy => ⟨HX.out.fs.2 y hy, HWF.out y hy⟩)
                have h2 : x.fs.length * 2100000 ≤ 64 * 2100000 := Nat.mul_le_mul (by rw [HX.out.fl.1]; exact hf64) (Nat.le_refl _)
                omega
              have hz12 : g12.length ≤ 280000000 := by
                rw [← hg12, List.length_append, List.length_append, beB_len]
                have h1 := memBs_len (w := w) (B := w.heap.size) x.ms (fun y hy => ⟨HX.out.ms.2 y hy, HWM.out y hy⟩)
                have h2 : x.ms.length * 2100000 ≤ 64 * 2100000 := Nat.mul_le_mul (by rw [HX.out.ml.1]; exact hm64) (Nat.le_refl _)
                omega
              have Q9 := bx hg9
              have Q10 := bx hg10
              have Q11 := bx hg11
              have Q12 := bx hg12
              have Q13 := bx hg13
              clear hg8 hg9 hg10 hg11 hg12 hg13 HS
              go_upto_region 28 with (fail)
              clear f2
              go_region_held3 (fun w' => w'.cell? ⟨B, 3, none⟩ = some (.int .i64 x.access) ∧ w'.cell? ⟨B, 4, none⟩ = some (.int .i64 x.this) ∧ w'.cell? ⟨B, 5, none⟩ = some (.int .i64 x.super) ∧ w'.cell? ⟨B, 6, none⟩ = some (.slice x.iA x.i_n x.ic)) (first | exact im_36 HSF.out.im | exact im_36 (HSF.out.im.alloc _) | exact im_36 HS9.out.im | exact im_36 HS10.out.im | fail) (first | (go_at_call 44; have hz := HS9.out; clear hz; refine (wr_ifs HS9.out HX.out HBI.out hi64 (by omega) Q10.out).mono ?_; rintro e w10 ⟨V10, rfl, hs10⟩; have HS10 := bx hs10; clear hs10) | (go_at_call 44; refine (wr_new (wx := wr.drew) 2 4 [x.access, x.this, x.super, (x.i_n : Int)] #[.int .i64 x.access, .int .i64 x.this, .int .i64 x.super, .int .i64 (x.i_n : Int)] (HSF.out.below (below_drewN (Below.refl _ _) 1)) rfl rfl HB4.out (by decide) (by decide) (by decide) (by omega) Q9.out rfl).mono ?_; rintro e w9 ⟨V9, rfl, hs9⟩; have HS9 := bx hs9; clear hs9) | fail "arm")
              clear HS9 HSF
              go_upto_region 29 with (fail)
              go_region_held3 (fun w' => w'.cell? ⟨B, 7, none⟩ = some (.slice x.fA x.fn x.fc) ∧ w'.cell? ⟨B, 8, none⟩ = some (.slice x.mA x.mn x.mc) ∧ w'.cell? ⟨B, 9, none⟩ = some (.slice x.aA x.an x.ac)) (first | exact im_79 HS10.out.im | exact im_79 HS11.out.im | exact im_79 HS12.out.im | exact im_79 HS13.out.im | fail) (first | (go_at_call 46; refine (wr_atts HS12.out x.aA x.an x.ac x.as_ HX.out.al.1 HX.out.as_ HWA.out ha64 (by omega) Q13.out).mono ?_; rintro e w13 ⟨V13, rfl, hs13⟩; have HS13 := bx hs13; clear hs13) | (go_at_call 47; have hz := HS11.out; clear hz; refine (wr_mems HS11.out x.mA x.mn x.mc x.ms HX.out.ml.1 HX.out.ms HWM.out hm64 (by omega) Q12.out).mono ?_; rintro e w12 ⟨V12, rfl, hs12⟩; have HS12 := bx hs12; clear hs12) | (go_at_call 47; refine (wr_mems (wx := w10.drew) (HS10.out.below (below_drewN (Below.refl _ _) 1)) x.fA x.fn x.fc x.fs HX.out.fl.1 HX.out.fs HWF.out hf64 (by omega) Q11.out).mono ?_; rintro e w11 ⟨V11, rfl, hs11⟩; have HS11 := bx hs11; clear hs11) | fail "arm")
              obtain ⟨A14, n14, c14, rfl, hn14, _⟩ := OwL.sl HS13.out.own
              have HNL := hn14
              clear hn14 HS10 HS11 HS12
              by_cases hbig2 : 32768 < n14
              · have hbJ : (32768 : Int) < (n14 : Int) := by omega
                have HE : Bx (W = .err 8) := bx (by rw [← HW.out]; unfold writeP; rw [if_neg (by rw [HQH.out]; simp), if_pos (by rw [← HIM.out, ← HNL.out]; exact hbig2)])
                clear hbig2
                go_wp2
                go_ret2
                rw [HE.out]
                exact ⟨HS13.out.bel, rfl, .inr rfl⟩
              · have hbJ : ¬ (32768 : Int) < (n14 : Int) := by omega
                have HE : Bx (W = .ok g13) := bx (by rw [← HW.out]; unfold writeP; rw [if_neg (by rw [HQH.out]; simp), if_neg (by rw [← HIM.out, ← HNL.out]; exact hbig2), HIM.out])
                have HLE : Bx (g13.length ≤ 32768) := bx (by rw [← HNL.out]; omega)
                clear hbig2
                go_wp2
                go_ret2
                exact imgW_ok HE.out HS13.out.bel (HS13.out.own.low HS13.out.bw) HLE.out
end Go.Proofs.Ytdioijhmmmnbgaa
