/- Contract: samovarref06.All. -/
import Derived.Test.YtbhljigppljjbaaRfF
import Derived.Test.YtbhljigppljjbaaInfG
namespace Go.Proofs.Ytbhljigppljjbaa
open Go.RowKit

/-- What comes behind a block. -/
def blkK (L x κ : Nat) (b : List UInt8) (X : Rz (List UInt8 × Nat)) : Rz (List UInt8 × Nat) := X.bind fun z => (if x = 1 then Rz.ok z else allB L b κ z.2 z.1).bind fun u => .ok (u.1, (u.2 + 7) / 8)
theorem blkK_of {L κ q x y : Nat} {b o : List UInt8} (h1 : q + 1 ≤ 8 * b.length) (h2 : q + 1 + 2 ≤ 8 * b.length) (hx : takeN b q 1 = x) (hy : takeN b (q + 1) 2 = y) :
    ((allB L b (κ + 1) q o).bind fun x => .ok (x.1, (x.2 + 7) / 8)) = blkK L x κ b (bodyP L o y b (q + 1 + 2)) := by
  rw [allB, blkP, tk, if_pos h1, hx]
  show (((tk b (q + 1) 2).bind _).bind _).bind _ = _
  rw [tk, if_pos h2, hy]
  show (((bodyP L o y b (q + 1 + 2)).bind _).bind _).bind _ = _
  unfold blkK
  cases bodyP L o y b (q + 1 + 2) with
  | err k => rfl
  | ok z =>
    show ((if decide (x = 1) = true then Rz.ok (z.1, z.2) else allB L b κ z.2 z.1).bind _) = ((if x = 1 then Rz.ok z else allB L b κ z.2 z.1).bind fun u => .ok (u.1, (u.2 + 7) / 8))
    by_cases h : x = 1
    · rw [decide_eq_true h, if_pos rfl, if_pos h]
    · rw [decide_eq_false h, if_neg (by simp), if_neg h]
theorem blk_short1 {L q κ : Nat} {b o : List UInt8} (h : 8 * b.length < q + 1) : ((allB L b (κ + 1) q o).bind fun x => Rz.ok (x.1, (x.2 + 7) / 8)) = .err 2 := by
  rw [allB, blkP, tk, if_neg (by omega)]; rfl
theorem blk_short2 {L q κ : Nat} {b o : List UInt8} (h1 : q + 1 ≤ 8 * b.length) (h : 8 * b.length < q + 1 + 2) : ((allB L b (κ + 1) q o).bind fun x => Rz.ok (x.1, (x.2 + 7) / 8)) = .err 2 := by
  rw [allB, blkP, tk, if_pos h1]
  show (((tk b (q + 1) 2).bind _).bind _).bind _ = _
  rw [tk, if_neg (by omega)]; rfl
set_option maxRecDepth 100000 in
set_option maxHeartbeats 8000000 in
theorem rall_any (A : Option Addr) (n c : Nat) (b : List UInt8) (lim : Int) (w : World) (hn : b.length = n) (hz : n ≤ 1000000000) (hr : RB w w.heap.size A b) (hlim1 : -9223372036854775808 ≤ lim) (hlim2 : lim ≤ 9223372036854775807) :
    Calls Try.prog 13 #[.slice A n c, .int .i64 lim] w (AllPost (inflP b lim) w) := by
  obtain ⟨R, hRR⟩ : ∃ R, inflP b lim = R := ⟨_, rfl⟩
  rw [hRR]
  by_cases hbad : lim < 0 ∨ 32768 < lim
  · have HF : Bx (R = .err 1) := bx (by rw [← hRR, inflP, if_pos hbad])
    clear hRR
    rcases (by omega : lim < 0 ∨ 0 ≤ lim) with hb1 | hb1
    · go_enter Try.func13, Try.ntmps13
      go_wp2
      go_ret3
      exact allPost_err HF.out (Below.refl _ _)
    · have hb2 : 32768 < lim := by omega
      go_enter Try.func13, Try.ntmps13
      go_wp2
      go_ret3
      exact allPost_err HF.out (Below.refl _ _)
  · obtain ⟨L, rfl⟩ : ∃ L : Nat, lim = (L : Int) := ⟨lim.toNat, by omega⟩
    have hL : L ≤ 32768 := by omega
    have HG : Bx (R = (allB L b (8 * b.length + 1) 0 []).bind fun x => .ok (x.1, (x.2 + 7) / 8)) := bx (by rw [← hRR, inflP, if_neg hbad, Int.toNat_natCast]; rfl)
    have HN : Bx ((([] : List UInt8).length + b.length) * 1 ≤ 140737488355328) := bx (by simp; omega)
    have HL := bx hn
    have hbl : b.length ≤ 1000000000 := by omega
    clear hRR hbad hlim1 hlim2 hn
    go_enter Try.func13, Try.ntmps13
    go_wp2_with (at_builtin; refine wpList_appL _ bV_one rfl (.tmp 27) (.tmp 28) rfl byteTy (by decide) w.heap.size _ [] rfl (OwL.lit0 w (Nat.le_refl _)) w.heap.size A n c b rfl HL.out (RL.alloc hr (Nat.le_refl _) _) HN.out (le_alloc0 (Nat.le_refl _) _) ?_; intro v1 w1 hown _ _ hb1; rw [List.nil_append] at hown; obtain ⟨A1, c1, rfl, hr1, hc1, _⟩ := OwL.rd hown)
    have hb2 := ((Below.refl w.heap.size w).alloc (Nat.le_refl _) _).trans hb1
    obtain ⟨gr, hgr⟩ : ∃ gr, w1.heap.size = gr := ⟨_, rfl⟩
    have hgw : w.heap.size ≤ gr := by rw [← hgr]; exact hb2.size
    have hR2 : RRd (w1.alloc (.cells #[.slice A1 b.length c1, .int .i64 0] 50)) gr b 0 := ⟨A1, c1, Bk.newAt _ _ _ hgr, by rw [← hgr]; exact hr1.alloc (Nat.le_refl _) _, hc1, by omega, hbl⟩
    have hB2 := bl_alloc hb2 (Nat.le_refl _) (.cells #[.slice A1 b.length c1, .int .i64 0] 50)
    clear hown hb1 hb2 hr1
    try rw [hgr]
    generalize w1.alloc (.cells #[.slice A1 b.length c1, .int .i64 0] 50) = w2 at hR2 hB2 ⊢
    go_loopg [8] (8 * b.length + 1) (fun κ v wr => ∃ (q : Nat) (o : List UInt8), RRd wr gr b q ∧ OwB wr (gr + 1) 5 v o ∧ o.length ≤ L ∧ Below w.heap.size w wr ∧ 8 * b.length < q + κ ∧ q ≤ 8 * b.length ∧ Bx (R = (allB L b κ q o).bind fun x => .ok (x.1, (x.2 + 7) / 8)))
    case atStart => exact ⟨0, [], hR2, OwL.nil, by simp, hB2, by omega, by omega, HG⟩
    case round =>
      clear hR2 hB2 HG
      obtain ⟨q, o, hR, hO, hol, hB, hgk, hq, hgo⟩ := hrel
      obtain ⟨κ, rfl⟩ : ∃ κ, gk = κ + 1 := ⟨gk - 1, by omega⟩
      by_cases hq1 : q + 1 ≤ 8 * b.length
      case neg =>
        have HF : Bx (R = .err 2) := bx (by rw [hgo.out, blk_short1 (by omega)])
        go_wp2_with fail
        refine (rtake_short gr b q 1 wr hR (by omega) (by omega)).mono ?_
        rintro e w3 ⟨rfl, hb3⟩
        have hB3 := hB.trans (hb3.mono hB.size)
        go_wp2
        go_ret3
        exact allPost_err HF.out hB3
      case pos =>
      go_wp2_with fail
      refine (rtake_ok gr b q 1 wr hR (by omega) hq1).mono ?_
      rintro e w3 ⟨rfl, hR3, hg3⟩
      have hO3 := hO.keptAt hg3 (by omega)
      have hB3 := hB.trans (gb_low hg3 hgw hR.lt)
      obtain ⟨x, hx⟩ : ∃ x, takeN b q 1 = x := ⟨_, rfl⟩
      have hx2 : x < 2 := by rw [← hx]; exact takeN_lt b q 1
      rw [hx]
      have HX := bx hx
      clear hR hO hB hg3 hx
      by_cases hq2 : q + 1 + 2 ≤ 8 * b.length
      case neg =>
        have HF : Bx (R = .err 2) := bx (by rw [hgo.out, blk_short2 hq1 (by omega)])
        go_wp2_with fail
        refine (rtake_short gr b (q + 1) 2 w3 hR3 (by omega) (by omega)).mono ?_
        rintro e w4 ⟨rfl, hb4⟩
        have hB4 := hB3.trans (hb4.mono hB3.size)
        go_wp2
        go_ret3
        exact allPost_err HF.out hB4
      case pos =>
      go_wp2_with fail
      refine (rtake_ok gr b (q + 1) 2 w3 hR3 (by omega) hq2).mono ?_
      rintro e w4 ⟨rfl, hR4, hg4⟩
      have hO4 := hO3.keptAt hg4 (by omega)
      have hB4 := hB3.trans (gb_low hg4 hgw hR3.lt)
      obtain ⟨y, hy⟩ : ∃ y, takeN b (q + 1) 2 = y := ⟨_, rfl⟩
      have hy4 : y < 4 := by rw [← hy]; exact takeN_lt b (q + 1) 2
      rw [hy]
      have HGO := bx (hgo.out.trans (blkK_of hq1 hq2 HX.out hy))
      obtain ⟨q3, hq3⟩ : ∃ q3, q + 1 + 2 = q3 := ⟨_, rfl⟩
      rw [hq3] at HGO hR4
      have hqq : q + 3 = q3 := by omega
      have hq38 : q3 ≤ 8 * b.length := by omega
      clear hR3 hO3 hB3 hg4 hy hgo hq3 HX hq1 hq2
      go_upto_block 2 with (fail)
      go_cut [8, 10] (fun v8 _ wx => ∃ (q2 : Nat) (o2 : List UInt8), RRd wx gr b q2 ∧ OwB wx (gr + 1) 5 v8 o2 ∧ o2.length ≤ L ∧ Below w.heap.size w wx ∧ q3 ≤ q2 ∧ q2 ≤ 8 * b.length ∧ Bx (R = blkK L x κ b (.ok (o2, q2))))
      case first =>
        by_cases hy0 : y = 0
        · subst hy0
          obtain ⟨Av, nv, cv, rfl, hnv, hrv⟩ := OwL.sl hO4
          have HGO2 : Bx (R = blkK L x κ b (storedP b L q3 o)) := bx HGO.out
          clear HGO
          obtain ⟨f, hf⟩ : ∃ f, (q3 + 7) / 8 = f := ⟨_, rfl⟩
          have HFF := bx hf
          by_cases h4 : b.length < f + 4
          · have HF : Bx (R = .err 2) := bx (by rw [HGO2.out, storedP, HFF.out, if_pos h4]; rfl)
            go_wp2_with fail
            refine (rbytes_short gr b q3 4 w4 hR4 (by omega) (by omega)).mono ?_
            rintro e w5 ⟨rfl, rfl⟩
            go_wp2
            go_ret3
            exact allPost_err HF.out hB4
          · go_wp2_with fail
            refine (rbytes_ok gr b q3 4 f w4 hR4 (by omega) hf (by omega)).mono ?_
            rintro e w5 ⟨Ah, ch, rfl, _, hrh, _, hR5, hg5⟩
            have hO5 := hO4.keptAt hg5 (by omega)
            have hB5 := hB4.trans (gb_low hg5 hgw hR4.lt)
            clear hO4 hB4 hR4 hg5 hrv
            obtain ⟨ad0, x0, rfl, _, hx0, hc0⟩ := RL.byte hrh (k := 0) (by rw [List.length_take, List.length_drop]; omega)
            obtain ⟨ad1, x1, e1, _, hx1, hc1⟩ := RL.byte hrh (k := 1) (by rw [List.length_take, List.length_drop]; omega)
            obtain ⟨ad2, x2, e2, _, hx2', hc2⟩ := RL.byte hrh (k := 2) (by rw [List.length_take, List.length_drop]; omega)
            obtain ⟨ad3, x3, e3, _, hx3, hc3⟩ := RL.byte hrh (k := 3) (by rw [List.length_take, List.length_drop]; omega)
            injection e1 with e1
            injection e2 with e2
            injection e3 with e3
            subst e1 e2 e3
            have b0 : byteN b f = x0.toNat := by have := hx0.out; rw [drop_take_at (by omega) (by omega)] at this; injection this with this; unfold byteN; rw [← this]; rfl
            have b1 : byteN b (f + 1) = x1.toNat := by have := hx1.out; rw [drop_take_at (by omega) (by omega)] at this; injection this with this; unfold byteN; rw [← this]
            have b2 : byteN b (f + 2) = x2.toNat := by have := hx2'.out; rw [drop_take_at (by omega) (by omega)] at this; injection this with this; unfold byteN; rw [← this]
            have b3 : byteN b (f + 3) = x3.toNat := by have := hx3.out; rw [drop_take_at (by omega) (by omega)] at this; injection this with this; unfold byteN; rw [← this]
            have y0 := x0.toNat_lt
            have y1 := x1.toNat_lt
            have y2 := x2.toNat_lt
            have y3 := x3.toNat_lt
            have k0 : w5.cell? ad0 = some (.int .u8 (x0.toNat : Int)) := by rw [add_zero] at hc0; exact hc0
            have k1 : w5.cell? ⟨ad0.block, ad0.off + 1, none⟩ = some (.int .u8 (x1.toNat : Int)) := by rw [add_pos] at hc1; exact hc1
            have k2 : w5.cell? ⟨ad0.block, ad0.off + 2, none⟩ = some (.int .u8 (x2.toNat : Int)) := by rw [add_pos] at hc2; exact hc2
            have k3 : w5.cell? ⟨ad0.block, ad0.off + 3, none⟩ = some (.int .u8 (x3.toNat : Int)) := by rw [add_pos] at hc3; exact hc3
            obtain ⟨n0, hn0⟩ : ∃ n0, x0.toNat + 256 * x1.toNat = n0 := ⟨_, rfl⟩
            obtain ⟨m0, hm0⟩ : ∃ m0, x2.toNat + 256 * x3.toNat = m0 := ⟨_, rfl⟩
            have HGO3 : Bx (R = blkK L x κ b (if n0 + m0 ≠ 65535 then .err 4 else if L < o.length + n0 then .err 8 else if b.length < f + 4 + n0 then .err 2 else .ok (o ++ (b.drop (f + 4)).take n0, 8 * (f + 4 + n0)))) := bx (by
              rw [HGO2.out, storedP, HFF.out, if_neg h4, b0, b1, b2, b3, hn0, hm0])
            have hn0I : (x0.toNat : Int) + 256 * (x1.toNat : Int) = (n0 : Int) := by omega
            have hm0I : (n0 : Int) + (x2.toNat : Int) + 256 * (x3.toNat : Int) = ((n0 + m0 : Nat) : Int) := by omega
            have HN0 := bx hn0I
            have HM0 := bx hm0I
            have hn16 : n0 < 65536 := by omega
            have j0 : ∀ z : UInt8, IntKind.i64.wrap (z.toNat : Int) = (z.toNat : Int) := fun z => IntWalk.i64_in _ (by have := z.toNat_lt; omega)
            clear hc0 hc1 hc2 hc3 b0 b1 b2 b3 hn0 hm0 hn0I hm0I HGO2 hx0 hx1 hx2' hx3 hrh
            go_upto_region 30 with (fail)
            go_quiet (fail)
            rename Nat => nq
            rw [HN0.out]
            have hR6 : RRd (w5.drewN nq) gr b (8 * (f + 4)) := hR5
            have hO6 := hO5.drewN nq
            have hB6 := below_drewN hB5 nq
            have k2' : (w5.drewN nq).cell? ⟨ad0.block, ad0.off + 2, none⟩ = some (.int .u8 (x2.toNat : Int)) := k2
            have k3' : (w5.drewN nq).cell? ⟨ad0.block, ad0.off + 3, none⟩ = some (.int .u8 (x3.toNat : Int)) := k3
            clear hR5 hO5 hB5 k0 k1 k2 k3
            generalize w5.drewN nq = w6 at hR6 hO6 hB6 k2' k3' ⊢
            go_upto_region 31 with (fail)
            by_cases hnm : n0 + m0 = 65535
            case neg =>
              have HF : Bx (R = .err 4) := bx (by rw [HGO3.out, if_pos hnm]; rfl)
              have hne : ((n0 : Int) + (x2.toNat : Int) + 256 * (x3.toNat : Int) != 65535) = true := by rw [HM0.out, bne_iff_ne]; omega
              clear hnm
              go_quiet (fail)
              rename Nat => nq2
              have hB7 := below_drewN hB6 nq2
              go_wp2
              go_ret3
              exact allPost_err HF.out hB7
            case pos =>
            have HGO4 := bx (HGO3.out.trans (by rw [if_neg (by omega)]))
            have hne : ((n0 : Int) + (x2.toNat : Int) + 256 * (x3.toNat : Int) != 65535) = false := by rw [HM0.out, bne_eq_false_iff_eq]; omega
            clear hnm HGO3
            go_quiet (fail)
            rename Nat => nq2
            have hR7 : RRd (w6.drewN nq2) gr b (8 * (f + 4)) := hR6
            have hO7 := hO6.drewN nq2
            have hB7 := below_drewN hB6 nq2
            clear hR6 hO6 hB6 k2' k3'
            generalize w6.drewN nq2 = w7 at hR7 hO7 hB7 ⊢
            have hnv9 : nv ≤ 40000 := by rw [hnv.out]; omega
            by_cases hlong : L < o.length + n0
            case pos =>
              have HF : Bx (R = .err 8) := bx (by rw [HGO4.out, if_pos hlong]; rfl)
              have hgt : (L : Int) - (nv : Int) < (n0 : Int) := by rw [hnv.out]; omega
              clear hlong
              go_wp2
              go_ret3
              exact allPost_err HF.out hB7
            case neg =>
            have HGO5 := bx (HGO4.out.trans (by rw [if_neg hlong]))
            have hgt : ¬ (L : Int) - (nv : Int) < (n0 : Int) := by rw [hnv.out]; omega
            clear HGO4
            by_cases hsh : b.length < f + 4 + n0
            case pos =>
              have HF : Bx (R = .err 2) := bx (by rw [HGO5.out, if_pos hsh]; rfl)
              go_wp2_with fail
              refine (rbytes_short gr b (8 * (f + 4)) n0 w7 hR7 (by omega) (by omega)).mono ?_
              rintro e w8 ⟨rfl, rfl⟩
              go_wp2
              go_ret3
              exact allPost_err HF.out hB7
            case neg =>
            have HGO6 := bx (HGO5.out.trans (by rw [if_neg hsh]))
            clear HGO5
            go_wp2_with fail
            refine (rbytes_ok gr b (8 * (f + 4)) n0 (f + 4) w7 hR7 (by omega) (by omega) (by omega)).mono ?_
            rintro e w8 ⟨Ap, cp, rfl, _, hrp, _, hR8, hg8⟩
            have hO8 := hO7.keptAt hg8 (by omega)
            have hB8 := hB7.trans (gb_low hg8 hgw hR7.lt)
            have hpl : ((b.drop (f + 4)).take n0).length = n0 := by rw [List.length_take, List.length_drop]; omega
            have HPL := bx hpl
            have HNN : Bx ((o.length + ((b.drop (f + 4)).take n0).length) * 1 ≤ 140737488355328) := bx (by rw [hpl]; omega)
            have hz8 : gr + 1 ≤ w8.heap.size := hR8.lt
            have hvb : ∀ k, (Value.slice Av nv cv).ownBlock = some k → gr < k := fun k hk => by have := (World.ownsRow.lt hO8 k hk).1; omega
            have HVB := bx hvb
            clear hR7 hO7 hB7 hg8 hgt hpl hvb
            go_wp2_with (at_builtin; refine wpList_appL _ bV_one rfl (.tmp 140) (.tmp 141) rfl byteTy (by decide) (gr + 1) _ o rfl hO8 w8.heap.size Ap n0 cp ((b.drop (f + 4)).take n0) rfl HPL.out hrp HNN.out hz8 ?_; intro v9 w9 hO9 hg9 hv9 hb9)
            have hR9 := hR8.grown hg9 (fun k hk => HVB.out k hk)
            have hB9 := hB8.trans (hb9.mono (by omega))
            have HGO7 : Bx (R = blkK L x κ b (.ok (o ++ (b.drop (f + 4)).take n0, 8 * (f + 4 + n0)))) := bx HGO6.out
            have hR10 : RRd w9 gr b (8 * (f + 4 + n0)) := hR9
            go_meet
            case rel => exact ⟨8 * (f + 4 + n0), _, hR10, hO9, by rw [List.length_append, HPL.out]; omega, hB9, by omega, by omega, HGO7⟩
        · by_cases hy3 : y = 3
          · subst hy3
            have HF : Bx (R = .err 3) := bx (by rw [HGO.out]; rfl)
            go_wp2
            go_ret3
            exact allPost_err HF.out hB4
          · have hyb0 : ((y : Int) == 0) = false := by rw [beq_eq_false_iff_ne]; omega
            have hyb3 : ((y : Int) == 3) = false := by rw [beq_eq_false_iff_ne]; omega
            have HGOC : Bx (R = blkK L x κ b (if y = 2 then (toldP b q3).bind fun u => codedP L o u.1.1 u.1.2 b u.2 else codedP L o fixLit fixDist b q3)) := bx (by rw [HGO.out, bodyP, if_neg hy0, if_neg hy3])
            clear HGO hy0 hy3
            go_wp2_with fail
            refine (rfixed_any w4).mono ?_
            rintro e w5 ⟨A5, A6, c5, c6, rfl, hr5, hr6, hb5⟩
            have hR5 := hR4.step hb5
            have hO5 := hO4.below hb5
            have hB5 := hB4.trans (hb5.mono hB4.size)
            clear hR4 hO4 hB4 hb5
            go_upto_if 54 with (fail)
            go_cut [16, 17, 10] (fun a c _ wx => ∃ A n cc A' n' cc' l d q', a = .slice A n cc ∧ c = .slice A' n' cc' ∧ l.length = n ∧ d.length = n' ∧ RN wx wx.heap.size A l ∧ RN wx wx.heap.size A' d ∧ RRd wx gr b q' ∧ OwB wx (gr + 1) 5 u8 o ∧ Below w.heap.size w wx ∧ (∀ t ∈ l, t ≤ 15) ∧ (∀ t ∈ d, t ≤ 15) ∧ n ≤ 288 ∧ n' ≤ 288 ∧ q3 ≤ q' ∧ q' ≤ 8 * b.length ∧ Bx (R = blkK L x κ b (codedP L o l d b q')))
            case first =>
              by_cases hy2 : y = 2
              · have hyb2 : ((y : Int) == 2) = true := by rw [hy2]; rfl
                have HGO := bx (HGOC.out.trans (by rw [if_pos hy2]))
                clear HGOC hy2
                have hp5 := rtold_any gr b q3 w5 hR5
                cases hto : toldP b q3 with
                | err k =>
                  have HF : Bx (R = .err k) := bx (by rw [HGO.out, hto]; rfl)
                  have HTO := bx hto
                  clear hto
                  go_wp2_with fail
                  refine hp5.mono ?_
                  rintro e w6 ⟨hg6, hp⟩
                  rw [HTO.out] at hp
                  obtain ⟨rfl, hk0⟩ := hp
                  have hB6 := hB5.trans (gb_low hg6 hgw hR5.lt)
                  have hkb : (k != 0) = true := by rw [bne_iff_ne]; exact hk0
                  have HK0 := bx hk0
                  clear hk0
                  go_wp2
                  go_ret3
                  exact allPost_err HF.out hB6 HK0.out
                | ok z =>
                  obtain ⟨⟨l, d⟩, q'⟩ := z
                  have HGO2 : Bx (R = blkK L x κ b (codedP L o l d b q')) := bx (by rw [HGO.out, hto]; rfl)
                  have HTO := bx hto
                  have hmono := good_told.mono b q3 (l, d) q' (by omega) hto
                  clear hto HGO
                  go_wp2_with fail
                  refine hp5.mono ?_
                  rintro e w6 ⟨hg6, hp⟩
                  rw [HTO.out] at hp
                  obtain ⟨A7, n7, c7, A8, n8, c8, rfl, e1, e2, e3, e4, e5, e6, e7, e8, e9⟩ := hp
                  have hB6 := hB5.trans (gb_low hg6 hgw hR5.lt)
                  have hO6 := hO5.keptAt hg6 (by omega)
                  have E3 := bx e3
                  have E4 := bx e4
                  have E6 := bx e6
                  have E7 := bx e7
                  have E1 := bx e1
                  have E2 := bx e2
                  clear hr5 hr6 hR5 hO5 hB5 hg6 hp5 e1 e2 e3 e4 e6 e7
                  go_wp2
                  go_meet
                  case rel => exact ⟨A7, n7, c7, A8, n8, c8, l, d, q', rfl, rfl, E1.out, E2.out, E3.out, E4.out, e5, hO6, hB6, E6.out, E7.out, e8, e9, hmono.1, hmono.2, HGO2⟩
              · have hyb2 : ((y : Int) == 2) = false := by rw [beq_eq_false_iff_ne]; omega
                have HGO := bx (HGOC.out.trans (by rw [if_neg hy2]))
                have HA := bx hr5
                have HB := bx hr6
                clear HGOC hy2 hr5 hr6
                go_wp2
                go_meet
                case rel => exact ⟨A5, 288, c5, A6, 32, c6, fixLit, fixDist, q3, rfl, rfl, fixLit_len, by decide +kernel, HA.out, HB.out, hR5, hO5, hB5, by decide +kernel, by decide +kernel, by omega, by omega, Nat.le_refl _, hq38, HGO⟩
            case rest =>
            obtain ⟨A7, n7, c7, A8, n8, c8, l, d, q', rfl, rfl, e1, e2, e3, e4, hR6, hO6, hB6, e6, e7, e8, e9, hq1, hq2, HGO⟩ := hcut
            clear hr5 hr6 hR5 hO5 hB5 HGOC
            go_wp2_with fail
            refine (rnew_any A7 n7 c7 l false wc e1 e8 e6 e3).mono ?_
            rintro e w6 ⟨hb6, cl, hclz, hcl1, hp⟩
            have hR7 := hR6.step hb6
            have hO7 := hO6.below hb6
            have hB7 := hB6.trans (hb6.mono hB6.size)
            have hrd7 := e4.step hb6
            have hzc := hb6.size
            have hvb : ∀ k, u8.ownBlock = some k → k < wc.heap.size := fun k hk => (World.ownsRow.lt hO6 k hk).2
            have HVB := bx hvb
            have hgc := hR6.lt
            clear hR6 hO6 hB6 e3 e4 hb6 hvb
            obtain ⟨g1, hg1⟩ : ∃ g1, w6.heap.size = g1 := ⟨_, rfl⟩
            have HKZ : Bx (Bk (w6.alloc (.cells z32 62)) g1 62 z32) := bx (Bk.newAt _ _ _ hg1)
            have HSR : Bx ((w6.alloc (.cells z32 62)).setRow g1 cl = w6.alloc (.cells cl 62)) := bx (by rw [← hg1, World.setRow_alloc_new])
            have HB8 := bx (bl_alloc hB7 (Nat.le_refl _) (.cells cl 62))
            cases hcb : codeB l false with
            | false =>
              have HF : Bx (R = .err 5) := bx (by rw [HGO.out, codedP, if_pos hcb]; rfl)
              rw [hcb, if_neg (by simp)] at hp
              obtain rfl := hp
              clear hcb
              go_wp2_with (refine wpList_store_row rfl 62 (.tmp 18) (.tmp 67) rfl g1 cl rfl rfl 62 z32 HKZ.out (by rw [hclz]; exact info_code) (by rw [hclz]; rfl) hcl1 ?_; change wpList _ _ _ _ _ ((w6.alloc (.cells z32 62)).setRow g1 cl); rw [HSR.out])
              go_ret3
              exact allPost_err HF.out HB8.out
            | true =>
            rw [hcb, if_pos rfl] at hp
            obtain ⟨lo1, hi1, rfl, hC1, hlo1⟩ := hp
            have HGO2 := bx (HGO.out.trans (by rw [codedP, if_neg (by rw [hcb]; simp)]))
            have hbA := bl_alloc (Below.refl w6.heap.size w6) (Nat.le_refl _) (.cells cl 62)
            have HC1 := bx (hC1.step hbA)
            have HR8 := bx (hR7.step hbA)
            have HO8 := bx (hO7.below hbA)
            have HD8 := bx (hrd7.step hbA)
            have HK1 : Bx (Bk (w6.alloc (.cells cl 62)) g1 62 cl) := bx (Bk.newAt _ _ _ hg1)
            have HZ1 : Bx (g1 < (w6.alloc (.cells cl 62)).heap.size) := bx (by simp [hg1])
            have hwg1 : wc.heap.size ≤ g1 := by rw [← hg1]; exact hzc
            clear hcb HGO hC1 hR7 hO7 hrd7 hB7 hbA
            go_wp2_with (refine wpList_store_row rfl 62 (.tmp 18) (.tmp 67) rfl g1 cl rfl rfl 62 z32 HKZ.out (by rw [hclz]; exact info_code) (by rw [hclz]; rfl) hcl1 ?_; change wpList _ _ _ _ _ ((w6.alloc (.cells z32 62)).setRow g1 cl); rw [HSR.out])
            have hC1 := HC1.out
            have hR8 := HR8.out
            have hO8 := HO8.out
            have hD8 := HD8.out
            have hB8 := HB8.out
            have hK1 := HK1.out
            have hz1 := HZ1.out
            clear HC1 HR8 HO8 HD8 HB8 HK1 HZ1 HKZ HSR hg1
            generalize w6.alloc (.cells cl 62) = w7 at hC1 hR8 hO8 hD8 hB8 hK1 hz1 ⊢
            refine (rnew_any A8 n8 c8 d true w7 e2 e9 e7 hD8).mono ?_
            rintro e w8 ⟨hb8, cd, hcdz, hcd1, hp⟩
            have hR9 := hR8.step hb8
            have hO9 := hO8.below hb8
            have hB9 := hB8.trans (hb8.mono hB8.size)
            have hC19 := hC1.step hb8
            have hK19 := hK1.below hb8 hz1
            have hz8 := hb8.size
            clear hR8 hO8 hB8 hD8 hC1 hK1 hb8
            obtain ⟨g2, hg2⟩ : ∃ g2, w8.heap.size = g2 := ⟨_, rfl⟩
            have HKZ : Bx (Bk (w8.alloc (.cells z32 62)) g2 62 z32) := bx (Bk.newAt _ _ _ hg2)
            have HSR : Bx ((w8.alloc (.cells z32 62)).setRow g2 cd = w8.alloc (.cells cd 62)) := bx (by rw [← hg2, World.setRow_alloc_new])
            have HB10 := bx (bl_alloc hB9 (Nat.le_refl _) (.cells cd 62))
            cases hcb : codeB d true with
            | false =>
              have HF : Bx (R = .err 5) := bx (by rw [HGO2.out, if_pos hcb]; rfl)
              rw [hcb, if_neg (by simp)] at hp
              obtain rfl := hp
              clear hcb
              go_wp2_with (refine wpList_store_row rfl 62 (.tmp 20) (.tmp 75) rfl g2 cd rfl rfl 62 z32 HKZ.out (by rw [hcdz]; exact info_code) (by rw [hcdz]; rfl) hcd1 ?_; change wpList _ _ _ _ _ ((w8.alloc (.cells z32 62)).setRow g2 cd); rw [HSR.out])
              go_ret3
              exact allPost_err HF.out HB10.out
            | true =>
            rw [hcb, if_pos rfl] at hp
            obtain ⟨lo2, hi2, rfl, hC2, hlo2⟩ := hp
            have HGO3 := bx (HGO2.out.trans (by rw [if_neg (by rw [hcb]; simp)]))
            have hbA := bl_alloc (Below.refl w8.heap.size w8) (Nat.le_refl _) (.cells cd 62)
            have HC1 := bx (hC19.step hbA)
            have HC2 := bx (hC2.step hbA)
            have HR10 := bx (hR9.step hbA)
            have HO10 := bx (hO9.below hbA)
            have HK1 := bx (hK19.below hbA hK19.lt)
            have HK2 : Bx (Bk (w8.alloc (.cells cd 62)) g2 62 cd) := bx (Bk.newAt _ _ _ hg2)
            clear hcb HGO2 hC19 hC2 hR9 hO9 hK19 hB9 hbA
            go_upto_region 23 with (refine wpList_store_row rfl 62 (.tmp 20) (.tmp 75) rfl g2 cd rfl rfl 62 z32 HKZ.out (by rw [hcdz]; exact info_code) (by rw [hcdz]; rfl) hcd1 ?_; change wpList _ _ _ _ _ ((w8.alloc (.cells z32 62)).setRow g2 cd); rw [HSR.out])
            have hC1 := HC1.out
            have hC2 := HC2.out
            have hR10 := HR10.out
            have hO10 := HO10.out
            have hB10 := HB10.out
            have hK1 := HK1.out
            have hK2 := HK2.out
            clear HC1 HC2 HR10 HO10 HB10 HK1 HK2 HKZ HSR hg2
            generalize w8.alloc (.cells cd 62) = w9 at hC1 hC2 hR10 hO10 hB10 hK1 hK2 ⊢
            go_wp2_with (first
              | (refine wpList_load_row rfl 62 (.tmp 18) rfl g1 rfl _ cl _ _ hK1 Try.underlying62 rfl (by rw [hclz]; exact info_code) ?_)
              | (refine wpList_load_row rfl 62 (.tmp 20) rfl g2 rfl _ cd _ _ hK2 Try.underlying62 rfl (by rw [hcdz]; exact info_code) ?_))
            have hp9 := rsymbols_any gr lo1 hi1 lo2 hi2 cl cd b l d q' L u8 o w9 hR10 hO10 hC1 hC2 (fun k hk => by have := HVB.out k hk; omega) (by omega) (by omega) hol hL
            cases hsy : symP l d L o b q' with
            | err k =>
              have HF : Bx (R = .err k) := bx (by rw [HGO3.out, hsy]; rfl)
              have HSY := bx hsy
              clear hsy
              refine hp9.mono ?_
              rintro e w10 ⟨hb10, hp⟩
              rw [HSY.out] at hp
              obtain ⟨rfl, hk0⟩ := hp
              have hB11 := hB10.trans (hb10.mono hgw)
              have hkb : (k != 0) = true := by rw [bne_iff_ne]; exact hk0
              have HK0 := bx hk0
              clear hk0 hp9
              go_wp2
              go_ret3
              exact allPost_err HF.out hB11 HK0.out
            | ok z =>
              obtain ⟨o2, q2⟩ := z
              have HGO4 : Bx (R = blkK L x κ b (.ok (o2, q2))) := bx (by rw [HGO3.out, hsy])
              have HSY := bx hsy
              have hmono := (good_symP l d L o).mono b q' o2 q2 hq2 hsy
              clear hsy
              refine hp9.mono ?_
              rintro e w10 ⟨hb10, hp⟩
              rw [HSY.out] at hp
              obtain ⟨v10, rfl, f1, f2, f3⟩ := hp
              have hB11 := hB10.trans (hb10.mono hgw)
              clear hp9 hR10 hO10 hB10 hC1 hC2 hK1 hK2
              go_wp2_with fail
              go_meet
              case rel => exact ⟨q2, o2, f1, f2, f3, hB11, by omega, hmono.2, HGO4⟩
      case rest =>
        obtain ⟨q2, o2, hR5, hO5, hol5, hB5, hq5, hq6, HGO5⟩ := hcut
        clear hR4 hO4 hB4 HGO
        obtain ⟨A1', c1', h1', _⟩ := id hR5
        have c1 : wc.cell? ⟨gr, 1, none⟩ = some (.int .i64 (q2 : Int)) := (h1'.cell 1).trans rfl
        clear h1'
        by_cases hx1 : x = 1
        · have HF : Bx (R = .ok (o2, (q2 + 7) / 8)) := bx (by rw [HGO5.out]; unfold blkK; show ((if x = 1 then Rz.ok (o2, q2) else _).bind _) = _; rw [if_pos hx1]; rfl)
          obtain ⟨Av, nv, cv, rfl, hnv, hrv⟩ := OwL.sl hO5
          have hxb : ((x : Int) == 1) = true := by rw [hx1]; rfl
          have i1 : IntKind.i64.wrap ((q2 : Int) + 7) = (q2 : Int) + 7 := IntWalk.i64_in _ (by omega)
          clear hx1 hrv
          go_wp2_with fail
          go_quiet (fail)
          rename Nat => nq
          clear i1
          go_wp2
          go_ret3
          have hOb : OwB (wc.drewN nq) w.heap.size 5 (.slice Av nv cv) o2 := (OwL.low hO5 (by omega)).drewN nq
          exact allPost_ok HF.out (below_drewN hB5 nq) hOb (by omega)
        · have hxb : ((x : Int) == 1) = false := by rw [beq_eq_false_iff_ne]; omega
          have HG6 : Bx (R = (allB L b κ q2 o2).bind fun x => .ok (x.1, (x.2 + 7) / 8)) := bx (by rw [HGO5.out]; unfold blkK; show ((if x = 1 then Rz.ok (o2, q2) else _).bind _) = _; rw [if_neg hx1])
          clear hx1
          go_wp2_with fail
          go_roundg κ
          case rel => exact ⟨q2, o2, hR5, hO5, hol5, hB5, by omega, hq6, HG6⟩
          case measure => omega
end Go.Proofs.Ytbhljigppljjbaa
