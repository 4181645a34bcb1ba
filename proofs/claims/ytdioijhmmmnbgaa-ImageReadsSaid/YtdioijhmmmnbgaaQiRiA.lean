/- Contracts: samovarref14.u2, attrs, members: the document's. -/
import Derived.Test.YtdioijhmmmnbgaaQiRiR
import Derived.Test.YtdioijhmmmnbgaaQiImI
import Derived.Test.YtdioijhmmmnbgaaPi4
namespace Go.Proofs.Ytdioijhmmmnbgaa
open Go.RowKit
theorem ru2_any (a : Int) (w : World) : Calls Try.prog 53 #[.int .i64 a] w fun e w' => e = .returned (.bool (u2P a)) ∧ w = w' := by
  obtain ⟨R, hR⟩ : ∃ R, u2P a = R := ⟨_, rfl⟩
  rw [hR]
  have HR := bx hR
  clear hR
  go_enter Try.func53, Try.ntmps53
  by_cases h0 : 0 ≤ a
  · by_cases h1 : a ≤ 65535
    · have HN : Bx (R = true) := bx (by rw [← HR.out]; exact decide_eq_true ⟨h0, h1⟩)
      go_wp2
      go_ret
      exact ⟨by rw [HN.out]; try rfl, rfl⟩
    · have HN : Bx (R = false) := bx (by rw [← HR.out]; exact decide_eq_false (fun h => h1 h.2))
      go_wp2
      go_ret
      exact ⟨by rw [HN.out]; try rfl, rfl⟩
  · have HN : Bx (R = false) := bx (by rw [← HR.out]; exact decide_eq_false (fun h => h0 h.1))
    go_wp2
    go_ret
    exact ⟨by rw [HN.out]; try rfl, rfl⟩
/-- Where a loop over members stands: the image's block and what lies below. -/
structure ImS (w wx : World) (B : Nat) (x : ImE) : Prop where
  bel : Below w.heap.size w wx
  im : Bk wx B 29 (imC x)
theorem ImS.below {w wx w' : World} {B : Nat} {x : ImE} (h : ImS w wx B x) (hb : Below wx.heap.size wx w') : ImS w w' B x := ⟨h.bel.trans (hb.mono h.bel.size), h.im.below hb h.im.lt⟩
set_option maxRecDepth 100000 in
set_option maxHeartbeats 8000000 in
theorem rattrs_any (x : ImE) (A : Option Addr) (na ca : Nat) (M : List AtE) (w : World) (hx : RIm w w.heap.size x) (hm : M.length = na) (hmb : (na : Int) ≤ 9223372036854775807) (ha : RA w w.heap.size A M) :
    Calls Try.prog 57 #[.agg (imC x), .slice A na ca] w fun e w' => e = .returned (.bool (attsOk x.pool (M.map AtE.p))) ∧ Below w.heap.size w w' := by
  have HX := bx hx
  have HM := bx hm
  have HA := bx ha
  obtain ⟨R, hR⟩ : ∃ R, attsOk x.pool (M.map AtE.p) = R := ⟨_, rfl⟩
  rw [hR]
  have HRR := bx hR
  have HQ0 : Bx ((M.take 0).all (okE x.pool) = true) := bx rfl
  obtain ⟨cs, hcs⟩ : ∃ cs, cs = imC x := ⟨_, rfl⟩
  rw [← hcs]
  have HCS := bx hcs
  obtain ⟨B, hB⟩ : ∃ B, w.heap.size = B := ⟨_, rfl⟩
  have HKB := bx (Bk.newAt w 29 cs hB)
  have HBB := bx (bl_alloc (Below.refl w.heap.size w) (Nat.le_refl _) (.cells cs 29))
  have HB := bx hB
  clear hx hm ha hR hcs hB
  go_enter Try.func57, Try.ntmps57
  go_upto_region 1 with (fail)
  rw [HB.out]
  change Code.wp _ _ _ _ (w.alloc (.cells cs 29))
  generalize w.alloc (.cells cs 29) = wb at HKB HBB ⊢
  have HS0 : Bx (ImS w wb B x) := bx ⟨HBB.out, by rw [← HCS.out]; exact HKB.out⟩
  clear HKB HBB
  go_wp2_with fail
  go_loopw [5] (fun iv wx => ∃ k : Nat, k ≤ na ∧ iv = .int .i64 (k : Int) ∧ Bx ((M.take k).all (okE x.pool) = true) ∧ Bx (ImS w wx B x)) (fun i _ => na - (intOf i).toNat)
  case atStart => exact ⟨0, by omega, rfl, HQ0, HS0⟩
  case round =>
    clear HQ0 HS0
    obtain ⟨k, hk, rfl, HQ, HS⟩ := hrel
    by_cases hkn : k < na
    · have hkI : (k : Int) < (na : Int) := by omega
      have hkJ : (0 : Int) ≤ (k : Int) := by omega
      obtain ⟨ad, y, rfl, hlt, HY, p0, p1, HSY⟩ := (HA.out.below HS.out.bel (Nat.le_refl _)).at_ (k := k) (by rw [HM.out]; exact hkn)
      have hyb : (y.s.n : Int) ≤ 9223372036854775807 := by have := HSY.out.2.1; have := HSY.out.2.2.1; omega
      have HYL := bx HSY.out.1
      have HTG := bx (rtag_any x y.name wr.drew ((HX.out.up HS.out.bel).up (below_drewN (Below.refl _ wr) 1)))
      obtain ⟨tg, htg⟩ : ∃ t, tagP x.pool y.name = t := ⟨_, rfl⟩
      rw [htg] at HTG
      have HTE := bx htg
      have HSd := bx (HS.out.below (below_drewN (Below.refl _ wr) 1))
      have HEL : Bx (∀ w', Below wr.heap.size wr w' → w'.cell? (ad.add (k * 2)) = some (.int .i64 y.name) ∧ w'.cell? ⟨(ad.add (k * 2)).block, (ad.add (k * 2)).off + 1, none⟩ = some (.slice y.s.A y.s.n y.s.c)) := bx (fun w' hb => ⟨(hb.cell (p := ad.add (k * 2)) (by rw [blk_add]; exact Nat.lt_of_lt_of_le hlt HS.out.bel.size)).trans p0, (hb.cell (p := ⟨(ad.add (k * 2)).block, (ad.add (k * 2)).off + 1, none⟩) (by rw [blk_add]; exact Nat.lt_of_lt_of_le hlt HS.out.bel.size)).trans p1⟩)
      have hS0 : (fun w' => w'.cell? ⟨B, 0, none⟩ = some (.int .i64 x.minor) ∧ w'.cell? ⟨B, 1, none⟩ = some (.int .i64 x.major) ∧ w'.cell? ⟨B, 2, none⟩ = some (.slice x.pA x.pn x.pc) ∧ w'.cell? ⟨B, 3, none⟩ = some (.int .i64 x.access) ∧ w'.cell? ⟨B, 4, none⟩ = some (.int .i64 x.this) ∧ w'.cell? ⟨B, 5, none⟩ = some (.int .i64 x.super) ∧ w'.cell? ⟨B, 6, none⟩ = some (.slice x.iA x.i_n x.ic) ∧ w'.cell? ⟨B, 7, none⟩ = some (.slice x.fA x.fn x.fc) ∧ w'.cell? ⟨B, 8, none⟩ = some (.slice x.mA x.mn x.mc) ∧ w'.cell? ⟨B, 9, none⟩ = some (.slice x.aA x.an x.ac) ∧ w'.cell? (ad.add (k * 2)) = some (.int .i64 y.name) ∧ w'.cell? ⟨(ad.add (k * 2)).block, (ad.add (k * 2)).off + 1, none⟩ = some (.slice y.s.A y.s.n y.s.c)) wr.drew := ⟨(im_all HSd.out.im).1, (im_all HSd.out.im).2.1, (im_all HSd.out.im).2.2.1, (im_all HSd.out.im).2.2.2.1, (im_all HSd.out.im).2.2.2.2.1, (im_all HSd.out.im).2.2.2.2.2.1, (im_all HSd.out.im).2.2.2.2.2.2.1, (im_all HSd.out.im).2.2.2.2.2.2.2.1, (im_all HSd.out.im).2.2.2.2.2.2.2.2.1, (im_all HSd.out.im).2.2.2.2.2.2.2.2.2, (HEL.out wr.drew (below_drewN (Below.refl _ wr) 1))⟩
      clear HSY htg p0 p1
      go_upto_region 4 with (fail)
      by_cases h1 : tg = 1
      · have h1b : (tg != 1) = false := by rw [h1]; rfl
        by_cases hl : y.s.n ≤ 32768
        · have hlI : ¬ (32768 : Int) < (y.s.n : Int) := by omega
          have HQ2 := bx (all_next HQ.out HY.out (show okE x.pool y = true by
            show (decide (tagP x.pool y.name = 1) && decide (y.s.l.length ≤ 32768)) = true
            rw [HTE.out, HYL.out, decide_eq_true h1, decide_eq_true hl]; rfl))
          clear h1 hl
          go_region_held3 (fun w' => w'.cell? ⟨B, 0, none⟩ = some (.int .i64 x.minor) ∧ w'.cell? ⟨B, 1, none⟩ = some (.int .i64 x.major) ∧ w'.cell? ⟨B, 2, none⟩ = some (.slice x.pA x.pn x.pc) ∧ w'.cell? ⟨B, 3, none⟩ = some (.int .i64 x.access) ∧ w'.cell? ⟨B, 4, none⟩ = some (.int .i64 x.this) ∧ w'.cell? ⟨B, 5, none⟩ = some (.int .i64 x.super) ∧ w'.cell? ⟨B, 6, none⟩ = some (.slice x.iA x.i_n x.ic) ∧ w'.cell? ⟨B, 7, none⟩ = some (.slice x.fA x.fn x.fc) ∧ w'.cell? ⟨B, 8, none⟩ = some (.slice x.mA x.mn x.mc) ∧ w'.cell? ⟨B, 9, none⟩ = some (.slice x.aA x.an x.ac) ∧ w'.cell? (ad.add (k * 2)) = some (.int .i64 y.name) ∧ w'.cell? ⟨(ad.add (k * 2)).block, (ad.add (k * 2)).off + 1, none⟩ = some (.slice y.s.A y.s.n y.s.c)) (first | exact hS0 | exact hS1) ((go_at_call 55; refine HTG.out.mono ?_; rintro e w2 ⟨rfl, hb2⟩; have HS2 := bx (HSd.out.below hb2); have hS1 : (fun w' => w'.cell? ⟨B, 0, none⟩ = some (.int .i64 x.minor) ∧ w'.cell? ⟨B, 1, none⟩ = some (.int .i64 x.major) ∧ w'.cell? ⟨B, 2, none⟩ = some (.slice x.pA x.pn x.pc) ∧ w'.cell? ⟨B, 3, none⟩ = some (.int .i64 x.access) ∧ w'.cell? ⟨B, 4, none⟩ = some (.int .i64 x.this) ∧ w'.cell? ⟨B, 5, none⟩ = some (.int .i64 x.super) ∧ w'.cell? ⟨B, 6, none⟩ = some (.slice x.iA x.i_n x.ic) ∧ w'.cell? ⟨B, 7, none⟩ = some (.slice x.fA x.fn x.fc) ∧ w'.cell? ⟨B, 8, none⟩ = some (.slice x.mA x.mn x.mc) ∧ w'.cell? ⟨B, 9, none⟩ = some (.slice x.aA x.an x.ac) ∧ w'.cell? (ad.add (k * 2)) = some (.int .i64 y.name) ∧ w'.cell? ⟨(ad.add (k * 2)).block, (ad.add (k * 2)).off + 1, none⟩ = some (.slice y.s.A y.s.n y.s.c)) w2 := ⟨(im_all HS2.out.im).1, (im_all HS2.out.im).2.1, (im_all HS2.out.im).2.2.1, (im_all HS2.out.im).2.2.2.1, (im_all HS2.out.im).2.2.2.2.1, (im_all HS2.out.im).2.2.2.2.2.1, (im_all HS2.out.im).2.2.2.2.2.2.1, (im_all HS2.out.im).2.2.2.2.2.2.2.1, (im_all HS2.out.im).2.2.2.2.2.2.2.2.1, (im_all HS2.out.im).2.2.2.2.2.2.2.2.2, (HEL.out w2 ((below_drewN (Below.refl _ wr) 1).trans hb2))⟩; clear hb2))
          all_goals (
            clear hS0 hS1
            go_wp2
            go_roundw
            case rel => exact ⟨k + 1, by omega, by go_num, HQ2, HS2⟩
            case measure => simp [intOf]; omega)
        · have hlI : (32768 : Int) < (y.s.n : Int) := by omega
          have HN : Bx (R = false) := bx (by rw [← HRR.out]; exact attsOk_bad HY.out (show okE x.pool y = false by
            show (decide (tagP x.pool y.name = 1) && decide (y.s.l.length ≤ 32768)) = false
            rw [HYL.out, decide_eq_false hl, Bool.and_false]))
          clear h1 hl
          go_region_held3 (fun w' => w'.cell? ⟨B, 0, none⟩ = some (.int .i64 x.minor) ∧ w'.cell? ⟨B, 1, none⟩ = some (.int .i64 x.major) ∧ w'.cell? ⟨B, 2, none⟩ = some (.slice x.pA x.pn x.pc) ∧ w'.cell? ⟨B, 3, none⟩ = some (.int .i64 x.access) ∧ w'.cell? ⟨B, 4, none⟩ = some (.int .i64 x.this) ∧ w'.cell? ⟨B, 5, none⟩ = some (.int .i64 x.super) ∧ w'.cell? ⟨B, 6, none⟩ = some (.slice x.iA x.i_n x.ic) ∧ w'.cell? ⟨B, 7, none⟩ = some (.slice x.fA x.fn x.fc) ∧ w'.cell? ⟨B, 8, none⟩ = some (.slice x.mA x.mn x.mc) ∧ w'.cell? ⟨B, 9, none⟩ = some (.slice x.aA x.an x.ac) ∧ w'.cell? (ad.add (k * 2)) = some (.int .i64 y.name) ∧ w'.cell? ⟨(ad.add (k * 2)).block, (ad.add (k * 2)).off + 1, none⟩ = some (.slice y.s.A y.s.n y.s.c)) (first | exact hS0 | exact hS1) ((go_at_call 55; refine HTG.out.mono ?_; rintro e w2 ⟨rfl, hb2⟩; have HS2 := bx (HSd.out.below hb2); have hS1 : (fun w' => w'.cell? ⟨B, 0, none⟩ = some (.int .i64 x.minor) ∧ w'.cell? ⟨B, 1, none⟩ = some (.int .i64 x.major) ∧ w'.cell? ⟨B, 2, none⟩ = some (.slice x.pA x.pn x.pc) ∧ w'.cell? ⟨B, 3, none⟩ = some (.int .i64 x.access) ∧ w'.cell? ⟨B, 4, none⟩ = some (.int .i64 x.this) ∧ w'.cell? ⟨B, 5, none⟩ = some (.int .i64 x.super) ∧ w'.cell? ⟨B, 6, none⟩ = some (.slice x.iA x.i_n x.ic) ∧ w'.cell? ⟨B, 7, none⟩ = some (.slice x.fA x.fn x.fc) ∧ w'.cell? ⟨B, 8, none⟩ = some (.slice x.mA x.mn x.mc) ∧ w'.cell? ⟨B, 9, none⟩ = some (.slice x.aA x.an x.ac) ∧ w'.cell? (ad.add (k * 2)) = some (.int .i64 y.name) ∧ w'.cell? ⟨(ad.add (k * 2)).block, (ad.add (k * 2)).off + 1, none⟩ = some (.slice y.s.A y.s.n y.s.c)) w2 := ⟨(im_all HS2.out.im).1, (im_all HS2.out.im).2.1, (im_all HS2.out.im).2.2.1, (im_all HS2.out.im).2.2.2.1, (im_all HS2.out.im).2.2.2.2.1, (im_all HS2.out.im).2.2.2.2.2.1, (im_all HS2.out.im).2.2.2.2.2.2.1, (im_all HS2.out.im).2.2.2.2.2.2.2.1, (im_all HS2.out.im).2.2.2.2.2.2.2.2.1, (im_all HS2.out.im).2.2.2.2.2.2.2.2.2, (HEL.out w2 ((below_drewN (Below.refl _ wr) 1).trans hb2))⟩; clear hb2))
          all_goals (
            go_wp2
            go_ret
            exact ⟨by rw [HN.out]; try rfl, HS2.out.bel⟩)
      · have h1b : (tg != 1) = true := by rw [bne_iff_ne]; exact h1
        have HN : Bx (R = false) := bx (by rw [← HRR.out]; exact attsOk_bad HY.out (show okE x.pool y = false by
          show (decide (tagP x.pool y.name = 1) && decide (y.s.l.length ≤ 32768)) = false
          rw [HTE.out, decide_eq_false h1]; rfl))
        clear h1
        refine wp_region_segs (fun w' => w'.cell? ⟨B, 0, none⟩ = some (.int .i64 x.minor) ∧ w'.cell? ⟨B, 1, none⟩ = some (.int .i64 x.major) ∧ w'.cell? ⟨B, 2, none⟩ = some (.slice x.pA x.pn x.pc) ∧ w'.cell? ⟨B, 3, none⟩ = some (.int .i64 x.access) ∧ w'.cell? ⟨B, 4, none⟩ = some (.int .i64 x.this) ∧ w'.cell? ⟨B, 5, none⟩ = some (.int .i64 x.super) ∧ w'.cell? ⟨B, 6, none⟩ = some (.slice x.iA x.i_n x.ic) ∧ w'.cell? ⟨B, 7, none⟩ = some (.slice x.fA x.fn x.fc) ∧ w'.cell? ⟨B, 8, none⟩ = some (.slice x.mA x.mn x.mc) ∧ w'.cell? ⟨B, 9, none⟩ = some (.slice x.aA x.an x.ac) ∧ w'.cell? (ad.add (k * 2)) = some (.int .i64 y.name) ∧ w'.cell? ⟨(ad.add (k * 2)).block, (ad.add (k * 2)).off + 1, none⟩ = some (.slice y.s.A y.s.n y.s.c)) [6, 10] (by kernel_rfl) (by kernel_rfl) (by kernel_rfl) hS0 (fun _ _ _ d _ h => by cases d <;> exact h) ?_
        unfold wpSegs
        simp only [List.take_succ_cons, List.take_zero]
        refine held_hide (fun R1 hR1 => ?_)
        refine held_step (fun K hK => ?_)
        rw [if_pos (by kernel_rfl)]
        apply Exists.intro
        refine ⟨fun w hSw => ?_, hK.out _ ?_⟩
        · (try dsimp only at hSw)
          go_simp
          first | done | with_reducible rfl
        clear hK K
        try simp only [Act.put, List.setIfInBounds_toArray, List.set_cons_zero, List.set_cons_succ]
        refine held_step (fun K hK => ?_)
        rw [if_pos (by kernel_rfl)]
        apply Exists.intro
        refine ⟨fun w hSw => ?_, hK.out _ ?_⟩
        · (try dsimp only at hSw)
          go_simp
          first | done | with_reducible rfl
        clear hK K
        try simp only [Act.put, List.setIfInBounds_toArray, List.set_cons_zero, List.set_cons_succ]
        refine held_step (fun K hK => ?_)
        rw [if_pos (by kernel_rfl)]
        apply Exists.intro
        refine ⟨fun w hSw => ?_, hK.out _ ?_⟩
        · (try dsimp only at hSw)
          go_simp
          first | done | with_reducible rfl
        clear hK K
        try simp only [Act.put, List.setIfInBounds_toArray, List.set_cons_zero, List.set_cons_succ]
        refine held_step (fun K hK => ?_)
        rw [if_pos (by kernel_rfl)]
        apply Exists.intro
        refine ⟨fun w hSw => ?_, hK.out _ ?_⟩
        · (try dsimp only at hSw)
          go_simp
          first | done | with_reducible rfl
        clear hK K
        try simp only [Act.put, List.setIfInBounds_toArray, List.set_cons_zero, List.set_cons_succ]
        refine held_step (fun K hK => ?_)
        rw [if_pos (by kernel_rfl)]
        apply Exists.intro
        refine ⟨fun w hSw => ?_, hK.out _ ?_⟩
        · (try dsimp only at hSw)
          go_simp
          first | done | with_reducible rfl
        clear hK K
        try simp only [Act.put, List.setIfInBounds_toArray, List.set_cons_zero, List.set_cons_succ]
        refine held_step (fun K hK => ?_)
        rw [if_pos (by kernel_rfl)]
        apply Exists.intro
        refine ⟨fun w hSw => ?_, hK.out _ ?_⟩
        · (try dsimp only at hSw)
          go_simp
          first | done | with_reducible rfl
        clear hK K
        try simp only [Act.put, List.setIfInBounds_toArray, List.set_cons_zero, List.set_cons_succ]
        refine wpHeld_nil ?_
        refine hR1.out _ ?_
        clear hR1 R1
        dsimp only [List.drop]
        rw [if_pos (by kernel_rfl)]
        refine loud_step (fun K hK => ?_)
        go_simp
        (go_at_call 55; refine HTG.out.mono ?_; rintro e w2 ⟨rfl, hb2⟩; have HS2 := bx (HSd.out.below hb2); have hS1 : (fun w' => w'.cell? ⟨B, 0, none⟩ = some (.int .i64 x.minor) ∧ w'.cell? ⟨B, 1, none⟩ = some (.int .i64 x.major) ∧ w'.cell? ⟨B, 2, none⟩ = some (.slice x.pA x.pn x.pc) ∧ w'.cell? ⟨B, 3, none⟩ = some (.int .i64 x.access) ∧ w'.cell? ⟨B, 4, none⟩ = some (.int .i64 x.this) ∧ w'.cell? ⟨B, 5, none⟩ = some (.int .i64 x.super) ∧ w'.cell? ⟨B, 6, none⟩ = some (.slice x.iA x.i_n x.ic) ∧ w'.cell? ⟨B, 7, none⟩ = some (.slice x.fA x.fn x.fc) ∧ w'.cell? ⟨B, 8, none⟩ = some (.slice x.mA x.mn x.mc) ∧ w'.cell? ⟨B, 9, none⟩ = some (.slice x.aA x.an x.ac) ∧ w'.cell? (ad.add (k * 2)) = some (.int .i64 y.name) ∧ w'.cell? ⟨(ad.add (k * 2)).block, (ad.add (k * 2)).off + 1, none⟩ = some (.slice y.s.A y.s.n y.s.c)) w2 := ⟨(im_all HS2.out.im).1, (im_all HS2.out.im).2.1, (im_all HS2.out.im).2.2.1, (im_all HS2.out.im).2.2.2.1, (im_all HS2.out.im).2.2.2.2.1, (im_all HS2.out.im).2.2.2.2.2.1, (im_all HS2.out.im).2.2.2.2.2.2.1, (im_all HS2.out.im).2.2.2.2.2.2.2.1, (im_all HS2.out.im).2.2.2.2.2.2.2.2.1, (im_all HS2.out.im).2.2.2.2.2.2.2.2.2, (HEL.out w2 ((below_drewN (Below.refl _ wr) 1).trans hb2))⟩; clear hb2)
        refine hK.out _ _ ⟨hS1, ?_⟩
        clear hK K
        try simp only [Act.put, List.setIfInBounds_toArray, List.set_cons_zero, List.set_cons_succ]
        unfold wpSegs
        simp only [List.take_succ_cons, List.take_zero]
        refine held_hide (fun R1 hR1 => ?_)
        refine held_step (fun K hK => ?_)
        rw [if_pos (by kernel_rfl)]
        apply Exists.intro
        refine ⟨fun w hSw => ?_, hK.out _ ?_⟩
        · (try dsimp only at hSw)
          go_simp
          first | done | with_reducible rfl
        clear hK K
        try simp only [Act.put, List.setIfInBounds_toArray, List.set_cons_zero, List.set_cons_succ]
        refine held_step (fun K hK => ?_)
        rw [if_pos (by kernel_rfl)]
        apply Exists.intro
        refine ⟨fun w hSw => ?_, hK.out _ ?_⟩
        · (try dsimp only at hSw)
          go_simp
          first | done | with_reducible rfl
        clear hK K
        try simp only [Act.put, List.setIfInBounds_toArray, List.set_cons_zero, List.set_cons_succ]
        refine held_step (fun K hK => ?_)
        rw [if_neg (ne_true_of_eq_false (by kernel_rfl))]
        refine hK.out _ ?_
        clear hK K
        try simp only [Act.put, List.setIfInBounds_toArray, List.set_cons_zero, List.set_cons_succ]
        refine held_step (fun K hK => ?_)
        rw [if_neg (ne_true_of_eq_false (by kernel_rfl))]
        refine hK.out _ ?_
        clear hK K
        try simp only [Act.put, List.setIfInBounds_toArray, List.set_cons_zero, List.set_cons_succ]
        refine held_step (fun K hK => ?_)
        rw [if_neg (ne_true_of_eq_false (by kernel_rfl))]
        refine hK.out _ ?_
        clear hK K
        try simp only [Act.put, List.setIfInBounds_toArray, List.set_cons_zero, List.set_cons_succ]
        refine held_step (fun K hK => ?_)
        rw [if_neg (ne_true_of_eq_false (by kernel_rfl))]
        refine hK.out _ ?_
        clear hK K
        try simp only [Act.put, List.setIfInBounds_toArray, List.set_cons_zero, List.set_cons_succ]
        refine held_step (fun K hK => ?_)
        rw [if_neg (ne_true_of_eq_false (by kernel_rfl))]
        refine hK.out _ ?_
        clear hK K
        try simp only [Act.put, List.setIfInBounds_toArray, List.set_cons_zero, List.set_cons_succ]
        refine held_step (fun K hK => ?_)
        rw [if_neg (ne_true_of_eq_false (by kernel_rfl))]
        refine hK.out _ ?_
        clear hK K
        try simp only [Act.put, List.setIfInBounds_toArray, List.set_cons_zero, List.set_cons_succ]
        refine held_step (fun K hK => ?_)
        rw [if_neg (ne_true_of_eq_false (by kernel_rfl))]
        refine hK.out _ ?_
        clear hK K
        try simp only [Act.put, List.setIfInBounds_toArray, List.set_cons_zero, List.set_cons_succ]
        refine held_step (fun K hK => ?_)
        rw [if_pos (by kernel_rfl)]
        apply Exists.intro
        refine ⟨fun w hSw => ?_, hK.out _ ?_⟩
        · (try dsimp only at hSw)
          go_simp
          first | done | with_reducible rfl
        clear hK K
        try simp only [Act.put, List.setIfInBounds_toArray, List.set_cons_zero, List.set_cons_succ]
        refine wpHeld_nil ?_
        refine hR1.out _ ?_
        clear hR1 R1
        dsimp only [List.drop]
        clear hS0 hS1
        go_wp2
        go_ret
        exact ⟨by rw [HN.out]; try rfl, HS2.out.bel⟩
    · obtain rfl : na = k := by omega
      have hkI : ¬ (na : Int) < (na : Int) := by omega
      have HN : Bx (R = decide (na ≤ 64)) := bx (by rw [← HRR.out, attsOk_E, all_end HQ.out HM.out, Bool.true_and, HM.out])
      by_cases h64 : na ≤ 64
      · have hI : (na : Int) ≤ 64 := by omega
        go_wp2
        go_ret
        exact ⟨by rw [HN.out, decide_eq_true h64]; try rfl, HS.out.bel⟩
      · have hI : ¬ (na : Int) ≤ 64 := by omega
        go_wp2
        go_ret
        exact ⟨by rw [HN.out, decide_eq_false h64]; try rfl, HS.out.bel⟩
end Go.Proofs.Ytdioijhmmmnbgaa
