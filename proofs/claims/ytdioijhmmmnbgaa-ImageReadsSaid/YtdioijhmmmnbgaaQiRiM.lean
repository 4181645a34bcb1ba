/- Contract: samovarref14.members: the document's. -/
import Derived.Test.YtdioijhmmmnbgaaQiRiA
namespace Go.Proofs.Ytdioijhmmmnbgaa
open Go.RowKit
set_option maxRecDepth 100000 in
set_option maxHeartbeats 8000000 in
theorem rmembers_any (x : ImE) (A : Option Addr) (na ca : Nat) (M : List MmE) (w : World) (hx : RIm w w.heap.size x) (hm : M.length = na) (hmb : (na : Int) ≤ 9223372036854775807) (ha : RM w w.heap.size A M) :
    Calls Try.prog 56 #[.agg (imC x), .slice A na ca] w fun e w' => e = .returned (.bool (memsOk x.pool (M.map MmE.p))) ∧ Below w.heap.size w w' := by
  have HX := bx hx
  have HM := bx hm
  have HA := bx ha
  obtain ⟨R, hR⟩ : ∃ R, memsOk x.pool (M.map MmE.p) = R := ⟨_, rfl⟩
  rw [hR]
  have HRR := bx hR
  have HQ0 : Bx ((M.take 0).all (okM x.pool) = true) := bx rfl
  obtain ⟨cs, hcs⟩ : ∃ cs, cs = imC x := ⟨_, rfl⟩
  rw [← hcs]
  have HCS := bx hcs
  obtain ⟨B, hB⟩ : ∃ B, w.heap.size = B := ⟨_, rfl⟩
  have HKB := bx (Bk.newAt w 29 cs hB)
  have HBB := bx (bl_alloc (Below.refl w.heap.size w) (Nat.le_refl _) (.cells cs 29))
  have HB := bx hB
  clear hx hm ha hR hcs hB
  go_enter Try.func56, Try.ntmps56
  go_upto_region 1 with (fail)
  rw [HB.out]
  change Code.wp _ _ _ _ (w.alloc (.cells cs 29))
  generalize w.alloc (.cells cs 29) = wb at HKB HBB ⊢
  have HS0 : Bx (ImS w wb B x) := bx ⟨HBB.out, by rw [← HCS.out]; exact HKB.out⟩
  clear HKB HBB
  go_wp2_with fail
  go_loopw [5] (fun iv wx => ∃ k : Nat, k ≤ na ∧ iv = .int .i64 (k : Int) ∧ Bx ((M.take k).all (okM x.pool) = true) ∧ Bx (ImS w wx B x)) (fun i _ => na - (intOf i).toNat)
  case atStart => exact ⟨0, by omega, rfl, HQ0, HS0⟩
  case round =>
    clear HQ0 HS0
    obtain ⟨k, hk, rfl, HQ, HS⟩ := hrel
    by_cases hkn : k < na
    · have hkI : (k : Int) < (na : Int) := by omega
      have hkJ : (0 : Int) ≤ (k : Int) := by omega
      obtain ⟨ad, y, rfl, hlt, HY, p0, p1, p2, p3, HMB0⟩ := (HA.out.below HS.out.bel (Nat.le_refl _)).at_ (k := k) (by rw [HM.out]; exact hkn)
      have HMB := bx (HA.out.2 y (List.mem_of_getElem? HY.out))
      have hyb : (y.n : Int) ≤ 9223372036854775807 := by have := HMB.out.2.1; have := HMB.out.2.2.1; omega
      obtain ⟨t1, ht1⟩ : ∃ t, tagP x.pool y.name = t := ⟨_, rfl⟩
      obtain ⟨t2, ht2⟩ : ∃ t, tagP x.pool y.desc = t := ⟨_, rfl⟩
      obtain ⟨q4, hq4⟩ : ∃ q, attsOk x.pool (y.L.map AtE.p) = q := ⟨_, rfl⟩
      obtain ⟨qu, hqu⟩ : ∃ q, u2P y.access = q := ⟨_, rfl⟩
      have HT1 := bx ht1
      have HT2 := bx ht2
      have HQ4 := bx hq4
      have HU := bx hqu
      have HSd := bx (HS.out.below (below_drewN (Below.refl _ wr) 1))
      have HEL : Bx (∀ w', Below wr.heap.size wr w' → w'.cell? (ad.add (k * 4)) = some (.int .i64 y.access) ∧ w'.cell? ⟨(ad.add (k * 4)).block, (ad.add (k * 4)).off + 1, none⟩ = some (.int .i64 y.name) ∧ w'.cell? ⟨(ad.add (k * 4)).block, (ad.add (k * 4)).off + 2, none⟩ = some (.int .i64 y.desc) ∧ w'.cell? ⟨(ad.add (k * 4)).block, (ad.add (k * 4)).off + 3, none⟩ = some (.slice y.A y.n y.c)) := bx (fun w' hb => ⟨(hb.cell (p := ad.add (k * 4)) (by rw [blk_add]; exact Nat.lt_of_lt_of_le hlt HS.out.bel.size)).trans p0, (hb.cell (p := ⟨(ad.add (k * 4)).block, (ad.add (k * 4)).off + 1, none⟩) (by rw [blk_add]; exact Nat.lt_of_lt_of_le hlt HS.out.bel.size)).trans p1, (hb.cell (p := ⟨(ad.add (k * 4)).block, (ad.add (k * 4)).off + 2, none⟩) (by rw [blk_add]; exact Nat.lt_of_lt_of_le hlt HS.out.bel.size)).trans p2, (hb.cell (p := ⟨(ad.add (k * 4)).block, (ad.add (k * 4)).off + 3, none⟩) (by rw [blk_add]; exact Nat.lt_of_lt_of_le hlt HS.out.bel.size)).trans p3⟩)
      have hS0 : (fun w' => w'.cell? ⟨B, 0, none⟩ = some (.int .i64 x.minor) ∧ w'.cell? ⟨B, 1, none⟩ = some (.int .i64 x.major) ∧ w'.cell? ⟨B, 2, none⟩ = some (.slice x.pA x.pn x.pc) ∧ w'.cell? ⟨B, 3, none⟩ = some (.int .i64 x.access) ∧ w'.cell? ⟨B, 4, none⟩ = some (.int .i64 x.this) ∧ w'.cell? ⟨B, 5, none⟩ = some (.int .i64 x.super) ∧ w'.cell? ⟨B, 6, none⟩ = some (.slice x.iA x.i_n x.ic) ∧ w'.cell? ⟨B, 7, none⟩ = some (.slice x.fA x.fn x.fc) ∧ w'.cell? ⟨B, 8, none⟩ = some (.slice x.mA x.mn x.mc) ∧ w'.cell? ⟨B, 9, none⟩ = some (.slice x.aA x.an x.ac) ∧ w'.cell? (ad.add (k * 4)) = some (.int .i64 y.access) ∧ w'.cell? ⟨(ad.add (k * 4)).block, (ad.add (k * 4)).off + 1, none⟩ = some (.int .i64 y.name) ∧ w'.cell? ⟨(ad.add (k * 4)).block, (ad.add (k * 4)).off + 2, none⟩ = some (.int .i64 y.desc) ∧ w'.cell? ⟨(ad.add (k * 4)).block, (ad.add (k * 4)).off + 3, none⟩ = some (.slice y.A y.n y.c)) wr.drew := ⟨(im_all HSd.out.im).1, (im_all HSd.out.im).2.1, (im_all HSd.out.im).2.2.1, (im_all HSd.out.im).2.2.2.1, (im_all HSd.out.im).2.2.2.2.1, (im_all HSd.out.im).2.2.2.2.2.1, (im_all HSd.out.im).2.2.2.2.2.2.1, (im_all HSd.out.im).2.2.2.2.2.2.2.1, (im_all HSd.out.im).2.2.2.2.2.2.2.2.1, (im_all HSd.out.im).2.2.2.2.2.2.2.2.2, (HEL.out wr.drew (below_drewN (Below.refl _ wr) 1))⟩
      clear ht1 ht2 hq4 hqu p0 p1 p2 p3 HMB0
      go_upto_region 4 with (fail)
      cases qu with
      | false =>
        have HN : Bx (R = false) := bx (by rw [← HRR.out]; exact memsOk_bad HY.out (show okM x.pool y = false by
          rw [okM_E, HU.out]; try simp))
        skip
        refine wp_region_segs (fun w' => w'.cell? ⟨B, 0, none⟩ = some (.int .i64 x.minor) ∧ w'.cell? ⟨B, 1, none⟩ = some (.int .i64 x.major) ∧ w'.cell? ⟨B, 2, none⟩ = some (.slice x.pA x.pn x.pc) ∧ w'.cell? ⟨B, 3, none⟩ = some (.int .i64 x.access) ∧ w'.cell? ⟨B, 4, none⟩ = some (.int .i64 x.this) ∧ w'.cell? ⟨B, 5, none⟩ = some (.int .i64 x.super) ∧ w'.cell? ⟨B, 6, none⟩ = some (.slice x.iA x.i_n x.ic) ∧ w'.cell? ⟨B, 7, none⟩ = some (.slice x.fA x.fn x.fc) ∧ w'.cell? ⟨B, 8, none⟩ = some (.slice x.mA x.mn x.mc) ∧ w'.cell? ⟨B, 9, none⟩ = some (.slice x.aA x.an x.ac) ∧ w'.cell? (ad.add (k * 4)) = some (.int .i64 y.access) ∧ w'.cell? ⟨(ad.add (k * 4)).block, (ad.add (k * 4)).off + 1, none⟩ = some (.int .i64 y.name) ∧ w'.cell? ⟨(ad.add (k * 4)).block, (ad.add (k * 4)).off + 2, none⟩ = some (.int .i64 y.desc) ∧ w'.cell? ⟨(ad.add (k * 4)).block, (ad.add (k * 4)).off + 3, none⟩ = some (.slice y.A y.n y.c)) [5, 8, 9, 9, 2] (by kernel_rfl) (by kernel_rfl) (by kernel_rfl) hS0 (fun _ _ _ d _ h => by cases d <;> exact h) ?_
        unfold wpSegs
        simp only [List.take_succ_cons, List.take_zero]
        refine held_hide (fun R1 hR1 => ?_)
        refine held_step (fun K hK => ?_)
        rw [if_pos (by kernel_rfl)]
        apply Exists.intro
        refine ⟨fun w hSw => ?_, hK.out _ ?_⟩
        · (try dsimp only at hSw)
          go_simp
          first | done | with_reducible rfl
        clear hK K
        try simp only [Act.put, List.setIfInBounds_toArray, List.set_cons_zero, List.set_cons_succ]
        refine held_step (fun K hK => ?_)
        rw [if_pos (by kernel_rfl)]
        apply Exists.intro
        refine ⟨fun w hSw => ?_, hK.out _ ?_⟩
        · (try dsimp only at hSw)
          go_simp
          first | done | with_reducible rfl
        clear hK K
        try simp only [Act.put, List.setIfInBounds_toArray, List.set_cons_zero, List.set_cons_succ]
        refine held_step (fun K hK => ?_)
        rw [if_pos (by kernel_rfl)]
        apply Exists.intro
        refine ⟨fun w hSw => ?_, hK.out _ ?_⟩
        · (try dsimp only at hSw)
          go_simp
          first | done | with_reducible rfl
        clear hK K
        try simp only [Act.put, List.setIfInBounds_toArray, List.set_cons_zero, List.set_cons_succ]
        refine held_step (fun K hK => ?_)
        rw [if_pos (by kernel_rfl)]
        apply Exists.intro
        refine ⟨fun w hSw => ?_, hK.out _ ?_⟩
        · (try dsimp only at hSw)
          go_simp
          first | done | with_reducible rfl
        clear hK K
        try simp only [Act.put, List.setIfInBounds_toArray, List.set_cons_zero, List.set_cons_succ]
        refine held_step (fun K hK => ?_)
        rw [if_pos (by kernel_rfl)]
        apply Exists.intro
        refine ⟨fun w hSw => ?_, hK.out _ ?_⟩
        · (try dsimp only at hSw)
          go_simp
          first | done | with_reducible rfl
        clear hK K
        try simp only [Act.put, List.setIfInBounds_toArray, List.set_cons_zero, List.set_cons_succ]
        refine wpHeld_nil ?_
        refine hR1.out _ ?_
        clear hR1 R1
        dsimp only [List.drop]
        rw [if_pos (by kernel_rfl)]
        refine loud_step (fun K hK => ?_)
        go_simp
        go_at_call 53
        refine (ru2_any y.access wr.drew).mono ?_
        rintro e w2 ⟨rfl, rfl⟩
        rw [HU.out]
        refine hK.out _ _ ⟨hS0, ?_⟩
        clear hK K
        try simp only [Act.put, List.setIfInBounds_toArray, List.set_cons_zero, List.set_cons_succ]
        unfold wpSegs
        simp only [List.take_succ_cons, List.take_zero]
        refine held_hide (fun R1 hR1 => ?_)
        refine held_step (fun K hK => ?_)
        rw [if_pos (by kernel_rfl)]
        apply Exists.intro
        refine ⟨fun w hSw => ?_, hK.out _ ?_⟩
        · (try dsimp only at hSw)
          go_simp
          first | done | with_reducible rfl
        clear hK K
        try simp only [Act.put, List.setIfInBounds_toArray, List.set_cons_zero, List.set_cons_succ]
        refine held_step (fun K hK => ?_)
        rw [if_pos (by kernel_rfl)]
        apply Exists.intro
        refine ⟨fun w hSw => ?_, hK.out _ ?_⟩
        · (try dsimp only at hSw)
          go_simp
          first | done | with_reducible rfl
        clear hK K
        try simp only [Act.put, List.setIfInBounds_toArray, List.set_cons_zero, List.set_cons_succ]
        refine held_step (fun K hK => ?_)
        rw [if_neg (ne_true_of_eq_false (by kernel_rfl))]
        refine hK.out _ ?_
        clear hK K
        try simp only [Act.put, List.setIfInBounds_toArray, List.set_cons_zero, List.set_cons_succ]
        refine held_step (fun K hK => ?_)
        rw [if_neg (ne_true_of_eq_false (by kernel_rfl))]
        refine hK.out _ ?_
        clear hK K
        try simp only [Act.put, List.setIfInBounds_toArray, List.set_cons_zero, List.set_cons_succ]
        refine held_step (fun K hK => ?_)
        rw [if_neg (ne_true_of_eq_false (by kernel_rfl))]
        refine hK.out _ ?_
        clear hK K
        try simp only [Act.put, List.setIfInBounds_toArray, List.set_cons_zero, List.set_cons_succ]
        refine held_step (fun K hK => ?_)
        rw [if_neg (ne_true_of_eq_false (by kernel_rfl))]
        refine hK.out _ ?_
        clear hK K
        try simp only [Act.put, List.setIfInBounds_toArray, List.set_cons_zero, List.set_cons_succ]
        refine held_step (fun K hK => ?_)
        rw [if_neg (ne_true_of_eq_false (by kernel_rfl))]
        refine hK.out _ ?_
        clear hK K
        try simp only [Act.put, List.setIfInBounds_toArray, List.set_cons_zero, List.set_cons_succ]
        refine held_step (fun K hK => ?_)
        rw [if_neg (ne_true_of_eq_false (by kernel_rfl))]
        refine hK.out _ ?_
        clear hK K
        try simp only [Act.put, List.setIfInBounds_toArray, List.set_cons_zero, List.set_cons_succ]
        refine wpHeld_nil ?_
        refine hR1.out _ ?_
        clear hR1 R1
        dsimp only [List.drop]
        rw [if_neg (ne_true_of_eq_false (by kernel_rfl))]
        try simp only [Act.put, List.setIfInBounds_toArray, List.set_cons_zero, List.set_cons_succ]
        unfold wpSegs
        simp only [List.take_succ_cons, List.take_zero]
        refine held_hide (fun R1 hR1 => ?_)
        refine held_step (fun K hK => ?_)
        rw [if_neg (ne_true_of_eq_false (by kernel_rfl))]
        refine hK.out _ ?_
        clear hK K
        try simp only [Act.put, List.setIfInBounds_toArray, List.set_cons_zero, List.set_cons_succ]
        refine held_step (fun K hK => ?_)
        rw [if_pos (by kernel_rfl)]
        apply Exists.intro
        refine ⟨fun w hSw => ?_, hK.out _ ?_⟩
        · (try dsimp only at hSw)
          go_simp
          first | done | with_reducible rfl
        clear hK K
        try simp only [Act.put, List.setIfInBounds_toArray, List.set_cons_zero, List.set_cons_succ]
        refine held_step (fun K hK => ?_)
        rw [if_pos (by kernel_rfl)]
        apply Exists.intro
        refine ⟨fun w hSw => ?_, hK.out _ ?_⟩
        · (try dsimp only at hSw)
          go_simp
          first | done | with_reducible rfl
        clear hK K
        try simp only [Act.put, List.setIfInBounds_toArray, List.set_cons_zero, List.set_cons_succ]
        refine held_step (fun K hK => ?_)
        rw [if_neg (ne_true_of_eq_false (by kernel_rfl))]
        refine hK.out _ ?_
        clear hK K
        try simp only [Act.put, List.setIfInBounds_toArray, List.set_cons_zero, List.set_cons_succ]
        refine held_step (fun K hK => ?_)
        rw [if_neg (ne_true_of_eq_false (by kernel_rfl))]
        refine hK.out _ ?_
        clear hK K
        try simp only [Act.put, List.setIfInBounds_toArray, List.set_cons_zero, List.set_cons_succ]
        refine held_step (fun K hK => ?_)
        rw [if_neg (ne_true_of_eq_false (by kernel_rfl))]
        refine hK.out _ ?_
        clear hK K
        try simp only [Act.put, List.setIfInBounds_toArray, List.set_cons_zero, List.set_cons_succ]
        refine held_step (fun K hK => ?_)
        rw [if_neg (ne_true_of_eq_false (by kernel_rfl))]
        refine hK.out _ ?_
        clear hK K
        try simp only [Act.put, List.setIfInBounds_toArray, List.set_cons_zero, List.set_cons_succ]
        refine held_step (fun K hK => ?_)
        rw [if_neg (ne_true_of_eq_false (by kernel_rfl))]
        refine hK.out _ ?_
        clear hK K
        try simp only [Act.put, List.setIfInBounds_toArray, List.set_cons_zero, List.set_cons_succ]
        refine held_step (fun K hK => ?_)
        rw [if_neg (ne_true_of_eq_false (by kernel_rfl))]
        refine hK.out _ ?_
        clear hK K
        try simp only [Act.put, List.setIfInBounds_toArray, List.set_cons_zero, List.set_cons_succ]
        refine wpHeld_nil ?_
        refine hR1.out _ ?_
        clear hR1 R1
        dsimp only [List.drop]
        rw [if_neg (ne_true_of_eq_false (by kernel_rfl))]
        try simp only [Act.put, List.setIfInBounds_toArray, List.set_cons_zero, List.set_cons_succ]
        unfold wpSegs
        simp only [List.take_succ_cons, List.take_zero]
        refine held_hide (fun R1 hR1 => ?_)
        refine held_step (fun K hK => ?_)
        rw [if_neg (ne_true_of_eq_false (by kernel_rfl))]
        refine hK.out _ ?_
        clear hK K
        try simp only [Act.put, List.setIfInBounds_toArray, List.set_cons_zero, List.set_cons_succ]
        refine held_step (fun K hK => ?_)
        rw [if_pos (by kernel_rfl)]
        apply Exists.intro
        refine ⟨fun w hSw => ?_, hK.out _ ?_⟩
        · (try dsimp only at hSw)
          go_simp
          first | done | with_reducible rfl
        clear hK K
        try simp only [Act.put, List.setIfInBounds_toArray, List.set_cons_zero, List.set_cons_succ]
        refine held_step (fun K hK => ?_)
        rw [if_pos (by kernel_rfl)]
        apply Exists.intro
        refine ⟨fun w hSw => ?_, hK.out _ ?_⟩
        · (try dsimp only at hSw)
          go_simp
          first | done | with_reducible rfl
        clear hK K
        try simp only [Act.put, List.setIfInBounds_toArray, List.set_cons_zero, List.set_cons_succ]
        refine held_step (fun K hK => ?_)
        rw [if_neg (ne_true_of_eq_false (by kernel_rfl))]
        refine hK.out _ ?_
        clear hK K
        try simp only [Act.put, List.setIfInBounds_toArray, List.set_cons_zero, List.set_cons_succ]
        refine held_step (fun K hK => ?_)
        rw [if_neg (ne_true_of_eq_false (by kernel_rfl))]
        refine hK.out _ ?_
        clear hK K
        try simp only [Act.put, List.setIfInBounds_toArray, List.set_cons_zero, List.set_cons_succ]
        refine held_step (fun K hK => ?_)
        rw [if_neg (ne_true_of_eq_false (by kernel_rfl))]
        refine hK.out _ ?_
        clear hK K
        try simp only [Act.put, List.setIfInBounds_toArray, List.set_cons_zero, List.set_cons_succ]
        refine held_step (fun K hK => ?_)
        rw [if_neg (ne_true_of_eq_false (by kernel_rfl))]
        refine hK.out _ ?_
        clear hK K
        try simp only [Act.put, List.setIfInBounds_toArray, List.set_cons_zero, List.set_cons_succ]
        refine held_step (fun K hK => ?_)
        rw [if_neg (ne_true_of_eq_false (by kernel_rfl))]
        refine hK.out _ ?_
        clear hK K
        try simp only [Act.put, List.setIfInBounds_toArray, List.set_cons_zero, List.set_cons_succ]
        refine held_step (fun K hK => ?_)
        rw [if_neg (ne_true_of_eq_false (by kernel_rfl))]
        refine hK.out _ ?_
        clear hK K
        try simp only [Act.put, List.setIfInBounds_toArray, List.set_cons_zero, List.set_cons_succ]
        refine wpHeld_nil ?_
        refine hR1.out _ ?_
        clear hR1 R1
        dsimp only [List.drop]
        rw [if_neg (ne_true_of_eq_false (by kernel_rfl))]
        try simp only [Act.put, List.setIfInBounds_toArray, List.set_cons_zero, List.set_cons_succ]
        unfold wpSegs
        simp only [List.take_succ_cons, List.take_zero]
        refine held_hide (fun R1 hR1 => ?_)
        refine held_step (fun K hK => ?_)
        rw [if_neg (ne_true_of_eq_false (by kernel_rfl))]
        refine hK.out _ ?_
        clear hK K
        try simp only [Act.put, List.setIfInBounds_toArray, List.set_cons_zero, List.set_cons_succ]
        refine held_step (fun K hK => ?_)
        rw [if_pos (by kernel_rfl)]
        apply Exists.intro
        refine ⟨fun w hSw => ?_, hK.out _ ?_⟩
        · (try dsimp only at hSw)
          go_simp
          first | done | with_reducible rfl
        clear hK K
        try simp only [Act.put, List.setIfInBounds_toArray, List.set_cons_zero, List.set_cons_succ]
        refine wpHeld_nil ?_
        refine hR1.out _ ?_
        clear hR1 R1
        dsimp only [List.drop]
        go_wp2
        go_ret
        exact ⟨by rw [HN.out]; try rfl, HSd.out.bel⟩
      | true =>
        by_cases h1 : t1 = 1
        · have h1b : (t1 != 1) = false := by rw [h1]; rfl
          by_cases h2 : t2 = 1
          · have h2b : (t2 != 1) = false := by rw [h2]; rfl
            cases q4 with
            | false =>
              have HN : Bx (R = false) := bx (by rw [← HRR.out]; exact memsOk_bad HY.out (show okM x.pool y = false by
                rw [okM_E, HQ4.out, Bool.and_false]; try simp))
              clear h1 h2
              refine wp_region_segs (fun w' => w'.cell? ⟨B, 0, none⟩ = some (.int .i64 x.minor) ∧ w'.cell? ⟨B, 1, none⟩ = some (.int .i64 x.major) ∧ w'.cell? ⟨B, 2, none⟩ = some (.slice x.pA x.pn x.pc) ∧ w'.cell? ⟨B, 3, none⟩ = some (.int .i64 x.access) ∧ w'.cell? ⟨B, 4, none⟩ = some (.int .i64 x.this) ∧ w'.cell? ⟨B, 5, none⟩ = some (.int .i64 x.super) ∧ w'.cell? ⟨B, 6, none⟩ = some (.slice x.iA x.i_n x.ic) ∧ w'.cell? ⟨B, 7, none⟩ = some (.slice x.fA x.fn x.fc) ∧ w'.cell? ⟨B, 8, none⟩ = some (.slice x.mA x.mn x.mc) ∧ w'.cell? ⟨B, 9, none⟩ = some (.slice x.aA x.an x.ac) ∧ w'.cell? (ad.add (k * 4)) = some (.int .i64 y.access) ∧ w'.cell? ⟨(ad.add (k * 4)).block, (ad.add (k * 4)).off + 1, none⟩ = some (.int .i64 y.name) ∧ w'.cell? ⟨(ad.add (k * 4)).block, (ad.add (k * 4)).off + 2, none⟩ = some (.int .i64 y.desc) ∧ w'.cell? ⟨(ad.add (k * 4)).block, (ad.add (k * 4)).off + 3, none⟩ = some (.slice y.A y.n y.c)) [5, 8, 9, 9, 2] (by kernel_rfl) (by kernel_rfl) (by kernel_rfl) hS0 (fun _ _ _ d _ h => by cases d <;> exact h) ?_
              unfold wpSegs
              simp only [List.take_succ_cons, List.take_zero]
              refine held_hide (fun R1 hR1 => ?_)
              refine held_step (fun K hK => ?_)
              rw [if_pos (by kernel_rfl)]
              apply Exists.intro
              refine ⟨fun w hSw => ?_, hK.out _ ?_⟩
              · (try dsimp only at hSw)
                go_simp
                first | done | with_reducible rfl
              clear hK K
              try simp only [Act.put, List.setIfInBounds_toArray, List.set_cons_zero, List.set_cons_succ]
              refine held_step (fun K hK => ?_)
              rw [if_pos (by kernel_rfl)]
              apply Exists.intro
              refine ⟨fun w hSw => ?_, hK.out _ ?_⟩
              · (try dsimp only at hSw)
                go_simp
                first | done | with_reducible rfl
              clear hK K
              try simp only [Act.put, List.setIfInBounds_toArray, List.set_cons_zero, List.set_cons_succ]
              refine held_step (fun K hK => ?_)
              rw [if_pos (by kernel_rfl)]
              apply Exists.intro
              refine ⟨fun w hSw => ?_, hK.out _ ?_⟩
              · (try dsimp only at hSw)
                go_simp
                first | done | with_reducible rfl
              clear hK K
              try simp only [Act.put, List.setIfInBounds_toArray, List.set_cons_zero, List.set_cons_succ]
              refine held_step (fun K hK => ?_)
              rw [if_pos (by kernel_rfl)]
              apply Exists.intro
              refine ⟨fun w hSw => ?_, hK.out _ ?_⟩
              · (try dsimp only at hSw)
                go_simp
                first | done | with_reducible rfl
              clear hK K
              try simp only [Act.put, List.setIfInBounds_toArray, List.set_cons_zero, List.set_cons_succ]
              refine held_step (fun K hK => ?_)
              rw [if_pos (by kernel_rfl)]
              apply Exists.intro
              refine ⟨fun w hSw => ?_, hK.out _ ?_⟩
              · (try dsimp only at hSw)
                go_simp
                first | done | with_reducible rfl
              clear hK K
              try simp only [Act.put, List.setIfInBounds_toArray, List.set_cons_zero, List.set_cons_succ]
              refine wpHeld_nil ?_
              refine hR1.out _ ?_
              clear hR1 R1
              dsimp only [List.drop]
              rw [if_pos (by kernel_rfl)]
              refine loud_step (fun K hK => ?_)
              go_simp
              go_at_call 53
              refine (ru2_any y.access wr.drew).mono ?_
              rintro e w2 ⟨rfl, rfl⟩
              rw [HU.out]
              refine hK.out _ _ ⟨hS0, ?_⟩
              clear hK K
              try simp only [Act.put, List.setIfInBounds_toArray, List.set_cons_zero, List.set_cons_succ]
              unfold wpSegs
              simp only [List.take_succ_cons, List.take_zero]
              refine held_hide (fun R1 hR1 => ?_)
              refine held_step (fun K hK => ?_)
              rw [if_pos (by kernel_rfl)]
              apply Exists.intro
              refine ⟨fun w hSw => ?_, hK.out _ ?_⟩
              · (try dsimp only at hSw)
                go_simp
                first | done | with_reducible rfl
              clear hK K
              try simp only [Act.put, List.setIfInBounds_toArray, List.set_cons_zero, List.set_cons_succ]
              refine held_step (fun K hK => ?_)
              rw [if_pos (by kernel_rfl)]
              apply Exists.intro
              refine ⟨fun w hSw => ?_, hK.out _ ?_⟩
              · (try dsimp only at hSw)
                go_simp
                first | done | with_reducible rfl
              clear hK K
              try simp only [Act.put, List.setIfInBounds_toArray, List.set_cons_zero, List.set_cons_succ]
              refine held_step (fun K hK => ?_)
              rw [if_pos (by kernel_rfl)]
              apply Exists.intro
              refine ⟨fun w hSw => ?_, hK.out _ ?_⟩
              · (try dsimp only at hSw)
                go_simp
                first | done | with_reducible rfl
              clear hK K
              try simp only [Act.put, List.setIfInBounds_toArray, List.set_cons_zero, List.set_cons_succ]
              refine held_step (fun K hK => ?_)
              rw [if_pos (by kernel_rfl)]
              apply Exists.intro
              refine ⟨fun w hSw => ?_, hK.out _ ?_⟩
              · (try dsimp only at hSw)
                go_simp
                first | done | with_reducible rfl
              clear hK K
              try simp only [Act.put, List.setIfInBounds_toArray, List.set_cons_zero, List.set_cons_succ]
              refine held_step (fun K hK => ?_)
              rw [if_pos (by kernel_rfl)]
              apply Exists.intro
              refine ⟨fun w hSw => ?_, hK.out _ ?_⟩
              · (try dsimp only at hSw)
                go_simp
                first | done | with_reducible rfl
              clear hK K
              try simp only [Act.put, List.setIfInBounds_toArray, List.set_cons_zero, List.set_cons_succ]
              refine held_step (fun K hK => ?_)
              rw [if_pos (by kernel_rfl)]
              apply Exists.intro
              refine ⟨fun w hSw => ?_, hK.out _ ?_⟩
              · (try dsimp only at hSw)
                go_simp
                first | done | with_reducible rfl
              clear hK K
              try simp only [Act.put, List.setIfInBounds_toArray, List.set_cons_zero, List.set_cons_succ]
              refine held_step (fun K hK => ?_)
              rw [if_pos (by kernel_rfl)]
              apply Exists.intro
              refine ⟨fun w hSw => ?_, hK.out _ ?_⟩
              · (try dsimp only at hSw)
                go_simp
                first | done | with_reducible rfl
              clear hK K
              try simp only [Act.put, List.setIfInBounds_toArray, List.set_cons_zero, List.set_cons_succ]
              refine held_step (fun K hK => ?_)
              rw [if_pos (by kernel_rfl)]
              apply Exists.intro
              refine ⟨fun w hSw => ?_, hK.out _ ?_⟩
              · (try dsimp only at hSw)
                go_simp
                first | done | with_reducible rfl
              clear hK K
              try simp only [Act.put, List.setIfInBounds_toArray, List.set_cons_zero, List.set_cons_succ]
              refine wpHeld_nil ?_
              refine hR1.out _ ?_
              clear hR1 R1
              dsimp only [List.drop]
              rw [if_pos (by kernel_rfl)]
              refine loud_step (fun K hK => ?_)
              go_simp
              go_at_call 55
              refine (rtag_any x y.name wr.drew (HX.out.up HSd.out.bel)).mono ?_
              rintro e w3 ⟨rfl, hb3⟩
              rw [HT1.out]
              have HS3 := bx (HSd.out.below hb3)
              have HW3 : Bx (Below wr.heap.size wr w3) := bx ((below_drewN (Below.refl _ wr) 1).trans hb3)
              have hS3 : (fun w' => w'.cell? ⟨B, 0, none⟩ = some (.int .i64 x.minor) ∧ w'.cell? ⟨B, 1, none⟩ = some (.int .i64 x.major) ∧ w'.cell? ⟨B, 2, none⟩ = some (.slice x.pA x.pn x.pc) ∧ w'.cell? ⟨B, 3, none⟩ = some (.int .i64 x.access) ∧ w'.cell? ⟨B, 4, none⟩ = some (.int .i64 x.this) ∧ w'.cell? ⟨B, 5, none⟩ = some (.int .i64 x.super) ∧ w'.cell? ⟨B, 6, none⟩ = some (.slice x.iA x.i_n x.ic) ∧ w'.cell? ⟨B, 7, none⟩ = some (.slice x.fA x.fn x.fc) ∧ w'.cell? ⟨B, 8, none⟩ = some (.slice x.mA x.mn x.mc) ∧ w'.cell? ⟨B, 9, none⟩ = some (.slice x.aA x.an x.ac) ∧ w'.cell? (ad.add (k * 4)) = some (.int .i64 y.access) ∧ w'.cell? ⟨(ad.add (k * 4)).block, (ad.add (k * 4)).off + 1, none⟩ = some (.int .i64 y.name) ∧ w'.cell? ⟨(ad.add (k * 4)).block, (ad.add (k * 4)).off + 2, none⟩ = some (.int .i64 y.desc) ∧ w'.cell? ⟨(ad.add (k * 4)).block, (ad.add (k * 4)).off + 3, none⟩ = some (.slice y.A y.n y.c)) w3 := ⟨(im_all HS3.out.im).1, (im_all HS3.out.im).2.1, (im_all HS3.out.im).2.2.1, (im_all HS3.out.im).2.2.2.1, (im_all HS3.out.im).2.2.2.2.1, (im_all HS3.out.im).2.2.2.2.2.1, (im_all HS3.out.im).2.2.2.2.2.2.1, (im_all HS3.out.im).2.2.2.2.2.2.2.1, (im_all HS3.out.im).2.2.2.2.2.2.2.2.1, (im_all HS3.out.im).2.2.2.2.2.2.2.2.2, (HEL.out w3 HW3.out)⟩
              clear hb3
              refine hK.out _ _ ⟨hS3, ?_⟩
              clear hK K
              try simp only [Act.put, List.setIfInBounds_toArray, List.set_cons_zero, List.set_cons_succ]
              unfold wpSegs
              simp only [List.take_succ_cons, List.take_zero]
              refine held_hide (fun R1 hR1 => ?_)
              refine held_step (fun K hK => ?_)
              rw [if_pos (by kernel_rfl)]
              apply Exists.intro
              refine ⟨fun w hSw => ?_, hK.out _ ?_⟩
              · (try dsimp only at hSw)
                go_simp
                first | done | with_reducible rfl
              clear hK K
              try simp only [Act.put, List.setIfInBounds_toArray, List.set_cons_zero, List.set_cons_succ]
              refine held_step (fun K hK => ?_)
              rw [if_pos (by kernel_rfl)]
              apply Exists.intro
              refine ⟨fun w hSw => ?_, hK.out _ ?_⟩
              · (try dsimp only at hSw)
                go_simp
                first | done | with_reducible rfl
              clear hK K
              try simp only [Act.put, List.setIfInBounds_toArray, List.set_cons_zero, List.set_cons_succ]
              refine held_step (fun K hK => ?_)
              rw [if_pos (by kernel_rfl)]
              apply Exists.intro
              refine ⟨fun w hSw => ?_, hK.out _ ?_⟩
              · (try dsimp only at hSw)
                go_simp
                first | done | with_reducible rfl
              clear hK K
              try simp only [Act.put, List.setIfInBounds_toArray, List.set_cons_zero, List.set_cons_succ]
              refine held_step (fun K hK => ?_)
              rw [if_pos (by kernel_rfl)]
              apply Exists.intro
              refine ⟨fun w hSw => ?_, hK.out _ ?_⟩
              · (try dsimp only at hSw)
                go_simp
                first | done | with_reducible rfl
              clear hK K
              try simp only [Act.put, List.setIfInBounds_toArray, List.set_cons_zero, List.set_cons_succ]
              refine held_step (fun K hK => ?_)
              rw [if_pos (by kernel_rfl)]
              apply Exists.intro
              refine ⟨fun w hSw => ?_, hK.out _ ?_⟩
              · (try dsimp only at hSw)
                go_simp
                first | done | with_reducible rfl
              clear hK K
              try simp only [Act.put, List.setIfInBounds_toArray, List.set_cons_zero, List.set_cons_succ]
              refine held_step (fun K hK => ?_)
              rw [if_pos (by kernel_rfl)]
              apply Exists.intro
              refine ⟨fun w hSw => ?_, hK.out _ ?_⟩
              · (try dsimp only at hSw)
                go_simp
                first | done | with_reducible rfl
              clear hK K
              try simp only [Act.put, List.setIfInBounds_toArray, List.set_cons_zero, List.set_cons_succ]
              refine held_step (fun K hK => ?_)
              rw [if_pos (by kernel_rfl)]
              apply Exists.intro
              refine ⟨fun w hSw => ?_, hK.out _ ?_⟩
              · (try dsimp only at hSw)
                go_simp
                first | done | with_reducible rfl
              clear hK K
              try simp only [Act.put, List.setIfInBounds_toArray, List.set_cons_zero, List.set_cons_succ]
              refine held_step (fun K hK => ?_)
              rw [if_pos (by kernel_rfl)]
              apply Exists.intro
              refine ⟨fun w hSw => ?_, hK.out _ ?_⟩
              · (try dsimp only at hSw)
                go_simp
                first | done | with_reducible rfl
              clear hK K
              try simp only [Act.put, List.setIfInBounds_toArray, List.set_cons_zero, List.set_cons_succ]
              refine held_step (fun K hK => ?_)
              rw [if_pos (by kernel_rfl)]
              apply Exists.intro
              refine ⟨fun w hSw => ?_, hK.out _ ?_⟩
              · (try dsimp only at hSw)
                go_simp
                first | done | with_reducible rfl
              clear hK K
              try simp only [Act.put, List.setIfInBounds_toArray, List.set_cons_zero, List.set_cons_succ]
              refine wpHeld_nil ?_
              refine hR1.out _ ?_
              clear hR1 R1
              dsimp only [List.drop]
              rw [if_pos (by kernel_rfl)]
              refine loud_step (fun K hK => ?_)
              go_simp
              go_at_call 55
              refine (rtag_any x y.desc w3 (HX.out.up HS3.out.bel)).mono ?_
              rintro e w4 ⟨rfl, hb4⟩
              rw [HT2.out]
              have HS4 := bx (HS3.out.below hb4)
              have HW4 := bx (HW3.out.trans (hb4.mono HW3.out.size))
              have hS4 : (fun w' => w'.cell? ⟨B, 0, none⟩ = some (.int .i64 x.minor) ∧ w'.cell? ⟨B, 1, none⟩ = some (.int .i64 x.major) ∧ w'.cell? ⟨B, 2, none⟩ = some (.slice x.pA x.pn x.pc) ∧ w'.cell? ⟨B, 3, none⟩ = some (.int .i64 x.access) ∧ w'.cell? ⟨B, 4, none⟩ = some (.int .i64 x.this) ∧ w'.cell? ⟨B, 5, none⟩ = some (.int .i64 x.super) ∧ w'.cell? ⟨B, 6, none⟩ = some (.slice x.iA x.i_n x.ic) ∧ w'.cell? ⟨B, 7, none⟩ = some (.slice x.fA x.fn x.fc) ∧ w'.cell? ⟨B, 8, none⟩ = some (.slice x.mA x.mn x.mc) ∧ w'.cell? ⟨B, 9, none⟩ = some (.slice x.aA x.an x.ac) ∧ w'.cell? (ad.add (k * 4)) = some (.int .i64 y.access) ∧ w'.cell? ⟨(ad.add (k * 4)).block, (ad.add (k * 4)).off + 1, none⟩ = some (.int .i64 y.name) ∧ w'.cell? ⟨(ad.add (k * 4)).block, (ad.add (k * 4)).off + 2, none⟩ = some (.int .i64 y.desc) ∧ w'.cell? ⟨(ad.add (k * 4)).block, (ad.add (k * 4)).off + 3, none⟩ = some (.slice y.A y.n y.c)) w4 := ⟨(im_all HS4.out.im).1, (im_all HS4.out.im).2.1, (im_all HS4.out.im).2.2.1, (im_all HS4.out.im).2.2.2.1, (im_all HS4.out.im).2.2.2.2.1, (im_all HS4.out.im).2.2.2.2.2.1, (im_all HS4.out.im).2.2.2.2.2.2.1, (im_all HS4.out.im).2.2.2.2.2.2.2.1, (im_all HS4.out.im).2.2.2.2.2.2.2.2.1, (im_all HS4.out.im).2.2.2.2.2.2.2.2.2, (HEL.out w4 HW4.out)⟩
              clear hb4
              refine hK.out _ _ ⟨hS4, ?_⟩
              clear hK K
              try simp only [Act.put, List.setIfInBounds_toArray, List.set_cons_zero, List.set_cons_succ]
              unfold wpSegs
              simp only [List.take_succ_cons, List.take_zero]
              refine held_hide (fun R1 hR1 => ?_)
              refine held_step (fun K hK => ?_)
              rw [if_pos (by kernel_rfl)]
              apply Exists.intro
              refine ⟨fun w hSw => ?_, hK.out _ ?_⟩
              · (try dsimp only at hSw)
                go_simp
                first | done | with_reducible rfl
              clear hK K
              try simp only [Act.put, List.setIfInBounds_toArray, List.set_cons_zero, List.set_cons_succ]
              refine held_step (fun K hK => ?_)
              rw [if_pos (by kernel_rfl)]
              apply Exists.intro
              refine ⟨fun w hSw => ?_, hK.out _ ?_⟩
              · (try dsimp only at hSw)
                go_simp
                first | done | with_reducible rfl
              clear hK K
              try simp only [Act.put, List.setIfInBounds_toArray, List.set_cons_zero, List.set_cons_succ]
              refine held_step (fun K hK => ?_)
              rw [if_pos (by kernel_rfl)]
              apply Exists.intro
              refine ⟨fun w hSw => ?_, hK.out _ ?_⟩
              · (try dsimp only at hSw)
                go_simp
                first | done | with_reducible rfl
              clear hK K
              try simp only [Act.put, List.setIfInBounds_toArray, List.set_cons_zero, List.set_cons_succ]
              refine held_step (fun K hK => ?_)
              rw [if_pos (by kernel_rfl)]
              apply Exists.intro
              refine ⟨fun w hSw => ?_, hK.out _ ?_⟩
              · (try dsimp only at hSw)
                go_simp
                first | done | with_reducible rfl
              clear hK K
              try simp only [Act.put, List.setIfInBounds_toArray, List.set_cons_zero, List.set_cons_succ]
              refine held_step (fun K hK => ?_)
              rw [if_pos (by kernel_rfl)]
              apply Exists.intro
              refine ⟨fun w hSw => ?_, hK.out _ ?_⟩
              · (try dsimp only at hSw)
                go_simp
                first | done | with_reducible rfl
              clear hK K
              try simp only [Act.put, List.setIfInBounds_toArray, List.set_cons_zero, List.set_cons_succ]
              refine held_step (fun K hK => ?_)
              rw [if_pos (by kernel_rfl)]
              apply Exists.intro
              refine ⟨fun w hSw => ?_, hK.out _ ?_⟩
              · (try dsimp only at hSw)
                go_simp
                first | done | with_reducible rfl
              clear hK K
              try simp only [Act.put, List.setIfInBounds_toArray, List.set_cons_zero, List.set_cons_succ]
              refine held_step (fun K hK => ?_)
              rw [if_pos (by kernel_rfl)]
              apply Exists.intro
              refine ⟨fun w hSw => ?_, hK.out _ ?_⟩
              · (try dsimp only at hSw)
                go_simp
                first | done | with_reducible rfl
              clear hK K
              try simp only [Act.put, List.setIfInBounds_toArray, List.set_cons_zero, List.set_cons_succ]
              refine held_step (fun K hK => ?_)
              rw [if_pos (by kernel_rfl)]
              apply Exists.intro
              refine ⟨fun w hSw => ?_, hK.out _ ?_⟩
              · (try dsimp only at hSw)
                go_simp
                first | done | with_reducible rfl
              clear hK K
              try simp only [Act.put, List.setIfInBounds_toArray, List.set_cons_zero, List.set_cons_succ]
              refine held_step (fun K hK => ?_)
              rw [if_pos (by kernel_rfl)]
              apply Exists.intro
              refine ⟨fun w hSw => ?_, hK.out _ ?_⟩
              · (try dsimp only at hSw)
                go_simp
                first | done | with_reducible rfl
              clear hK K
              try simp only [Act.put, List.setIfInBounds_toArray, List.set_cons_zero, List.set_cons_succ]
              refine wpHeld_nil ?_
              refine hR1.out _ ?_
              clear hR1 R1
              dsimp only [List.drop]
              rw [if_pos (by kernel_rfl)]
              refine loud_step (fun K hK => ?_)
              go_simp
              go_at_call 57
              refine (rattrs_any x y.A y.n y.c y.L w4 (HX.out.up HS4.out.bel) HMB.out.1 hyb ((HMB.out.2.2.2.below (HS4.out.bel) (Nat.le_refl _)).more HS4.out.bel.size)).mono ?_
              rintro e w5 ⟨rfl, hb5⟩
              rw [HQ4.out]
              have HS5 := bx (HS4.out.below hb5)
              have HW5 := bx (HW4.out.trans (hb5.mono HW4.out.size))
              have hS5 : (fun w' => w'.cell? ⟨B, 0, none⟩ = some (.int .i64 x.minor) ∧ w'.cell? ⟨B, 1, none⟩ = some (.int .i64 x.major) ∧ w'.cell? ⟨B, 2, none⟩ = some (.slice x.pA x.pn x.pc) ∧ w'.cell? ⟨B, 3, none⟩ = some (.int .i64 x.access) ∧ w'.cell? ⟨B, 4, none⟩ = some (.int .i64 x.this) ∧ w'.cell? ⟨B, 5, none⟩ = some (.int .i64 x.super) ∧ w'.cell? ⟨B, 6, none⟩ = some (.slice x.iA x.i_n x.ic) ∧ w'.cell? ⟨B, 7, none⟩ = some (.slice x.fA x.fn x.fc) ∧ w'.cell? ⟨B, 8, none⟩ = some (.slice x.mA x.mn x.mc) ∧ w'.cell? ⟨B, 9, none⟩ = some (.slice x.aA x.an x.ac) ∧ w'.cell? (ad.add (k * 4)) = some (.int .i64 y.access) ∧ w'.cell? ⟨(ad.add (k * 4)).block, (ad.add (k * 4)).off + 1, none⟩ = some (.int .i64 y.name) ∧ w'.cell? ⟨(ad.add (k * 4)).block, (ad.add (k * 4)).off + 2, none⟩ = some (.int .i64 y.desc) ∧ w'.cell? ⟨(ad.add (k * 4)).block, (ad.add (k * 4)).off + 3, none⟩ = some (.slice y.A y.n y.c)) w5 := ⟨(im_all HS5.out.im).1, (im_all HS5.out.im).2.1, (im_all HS5.out.im).2.2.1, (im_all HS5.out.im).2.2.2.1, (im_all HS5.out.im).2.2.2.2.1, (im_all HS5.out.im).2.2.2.2.2.1, (im_all HS5.out.im).2.2.2.2.2.2.1, (im_all HS5.out.im).2.2.2.2.2.2.2.1, (im_all HS5.out.im).2.2.2.2.2.2.2.2.1, (im_all HS5.out.im).2.2.2.2.2.2.2.2.2, (HEL.out w5 HW5.out)⟩
              clear hb5
              refine hK.out _ _ ⟨hS5, ?_⟩
              clear hK K
              try simp only [Act.put, List.setIfInBounds_toArray, List.set_cons_zero, List.set_cons_succ]
              unfold wpSegs
              simp only [List.take_succ_cons, List.take_zero]
              refine held_hide (fun R1 hR1 => ?_)
              refine held_step (fun K hK => ?_)
              rw [if_pos (by kernel_rfl)]
              apply Exists.intro
              refine ⟨fun w hSw => ?_, hK.out _ ?_⟩
              · (try dsimp only at hSw)
                go_simp
                first | done | with_reducible rfl
              clear hK K
              try simp only [Act.put, List.setIfInBounds_toArray, List.set_cons_zero, List.set_cons_succ]
              refine held_step (fun K hK => ?_)
              rw [if_pos (by kernel_rfl)]
              apply Exists.intro
              refine ⟨fun w hSw => ?_, hK.out _ ?_⟩
              · (try dsimp only at hSw)
                go_simp
                first | done | with_reducible rfl
              clear hK K
              try simp only [Act.put, List.setIfInBounds_toArray, List.set_cons_zero, List.set_cons_succ]
              refine wpHeld_nil ?_
              refine hR1.out _ ?_
              clear hR1 R1
              dsimp only [List.drop]
              go_wp2
              go_ret
              exact ⟨by rw [HN.out]; try rfl, HS5.out.bel⟩
            | true =>
              have HQ2 := bx (all_next HQ.out HY.out (show okM x.pool y = true by
                rw [okM_E, HU.out, HT1.out, HT2.out, HQ4.out, decide_eq_true h1, decide_eq_true h2]; rfl))
              clear h1 h2
              refine wp_region_segs (fun w' => w'.cell? ⟨B, 0, none⟩ = some (.int .i64 x.minor) ∧ w'.cell? ⟨B, 1, none⟩ = some (.int .i64 x.major) ∧ w'.cell? ⟨B, 2, none⟩ = some (.slice x.pA x.pn x.pc) ∧ w'.cell? ⟨B, 3, none⟩ = some (.int .i64 x.access) ∧ w'.cell? ⟨B, 4, none⟩ = some (.int .i64 x.this) ∧ w'.cell? ⟨B, 5, none⟩ = some (.int .i64 x.super) ∧ w'.cell? ⟨B, 6, none⟩ = some (.slice x.iA x.i_n x.ic) ∧ w'.cell? ⟨B, 7, none⟩ = some (.slice x.fA x.fn x.fc) ∧ w'.cell? ⟨B, 8, none⟩ = some (.slice x.mA x.mn x.mc) ∧ w'.cell? ⟨B, 9, none⟩ = some (.slice x.aA x.an x.ac) ∧ w'.cell? (ad.add (k * 4)) = some (.int .i64 y.access) ∧ w'.cell? ⟨(ad.add (k * 4)).block, (ad.add (k * 4)).off + 1, none⟩ = some (.int .i64 y.name) ∧ w'.cell? ⟨(ad.add (k * 4)).block, (ad.add (k * 4)).off + 2, none⟩ = some (.int .i64 y.desc) ∧ w'.cell? ⟨(ad.add (k * 4)).block, (ad.add (k * 4)).off + 3, none⟩ = some (.slice y.A y.n y.c)) [5, 8, 9, 9, 2] (by kernel_rfl) (by kernel_rfl) (by kernel_rfl) hS0 (fun _ _ _ d _ h => by cases d <;> exact h) ?_
              unfold wpSegs
              simp only [List.take_succ_cons, List.take_zero]
              refine held_hide (fun R1 hR1 => ?_)
              refine held_step (fun K hK => ?_)
              rw [if_pos (by kernel_rfl)]
              apply Exists.intro
              refine ⟨fun w hSw => ?_, hK.out _ ?_⟩
              · (try dsimp only at hSw)
                go_simp
                first | done | with_reducible rfl
              clear hK K
              try simp only [Act.put, List.setIfInBounds_toArray, List.set_cons_zero, List.set_cons_succ]
              refine held_step (fun K hK => ?_)
              rw [if_pos (by kernel_rfl)]
              apply Exists.intro
              refine ⟨fun w hSw => ?_, hK.out _ ?_⟩
              · (try dsimp only at hSw)
                go_simp
                first | done | with_reducible rfl
              clear hK K
              try simp only [Act.put, List.setIfInBounds_toArray, List.set_cons_zero, List.set_cons_succ]
              refine held_step (fun K hK => ?_)
              rw [if_pos (by kernel_rfl)]
              apply Exists.intro
              refine ⟨fun w hSw => ?_, hK.out _ ?_⟩
              · (try dsimp only at hSw)
                go_simp
                first | done | with_reducible rfl
              clear hK K
              try simp only [Act.put, List.setIfInBounds_toArray, List.set_cons_zero, List.set_cons_succ]
              refine held_step (fun K hK => ?_)
              rw [if_pos (by kernel_rfl)]
              apply Exists.intro
              refine ⟨fun w hSw => ?_, hK.out _ ?_⟩
              · (try dsimp only at hSw)
                go_simp
                first | done | with_reducible rfl
              clear hK K
              try simp only [Act.put, List.setIfInBounds_toArray, List.set_cons_zero, List.set_cons_succ]
              refine held_step (fun K hK => ?_)
              rw [if_pos (by kernel_rfl)]
              apply Exists.intro
              refine ⟨fun w hSw => ?_, hK.out _ ?_⟩
              · (try dsimp only at hSw)
                go_simp
                first | done | with_reducible rfl
              clear hK K
              try simp only [Act.put, List.setIfInBounds_toArray, List.set_cons_zero, List.set_cons_succ]
              refine wpHeld_nil ?_
              refine hR1.out _ ?_
              clear hR1 R1
              dsimp only [List.drop]
              rw [if_pos (by kernel_rfl)]
              refine loud_step (fun K hK => ?_)
              go_simp
              go_at_call 53
              refine (ru2_any y.access wr.drew).mono ?_
              rintro e w2 ⟨rfl, rfl⟩
              rw [HU.out]
              refine hK.out _ _ ⟨hS0, ?_⟩
              clear hK K
              try simp only [Act.put, List.setIfInBounds_toArray, List.set_cons_zero, List.set_cons_succ]
              unfold wpSegs
              simp only [List.take_succ_cons, List.take_zero]
              refine held_hide (fun R1 hR1 => ?_)
              refine held_step (fun K hK => ?_)
              rw [if_pos (by kernel_rfl)]
              apply Exists.intro
              refine ⟨fun w hSw => ?_, hK.out _ ?_⟩
              · (try dsimp only at hSw)
                go_simp
                first | done | with_reducible rfl
              clear hK K
              try simp only [Act.put, List.setIfInBounds_toArray, List.set_cons_zero, List.set_cons_succ]
              refine held_step (fun K hK => ?_)
              rw [if_pos (by kernel_rfl)]
              apply Exists.intro
              refine ⟨fun w hSw => ?_, hK.out _ ?_⟩
              · (try dsimp only at hSw)
                go_simp
                first | done | with_reducible rfl
              clear hK K
              try simp only [Act.put, List.setIfInBounds_toArray, List.set_cons_zero, List.set_cons_succ]
              refine held_step (fun K hK => ?_)
              rw [if_pos (by kernel_rfl)]
              apply Exists.intro
              refine ⟨fun w hSw => ?_, hK.out _ ?_⟩
              · (try dsimp only at hSw)
                go_simp
                first | done | with_reducible rfl
              clear hK K
              try simp only [Act.put, List.setIfInBounds_toArray, List.set_cons_zero, List.set_cons_succ]
              refine held_step (fun K hK => ?_)
              rw [if_pos (by kernel_rfl)]
              apply Exists.intro
              refine ⟨fun w hSw => ?_, hK.out _ ?_⟩
              · (try dsimp only at hSw)
                go_simp
                first | done | with_reducible rfl
              clear hK K
              try simp only [Act.put, List.setIfInBounds_toArray, List.set_cons_zero, List.set_cons_succ]
              refine held_step (fun K hK => ?_)
              rw [if_pos (by kernel_rfl)]
              apply Exists.intro
              refine ⟨fun w hSw => ?_, hK.out _ ?_⟩
              · (try dsimp only at hSw)
                go_simp
                first | done | with_reducible rfl
              clear hK K
              try simp only [Act.put, List.setIfInBounds_toArray, List.set_cons_zero, List.set_cons_succ]
              refine held_step (fun K hK => ?_)
              rw [if_pos (by kernel_rfl)]
              apply Exists.intro
              refine ⟨fun w hSw => ?_, hK.out _ ?_⟩
              · (try dsimp only at hSw)
                go_simp
                first | done | with_reducible rfl
              clear hK K
              try simp only [Act.put, List.setIfInBounds_toArray, List.set_cons_zero, List.set_cons_succ]
              refine held_step (fun K hK => ?_)
              rw [if_pos (by kernel_rfl)]
              apply Exists.intro
              refine ⟨fun w hSw => ?_, hK.out _ ?_⟩
              · (try dsimp only at hSw)
                go_simp
                first | done | with_reducible rfl
              clear hK K
              try simp only [Act.put, List.setIfInBounds_toArray, List.set_cons_zero, List.set_cons_succ]
              refine held_step (fun K hK => ?_)
              rw [if_pos (by kernel_rfl)]
              apply Exists.intro
              refine ⟨fun w hSw => ?_, hK.out _ ?_⟩
              · (try dsimp only at hSw)
                go_simp
                first | done | with_reducible rfl
              clear hK K
              try simp only [Act.put, List.setIfInBounds_toArray, List.set_cons_zero, List.set_cons_succ]
              refine wpHeld_nil ?_
              refine hR1.out _ ?_
              clear hR1 R1
              dsimp only [List.drop]
              rw [if_pos (by kernel_rfl)]
              refine loud_step (fun K hK => ?_)
              go_simp
              go_at_call 55
              refine (rtag_any x y.name wr.drew (HX.out.up HSd.out.bel)).mono ?_
              rintro e w3 ⟨rfl, hb3⟩
              rw [HT1.out]
              have HS3 := bx (HSd.out.below hb3)
              have HW3 : Bx (Below wr.heap.size wr w3) := bx ((below_drewN (Below.refl _ wr) 1).trans hb3)
              have hS3 : (fun w' => w'.cell? ⟨B, 0, none⟩ = some (.int .i64 x.minor) ∧ w'.cell? ⟨B, 1, none⟩ = some (.int .i64 x.major) ∧ w'.cell? ⟨B, 2, none⟩ = some (.slice x.pA x.pn x.pc) ∧ w'.cell? ⟨B, 3, none⟩ = some (.int .i64 x.access) ∧ w'.cell? ⟨B, 4, none⟩ = some (.int .i64 x.this) ∧ w'.cell? ⟨B, 5, none⟩ = some (.int .i64 x.super) ∧ w'.cell? ⟨B, 6, none⟩ = some (.slice x.iA x.i_n x.ic) ∧ w'.cell? ⟨B, 7, none⟩ = some (.slice x.fA x.fn x.fc) ∧ w'.cell? ⟨B, 8, none⟩ = some (.slice x.mA x.mn x.mc) ∧ w'.cell? ⟨B, 9, none⟩ = some (.slice x.aA x.an x.ac) ∧ w'.cell? (ad.add (k * 4)) = some (.int .i64 y.access) ∧ w'.cell? ⟨(ad.add (k * 4)).block, (ad.add (k * 4)).off + 1, none⟩ = some (.int .i64 y.name) ∧ w'.cell? ⟨(ad.add (k * 4)).block, (ad.add (k * 4)).off + 2, none⟩ = some (.int .i64 y.desc) ∧ w'.cell? ⟨(ad.add (k * 4)).block, (ad.add (k * 4)).off + 3, none⟩ = some (.slice y.A y.n y.c)) w3 := ⟨(im_all HS3.out.im).1, (im_all HS3.out.im).2.1, (im_all HS3.out.im).2.2.1, (im_all HS3.out.im).2.2.2.1, (im_all HS3.out.im).2.2.2.2.1, (im_all HS3.out.im).2.2.2.2.2.1, (im_all HS3.out.im).2.2.2.2.2.2.1, (im_all HS3.out.im).2.2.2.2.2.2.2.1, (im_all HS3.out.im).2.2.2.2.2.2.2.2.1, (im_all HS3.out.im).2.2.2.2.2.2.2.2.2, (HEL.out w3 HW3.out)⟩
              clear hb3
              refine hK.out _ _ ⟨hS3, ?_⟩
              clear hK K
              try simp only [Act.put, List.setIfInBounds_toArray, List.set_cons_zero, List.set_cons_succ]
              unfold wpSegs
              simp only [List.take_succ_cons, List.take_zero]
              refine held_hide (fun R1 hR1 => ?_)
              refine held_step (fun K hK => ?_)
              rw [if_pos (by kernel_rfl)]
              apply Exists.intro
              refine ⟨fun w hSw => ?_, hK.out _ ?_⟩
              · (try dsimp only at hSw)
                go_simp
                first | done | with_reducible rfl
              clear hK K
              try simp only [Act.put, List.setIfInBounds_toArray, List.set_cons_zero, List.set_cons_succ]
              refine held_step (fun K hK => ?_)
              rw [if_pos (by kernel_rfl)]
              apply Exists.intro
              refine ⟨fun w hSw => ?_, hK.out _ ?_⟩
              · (try dsimp only at hSw)
                go_simp
                first | done | with_reducible rfl
              clear hK K
              try simp only [Act.put, List.setIfInBounds_toArray, List.set_cons_zero, List.set_cons_succ]
              refine held_step (fun K hK => ?_)
              rw [if_pos (by kernel_rfl)]
              apply Exists.intro
              refine ⟨fun w hSw => ?_, hK.out _ ?_⟩
              · (try dsimp only at hSw)
                go_simp
                first | done | with_reducible rfl
              clear hK K
              try simp only [Act.put, List.setIfInBounds_toArray, List.set_cons_zero, List.set_cons_succ]
              refine held_step (fun K hK => ?_)
              rw [if_pos (by kernel_rfl)]
              apply Exists.intro
              refine ⟨fun w hSw => ?_, hK.out _ ?_⟩
              · (try dsimp only at hSw)
                go_simp
                first | done | with_reducible rfl
              clear hK K
              try simp only [Act.put, List.setIfInBounds_toArray, List.set_cons_zero, List.set_cons_succ]
              refine held_step (fun K hK => ?_)
              rw [if_pos (by kernel_rfl)]
              apply Exists.intro
              refine ⟨fun w hSw => ?_, hK.out _ ?_⟩
              · (try dsimp only at hSw)
                go_simp
                first | done | with_reducible rfl
              clear hK K
              try simp only [Act.put, List.setIfInBounds_toArray, List.set_cons_zero, List.set_cons_succ]
              refine held_step (fun K hK => ?_)
              rw [if_pos (by kernel_rfl)]
              apply Exists.intro
              refine ⟨fun w hSw => ?_, hK.out _ ?_⟩
              · (try dsimp only at hSw)
                go_simp
                first | done | with_reducible rfl
              clear hK K
              try simp only [Act.put, List.setIfInBounds_toArray, List.set_cons_zero, List.set_cons_succ]
              refine held_step (fun K hK => ?_)
              rw [if_pos (by kernel_rfl)]
              apply Exists.intro
              refine ⟨fun w hSw => ?_, hK.out _ ?_⟩
              · (try dsimp only at hSw)
                go_simp
                first | done | with_reducible rfl
              clear hK K
              try simp only [Act.put, List.setIfInBounds_toArray, List.set_cons_zero, List.set_cons_succ]
              refine held_step (fun K hK => ?_)
              rw [if_pos (by kernel_rfl)]
              apply Exists.intro
              refine ⟨fun w hSw => ?_, hK.out _ ?_⟩
              · (try dsimp only at hSw)
                go_simp
                first | done | with_reducible rfl
              clear hK K
              try simp only [Act.put, List.setIfInBounds_toArray, List.set_cons_zero, List.set_cons_succ]
              refine held_step (fun K hK => ?_)
              rw [if_pos (by kernel_rfl)]
              apply Exists.intro
              refine ⟨fun w hSw => ?_, hK.out _ ?_⟩
              · (try dsimp only at hSw)
                go_simp
                first | done | with_reducible rfl
              clear hK K
              try simp only [Act.put, List.setIfInBounds_toArray, List.set_cons_zero, List.set_cons_succ]
              refine wpHeld_nil ?_
              refine hR1.out _ ?_
              clear hR1 R1
              dsimp only [List.drop]
              rw [if_pos (by kernel_rfl)]
              refine loud_step (fun K hK => ?_)
              go_simp
              go_at_call 55
              refine (rtag_any x y.desc w3 (HX.out.up HS3.out.bel)).mono ?_
              rintro e w4 ⟨rfl, hb4⟩
              rw [HT2.out]
              have HS4 := bx (HS3.out.below hb4)
              have HW4 := bx (HW3.out.trans (hb4.mono HW3.out.size))
              have hS4 : (fun w' => w'.cell? ⟨B, 0, none⟩ = some (.int .i64 x.minor) ∧ w'.cell? ⟨B, 1, none⟩ = some (.int .i64 x.major) ∧ w'.cell? ⟨B, 2, none⟩ = some (.slice x.pA x.pn x.pc) ∧ w'.cell? ⟨B, 3, none⟩ = some (.int .i64 x.access) ∧ w'.cell? ⟨B, 4, none⟩ = some (.int .i64 x.this) ∧ w'.cell? ⟨B, 5, none⟩ = some (.int .i64 x.super) ∧ w'.cell? ⟨B, 6, none⟩ = some (.slice x.iA x.i_n x.ic) ∧ w'.cell? ⟨B, 7, none⟩ = some (.slice x.fA x.fn x.fc) ∧ w'.cell? ⟨B, 8, none⟩ = some (.slice x.mA x.mn x.mc) ∧ w'.cell? ⟨B, 9, none⟩ = some (.slice x.aA x.an x.ac) ∧ w'.cell? (ad.add (k * 4)) = some (.int .i64 y.access) ∧ w'.cell? ⟨(ad.add (k * 4)).block, (ad.add (k * 4)).off + 1, none⟩ = some (.int .i64 y.name) ∧ w'.cell? ⟨(ad.add (k * 4)).block, (ad.add (k * 4)).off + 2, none⟩ = some (.int .i64 y.desc) ∧ w'.cell? ⟨(ad.add (k * 4)).block, (ad.add (k * 4)).off + 3, none⟩ = some (.slice y.A y.n y.c)) w4 := ⟨(im_all HS4.out.im).1, (im_all HS4.out.im).2.1, (im_all HS4.out.im).2.2.1, (im_all HS4.out.im).2.2.2.1, (im_all HS4.out.im).2.2.2.2.1, (im_all HS4.out.im).2.2.2.2.2.1, (im_all HS4.out.im).2.2.2.2.2.2.1, (im_all HS4.out.im).2.2.2.2.2.2.2.1, (im_all HS4.out.im).2.2.2.2.2.2.2.2.1, (im_all HS4.out.im).2.2.2.2.2.2.2.2.2, (HEL.out w4 HW4.out)⟩
              clear hb4
              refine hK.out _ _ ⟨hS4, ?_⟩
              clear hK K
              try simp only [Act.put, List.setIfInBounds_toArray, List.set_cons_zero, List.set_cons_succ]
              unfold wpSegs
              simp only [List.take_succ_cons, List.take_zero]
              refine held_hide (fun R1 hR1 => ?_)
              refine held_step (fun K hK => ?_)
              rw [if_pos (by kernel_rfl)]
              apply Exists.intro
              refine ⟨fun w hSw => ?_, hK.out _ ?_⟩
              · (try dsimp only at hSw)
                go_simp
                first | done | with_reducible rfl
              clear hK K
              try simp only [Act.put, List.setIfInBounds_toArray, List.set_cons_zero, List.set_cons_succ]
              refine held_step (fun K hK => ?_)
              rw [if_pos (by kernel_rfl)]
              apply Exists.intro
              refine ⟨fun w hSw => ?_, hK.out _ ?_⟩
              · (try dsimp only at hSw)
                go_simp
                first | done | with_reducible rfl
              clear hK K
              try simp only [Act.put, List.setIfInBounds_toArray, List.set_cons_zero, List.set_cons_succ]
              refine held_step (fun K hK => ?_)
              rw [if_pos (by kernel_rfl)]
              apply Exists.intro
              refine ⟨fun w hSw => ?_, hK.out _ ?_⟩
              · (try dsimp only at hSw)
                go_simp
                first | done | with_reducible rfl
              clear hK K
              try simp only [Act.put, List.setIfInBounds_toArray, List.set_cons_zero, List.set_cons_succ]
              refine held_step (fun K hK => ?_)
              rw [if_pos (by kernel_rfl)]
              apply Exists.intro
              refine ⟨fun w hSw => ?_, hK.out _ ?_⟩
              · (try dsimp only at hSw)
                go_simp
                first | done | with_reducible rfl
              clear hK K
              try simp only [Act.put, List.setIfInBounds_toArray, List.set_cons_zero, List.set_cons_succ]
              refine held_step (fun K hK => ?_)
              rw [if_pos (by kernel_rfl)]
              apply Exists.intro
              refine ⟨fun w hSw => ?_, hK.out _ ?_⟩
              · (try dsimp only at hSw)
                go_simp
                first | done | with_reducible rfl
              clear hK K
              try simp only [Act.put, List.setIfInBounds_toArray, List.set_cons_zero, List.set_cons_succ]
              refine held_step (fun K hK => ?_)
              rw [if_pos (by kernel_rfl)]
              apply Exists.intro
              refine ⟨fun w hSw => ?_, hK.out _ ?_⟩
              · (try dsimp only at hSw)
                go_simp
                first | done | with_reducible rfl
              clear hK K
              try simp only [Act.put, List.setIfInBounds_toArray, List.set_cons_zero, List.set_cons_succ]
              refine held_step (fun K hK => ?_)
              rw [if_pos (by kernel_rfl)]
              apply Exists.intro
              refine ⟨fun w hSw => ?_, hK.out _ ?_⟩
              · (try dsimp only at hSw)
                go_simp
                first | done | with_reducible rfl
              clear hK K
              try simp only [Act.put, List.setIfInBounds_toArray, List.set_cons_zero, List.set_cons_succ]
              refine held_step (fun K hK => ?_)
              rw [if_pos (by kernel_rfl)]
              apply Exists.intro
              refine ⟨fun w hSw => ?_, hK.out _ ?_⟩
              · (try dsimp only at hSw)
                go_simp
                first | done | with_reducible rfl
              clear hK K
              try simp only [Act.put, List.setIfInBounds_toArray, List.set_cons_zero, List.set_cons_succ]
              refine held_step (fun K hK => ?_)
              rw [if_pos (by kernel_rfl)]
              apply Exists.intro
              refine ⟨fun w hSw => ?_, hK.out _ ?_⟩
              · (try dsimp only at hSw)
                go_simp
                first | done | with_reducible rfl
              clear hK K
              try simp only [Act.put, List.setIfInBounds_toArray, List.set_cons_zero, List.set_cons_succ]
              refine wpHeld_nil ?_
              refine hR1.out _ ?_
              clear hR1 R1
              dsimp only [List.drop]
              rw [if_pos (by kernel_rfl)]
              refine loud_step (fun K hK => ?_)
              go_simp
              go_at_call 57
              refine (rattrs_any x y.A y.n y.c y.L w4 (HX.out.up HS4.out.bel) HMB.out.1 hyb ((HMB.out.2.2.2.below (HS4.out.bel) (Nat.le_refl _)).more HS4.out.bel.size)).mono ?_
              rintro e w5 ⟨rfl, hb5⟩
              rw [HQ4.out]
              have HS5 := bx (HS4.out.below hb5)
              have HW5 := bx (HW4.out.trans (hb5.mono HW4.out.size))
              have hS5 : (fun w' => w'.cell? ⟨B, 0, none⟩ = some (.int .i64 x.minor) ∧ w'.cell? ⟨B, 1, none⟩ = some (.int .i64 x.major) ∧ w'.cell? ⟨B, 2, none⟩ = some (.slice x.pA x.pn x.pc) ∧ w'.cell? ⟨B, 3, none⟩ = some (.int .i64 x.access) ∧ w'.cell? ⟨B, 4, none⟩ = some (.int .i64 x.this) ∧ w'.cell? ⟨B, 5, none⟩ = some (.int .i64 x.super) ∧ w'.cell? ⟨B, 6, none⟩ = some (.slice x.iA x.i_n x.ic) ∧ w'.cell? ⟨B, 7, none⟩ = some (.slice x.fA x.fn x.fc) ∧ w'.cell? ⟨B, 8, none⟩ = some (.slice x.mA x.mn x.mc) ∧ w'.cell? ⟨B, 9, none⟩ = some (.slice x.aA x.an x.ac) ∧ w'.cell? (ad.add (k * 4)) = some (.int .i64 y.access) ∧ w'.cell? ⟨(ad.add (k * 4)).block, (ad.add (k * 4)).off + 1, none⟩ = some (.int .i64 y.name) ∧ w'.cell? ⟨(ad.add (k * 4)).block, (ad.add (k * 4)).off + 2, none⟩ = some (.int .i64 y.desc) ∧ w'.cell? ⟨(ad.add (k * 4)).block, (ad.add (k * 4)).off + 3, none⟩ = some (.slice y.A y.n y.c)) w5 := ⟨(im_all HS5.out.im).1, (im_all HS5.out.im).2.1, (im_all HS5.out.im).2.2.1, (im_all HS5.out.im).2.2.2.1, (im_all HS5.out.im).2.2.2.2.1, (im_all HS5.out.im).2.2.2.2.2.1, (im_all HS5.out.im).2.2.2.2.2.2.1, (im_all HS5.out.im).2.2.2.2.2.2.2.1, (im_all HS5.out.im).2.2.2.2.2.2.2.2.1, (im_all HS5.out.im).2.2.2.2.2.2.2.2.2, (HEL.out w5 HW5.out)⟩
              clear hb5
              refine hK.out _ _ ⟨hS5, ?_⟩
              clear hK K
              try simp only [Act.put, List.setIfInBounds_toArray, List.set_cons_zero, List.set_cons_succ]
              unfold wpSegs
              simp only [List.take_succ_cons, List.take_zero]
              refine held_hide (fun R1 hR1 => ?_)
              refine held_step (fun K hK => ?_)
              rw [if_pos (by kernel_rfl)]
              apply Exists.intro
              refine ⟨fun w hSw => ?_, hK.out _ ?_⟩
              · (try dsimp only at hSw)
                go_simp
                first | done | with_reducible rfl
              clear hK K
              try simp only [Act.put, List.setIfInBounds_toArray, List.set_cons_zero, List.set_cons_succ]
              refine held_step (fun K hK => ?_)
              rw [if_pos (by kernel_rfl)]
              apply Exists.intro
              refine ⟨fun w hSw => ?_, hK.out _ ?_⟩
              · (try dsimp only at hSw)
                go_simp
                first | done | with_reducible rfl
              clear hK K
              try simp only [Act.put, List.setIfInBounds_toArray, List.set_cons_zero, List.set_cons_succ]
              refine wpHeld_nil ?_
              refine hR1.out _ ?_
              clear hR1 R1
              dsimp only [List.drop]
              clear hS0 hS3 hS4 hS5
              go_wp2
              go_roundw
              case rel => exact ⟨k + 1, by omega, by go_num, HQ2, HS5⟩
              case measure => simp [intOf]; omega
          · have h2b : (t2 != 1) = true := by rw [bne_iff_ne]; exact h2
            have HN : Bx (R = false) := bx (by rw [← HRR.out]; exact memsOk_bad HY.out (show okM x.pool y = false by
              rw [okM_E, HT2.out, decide_eq_false h2]; try simp))
            clear h1 h2
            refine wp_region_segs (fun w' => w'.cell? ⟨B, 0, none⟩ = some (.int .i64 x.minor) ∧ w'.cell? ⟨B, 1, none⟩ = some (.int .i64 x.major) ∧ w'.cell? ⟨B, 2, none⟩ = some (.slice x.pA x.pn x.pc) ∧ w'.cell? ⟨B, 3, none⟩ = some (.int .i64 x.access) ∧ w'.cell? ⟨B, 4, none⟩ = some (.int .i64 x.this) ∧ w'.cell? ⟨B, 5, none⟩ = some (.int .i64 x.super) ∧ w'.cell? ⟨B, 6, none⟩ = some (.slice x.iA x.i_n x.ic) ∧ w'.cell? ⟨B, 7, none⟩ = some (.slice x.fA x.fn x.fc) ∧ w'.cell? ⟨B, 8, none⟩ = some (.slice x.mA x.mn x.mc) ∧ w'.cell? ⟨B, 9, none⟩ = some (.slice x.aA x.an x.ac) ∧ w'.cell? (ad.add (k * 4)) = some (.int .i64 y.access) ∧ w'.cell? ⟨(ad.add (k * 4)).block, (ad.add (k * 4)).off + 1, none⟩ = some (.int .i64 y.name) ∧ w'.cell? ⟨(ad.add (k * 4)).block, (ad.add (k * 4)).off + 2, none⟩ = some (.int .i64 y.desc) ∧ w'.cell? ⟨(ad.add (k * 4)).block, (ad.add (k * 4)).off + 3, none⟩ = some (.slice y.A y.n y.c)) [5, 8, 9, 9, 2] (by kernel_rfl) (by kernel_rfl) (by kernel_rfl) hS0 (fun _ _ _ d _ h => by cases d <;> exact h) ?_
            unfold wpSegs
            simp only [List.take_succ_cons, List.take_zero]
            refine held_hide (fun R1 hR1 => ?_)
            refine held_step (fun K hK => ?_)
            rw [if_pos (by kernel_rfl)]
            apply Exists.intro
            refine ⟨fun w hSw => ?_, hK.out _ ?_⟩
            · (try dsimp only at hSw)
              go_simp
              first | done | with_reducible rfl
            clear hK K
            try simp only [Act.put, List.setIfInBounds_toArray, List.set_cons_zero, List.set_cons_succ]
            refine held_step (fun K hK => ?_)
            rw [if_pos (by kernel_rfl)]
            apply Exists.intro
            refine ⟨fun w hSw => ?_, hK.out _ ?_⟩
            · (try dsimp only at hSw)
              go_simp
              first | done | with_reducible rfl
            clear hK K
            try simp only [Act.put, List.setIfInBounds_toArray, List.set_cons_zero, List.set_cons_succ]
            refine held_step (fun K hK => ?_)
            rw [if_pos (by kernel_rfl)]
            apply Exists.intro
            refine ⟨fun w hSw => ?_, hK.out _ ?_⟩
            · (try dsimp only at hSw)
              go_simp
              first | done | with_reducible rfl
            clear hK K
            try simp only [Act.put, List.setIfInBounds_toArray, List.set_cons_zero, List.set_cons_succ]
            refine held_step (fun K hK => ?_)
            rw [if_pos (by kernel_rfl)]
            apply Exists.intro
            refine ⟨fun w hSw => ?_, hK.out _ ?_⟩
            · (try dsimp only at hSw)
              go_simp
              first | done | with_reducible rfl
            clear hK K
            try simp only [Act.put, List.setIfInBounds_toArray, List.set_cons_zero, List.set_cons_succ]
            refine held_step (fun K hK => ?_)
            rw [if_pos (by kernel_rfl)]
            apply Exists.intro
            refine ⟨fun w hSw => ?_, hK.out _ ?_⟩
            · (try dsimp only at hSw)
              go_simp
              first | done | with_reducible rfl
            clear hK K
            try simp only [Act.put, List.setIfInBounds_toArray, List.set_cons_zero, List.set_cons_succ]
            refine wpHeld_nil ?_
            refine hR1.out _ ?_
            clear hR1 R1
            dsimp only [List.drop]
            rw [if_pos (by kernel_rfl)]
            refine loud_step (fun K hK => ?_)
            go_simp
            go_at_call 53
            refine (ru2_any y.access wr.drew).mono ?_
            rintro e w2 ⟨rfl, rfl⟩
            rw [HU.out]
            refine hK.out _ _ ⟨hS0, ?_⟩
            clear hK K
            try simp only [Act.put, List.setIfInBounds_toArray, List.set_cons_zero, List.set_cons_succ]
            unfold wpSegs
            simp only [List.take_succ_cons, List.take_zero]
            refine held_hide (fun R1 hR1 => ?_)
            refine held_step (fun K hK => ?_)
            rw [if_pos (by kernel_rfl)]
            apply Exists.intro
            refine ⟨fun w hSw => ?_, hK.out _ ?_⟩
            · (try dsimp only at hSw)
              go_simp
              first | done | with_reducible rfl
            clear hK K
            try simp only [Act.put, List.setIfInBounds_toArray, List.set_cons_zero, List.set_cons_succ]
            refine held_step (fun K hK => ?_)
            rw [if_pos (by kernel_rfl)]
            apply Exists.intro
            refine ⟨fun w hSw => ?_, hK.out _ ?_⟩
            · (try dsimp only at hSw)
              go_simp
              first | done | with_reducible rfl
            clear hK K
            try simp only [Act.put, List.setIfInBounds_toArray, List.set_cons_zero, List.set_cons_succ]
            refine held_step (fun K hK => ?_)
            rw [if_pos (by kernel_rfl)]
            apply Exists.intro
            refine ⟨fun w hSw => ?_, hK.out _ ?_⟩
            · (try dsimp only at hSw)
              go_simp
              first | done | with_reducible rfl
            clear hK K
            try simp only [Act.put, List.setIfInBounds_toArray, List.set_cons_zero, List.set_cons_succ]
            refine held_step (fun K hK => ?_)
            rw [if_pos (by kernel_rfl)]
            apply Exists.intro
            refine ⟨fun w hSw => ?_, hK.out _ ?_⟩
            · (try dsimp only at hSw)
              go_simp
              first | done | with_reducible rfl
            clear hK K
            try simp only [Act.put, List.setIfInBounds_toArray, List.set_cons_zero, List.set_cons_succ]
            refine held_step (fun K hK => ?_)
            rw [if_pos (by kernel_rfl)]
            apply Exists.intro
            refine ⟨fun w hSw => ?_, hK.out _ ?_⟩
            · (try dsimp only at hSw)
              go_simp
              first | done | with_reducible rfl
            clear hK K
            try simp only [Act.put, List.setIfInBounds_toArray, List.set_cons_zero, List.set_cons_succ]
            refine held_step (fun K hK => ?_)
            rw [if_pos (by kernel_rfl)]
            apply Exists.intro
            refine ⟨fun w hSw => ?_, hK.out _ ?_⟩
            · (try dsimp only at hSw)
              go_simp
              first | done | with_reducible rfl
            clear hK K
            try simp only [Act.put, List.setIfInBounds_toArray, List.set_cons_zero, List.set_cons_succ]
            refine held_step (fun K hK => ?_)
            rw [if_pos (by kernel_rfl)]
            apply Exists.intro
            refine ⟨fun w hSw => ?_, hK.out _ ?_⟩
            · (try dsimp only at hSw)
              go_simp
              first | done | with_reducible rfl
            clear hK K
            try simp only [Act.put, List.setIfInBounds_toArray, List.set_cons_zero, List.set_cons_succ]
            refine held_step (fun K hK => ?_)
            rw [if_pos (by kernel_rfl)]
            apply Exists.intro
            refine ⟨fun w hSw => ?_, hK.out _ ?_⟩
            · (try dsimp only at hSw)
              go_simp
              first | done | with_reducible rfl
            clear hK K
            try simp only [Act.put, List.setIfInBounds_toArray, List.set_cons_zero, List.set_cons_succ]
            refine wpHeld_nil ?_
            refine hR1.out _ ?_
            clear hR1 R1
            dsimp only [List.drop]
            rw [if_pos (by kernel_rfl)]
            refine loud_step (fun K hK => ?_)
            go_simp
            go_at_call 55
            refine (rtag_any x y.name wr.drew (HX.out.up HSd.out.bel)).mono ?_
            rintro e w3 ⟨rfl, hb3⟩
            rw [HT1.out]
            have HS3 := bx (HSd.out.below hb3)
            have HW3 : Bx (Below wr.heap.size wr w3) := bx ((below_drewN (Below.refl _ wr) 1).trans hb3)
            have hS3 : (fun w' => w'.cell? ⟨B, 0, none⟩ = some (.int .i64 x.minor) ∧ w'.cell? ⟨B, 1, none⟩ = some (.int .i64 x.major) ∧ w'.cell? ⟨B, 2, none⟩ = some (.slice x.pA x.pn x.pc) ∧ w'.cell? ⟨B, 3, none⟩ = some (.int .i64 x.access) ∧ w'.cell? ⟨B, 4, none⟩ = some (.int .i64 x.this) ∧ w'.cell? ⟨B, 5, none⟩ = some (.int .i64 x.super) ∧ w'.cell? ⟨B, 6, none⟩ = some (.slice x.iA x.i_n x.ic) ∧ w'.cell? ⟨B, 7, none⟩ = some (.slice x.fA x.fn x.fc) ∧ w'.cell? ⟨B, 8, none⟩ = some (.slice x.mA x.mn x.mc) ∧ w'.cell? ⟨B, 9, none⟩ = some (.slice x.aA x.an x.ac) ∧ w'.cell? (ad.add (k * 4)) = some (.int .i64 y.access) ∧ w'.cell? ⟨(ad.add (k * 4)).block, (ad.add (k * 4)).off + 1, none⟩ = some (.int .i64 y.name) ∧ w'.cell? ⟨(ad.add (k * 4)).block, (ad.add (k * 4)).off + 2, none⟩ = some (.int .i64 y.desc) ∧ w'.cell? ⟨(ad.add (k * 4)).block, (ad.add (k * 4)).off + 3, none⟩ = some (.slice y.A y.n y.c)) w3 := ⟨(im_all HS3.out.im).1, (im_all HS3.out.im).2.1, (im_all HS3.out.im).2.2.1, (im_all HS3.out.im).2.2.2.1, (im_all HS3.out.im).2.2.2.2.1, (im_all HS3.out.im).2.2.2.2.2.1, (im_all HS3.out.im).2.2.2.2.2.2.1, (im_all HS3.out.im).2.2.2.2.2.2.2.1, (im_all HS3.out.im).2.2.2.2.2.2.2.2.1, (im_all HS3.out.im).2.2.2.2.2.2.2.2.2, (HEL.out w3 HW3.out)⟩
            clear hb3
            refine hK.out _ _ ⟨hS3, ?_⟩
            clear hK K
            try simp only [Act.put, List.setIfInBounds_toArray, List.set_cons_zero, List.set_cons_succ]
            unfold wpSegs
            simp only [List.take_succ_cons, List.take_zero]
            refine held_hide (fun R1 hR1 => ?_)
            refine held_step (fun K hK => ?_)
            rw [if_pos (by kernel_rfl)]
            apply Exists.intro
            refine ⟨fun w hSw => ?_, hK.out _ ?_⟩
            · (try dsimp only at hSw)
              go_simp
              first | done | with_reducible rfl
            clear hK K
            try simp only [Act.put, List.setIfInBounds_toArray, List.set_cons_zero, List.set_cons_succ]
            refine held_step (fun K hK => ?_)
            rw [if_pos (by kernel_rfl)]
            apply Exists.intro
            refine ⟨fun w hSw => ?_, hK.out _ ?_⟩
            · (try dsimp only at hSw)
              go_simp
              first | done | with_reducible rfl
            clear hK K
            try simp only [Act.put, List.setIfInBounds_toArray, List.set_cons_zero, List.set_cons_succ]
            refine held_step (fun K hK => ?_)
            rw [if_pos (by kernel_rfl)]
            apply Exists.intro
            refine ⟨fun w hSw => ?_, hK.out _ ?_⟩
            · (try dsimp only at hSw)
              go_simp
              first | done | with_reducible rfl
            clear hK K
            try simp only [Act.put, List.setIfInBounds_toArray, List.set_cons_zero, List.set_cons_succ]
            refine held_step (fun K hK => ?_)
            rw [if_pos (by kernel_rfl)]
            apply Exists.intro
            refine ⟨fun w hSw => ?_, hK.out _ ?_⟩
            · (try dsimp only at hSw)
              go_simp
              first | done | with_reducible rfl
            clear hK K
            try simp only [Act.put, List.setIfInBounds_toArray, List.set_cons_zero, List.set_cons_succ]
            refine held_step (fun K hK => ?_)
            rw [if_pos (by kernel_rfl)]
            apply Exists.intro
            refine ⟨fun w hSw => ?_, hK.out _ ?_⟩
            · (try dsimp only at hSw)
              go_simp
              first | done | with_reducible rfl
            clear hK K
            try simp only [Act.put, List.setIfInBounds_toArray, List.set_cons_zero, List.set_cons_succ]
            refine held_step (fun K hK => ?_)
            rw [if_pos (by kernel_rfl)]
            apply Exists.intro
            refine ⟨fun w hSw => ?_, hK.out _ ?_⟩
            · (try dsimp only at hSw)
              go_simp
              first | done | with_reducible rfl
            clear hK K
            try simp only [Act.put, List.setIfInBounds_toArray, List.set_cons_zero, List.set_cons_succ]
            refine held_step (fun K hK => ?_)
            rw [if_pos (by kernel_rfl)]
            apply Exists.intro
            refine ⟨fun w hSw => ?_, hK.out _ ?_⟩
            · (try dsimp only at hSw)
              go_simp
              first | done | with_reducible rfl
            clear hK K
            try simp only [Act.put, List.setIfInBounds_toArray, List.set_cons_zero, List.set_cons_succ]
            refine held_step (fun K hK => ?_)
            rw [if_pos (by kernel_rfl)]
            apply Exists.intro
            refine ⟨fun w hSw => ?_, hK.out _ ?_⟩
            · (try dsimp only at hSw)
              go_simp
              first | done | with_reducible rfl
            clear hK K
            try simp only [Act.put, List.setIfInBounds_toArray, List.set_cons_zero, List.set_cons_succ]
            refine held_step (fun K hK => ?_)
            rw [if_pos (by kernel_rfl)]
            apply Exists.intro
            refine ⟨fun w hSw => ?_, hK.out _ ?_⟩
            · (try dsimp only at hSw)
              go_simp
              first | done | with_reducible rfl
            clear hK K
            try simp only [Act.put, List.setIfInBounds_toArray, List.set_cons_zero, List.set_cons_succ]
            refine wpHeld_nil ?_
            refine hR1.out _ ?_
            clear hR1 R1
            dsimp only [List.drop]
            rw [if_pos (by kernel_rfl)]
            refine loud_step (fun K hK => ?_)
            go_simp
            go_at_call 55
            refine (rtag_any x y.desc w3 (HX.out.up HS3.out.bel)).mono ?_
            rintro e w4 ⟨rfl, hb4⟩
            rw [HT2.out]
            have HS4 := bx (HS3.out.below hb4)
            have HW4 := bx (HW3.out.trans (hb4.mono HW3.out.size))
            have hS4 : (fun w' => w'.cell? ⟨B, 0, none⟩ = some (.int .i64 x.minor) ∧ w'.cell? ⟨B, 1, none⟩ = some (.int .i64 x.major) ∧ w'.cell? ⟨B, 2, none⟩ = some (.slice x.pA x.pn x.pc) ∧ w'.cell? ⟨B, 3, none⟩ = some (.int .i64 x.access) ∧ w'.cell? ⟨B, 4, none⟩ = some (.int .i64 x.this) ∧ w'.cell? ⟨B, 5, none⟩ = some (.int .i64 x.super) ∧ w'.cell? ⟨B, 6, none⟩ = some (.slice x.iA x.i_n x.ic) ∧ w'.cell? ⟨B, 7, none⟩ = some (.slice x.fA x.fn x.fc) ∧ w'.cell? ⟨B, 8, none⟩ = some (.slice x.mA x.mn x.mc) ∧ w'.cell? ⟨B, 9, none⟩ = some (.slice x.aA x.an x.ac) ∧ w'.cell? (ad.add (k * 4)) = some (.int .i64 y.access) ∧ w'.cell? ⟨(ad.add (k * 4)).block, (ad.add (k * 4)).off + 1, none⟩ = some (.int .i64 y.name) ∧ w'.cell? ⟨(ad.add (k * 4)).block, (ad.add (k * 4)).off + 2, none⟩ = some (.int .i64 y.desc) ∧ w'.cell? ⟨(ad.add (k * 4)).block, (ad.add (k * 4)).off + 3, none⟩ = some (.slice y.A y.n y.c)) w4 := ⟨(im_all HS4.out.im).1, (im_all HS4.out.im).2.1, (im_all HS4.out.im).2.2.1, (im_all HS4.out.im).2.2.2.1, (im_all HS4.out.im).2.2.2.2.1, (im_all HS4.out.im).2.2.2.2.2.1, (im_all HS4.out.im).2.2.2.2.2.2.1, (im_all HS4.out.im).2.2.2.2.2.2.2.1, (im_all HS4.out.im).2.2.2.2.2.2.2.2.1, (im_all HS4.out.im).2.2.2.2.2.2.2.2.2, (HEL.out w4 HW4.out)⟩
            clear hb4
            refine hK.out _ _ ⟨hS4, ?_⟩
            clear hK K
            try simp only [Act.put, List.setIfInBounds_toArray, List.set_cons_zero, List.set_cons_succ]
            unfold wpSegs
            simp only [List.take_succ_cons, List.take_zero]
            refine held_hide (fun R1 hR1 => ?_)
            refine held_step (fun K hK => ?_)
            rw [if_pos (by kernel_rfl)]
            apply Exists.intro
            refine ⟨fun w hSw => ?_, hK.out _ ?_⟩
            · (try dsimp only at hSw)
              go_simp
              first | done | with_reducible rfl
            clear hK K
            try simp only [Act.put, List.setIfInBounds_toArray, List.set_cons_zero, List.set_cons_succ]
            refine held_step (fun K hK => ?_)
            rw [if_pos (by kernel_rfl)]
            apply Exists.intro
            refine ⟨fun w hSw => ?_, hK.out _ ?_⟩
            · (try dsimp only at hSw)
              go_simp
              first | done | with_reducible rfl
            clear hK K
            try simp only [Act.put, List.setIfInBounds_toArray, List.set_cons_zero, List.set_cons_succ]
            refine held_step (fun K hK => ?_)
            rw [if_pos (by kernel_rfl)]
            apply Exists.intro
            refine ⟨fun w hSw => ?_, hK.out _ ?_⟩
            · (try dsimp only at hSw)
              go_simp
              first | done | with_reducible rfl
            clear hK K
            try simp only [Act.put, List.setIfInBounds_toArray, List.set_cons_zero, List.set_cons_succ]
            refine held_step (fun K hK => ?_)
            rw [if_neg (ne_true_of_eq_false (by kernel_rfl))]
            refine hK.out _ ?_
            clear hK K
            try simp only [Act.put, List.setIfInBounds_toArray, List.set_cons_zero, List.set_cons_succ]
            refine held_step (fun K hK => ?_)
            rw [if_neg (ne_true_of_eq_false (by kernel_rfl))]
            refine hK.out _ ?_
            clear hK K
            try simp only [Act.put, List.setIfInBounds_toArray, List.set_cons_zero, List.set_cons_succ]
            refine held_step (fun K hK => ?_)
            rw [if_neg (ne_true_of_eq_false (by kernel_rfl))]
            refine hK.out _ ?_
            clear hK K
            try simp only [Act.put, List.setIfInBounds_toArray, List.set_cons_zero, List.set_cons_succ]
            refine held_step (fun K hK => ?_)
            rw [if_neg (ne_true_of_eq_false (by kernel_rfl))]
            refine hK.out _ ?_
            clear hK K
            try simp only [Act.put, List.setIfInBounds_toArray, List.set_cons_zero, List.set_cons_succ]
            refine held_step (fun K hK => ?_)
            rw [if_neg (ne_true_of_eq_false (by kernel_rfl))]
            refine hK.out _ ?_
            clear hK K
            try simp only [Act.put, List.setIfInBounds_toArray, List.set_cons_zero, List.set_cons_succ]
            refine held_step (fun K hK => ?_)
            rw [if_neg (ne_true_of_eq_false (by kernel_rfl))]
            refine hK.out _ ?_
            clear hK K
            try simp only [Act.put, List.setIfInBounds_toArray, List.set_cons_zero, List.set_cons_succ]
            refine wpHeld_nil ?_
            refine hR1.out _ ?_
            clear hR1 R1
            dsimp only [List.drop]
            rw [if_neg (ne_true_of_eq_false (by kernel_rfl))]
            try simp only [Act.put, List.setIfInBounds_toArray, List.set_cons_zero, List.set_cons_succ]
            unfold wpSegs
            simp only [List.take_succ_cons, List.take_zero]
            refine held_hide (fun R1 hR1 => ?_)
            refine held_step (fun K hK => ?_)
            rw [if_neg (ne_true_of_eq_false (by kernel_rfl))]
            refine hK.out _ ?_
            clear hK K
            try simp only [Act.put, List.setIfInBounds_toArray, List.set_cons_zero, List.set_cons_succ]
            refine held_step (fun K hK => ?_)
            rw [if_pos (by kernel_rfl)]
            apply Exists.intro
            refine ⟨fun w hSw => ?_, hK.out _ ?_⟩
            · (try dsimp only at hSw)
              go_simp
              first | done | with_reducible rfl
            clear hK K
            try simp only [Act.put, List.setIfInBounds_toArray, List.set_cons_zero, List.set_cons_succ]
            refine wpHeld_nil ?_
            refine hR1.out _ ?_
            clear hR1 R1
            dsimp only [List.drop]
            go_wp2
            go_ret
            exact ⟨by rw [HN.out]; try rfl, HS4.out.bel⟩
        · have h1b : (t1 != 1) = true := by rw [bne_iff_ne]; exact h1
          have HN : Bx (R = false) := bx (by rw [← HRR.out]; exact memsOk_bad HY.out (show okM x.pool y = false by
            rw [okM_E, HT1.out, decide_eq_false h1]; try simp))
          clear h1
          refine wp_region_segs (fun w' => w'.cell? ⟨B, 0, none⟩ = some (.int .i64 x.minor) ∧ w'.cell? ⟨B, 1, none⟩ = some (.int .i64 x.major) ∧ w'.cell? ⟨B, 2, none⟩ = some (.slice x.pA x.pn x.pc) ∧ w'.cell? ⟨B, 3, none⟩ = some (.int .i64 x.access) ∧ w'.cell? ⟨B, 4, none⟩ = some (.int .i64 x.this) ∧ w'.cell? ⟨B, 5, none⟩ = some (.int .i64 x.super) ∧ w'.cell? ⟨B, 6, none⟩ = some (.slice x.iA x.i_n x.ic) ∧ w'.cell? ⟨B, 7, none⟩ = some (.slice x.fA x.fn x.fc) ∧ w'.cell? ⟨B, 8, none⟩ = some (.slice x.mA x.mn x.mc) ∧ w'.cell? ⟨B, 9, none⟩ = some (.slice x.aA x.an x.ac) ∧ w'.cell? (ad.add (k * 4)) = some (.int .i64 y.access) ∧ w'.cell? ⟨(ad.add (k * 4)).block, (ad.add (k * 4)).off + 1, none⟩ = some (.int .i64 y.name) ∧ w'.cell? ⟨(ad.add (k * 4)).block, (ad.add (k * 4)).off + 2, none⟩ = some (.int .i64 y.desc) ∧ w'.cell? ⟨(ad.add (k * 4)).block, (ad.add (k * 4)).off + 3, none⟩ = some (.slice y.A y.n y.c)) [5, 8, 9, 9, 2] (by kernel_rfl) (by kernel_rfl) (by kernel_rfl) hS0 (fun _ _ _ d _ h => by cases d <;> exact h) ?_
          unfold wpSegs
          simp only [List.take_succ_cons, List.take_zero]
          refine held_hide (fun R1 hR1 => ?_)
          refine held_step (fun K hK => ?_)
          rw [if_pos (by kernel_rfl)]
          apply Exists.intro
          refine ⟨fun w hSw => ?_, hK.out _ ?_⟩
          · (try dsimp only at hSw)
            go_simp
            first | done | with_reducible rfl
          clear hK K
          try simp only [Act.put, List.setIfInBounds_toArray, List.set_cons_zero, List.set_cons_succ]
          refine held_step (fun K hK => ?_)
          rw [if_pos (by kernel_rfl)]
          apply Exists.intro
          refine ⟨fun w hSw => ?_, hK.out _ ?_⟩
          · (try dsimp only at hSw)
            go_simp
            first | done | with_reducible rfl
          clear hK K
          try simp only [Act.put, List.setIfInBounds_toArray, List.set_cons_zero, List.set_cons_succ]
          refine held_step (fun K hK => ?_)
          rw [if_pos (by kernel_rfl)]
          apply Exists.intro
          refine ⟨fun w hSw => ?_, hK.out _ ?_⟩
          · (try dsimp only at hSw)
            go_simp
            first | done | with_reducible rfl
          clear hK K
          try simp only [Act.put, List.setIfInBounds_toArray, List.set_cons_zero, List.set_cons_succ]
          refine held_step (fun K hK => ?_)
          rw [if_pos (by kernel_rfl)]
          apply Exists.intro
          refine ⟨fun w hSw => ?_, hK.out _ ?_⟩
          · (try dsimp only at hSw)
            go_simp
            first | done | with_reducible rfl
          clear hK K
          try simp only [Act.put, List.setIfInBounds_toArray, List.set_cons_zero, List.set_cons_succ]
          refine held_step (fun K hK => ?_)
          rw [if_pos (by kernel_rfl)]
          apply Exists.intro
          refine ⟨fun w hSw => ?_, hK.out _ ?_⟩
          · (try dsimp only at hSw)
            go_simp
            first | done | with_reducible rfl
          clear hK K
          try simp only [Act.put, List.setIfInBounds_toArray, List.set_cons_zero, List.set_cons_succ]
          refine wpHeld_nil ?_
          refine hR1.out _ ?_
          clear hR1 R1
          dsimp only [List.drop]
          rw [if_pos (by kernel_rfl)]
          refine loud_step (fun K hK => ?_)
          go_simp
          go_at_call 53
          refine (ru2_any y.access wr.drew).mono ?_
          rintro e w2 ⟨rfl, rfl⟩
          rw [HU.out]
          refine hK.out _ _ ⟨hS0, ?_⟩
          clear hK K
          try simp only [Act.put, List.setIfInBounds_toArray, List.set_cons_zero, List.set_cons_succ]
          unfold wpSegs
          simp only [List.take_succ_cons, List.take_zero]
          refine held_hide (fun R1 hR1 => ?_)
          refine held_step (fun K hK => ?_)
          rw [if_pos (by kernel_rfl)]
          apply Exists.intro
          refine ⟨fun w hSw => ?_, hK.out _ ?_⟩
          · (try dsimp only at hSw)
            go_simp
            first | done | with_reducible rfl
          clear hK K
          try simp only [Act.put, List.setIfInBounds_toArray, List.set_cons_zero, List.set_cons_succ]
          refine held_step (fun K hK => ?_)
          rw [if_pos (by kernel_rfl)]
          apply Exists.intro
          refine ⟨fun w hSw => ?_, hK.out _ ?_⟩
          · (try dsimp only at hSw)
            go_simp
            first | done | with_reducible rfl
          clear hK K
          try simp only [Act.put, List.setIfInBounds_toArray, List.set_cons_zero, List.set_cons_succ]
          refine held_step (fun K hK => ?_)
          rw [if_pos (by kernel_rfl)]
          apply Exists.intro
          refine ⟨fun w hSw => ?_, hK.out _ ?_⟩
          · (try dsimp only at hSw)
            go_simp
            first | done | with_reducible rfl
          clear hK K
          try simp only [Act.put, List.setIfInBounds_toArray, List.set_cons_zero, List.set_cons_succ]
          refine held_step (fun K hK => ?_)
          rw [if_pos (by kernel_rfl)]
          apply Exists.intro
          refine ⟨fun w hSw => ?_, hK.out _ ?_⟩
          · (try dsimp only at hSw)
            go_simp
            first | done | with_reducible rfl
          clear hK K
          try simp only [Act.put, List.setIfInBounds_toArray, List.set_cons_zero, List.set_cons_succ]
          refine held_step (fun K hK => ?_)
          rw [if_pos (by kernel_rfl)]
          apply Exists.intro
          refine ⟨fun w hSw => ?_, hK.out _ ?_⟩
          · (try dsimp only at hSw)
            go_simp
            first | done | with_reducible rfl
          clear hK K
          try simp only [Act.put, List.setIfInBounds_toArray, List.set_cons_zero, List.set_cons_succ]
          refine held_step (fun K hK => ?_)
          rw [if_pos (by kernel_rfl)]
          apply Exists.intro
          refine ⟨fun w hSw => ?_, hK.out _ ?_⟩
          · (try dsimp only at hSw)
            go_simp
            first | done | with_reducible rfl
          clear hK K
          try simp only [Act.put, List.setIfInBounds_toArray, List.set_cons_zero, List.set_cons_succ]
          refine held_step (fun K hK => ?_)
          rw [if_pos (by kernel_rfl)]
          apply Exists.intro
          refine ⟨fun w hSw => ?_, hK.out _ ?_⟩
          · (try dsimp only at hSw)
            go_simp
            first | done | with_reducible rfl
          clear hK K
          try simp only [Act.put, List.setIfInBounds_toArray, List.set_cons_zero, List.set_cons_succ]
          refine held_step (fun K hK => ?_)
          rw [if_pos (by kernel_rfl)]
          apply Exists.intro
          refine ⟨fun w hSw => ?_, hK.out _ ?_⟩
          · (try dsimp only at hSw)
            go_simp
            first | done | with_reducible rfl
          clear hK K
          try simp only [Act.put, List.setIfInBounds_toArray, List.set_cons_zero, List.set_cons_succ]
          refine wpHeld_nil ?_
          refine hR1.out _ ?_
          clear hR1 R1
          dsimp only [List.drop]
          rw [if_pos (by kernel_rfl)]
          refine loud_step (fun K hK => ?_)
          go_simp
          go_at_call 55
          refine (rtag_any x y.name wr.drew (HX.out.up HSd.out.bel)).mono ?_
          rintro e w3 ⟨rfl, hb3⟩
          rw [HT1.out]
          have HS3 := bx (HSd.out.below hb3)
          have HW3 : Bx (Below wr.heap.size wr w3) := bx ((below_drewN (Below.refl _ wr) 1).trans hb3)
          have hS3 : (fun w' => w'.cell? ⟨B, 0, none⟩ = some (.int .i64 x.minor) ∧ w'.cell? ⟨B, 1, none⟩ = some (.int .i64 x.major) ∧ w'.cell? ⟨B, 2, none⟩ = some (.slice x.pA x.pn x.pc) ∧ w'.cell? ⟨B, 3, none⟩ = some (.int .i64 x.access) ∧ w'.cell? ⟨B, 4, none⟩ = some (.int .i64 x.this) ∧ w'.cell? ⟨B, 5, none⟩ = some (.int .i64 x.super) ∧ w'.cell? ⟨B, 6, none⟩ = some (.slice x.iA x.i_n x.ic) ∧ w'.cell? ⟨B, 7, none⟩ = some (.slice x.fA x.fn x.fc) ∧ w'.cell? ⟨B, 8, none⟩ = some (.slice x.mA x.mn x.mc) ∧ w'.cell? ⟨B, 9, none⟩ = some (.slice x.aA x.an x.ac) ∧ w'.cell? (ad.add (k * 4)) = some (.int .i64 y.access) ∧ w'.cell? ⟨(ad.add (k * 4)).block, (ad.add (k * 4)).off + 1, none⟩ = some (.int .i64 y.name) ∧ w'.cell? ⟨(ad.add (k * 4)).block, (ad.add (k * 4)).off + 2, none⟩ = some (.int .i64 y.desc) ∧ w'.cell? ⟨(ad.add (k * 4)).block, (ad.add (k * 4)).off + 3, none⟩ = some (.slice y.A y.n y.c)) w3 := ⟨(im_all HS3.out.im).1, (im_all HS3.out.im).2.1, (im_all HS3.out.im).2.2.1, (im_all HS3.out.im).2.2.2.1, (im_all HS3.out.im).2.2.2.2.1, (im_all HS3.out.im).2.2.2.2.2.1, (im_all HS3.out.im).2.2.2.2.2.2.1, (im_all HS3.out.im).2.2.2.2.2.2.2.1, (im_all HS3.out.im).2.2.2.2.2.2.2.2.1, (im_all HS3.out.im).2.2.2.2.2.2.2.2.2, (HEL.out w3 HW3.out)⟩
          clear hb3
          refine hK.out _ _ ⟨hS3, ?_⟩
          clear hK K
          try simp only [Act.put, List.setIfInBounds_toArray, List.set_cons_zero, List.set_cons_succ]
          unfold wpSegs
          simp only [List.take_succ_cons, List.take_zero]
          refine held_hide (fun R1 hR1 => ?_)
          refine held_step (fun K hK => ?_)
          rw [if_pos (by kernel_rfl)]
          apply Exists.intro
          refine ⟨fun w hSw => ?_, hK.out _ ?_⟩
          · (try dsimp only at hSw)
            go_simp
            first | done | with_reducible rfl
          clear hK K
          try simp only [Act.put, List.setIfInBounds_toArray, List.set_cons_zero, List.set_cons_succ]
          refine held_step (fun K hK => ?_)
          rw [if_pos (by kernel_rfl)]
          apply Exists.intro
          refine ⟨fun w hSw => ?_, hK.out _ ?_⟩
          · (try dsimp only at hSw)
            go_simp
            first | done | with_reducible rfl
          clear hK K
          try simp only [Act.put, List.setIfInBounds_toArray, List.set_cons_zero, List.set_cons_succ]
          refine held_step (fun K hK => ?_)
          rw [if_pos (by kernel_rfl)]
          apply Exists.intro
          refine ⟨fun w hSw => ?_, hK.out _ ?_⟩
          · (try dsimp only at hSw)
            go_simp
            first | done | with_reducible rfl
          clear hK K
          try simp only [Act.put, List.setIfInBounds_toArray, List.set_cons_zero, List.set_cons_succ]
          refine held_step (fun K hK => ?_)
          rw [if_neg (ne_true_of_eq_false (by kernel_rfl))]
          refine hK.out _ ?_
          clear hK K
          try simp only [Act.put, List.setIfInBounds_toArray, List.set_cons_zero, List.set_cons_succ]
          refine held_step (fun K hK => ?_)
          rw [if_neg (ne_true_of_eq_false (by kernel_rfl))]
          refine hK.out _ ?_
          clear hK K
          try simp only [Act.put, List.setIfInBounds_toArray, List.set_cons_zero, List.set_cons_succ]
          refine held_step (fun K hK => ?_)
          rw [if_neg (ne_true_of_eq_false (by kernel_rfl))]
          refine hK.out _ ?_
          clear hK K
          try simp only [Act.put, List.setIfInBounds_toArray, List.set_cons_zero, List.set_cons_succ]
          refine held_step (fun K hK => ?_)
          rw [if_neg (ne_true_of_eq_false (by kernel_rfl))]
          refine hK.out _ ?_
          clear hK K
          try simp only [Act.put, List.setIfInBounds_toArray, List.set_cons_zero, List.set_cons_succ]
          refine held_step (fun K hK => ?_)
          rw [if_neg (ne_true_of_eq_false (by kernel_rfl))]
          refine hK.out _ ?_
          clear hK K
          try simp only [Act.put, List.setIfInBounds_toArray, List.set_cons_zero, List.set_cons_succ]
          refine held_step (fun K hK => ?_)
          rw [if_neg (ne_true_of_eq_false (by kernel_rfl))]
          refine hK.out _ ?_
          clear hK K
          try simp only [Act.put, List.setIfInBounds_toArray, List.set_cons_zero, List.set_cons_succ]
          refine wpHeld_nil ?_
          refine hR1.out _ ?_
          clear hR1 R1
          dsimp only [List.drop]
          rw [if_neg (ne_true_of_eq_false (by kernel_rfl))]
          try simp only [Act.put, List.setIfInBounds_toArray, List.set_cons_zero, List.set_cons_succ]
          unfold wpSegs
          simp only [List.take_succ_cons, List.take_zero]
          refine held_hide (fun R1 hR1 => ?_)
          refine held_step (fun K hK => ?_)
          rw [if_neg (ne_true_of_eq_false (by kernel_rfl))]
          refine hK.out _ ?_
          clear hK K
          try simp only [Act.put, List.setIfInBounds_toArray, List.set_cons_zero, List.set_cons_succ]
          refine held_step (fun K hK => ?_)
          rw [if_pos (by kernel_rfl)]
          apply Exists.intro
          refine ⟨fun w hSw => ?_, hK.out _ ?_⟩
          · (try dsimp only at hSw)
            go_simp
            first | done | with_reducible rfl
          clear hK K
          try simp only [Act.put, List.setIfInBounds_toArray, List.set_cons_zero, List.set_cons_succ]
          refine held_step (fun K hK => ?_)
          rw [if_pos (by kernel_rfl)]
          apply Exists.intro
          refine ⟨fun w hSw => ?_, hK.out _ ?_⟩
          · (try dsimp only at hSw)
            go_simp
            first | done | with_reducible rfl
          clear hK K
          try simp only [Act.put, List.setIfInBounds_toArray, List.set_cons_zero, List.set_cons_succ]
          refine held_step (fun K hK => ?_)
          rw [if_neg (ne_true_of_eq_false (by kernel_rfl))]
          refine hK.out _ ?_
          clear hK K
          try simp only [Act.put, List.setIfInBounds_toArray, List.set_cons_zero, List.set_cons_succ]
          refine held_step (fun K hK => ?_)
          rw [if_neg (ne_true_of_eq_false (by kernel_rfl))]
          refine hK.out _ ?_
          clear hK K
          try simp only [Act.put, List.setIfInBounds_toArray, List.set_cons_zero, List.set_cons_succ]
          refine held_step (fun K hK => ?_)
          rw [if_neg (ne_true_of_eq_false (by kernel_rfl))]
          refine hK.out _ ?_
          clear hK K
          try simp only [Act.put, List.setIfInBounds_toArray, List.set_cons_zero, List.set_cons_succ]
          refine held_step (fun K hK => ?_)
          rw [if_neg (ne_true_of_eq_false (by kernel_rfl))]
          refine hK.out _ ?_
          clear hK K
          try simp only [Act.put, List.setIfInBounds_toArray, List.set_cons_zero, List.set_cons_succ]
          refine held_step (fun K hK => ?_)
          rw [if_neg (ne_true_of_eq_false (by kernel_rfl))]
          refine hK.out _ ?_
          clear hK K
          try simp only [Act.put, List.setIfInBounds_toArray, List.set_cons_zero, List.set_cons_succ]
          refine held_step (fun K hK => ?_)
          rw [if_neg (ne_true_of_eq_false (by kernel_rfl))]
          refine hK.out _ ?_
          clear hK K
          try simp only [Act.put, List.setIfInBounds_toArray, List.set_cons_zero, List.set_cons_succ]
          refine wpHeld_nil ?_
          refine hR1.out _ ?_
          clear hR1 R1
          dsimp only [List.drop]
          rw [if_neg (ne_true_of_eq_false (by kernel_rfl))]
          try simp only [Act.put, List.setIfInBounds_toArray, List.set_cons_zero, List.set_cons_succ]
          unfold wpSegs
          simp only [List.take_succ_cons, List.take_zero]
          refine held_hide (fun R1 hR1 => ?_)
          refine held_step (fun K hK => ?_)
          rw [if_neg (ne_true_of_eq_false (by kernel_rfl))]
          refine hK.out _ ?_
          clear hK K
          try simp only [Act.put, List.setIfInBounds_toArray, List.set_cons_zero, List.set_cons_succ]
          refine held_step (fun K hK => ?_)
          rw [if_pos (by kernel_rfl)]
          apply Exists.intro
          refine ⟨fun w hSw => ?_, hK.out _ ?_⟩
          · (try dsimp only at hSw)
            go_simp
            first | done | with_reducible rfl
          clear hK K
          try simp only [Act.put, List.setIfInBounds_toArray, List.set_cons_zero, List.set_cons_succ]
          refine wpHeld_nil ?_
          refine hR1.out _ ?_
          clear hR1 R1
          dsimp only [List.drop]
          go_wp2
          go_ret
          exact ⟨by rw [HN.out]; try rfl, HS3.out.bel⟩
    · obtain rfl : na = k := by omega
      have hkI : ¬ (na : Int) < (na : Int) := by omega
      have HN : Bx (R = decide (na ≤ 64)) := bx (by rw [← HRR.out, memsOk_E, all_end HQ.out HM.out, Bool.true_and, HM.out])
      by_cases h64 : na ≤ 64
      · have hI : (na : Int) ≤ 64 := by omega
        go_wp2
        go_ret
        exact ⟨by rw [HN.out, decide_eq_true h64]; try rfl, HS.out.bel⟩
      · have hI : ¬ (na : Int) ≤ 64 := by omega
        go_wp2
        go_ret
        exact ⟨by rw [HN.out, decide_eq_false h64]; try rfl, HS.out.bel⟩
end Go.Proofs.Ytdioijhmmmnbgaa
