/- Walk of ImageWrites. -/
import Derived.Test.YtdioijhmmmnbgaaQiImWb
import Derived.Test.YtdioijhmmmnbgaaQiRiX
import Derived.Test.YtdioijhmmmnbgaaPi6
namespace Go.Proofs.Ytdioijhmmmnbgaa
open Go.RowKit
set_option maxRecDepth 100000 in
set_option maxHeartbeats 8000000 in
theorem imageWrites_walk (w : World) (x : ImE) (rm : RIm w w.heap.size x) (kb : Nat) (nm : ImNum x kb) (hkb : kb ≤ 1048576) :
    Calls Try.prog 4 #[.agg (imC x)] w fun e w' => e = .returned (.bool true) ∧ Below w.heap.size w w' := by
  have HX := bx rm
  have HNM := bx (nums_of nm)
  have HT := bx (nm.texts (by omega))
  obtain ⟨cs, hcs⟩ : ∃ cs, cs = imC x := ⟨_, rfl⟩
  rw [← hcs]
  have HCS := bx hcs
  obtain ⟨B, hB⟩ : ∃ B, w.heap.size = B := ⟨_, rfl⟩
  have HKB := bx (Bk.newAt w 29 cs hB)
  have HBB := bx (bl_alloc (Below.refl w.heap.size w) (Nat.le_refl _) (.cells cs 29))
  have HB := bx hB
  clear rm nm hkb hcs hB
  go_enter Try.func4, Try.ntmps4
  go_upto_region 1 with (fail)
  rw [HB.out]
  change Code.wp _ _ _ _ (w.alloc (.cells cs 29))
  generalize w.alloc (.cells cs 29) = w0 at HKB HBB ⊢
  go_wp2_with fail
  refine (fixed14_any w0).mono ?_
  rintro e w1 ⟨rfl, hb1⟩
  have HB1 := bx (HBB.out.trans (hb1.mono HBB.out.size))
  have HK1 := bx (HKB.out.below hb1 HKB.out.lt)
  have HX1 := bx (HX.out.up HB1.out)
  have HF1 := bx (few_any x w1 HX1.out)
  have HKI : Bx (Bk w1 B 29 (imC x)) := bx (by rw [← HCS.out]; exact HK1.out)
  obtain ⟨f0, f1, f2, f3, f4, f5, f6, f7, f8, f9⟩ := im_all HKI.out
  clear hb1 HBB HKB
  go_wp2_with fail
  refine HF1.out.mono ?_
  rintro e w2 ⟨⟨q, rfl⟩, hb2⟩
  have HB2 := bx (HB1.out.trans (hb2.mono HB1.out.size))
  have HK2 := bx (HKI.out.below hb2 HKI.out.lt)
  have HX2 := bx (HX.out.up HB2.out)
  clear hb2 HF1 HB1 HK1 HX1 HKI f0 f1 f2 f3 f4 f5 f6 f7 f8 f9
  cases q with
  | false =>
    go_wp2
    go_ret
    exact ⟨rfl, HB2.out⟩
  | true =>
    have HW2 := bx (write_any x w2 HX2.out HT.out)
    have HTX : Bx (∀ c ∈ x.pool, c.text.length ≤ 2000000) := bx (fun c hc => (HT.out c hc).2)
    obtain ⟨f0, f1, f2, f3, f4, f5, f6, f7, f8, f9⟩ := im_all HK2.out
    obtain ⟨W, hW⟩ : ∃ W, writeP x.p = W := ⟨_, rfl⟩
    rw [hW] at HW2
    have HWE := bx hW
    clear hW
    go_wp2_with fail
    refine HW2.out.mono ?_
    intro e w3 hp
    clear f0 f1 f2 f3 f4 f5 f6 f7 f8 f9
    obtain ⟨qh, hqh⟩ : ∃ q, holdsP x.p = q := ⟨_, rfl⟩
    have HQ := bx hqh
    clear hqh
    cases W with
    | err k =>
      obtain ⟨rfl, _, hb3⟩ := iwErr hp rfl
      have HB3 := bx (HB2.out.trans (hb3.mono HB2.out.size))
      have HK3 := bx (HK2.out.below hb3 HK2.out.lt)
      have HW3 := bx (rwrite_any x w3 (HX.out.up HB3.out) HTX.out HNM.out)
      rw [HWE.out] at HW3
      obtain ⟨f0, f1, f2, f3, f4, f5, f6, f7, f8, f9⟩ := im_all HK3.out
      clear hp hb3 HW2 HB2 HK2 HX2
      go_wp2_with fail
      refine HW3.out.mono ?_
      intro e w4 hp
      obtain ⟨rfl, _, hb4⟩ := iwErr hp rfl
      have HB4 := bx (HB3.out.trans (hb4.mono HB3.out.size))
      have HK4 := bx (HK3.out.below hb4 HK3.out.lt)
      have HH5 := bx (holds_any x w4.drew (HX.out.up (below_drewN HB4.out 1)) HT.out)
      rw [HQ.out] at HH5
      clear hp hb4 HW3 HB3 HK3 f0 f1 f2 f3 f4 f5 f6 f7 f8 f9
      go_upto_region 7 with (fail)
      go_region_held3 (fun w' => w'.cell? ⟨B, 0, none⟩ = some (.int .i64 x.minor) ∧ w'.cell? ⟨B, 1, none⟩ = some (.int .i64 x.major) ∧ w'.cell? ⟨B, 2, none⟩ = some (.slice x.pA x.pn x.pc) ∧ w'.cell? ⟨B, 3, none⟩ = some (.int .i64 x.access) ∧ w'.cell? ⟨B, 4, none⟩ = some (.int .i64 x.this) ∧ w'.cell? ⟨B, 5, none⟩ = some (.int .i64 x.super) ∧ w'.cell? ⟨B, 6, none⟩ = some (.slice x.iA x.i_n x.ic) ∧ w'.cell? ⟨B, 7, none⟩ = some (.slice x.fA x.fn x.fc) ∧ w'.cell? ⟨B, 8, none⟩ = some (.slice x.mA x.mn x.mc) ∧ w'.cell? ⟨B, 9, none⟩ = some (.slice x.aA x.an x.ac)) (first | exact im_all HK4.out | exact im_all HK5.out | exact im_all HK6.out | exact im_all HK7.out | fail) (first | (go_at_call 17; refine (HH5.out.mono ?_); rintro e w5 ⟨rfl, hb5⟩; have HB5 := bx (HB4.out.drew.trans (hb5.mono HB4.out.drew.size)); have HK5 := bx ((show Bk w4.drew _ _ _ from HK4.out).below hb5 HK4.out.lt); clear hb5) | (go_at_call 18; refine (rholds_any x _ (HX.out.up HB5.out) HTX.out).mono ?_; rw [HQ.out]; rintro e w6 ⟨rfl, hb6⟩; have HB6 := bx (HB5.out.trans (hb6.mono HB5.out.size)); have HK6 := bx (HK5.out.below hb6 HK5.out.lt); clear hb6) | (go_at_call 13; refine (same_any none none 0 0 0 0 _ [] [] rfl rfl (by decide) (by decide) RL.nil RL.nil).mono ?_; rintro e w7 ⟨rfl, hb7⟩; have HB7 := bx (HB6.out.trans (hb7.mono HB6.out.size)); have HK7 := bx (HK6.out.below hb7 HK6.out.lt); clear hb7) | fail "arm")
      go_wp2
      go_ret
      exact ⟨rfl, HB7.out⟩
    | ok o =>
      obtain ⟨A3, n3, c3, rfl, hn3, hr3, hl3, hb3⟩ := iwOk hp rfl
      have HB3 := bx (HB2.out.trans (hb3.mono HB2.out.size))
      have HK3 := bx (HK2.out.below hb3 HK2.out.lt)
      have HW3 := bx (rwrite_any x w3 (HX.out.up HB3.out) HTX.out HNM.out)
      rw [HWE.out] at HW3
      have HR3 := bx hr3
      have hnn : n3 ≤ 32768 := by rw [hn3.out]; exact hl3
      obtain ⟨f0, f1, f2, f3, f4, f5, f6, f7, f8, f9⟩ := im_all HK3.out
      clear hp hb3 hr3 HW2 HB2 HK2 HX2
      go_wp2_with fail
      refine HW3.out.mono ?_
      intro e w4 hp
      obtain ⟨A4, n4, c4, rfl, hn4, hr4, hl4, hb4⟩ := iwOk hp rfl
      have HB4 := bx (HB3.out.trans (hb4.mono HB3.out.size))
      have HK4 := bx (HK3.out.below hb4 HK3.out.lt)
      have HR4 := bx hr4
      have HR34 : Bx (RB w4 w4.heap.size A3 o) := bx (RL.step HR3.out hb4)
      have hnm : n4 ≤ 32768 := by rw [hn4.out]; exact hl4
      have HH5 := bx (holds_any x w4.drew (HX.out.up (below_drewN HB4.out 1)) HT.out)
      rw [HQ.out] at HH5
      clear hp hb4 hr4 HW3 HB3 HK3 HR3 f0 f1 f2 f3 f4 f5 f6 f7 f8 f9
      go_upto_region 7 with (fail)
      go_region_held3 (fun w' => w'.cell? ⟨B, 0, none⟩ = some (.int .i64 x.minor) ∧ w'.cell? ⟨B, 1, none⟩ = some (.int .i64 x.major) ∧ w'.cell? ⟨B, 2, none⟩ = some (.slice x.pA x.pn x.pc) ∧ w'.cell? ⟨B, 3, none⟩ = some (.int .i64 x.access) ∧ w'.cell? ⟨B, 4, none⟩ = some (.int .i64 x.this) ∧ w'.cell? ⟨B, 5, none⟩ = some (.int .i64 x.super) ∧ w'.cell? ⟨B, 6, none⟩ = some (.slice x.iA x.i_n x.ic) ∧ w'.cell? ⟨B, 7, none⟩ = some (.slice x.fA x.fn x.fc) ∧ w'.cell? ⟨B, 8, none⟩ = some (.slice x.mA x.mn x.mc) ∧ w'.cell? ⟨B, 9, none⟩ = some (.slice x.aA x.an x.ac)) (first | exact im_all HK4.out | exact im_all HK5.out | exact im_all HK6.out | exact im_all HK7.out | fail) (first | (go_at_call 17; refine (HH5.out.mono ?_); rintro e w5 ⟨rfl, hb5⟩; have HB5 := bx (HB4.out.drew.trans (hb5.mono HB4.out.drew.size)); have HK5 := bx ((show Bk w4.drew _ _ _ from HK4.out).below hb5 HK4.out.lt); have HR35 := bx (RL.step (RL.drew HR34.out) hb5); have HR45 := bx (RL.step (RL.drew HR4.out) hb5); clear hb5) | (go_at_call 18; refine (rholds_any x _ (HX.out.up HB5.out) HTX.out).mono ?_; rw [HQ.out]; rintro e w6 ⟨rfl, hb6⟩; have HB6 := bx (HB5.out.trans (hb6.mono HB5.out.size)); have HK6 := bx (HK5.out.below hb6 HK5.out.lt); have HR36 := bx (RL.step HR35.out hb6); have HR46 := bx (RL.step HR45.out hb6); clear hb6) | (go_at_call 13; refine (same_any A3 A4 n3 c3 n4 c4 _ o o hn3.out.symm hn4.out.symm (by omega) (by omega) HR36.out HR46.out).mono ?_; rintro e w7 ⟨rfl, hb7⟩; have HB7 := bx (HB6.out.trans (hb7.mono HB6.out.size)); have HK7 := bx (HK6.out.below hb7 HK6.out.lt); clear hb7) | fail "arm")
      go_wp2
      go_ret
      exact ⟨rfl, HB7.out⟩
end Go.Proofs.Ytdioijhmmmnbgaa
