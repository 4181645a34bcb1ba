/- Walk of ImageOnly. -/
import Derived.Test.YtdioijhmmmnbgaaQiImZ
import Derived.Test.YtdioijhmmmnbgaaPi6
namespace Go.Proofs.Ytdioijhmmmnbgaa
open Go.RowKit
theorem dec_same (l : List UInt8) : decide (l = l) = true := by simp
theorem ok_texts {b : List UInt8} {m : Img} (h : parseP b = .ok m) : ∀ c ∈ m.pool, (-9223372036854775808 ≤ c.tag ∧ c.tag ≤ 9223372036854775807) ∧ c.text.length ≤ 2000000 := img_texts (parse_ok h).2.2.2.2
set_option maxRecDepth 100000 in
set_option maxHeartbeats 4000000 in
theorem imageOnly_walk (w : World) (A : Option Addr) (n c : Nat) (l : List UInt8) (e0 : l.length = n) (_hc : n ≤ c) (_hm : (c : Int) ≤ 9223372036854775807) (r0 : RB w w.heap.size A l) (_b0 : n ≤ 140737488351232) :
    Calls Try.prog 6 #[.slice A n c] w fun e w' => e = .returned (.bool true) ∧ Below w.heap.size w w' := by
  have HL := bx e0
  clear e0
  go_enter Try.func6, Try.ntmps6
  by_cases hbig : 40000 < n
  · go_wp2_with fail
    refine (fixed14_any w).mono ?_
    rintro e w1 ⟨rfl, hb1⟩
    go_wp2
    go_ret
    exact ⟨rfl, hb1⟩
  · go_wp2_with fail
    refine (fixed14_any w).mono ?_
    rintro e w1 ⟨rfl, hb1⟩
    have HB1 := bx hb1
    have HR1 := bx (r0.step hb1)
    have HP := bx (parse_any A n c l w1 HL.out (by omega) HR1.out)
    obtain ⟨R, hR⟩ : ∃ R, parseP l = R := ⟨_, rfl⟩
    rw [hR] at HP
    have HR := bx hR
    clear hb1 hR r0
    cases R with
    | err k =>
      go_wp2_with fail
      refine HP.out.mono ?_
      intro e w2 hp
      obtain ⟨rfl, hb2, hk0⟩ := ppErr hp rfl
      have HB2 := bx (HB1.out.trans (hb2.mono HB1.out.size))
      have hkI : (k != 0) = true := by rw [bne_iff_ne]; exact hk0
      clear hp hb2 hk0 HP HB1 HR1
      go_wp2
      go_ret
      exact ⟨rfl, bl_alloc HB2.out (Nat.le_refl _) _⟩
    | ok m =>
      go_wp2_with fail
      refine HP.out.mono ?_
      intro e w2 hp
      obtain ⟨x, hxp, rfl, hrm2, hb2⟩ := ppOk hp rfl
      have HB2 := bx (HB1.out.trans (hb2.mono HB1.out.size))
      have HRL := bx (HR1.out.step hb2)
      have HXP := bx hxp
      have HT : Bx (∀ c ∈ x.pool, (-9223372036854775808 ≤ c.tag ∧ c.tag ≤ 9223372036854775807) ∧ c.text.length ≤ 2000000) := bx (by
        have h := ok_texts HR.out
        rw [← hxp] at h; exact h)
      obtain ⟨g, hg⟩ : ∃ g, w2.heap.size = g := ⟨_, rfl⟩
      have HG := bx hg
      have hba : Below w2.heap.size w2 (w2.alloc (.cells (imC x) 29)) := bl_alloc (Below.refl _ _) (Nat.le_refl _) _
      have hk3 : Bk (w2.alloc (.cells (imC x) 29)) g 29 (imC x) := Bk.newAt _ _ _ hg
      have hrm3 := hrm2.up hba
      have hb3 := HB2.out.trans (hba.mono HB2.out.size)
      have hrl3 := HRL.out.step hba
      clear hp hb2 hrm2 hxp hg HP HB1 HR1
      go_upto_region 6 with (fail)
      rw [HG.out]
      change Code.wp _ _ _ _ (w2.alloc (.cells (imC x) 29))
      generalize w2.alloc (.cells (imC x) 29) = w3 at hk3 hrm3 hb3 hrl3 ⊢
      have HB3 := bx hb3
      have HK3 := bx hk3
      have HR3 := bx hrm3
      have HL3 := bx hrl3
      have HW3 := bx (write_any x w3 hrm3 HT.out)
      rw [HXP.out] at HW3
      obtain ⟨f0, f1, f2, f3, f4, f5, f6, f7, f8, f9⟩ := im_all hk3
      clear hba hb3 hk3 hrm3 hrl3 HB2 HRL
      go_wp2_with fail
      refine HW3.out.mono ?_
      intro e w4 hp
      obtain ⟨A4, n4, c4, rfl, hn4, hr4, hl4, hb4⟩ := iwOk hp (parse_write HR.out)
      have HN4 := bx hn4.out
      have HB4 := bx (HB3.out.trans (hb4.mono HB3.out.size))
      have HK4 := bx (HK3.out.below hb4 HK3.out.lt)
      have HR4 := bx (HR3.out.up hb4)
      have HL4 := bx (HL3.out.step hb4)
      have HO4 := bx hr4
      have HS4 := bx (same_any A A4 n c n4 c4 w4 l l HL.out hn4.out.symm (by omega) (by rw [hn4.out]; omega) HL4.out HO4.out)
      rw [dec_same] at HS4
      clear hp hb4 hr4 hl4 hn4 HW3 HB3 HK3 HR3 HL3 f0 f1 f2 f3 f4 f5 f6 f7 f8 f9
      go_wp2_with fail
      refine HS4.out.mono ?_
      rintro e w5 ⟨rfl, hb5⟩
      have HB5 := bx (HB4.out.trans (hb5.mono HB4.out.size))
      have HK5 := bx (HK4.out.below hb5 HK4.out.lt)
      have HR5 := bx (HR4.out.up hb5)
      have HH5 := bx (holds_any x w5 HR5.out HT.out)
      rw [HXP.out, (parse_ok HR.out).2.1] at HH5
      obtain ⟨f0, f1, f2, f3, f4, f5, f6, f7, f8, f9⟩ := im_all HK5.out
      clear hb5 HS4 HB4 HK4 HR4 HL4 HO4 HN4
      go_wp2_with fail
      refine HH5.out.mono ?_
      rintro e w6 ⟨rfl, hb6⟩
      have HB6 := bx (HB5.out.trans (hb6.mono HB5.out.size))
      clear hb6 HH5 HB5 HK5 HR5 f0 f1 f2 f3 f4 f5 f6 f7 f8 f9
      go_wp2
      go_ret
      exact ⟨rfl, HB6.out⟩
end Go.Proofs.Ytdioijhmmmnbgaa
