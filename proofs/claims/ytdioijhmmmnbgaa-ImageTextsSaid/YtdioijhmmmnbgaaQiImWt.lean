/- Walk of ImageTexts. -/
import Derived.Test.YtdioijhmmmnbgaaQiImZ
import Derived.Test.YtdioijhmmmnbgaaQiRiT
import Derived.Test.YtdioijhmmmnbgaaQiImArg
namespace Go.Proofs.Ytdioijhmmmnbgaa
open Go.RowKit
set_option maxRecDepth 100000 in
set_option maxHeartbeats 8000000 in
theorem imageTexts_walk (w : World) (x : ImE) (rm : RIm w w.heap.size x) (ai : Int) (_ha : -9223372036854775808 ≤ ai ∧ ai ≤ 9223372036854775807) :
    Calls Try.prog 8 #[.agg (imC x), .int .i64 ai] w fun e w' => e = .returned (.bool true) ∧ Below w.heap.size w w' := by
  have HX := bx rm
  have hpb : (x.pn : Int) ≤ 9223372036854775807 := by have := rm.pl; omega
  obtain ⟨cs, hcs⟩ : ∃ cs, cs = imC x := ⟨_, rfl⟩
  rw [← hcs]
  have HCS := bx hcs
  obtain ⟨B, hB⟩ : ∃ B, w.heap.size = B := ⟨_, rfl⟩
  have HKB := bx (Bk.newAt w 29 cs hB)
  have HBB := bx (bl_alloc (Below.refl w.heap.size w) (Nat.le_refl _) (.cells cs 29))
  have HB := bx hB
  clear rm hcs hB _ha
  go_enter Try.func8, Try.ntmps8
  go_upto_region 1 with (fail)
  rw [HB.out]
  change Code.wp _ _ _ _ (w.alloc (.cells cs 29))
  generalize w.alloc (.cells cs 29) = w0 at HKB HBB ⊢
  go_wp2_with fail
  refine (fixed14_any w0).mono ?_
  rintro e w1 ⟨rfl, hb1⟩
  have HB1 := bx (HBB.out.trans (hb1.mono HBB.out.size))
  have HK1 : Bx (Bk w1 B 29 (imC x)) := bx (by rw [← HCS.out]; exact HKB.out.below hb1 HKB.out.lt)
  have f2 := HK1.out.im2 rfl
  clear hb1 HBB HKB
  by_cases hbig : 3000 < x.pn
  · have hbI : (3000 : Int) < (x.pn : Int) := by omega
    clear hbig
    go_wp2
    go_ret
    exact ⟨rfl, HB1.out⟩
  have hbI : ¬ (3000 : Int) < (x.pn : Int) := by omega
  go_wp2_with fail
  clear f2
  go_loopw [5] (fun iv wx => ∃ k : Nat, k ≤ x.pn + 2 ∧ iv = .int .i64 ((k : Int) - 1) ∧ Bx (Below w.heap.size w wx) ∧ Bx (Bk wx B 29 (imC x))) (fun i _ => x.pn + 3 - (intOf i + 2).toNat)
  case atStart => exact ⟨0, by omega, rfl, HB1, HK1⟩
  case round =>
    clear HB1 HK1
    obtain ⟨k, hk, rfl, HW, HK⟩ := hrel
    have f2 := HK.out.im2 rfl
    obtain ⟨i, hi⟩ : ∃ i : Int, (k : Int) - 1 = i := ⟨_, rfl⟩
    have HI := bx hi
    by_cases hkn : (k : Int) - 1 ≤ (x.pn : Int)
    · have hkI : i ≤ (x.pn : Int) := by omega
      have hi0 : -1 ≤ i := by omega
      rw [hi]
      clear hkn hk hi
      obtain ⟨⟨l1, q1⟩, h1⟩ : ∃ T, textP x.p i = T := ⟨_, rfl⟩
      obtain ⟨⟨l2, q2⟩, h2⟩ : ∃ T, classP x.p i = T := ⟨_, rfl⟩
      have H1 := bx h1
      have H2 := bx h2
      obtain ⟨s1, hs1⟩ : ∃ s : ByteArray, ⟨l1.toArray⟩ = s := ⟨_, rfl⟩
      obtain ⟨s2, hs2⟩ : ∃ s : ByteArray, ⟨l2.toArray⟩ = s := ⟨_, rfl⟩
      have HS1 := bx hs1
      have HS2 := bx hs2
      clear h1 h2 hs1 hs2 f2
      obtain ⟨v0, hv0⟩ : ∃ v, v = wr := ⟨_, rfl⟩
      have HW0 : Bx (Below w.heap.size w v0) := bx (by rw [hv0]; exact HW.out)
      have HK0 : Bx (Bk v0 B 29 (imC x)) := bx (by rw [hv0]; exact HK.out)
      rw [← hv0]
      clear hv0
      have HC0 := bx (text_any x i v0 (HX.out.up HW0.out))
      rw [H1.out] at HC0
      obtain ⟨f0, f1, f2, f3, f4, f5, f6, f7, f8, f9⟩ := im_all HK0.out
      go_wp2_with fail
      refine HC0.out.mono ?_
      intro e v1 hp
      obtain ⟨he, hb⟩ := hp
      rw [HS1.out] at he
      subst he
      have HW1 := bx (HW0.out.trans (hb.mono HW0.out.size))
      have HK1 := bx (HK0.out.below hb HK0.out.lt)
      clear hb HC0 f0 f1 f2 f3 f4 f5 f6 f7 f8 f9
      have HC1 := bx (rtext_any x i v1 (HX.out.up HW1.out))
      rw [H1.out] at HC1
      obtain ⟨f0, f1, f2, f3, f4, f5, f6, f7, f8, f9⟩ := im_all HK1.out
      go_wp2_with fail
      refine HC1.out.mono ?_
      intro e v2 hp
      obtain ⟨he, hb⟩ := hp
      rw [HS1.out] at he
      subst he
      have HW2 := bx (HW1.out.trans (hb.mono HW1.out.size))
      have HK2 := bx (HK1.out.below hb HK1.out.lt)
      clear hb HC1 f0 f1 f2 f3 f4 f5 f6 f7 f8 f9
      have HC2 := bx (class_any x i v2 (HX.out.up HW2.out))
      rw [H2.out] at HC2
      obtain ⟨f0, f1, f2, f3, f4, f5, f6, f7, f8, f9⟩ := im_all HK2.out
      go_wp2_with fail
      refine HC2.out.mono ?_
      intro e v3 hp
      obtain ⟨he, hb⟩ := hp
      rw [HS2.out] at he
      subst he
      have HW3 := bx (HW2.out.trans (hb.mono HW2.out.size))
      have HK3 := bx (HK2.out.below hb HK2.out.lt)
      clear hb HC2 f0 f1 f2 f3 f4 f5 f6 f7 f8 f9
      have HC3 := bx (rclass_any x i v3 (HX.out.up HW3.out))
      rw [H2.out] at HC3
      obtain ⟨f0, f1, f2, f3, f4, f5, f6, f7, f8, f9⟩ := im_all HK3.out
      go_wp2_with fail
      refine HC3.out.mono ?_
      intro e v4 hp
      obtain ⟨he, hb⟩ := hp
      rw [HS2.out] at he
      subst he
      have HW4 := bx (HW3.out.trans (hb.mono HW3.out.size))
      have HK4 := bx (HK3.out.below hb HK3.out.lt)
      clear hb HC3 f0 f1 f2 f3 f4 f5 f6 f7 f8 f9
      clear HW0 HK0 HW1 HK1 HW2 HK2 HW3 HK3 H1 H2 HS1 HS2
      go_wp2
      go_roundw
      case rel => exact ⟨k + 1, by have := HI.out; omega, by have := HI.out; go_num, HW4, HK4⟩
      case measure =>
        have := HI.out
        simp [intOf]; omega
    · have hkI : ¬ i ≤ (x.pn : Int) := by omega
      rw [hi]
      clear hkn hk hi
      obtain ⟨⟨l1, q1⟩, h1⟩ : ∃ T, textP x.p ai = T := ⟨_, rfl⟩
      have H1 := bx h1
      obtain ⟨s1, hs1⟩ : ∃ s : ByteArray, ⟨l1.toArray⟩ = s := ⟨_, rfl⟩
      have HS1 := bx hs1
      clear h1 hs1 f2
      obtain ⟨v0, hv0⟩ : ∃ v, v = wr := ⟨_, rfl⟩
      have HW0 : Bx (Below w.heap.size w v0) := bx (by rw [hv0]; exact HW.out)
      have HK0 : Bx (Bk v0 B 29 (imC x)) := bx (by rw [hv0]; exact HK.out)
      rw [← hv0]
      clear hv0
      have HC0 := bx (text_any x ai v0 (HX.out.up HW0.out))
      rw [H1.out] at HC0
      obtain ⟨f0, f1, f2, f3, f4, f5, f6, f7, f8, f9⟩ := im_all HK0.out
      go_wp2_with fail
      refine HC0.out.mono ?_
      intro e v1 hp
      obtain ⟨he, hb⟩ := hp
      rw [HS1.out] at he
      subst he
      have HW1 := bx (HW0.out.trans (hb.mono HW0.out.size))
      have HK1 := bx (HK0.out.below hb HK0.out.lt)
      clear hb HC0 f0 f1 f2 f3 f4 f5 f6 f7 f8 f9
      have HC1 := bx (rtext_any x ai v1 (HX.out.up HW1.out))
      rw [H1.out] at HC1
      obtain ⟨f0, f1, f2, f3, f4, f5, f6, f7, f8, f9⟩ := im_all HK1.out
      go_wp2_with fail
      refine HC1.out.mono ?_
      intro e v2 hp
      obtain ⟨he, hb⟩ := hp
      rw [HS1.out] at he
      subst he
      have HW2 := bx (HW1.out.trans (hb.mono HW1.out.size))
      have HK2 := bx (HK1.out.below hb HK1.out.lt)
      clear hb HC1 f0 f1 f2 f3 f4 f5 f6 f7 f8 f9
      go_wp2
      go_ret
      exact ⟨rfl, HW2.out⟩
end Go.Proofs.Ytdioijhmmmnbgaa
