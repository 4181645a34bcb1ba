/- Walk of ImageCuts. -/
import Derived.Test.YtdioijhmmmnbgaaQiImWb
namespace Go.Proofs.Ytdioijhmmmnbgaa
open Go.RowKit
theorem write_pos {m : Img} {o : List UInt8} (h : writeP m = .ok o) : 0 < o.length := by
  obtain ⟨_, rfl, _⟩ := write_ok h
  unfold imgB
  rw [List.length_append, beB_len]; omega
theorem iwCap {R : Rz (List UInt8)} {w : World} {e : Ending} {w' : World} {o : List UInt8} (h : ImgWPost R w e w') (hR : R = .ok o) : ∃ A n c, e = .returned (.tuple #[.slice A n c, .int .i64 0]) ∧ Bx (n = o.length) ∧ RB w' w'.heap.size A o ∧ o.length ≤ 32768 ∧ Below w.heap.size w w' ∧ n ≤ c ∧ (c : Int) ≤ 9223372036854775807 := by
  subst hR
  obtain ⟨hb, v, h1, h2, h3⟩ := h
  obtain ⟨A, c, rfl, hr, hc, hm⟩ := OwL.rd h2
  exact ⟨A, _, c, h1, bx rfl, hr, h3, hb, hc, hm⟩
set_option maxRecDepth 100000 in
set_option maxHeartbeats 8000000 in
theorem imageCuts_walk (w : World) (x : ImE) (rm : RIm w w.heap.size x) (kb : Nat) (nm : ImNum x kb) (hkb : kb ≤ 1048576) (xa : Int) (ha : 0 ≤ xa ∧ xa ≤ 65535) (xm : Int) (hm : 0 ≤ xm ∧ xm ≤ 255) :
    Calls Try.prog 7 #[.agg (imC x), .int .u16 xa, .int .u8 xm] w fun e w' => e = .returned (.bool true) ∧ Below w.heap.size w w' := by
  have HX := bx rm
  obtain ⟨b8, hb8⟩ : ∃ b8 : UInt8, (b8.toNat : Int) = xm := ⟨UInt8.ofNat xm.toNat, by rw [UInt8.toNat_ofNat_of_lt' (show xm.toNat < 256 by omega)]; omega⟩
  have HB8 := bx hb8
  have ha0 := ha.1
  have ha1 := ha.2
  clear ha hm hb8
  have HNM := bx (nums_of nm)
  have HT := bx (nm.texts (by omega))
  obtain ⟨cs, hcs⟩ : ∃ cs, cs = imC x := ⟨_, rfl⟩
  rw [← hcs]
  have HCS := bx hcs
  obtain ⟨B, hB⟩ : ∃ B, w.heap.size = B := ⟨_, rfl⟩
  have HKB := bx (Bk.newAt w 29 cs hB)
  have HBB := bx (bl_alloc (Below.refl w.heap.size w) (Nat.le_refl _) (.cells cs 29))
  have HB := bx hB
  clear rm nm hkb hcs hB
  go_enter Try.func7, Try.ntmps7
  go_upto_region 1 with (fail)
  rw [HB.out]
  change Code.wp _ _ _ _ (w.alloc (.cells cs 29))
  generalize w.alloc (.cells cs 29) = w0 at HKB HBB ⊢
  go_wp2_with fail
  refine (fixed14_any w0).mono ?_
  rintro e w1 ⟨rfl, hb1⟩
  have HB1 := bx (HBB.out.trans (hb1.mono HBB.out.size))
  have HK1 := bx (HKB.out.below hb1 HKB.out.lt)
  have HX1 := bx (HX.out.up HB1.out)
  have HF1 := bx (few_any x w1 HX1.out)
  have HKI : Bx (Bk w1 B 29 (imC x)) := bx (by rw [← HCS.out]; exact HK1.out)
  obtain ⟨f0, f1, f2, f3, f4, f5, f6, f7, f8, f9⟩ := im_all HKI.out
  clear hb1 HBB HKB
  go_wp2_with fail
  refine HF1.out.mono ?_
  rintro e w2 ⟨⟨q, rfl⟩, hb2⟩
  have HB2 := bx (HB1.out.trans (hb2.mono HB1.out.size))
  have HK2 := bx (HKI.out.below hb2 HKI.out.lt)
  have HX2 := bx (HX.out.up HB2.out)
  clear hb2 HF1 HB1 HK1 HX1 HKI f0 f1 f2 f3 f4 f5 f6 f7 f8 f9
  cases q with
  | false =>
    go_wp2
    go_ret
    exact ⟨rfl, HB2.out⟩
  | true =>
    have HW2 := bx (write_any x w2 HX2.out HT.out)
    obtain ⟨f0, f1, f2, f3, f4, f5, f6, f7, f8, f9⟩ := im_all HK2.out
    obtain ⟨W, hW⟩ : ∃ W, writeP x.p = W := ⟨_, rfl⟩
    rw [hW] at HW2
    have HWE := bx hW
    clear hW
    go_wp2_with fail
    refine HW2.out.mono ?_
    intro e w3 hp
    clear f0 f1 f2 f3 f4 f5 f6 f7 f8 f9
    cases W with
    | err k =>
      obtain ⟨rfl, _, hb3⟩ := iwErr hp rfl
      have HB3 := bx (HB2.out.trans (hb3.mono HB2.out.size))
      have HK3 := bx (HK2.out.below hb3 HK2.out.lt)
      clear hp hb3 HW2 HB2 HK2 HX2
      rcases write_err HWE.out with rfl | ⟨rfl, hh⟩
      · go_wp2
        go_ret
        exact ⟨rfl, HB3.out⟩
      · clear hh
        go_wp2
        go_ret
        exact ⟨rfl, HB3.out⟩
    | ok o =>
      obtain ⟨A3, n3, c3, rfl, hn3, hr3, hl3, hb3, hnc, hcm⟩ := iwCap hp rfl
      have HB3 := bx (HB2.out.trans (hb3.mono HB2.out.size))
      have HN3 := bx hn3.out
      have hpos : 0 < n3 := by rw [hn3.out]; exact write_pos HWE.out
      have hn32 : n3 ≤ 32768 := by rw [hn3.out]; exact hl3
      obtain ⟨r, hr⟩ : ∃ r, xa.toNat % n3 = r := ⟨_, rfl⟩
      have hrn : r < n3 := by rw [← hr]; exact Nat.mod_lt _ hpos
      have hrm : xa % (n3 : Int) = (r : Int) := by rw [← hr, Int.natCast_emod, Int.toNat_of_nonneg ha0]
      have hrt : xa.tmod (n3 : Int) = (r : Int) := by rw [Int.tmod_eq_emod_of_nonneg ha0]; exact hrm
      have HRO := bx hr3
      have hnz : (n3 : Int) ≠ 0 := by omega
      have hnb : ((n3 : Int) == 0) = false := by rw [beq_eq_false_iff_ne]; exact hnz
      have hrc : (r : Int) ≤ (c3 : Int) := by omega
      have HP3 := bx (parse_any A3 r c3 (o.take r) w3 (by rw [List.length_take, ← HN3.out]; omega) (by omega) (hr3.take r))
      rw [parse_cut HNM.out HWE.out (k := r) (by rw [← HN3.out]; exact hrn)] at HP3
      clear hp hb3 hr3 hl3 hn3 HW2 HB2 HK2 HX2 hr
      go_wp2_with fail
      refine HP3.out.mono ?_
      intro e w4 hp
      obtain ⟨rfl, hb4, -⟩ := ppErr hp rfl
      have HB4 := bx (HB3.out.trans (hb4.mono HB3.out.size))
      have HR4 := bx (HRO.out.step hb4)
      clear hp hb4 HP3 HRO HB3
      go_upto_region 9 with (fail)
      have hba := bl_alloc HB4.out (Nat.le_refl _) (.cells #[.int .i64 0, .int .i64 0, .slice none 0 0, .int .i64 0, .int .i64 0, .int .i64 0, .slice none 0 0, .slice none 0 0, .slice none 0 0, .slice none 0 0] 29)
      have hra := HR4.out.step (bl_alloc (Below.refl w4.heap.size w4) (Nat.le_refl _) (.cells #[.int .i64 0, .int .i64 0, .slice none 0 0, .int .i64 0, .int .i64 0, .int .i64 0, .slice none 0 0, .slice none 0 0, .slice none 0 0, .slice none 0 0] 29))
      generalize w4.alloc (.cells #[.int .i64 0, .int .i64 0, .slice none 0 0, .int .i64 0, .int .i64 0, .int .i64 0, .slice none 0 0, .slice none 0 0, .slice none 0 0, .slice none 0 0] 29) = w5 at hba hra ⊢
      have HB5 := bx hba
      have HR5 := bx hra
      have HN1 : Bx ((([] : List UInt8).length + o.length) * 1 ≤ 140737488355328) := bx (by rw [← HN3.out]; simp; omega)
      have HN2 : Bx ((o.length + ([b8] : List UInt8).length) * 1 ≤ 140737488355328) := bx (by rw [← HN3.out]; simp; omega)
      have HM : Bx ((.int .u8 xm : Value) = bV b8) := bx (by rw [← HB8.out]; rfl)
      clear hba hra HB4 HR4
      go_wp2_with (first
        | (at_builtin; refine wpList_appL _ bV_one rfl (.tmp 46) (.tmp 48) rfl byteTyP (by decide) w5.heap.size (.slice A6 n6 c6) o rfl (hO6.alloc _) (w6.heap.size + 1) (some ⟨w6.heap.size, 0, none⟩) 1 1 [b8] rfl rfl (RL.freshe w6 b8 HM.out _) HN2.out (le_alloc hz6 _) ?_; intro v7 w7 hO7 hg7 hv7 hb7; obtain ⟨A7, n7, c7, rfl, hn7, hr7⟩ := OwL.sl hO7; have hW7 : Below w5.heap.size w5 w7 := (bl_alloc hW6 (Nat.le_refl _) (.cells #[.int .u8 xm] 5)).trans hb7; have HB7 : Bx (Below w.heap.size w w7) := bx (HB5.out.trans (hW7.mono HB5.out.size)); clear hO7 hg7 hv7 hb7)
        | (at_builtin; refine wpList_appL _ bV_one rfl (.tmp 44) (.tmp 45) rfl byteTyP (by decide) w5.heap.size _ [] rfl (OwL.lit0 w5 (Nat.le_refl _)) w5.heap.size A3 n3 c3 o rfl HN3.out.symm (RL.alloc HR5.out (Nat.le_refl _) _) HN1.out (le_alloc0 (Nat.le_refl _) _) ?_; intro v6 w6 hO6 hg6 hv6 hb6; rw [List.nil_append] at hO6; obtain ⟨A6, n6, c6, rfl, hn6, hr6⟩ := OwL.sl hO6; have hW6 : Below w5.heap.size w5 w6 := ((Below.refl w5.heap.size w5).alloc (Nat.le_refl _) _).trans hb6; have hz6 := hW6.size; clear hg6 hv6 hr6 hb6))
      have HP7 := bx (parse_any A7 n7 c7 (o ++ [b8]) w7 hn7.out.symm (by rw [hn7.out, List.length_append, ← HN3.out]; simp; omega) hr7)
      rw [parse_more HNM.out HWE.out, ← HN3.out] at HP7
      clear hr7 hn7 hW7 hz6 hW6 hO6 hn6
      by_cases h32 : n3 = 32768
      · have h32b : ((n3 : Int) == 32768) = true := by rw [h32]; rfl
        rw [if_pos h32] at HP7
        refine HP7.out.mono ?_
        intro e w8 hp
        obtain ⟨rfl, hb8, -⟩ := ppErr hp rfl
        have HB8 := bx (HB7.out.trans (hb8.mono HB7.out.size))
        clear hp hb8 HP7 HB7 h32
        go_wp2
        go_ret
        exact ⟨rfl, bl_alloc HB8.out (Nat.le_refl _) _⟩
      · rw [if_neg h32] at HP7
        refine HP7.out.mono ?_
        intro e w8 hp
        obtain ⟨rfl, hb8, -⟩ := ppErr hp rfl
        have HB8 := bx (HB7.out.trans (hb8.mono HB7.out.size))
        clear hp hb8 HP7 HB7 h32
        go_wp2
        go_ret
        exact ⟨rfl, bl_alloc HB8.out (Nat.le_refl _) _⟩
end Go.Proofs.Ytdioijhmmmnbgaa
