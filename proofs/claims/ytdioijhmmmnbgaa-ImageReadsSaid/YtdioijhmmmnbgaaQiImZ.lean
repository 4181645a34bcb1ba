/- samovarlaw14.fixed: it answers true. -/
import Derived.Test.YtdioijhmmmnbgaaQiImY
import Derived.Test.YtdioijhmmmnbgaaQiImO
import Derived.Test.YtdioijhmmmnbgaaQiImW
namespace Go.Proofs.Ytdioijhmmmnbgaa
open Go.RowKit
theorem fx_holds : holdsP oneP = true := by decide +kernel
theorem fx_nums : numsOk oneP := by
  intro c hc
  have hc : c ∈ [cst0, ⟨1, 0, 0, 0, [65]⟩, ⟨7, 1, 0, 0, []⟩] := hc
  simp only [List.mem_cons, List.not_mem_nil, or_false] at hc
  rcases hc with rfl | rfl | rfl <;> exact ⟨by decide, by decide⟩
theorem fx_write : ∃ o, writeP oneP = .ok o ∧ o.length = 31 := ⟨imgB oneP, by
  unfold writeP
  rw [fx_holds]
  have h : (imgB oneP).length = 31 := by decide +kernel
  simp [h], by decide +kernel⟩
theorem fx_short : parseP [] = .err 2 := by kernel_rfl
theorem fx_form : parseP [202, 254, 186, 191] = .err 24 := by kernel_rfl
theorem fx_class : classP oneP 2 = ([65], true) := by decide +kernel
theorem ppErr {R : Rz Img} {w : World} {e : Ending} {w' : World} {k : Int} (h : ParsePost R w e w') (hR : R = .err k) : e = .returned (.tuple #[.agg #[.int .i64 0, .int .i64 0, .slice none 0 0, .int .i64 0, .int .i64 0, .int .i64 0, .slice none 0 0, .slice none 0 0, .slice none 0 0, .slice none 0 0], .int .i64 k]) ∧ Below w.heap.size w w' ∧ k ≠ 0 := by
  subst hR; exact ⟨h.2.1, h.1, h.2.2⟩
theorem ppOk {R : Rz Img} {w : World} {e : Ending} {w' : World} {m : Img} (h : ParsePost R w e w') (hR : R = .ok m) : ∃ x : ImE, x.p = m ∧ e = .returned (.tuple #[.agg #[.int .i64 x.minor, .int .i64 x.major, .slice x.pA x.pn x.pc, .int .i64 x.access, .int .i64 x.this, .int .i64 x.super, .slice x.iA x.i_n x.ic, .slice x.fA x.fn x.fc, .slice x.mA x.mn x.mc, .slice x.aA x.an x.ac], .int .i64 0]) ∧ RIm w' w'.heap.size x ∧ Below w.heap.size w w' := by
  subst hR
  obtain ⟨hb, x, h1, h2, h3⟩ := h
  exact ⟨x, h1, h2, h3, hb⟩
theorem iwOk {R : Rz (List UInt8)} {w : World} {e : Ending} {w' : World} {o : List UInt8} (h : ImgWPost R w e w') (hR : R = .ok o) : ∃ A n c, e = .returned (.tuple #[.slice A n c, .int .i64 0]) ∧ Bx (n = o.length) ∧ RB w' w'.heap.size A o ∧ o.length ≤ 32768 ∧ Below w.heap.size w w' := by
  subst hR
  obtain ⟨hb, v, h1, h2, h3⟩ := h
  obtain ⟨A, n, c, rfl, hn, hr⟩ := OwL.sl h2
  exact ⟨A, n, c, h1, hn, hr, h3, hb⟩
theorem iwErr {R : Rz (List UInt8)} {w : World} {e : Ending} {w' : World} {k : Int} (h : ImgWPost R w e w') (hR : R = .err k) : e = .returned (.tuple #[.slice none 0 0, .int .i64 k]) ∧ (k = 24 ∨ k = 8) ∧ Below w.heap.size w w' := by
  subst hR; exact ⟨h.2.1, h.2.2, h.1⟩
theorem fx_texts {x : ImE} (h : x.p = oneP) : ∀ c ∈ x.pool, (-9223372036854775808 ≤ c.tag ∧ c.tag ≤ 9223372036854775807) ∧ c.text.length ≤ 2000000 := by
  intro c hc
  have e : x.pool = [cst0, ⟨1, 0, 0, 0, [65]⟩, ⟨7, 1, 0, 0, []⟩] := congrArg Img.pool h
  rw [e] at hc
  simp only [List.mem_cons, List.not_mem_nil, or_false] at hc
  rcases hc with rfl | rfl | rfl <;> exact ⟨by decide, by decide⟩
theorem fx_sz {w : World} {B : Nat} {x : ImE} (h : x.p = oneP) (hr : RIm w B x) : ImSz x := by
  have e1 : x.pool = [cst0, ⟨1, 0, 0, 0, [65]⟩, ⟨7, 1, 0, 0, []⟩] := congrArg Img.pool h
  have e2 : x.ifs = [] := congrArg Img.ifaces h
  have e3 : x.fs = [] := List.map_eq_nil_iff.1 (congrArg Img.fields h)
  have e4 : x.ms = [] := List.map_eq_nil_iff.1 (congrArg Img.methods h)
  have e5 : x.as_ = [] := List.map_eq_nil_iff.1 (congrArg Img.attrs h)
  have p1 := hr.pl.1
  have p2 := hr.il.1
  have p3 := hr.fl.1
  have p4 := hr.ml.1
  have p5 := hr.al.1
  rw [e1] at p1
  rw [e2] at p2
  rw [e3] at p3
  rw [e4] at p4
  rw [e5] at p5
  have p1 : 3 = x.pn := p1
  have p2 : 0 = x.i_n := p2
  have p3 : 0 = x.fn := p3
  have p4 : 0 = x.mn := p4
  have p5 : 0 = x.an := p5
  exact ⟨fun z hz => (by rw [e3] at hz; cases hz), fun z hz => (by rw [e4] at hz; cases hz), fun z hz => (by rw [e5] at hz; cases hz), by omega, by omega, by omega, by omega, by omega⟩
theorem im_all {w : World} {g : Nat} {t : TypeId} {x : ImE} (h : Bk w g t (imC x)) : w.cell? ⟨g, 0, none⟩ = some (.int .i64 x.minor) ∧ w.cell? ⟨g, 1, none⟩ = some (.int .i64 x.major) ∧ w.cell? ⟨g, 2, none⟩ = some (.slice x.pA x.pn x.pc) ∧ w.cell? ⟨g, 3, none⟩ = some (.int .i64 x.access) ∧ w.cell? ⟨g, 4, none⟩ = some (.int .i64 x.this) ∧ w.cell? ⟨g, 5, none⟩ = some (.int .i64 x.super) ∧ w.cell? ⟨g, 6, none⟩ = some (.slice x.iA x.i_n x.ic) ∧ w.cell? ⟨g, 7, none⟩ = some (.slice x.fA x.fn x.fc) ∧ w.cell? ⟨g, 8, none⟩ = some (.slice x.mA x.mn x.mc) ∧ w.cell? ⟨g, 9, none⟩ = some (.slice x.aA x.an x.ac) :=
  ⟨h.im0 rfl, h.im1 rfl, h.im2 rfl, h.im3 rfl, h.im4 rfl, h.im5 rfl, h.im6 rfl, h.im7 rfl, h.im8 rfl, h.im9 rfl⟩
set_option maxRecDepth 100000 in
set_option maxHeartbeats 8000000 in
theorem fixed14_any (w : World) : Calls Try.prog 9 #[] w fun e w' => e = .returned (.bool true) ∧ Below w.heap.size w w' := by
  obtain ⟨oB, hoB, hoL⟩ := fx_write
  have HOB := bx hoB
  have HOL := bx hoL
  have HM1 := bx (parse_any none 0 0 [] w rfl (by decide) RL.nil)
  clear hoB hoL
  go_enter Try.func9, Try.ntmps9
  go_wp2_with fail
  refine HM1.out.mono ?_
  intro e w1 hp
  obtain ⟨rfl, hb1, -⟩ := ppErr hp fx_short
  have HB1 := bx hb1
  clear hb1 hp HM1
  go_upto_region 2 with (fail)
  have hb2 := bl_alloc HB1.out (Nat.le_refl _) (.cells #[.int .i64 0, .int .i64 0, .slice none 0 0, .int .i64 0, .int .i64 0, .int .i64 0, .slice none 0 0, .slice none 0 0, .slice none 0 0, .slice none 0 0] 29)
  generalize w1.alloc (.cells #[.int .i64 0, .int .i64 0, .slice none 0 0, .int .i64 0, .int .i64 0, .int .i64 0, .slice none 0 0, .slice none 0 0, .slice none 0 0, .slice none 0 0] 29) = w2 at hb2 ⊢
  have hb3 := bl_alloc hb2 (Nat.le_refl _) (.cells #[.int .u8 202, .int .u8 254, .int .u8 186, .int .u8 191] 5)
  have hr3 : RB (w2.alloc (.cells #[.int .u8 202, .int .u8 254, .int .u8 186, .int .u8 191] 5)) (w2.heap.size + 1) (some ⟨w2.heap.size, 0, none⟩) [202, 254, 186, 191] := RL.news _ _ _ rfl _ _
  have HM2 := bx (parse_any (some ⟨w2.heap.size, 0, none⟩) 4 4 [202, 254, 186, 191] (w2.alloc (.cells #[.int .u8 202, .int .u8 254, .int .u8 186, .int .u8 191] 5)) rfl (by decide) (RL.top hr3))
  have HB3 := bx hb3
  clear hb2 hb3 hr3 HB1
  go_wp2_with fail
  refine HM2.out.mono ?_
  intro e w4 hp
  obtain ⟨rfl, hb4, -⟩ := ppErr hp fx_form
  have HB4 := bx (HB3.out.trans (hb4.mono HB3.out.size))
  clear hb4 hp HM2 HB3
  go_upto_region 3 with (fail)
  have hb5 := bl_alloc HB4.out (Nat.le_refl _) (.cells #[.int .i64 0, .int .i64 0, .slice none 0 0, .int .i64 0, .int .i64 0, .int .i64 0, .slice none 0 0, .slice none 0 0, .slice none 0 0, .slice none 0 0] 29)
  generalize w4.alloc (.cells #[.int .i64 0, .int .i64 0, .slice none 0 0, .int .i64 0, .int .i64 0, .int .i64 0, .slice none 0 0, .slice none 0 0, .slice none 0 0, .slice none 0 0] 29) = w5 at hb5 ⊢
  have HB5 := bx hb5
  clear hb5 HB4
  go_wp2_with fail
  refine (one_any w5).mono ?_
  rintro e w6 ⟨G, rfl, hG, hrm6, hb6⟩
  have HB6 := bx (HB5.out.trans (hb6.mono HB5.out.size))
  have HW6 := bx (write_any (oneX G) w6 hrm6 (fx_texts rfl))
  clear hG hrm6 hb6 HB5
  go_wp2_with fail
  refine HW6.out.mono ?_
  intro e w7 hp
  obtain ⟨A7, n7, c7, rfl, hn7, hr7, hl7, hb7⟩ := iwOk hp HOB.out
  obtain rfl : n7 = 31 := by rw [hn7.out, HOL.out]
  have HB7 := bx (HB6.out.trans (hb7.mono HB6.out.size))
  have HM7 := bx (parse_any A7 31 c7 oB w7 HOL.out (by decide) hr7)
  clear hp hb7 hr7 hn7 hl7 HW6 HB6
  go_wp2_with fail
  refine HM7.out.mono ?_
  intro e w8 hp
  obtain ⟨x, hxp, rfl, hrm8, hb8⟩ := ppOk hp (write_parse fx_nums HOB.out)
  have HB8 := bx (HB7.out.trans (hb8.mono HB7.out.size))
  have HXP := bx hxp
  have HSZ := bx (fx_sz hxp hrm8)
  obtain ⟨g, hg⟩ : ∃ g, w8.heap.size = g := ⟨_, rfl⟩
  have HG := bx hg
  have hb9 := bl_alloc HB8.out (Nat.le_refl _) (.cells #[.int .i64 x.minor, .int .i64 x.major, .slice x.pA x.pn x.pc, .int .i64 x.access, .int .i64 x.this, .int .i64 x.super, .slice x.iA x.i_n x.ic, .slice x.fA x.fn x.fc, .slice x.mA x.mn x.mc, .slice x.aA x.an x.ac] 29)
  have hk9 : Bk (w8.alloc (.cells #[.int .i64 x.minor, .int .i64 x.major, .slice x.pA x.pn x.pc, .int .i64 x.access, .int .i64 x.this, .int .i64 x.super, .slice x.iA x.i_n x.ic, .slice x.fA x.fn x.fc, .slice x.mA x.mn x.mc, .slice x.aA x.an x.ac] 29)) g 29 (imC x) := Bk.newAt _ _ _ hg
  have hrm9 := hrm8.up (bl_alloc (Below.refl w8.heap.size w8) (Nat.le_refl _) (.cells #[.int .i64 x.minor, .int .i64 x.major, .slice x.pA x.pn x.pc, .int .i64 x.access, .int .i64 x.this, .int .i64 x.super, .slice x.iA x.i_n x.ic, .slice x.fA x.fn x.fc, .slice x.mA x.mn x.mc, .slice x.aA x.an x.ac] 29))
  clear hp hb8 hrm8 hxp hg HM7 HB7
  go_upto_region 5 with (fail)
  rw [HG.out]
  generalize w8.alloc (.cells #[.int .i64 x.minor, .int .i64 x.major, .slice x.pA x.pn x.pc, .int .i64 x.access, .int .i64 x.this, .int .i64 x.super, .slice x.iA x.i_n x.ic, .slice x.fA x.fn x.fc, .slice x.mA x.mn x.mc, .slice x.aA x.an x.ac] 29) = w9 at hb9 hk9 hrm9 ⊢
  have HB9 := bx hb9
  have HK9 := bx hk9
  have HR9 := bx hrm9
  have HC9 := bx (class_any x 2 w9 hrm9)
  rw [HXP.out, fx_class] at HC9
  obtain ⟨f0, f1, f2, f3, f4, f5, f6, f7, f8, f9⟩ := im_all hk9
  clear hb9 hk9 hrm9
  go_wp2_with fail
  refine HC9.out.mono ?_
  rintro e w10 ⟨rfl, hb10⟩
  have HB10 := bx (HB9.out.trans (hb10.mono HB9.out.size))
  have HK10 := bx (HK9.out.below hb10 HK9.out.lt)
  have HR10 := bx (HR9.out.up hb10)
  clear hb10 HB9 HK9 HR9 HC9 f0 f1 f2 f3 f4 f5 f6 f7 f8 f9
  go_upto_region 6 with (fail)
  have hS0 := im_all (HK10.out.drewN 1)
  have hgl := HK10.out.lt
  go_region_held3 (fun w' => w'.cell? ⟨g, 0, none⟩ = some (.int .i64 x.minor) ∧ w'.cell? ⟨g, 1, none⟩ = some (.int .i64 x.major) ∧ w'.cell? ⟨g, 2, none⟩ = some (.slice x.pA x.pn x.pc) ∧ w'.cell? ⟨g, 3, none⟩ = some (.int .i64 x.access) ∧ w'.cell? ⟨g, 4, none⟩ = some (.int .i64 x.this) ∧ w'.cell? ⟨g, 5, none⟩ = some (.int .i64 x.super) ∧ w'.cell? ⟨g, 6, none⟩ = some (.slice x.iA x.i_n x.ic) ∧ w'.cell? ⟨g, 7, none⟩ = some (.slice x.fA x.fn x.fc) ∧ w'.cell? ⟨g, 8, none⟩ = some (.slice x.mA x.mn x.mc) ∧ w'.cell? ⟨g, 9, none⟩ = some (.slice x.aA x.an x.ac)) (first | exact hS0 | exact hS1 | exact hS2 | exact hS3 | exact hS4) ((first
    | (go_at_call 17; refine (holds_any (oneX G2) w13 HR13.out (fx_texts rfl)).mono ?_; rintro e w14 ⟨rfl, hb14⟩; rw [show holdsP (oneX G2).p = true from fx_holds]; have HK14 := bx (HK13.out.below hb14 HK13.out.lt); have hS4 := im_all HK14.out; have HB14 := bx (HB13.out.trans (hb14.mono HB13.out.size)); clear hb14)
    | (have hz := HB12.out; clear hz; go_at_call 23; refine (one_any w12).mono ?_; rintro e w13 ⟨G2, rfl, hG2, hrm13, hb13⟩; have HR13 := bx hrm13; have HK13 := bx (HK12.out.below hb13 HK12.out.lt); have hS3 := im_all HK13.out; have HB13 := bx (HB12.out.trans (hb13.mono HB12.out.size)); clear hb13 hrm13 hG2)
    | (go_at_call 12; refine (same14_any x (oneX G1) w11 HX11.out HR11.out HSZ.out (fx_sz rfl HR11.out)).mono ?_; rintro e w12 ⟨rfl, hb12⟩; rw [show decide (x.p = (oneX G1).p) = true from decide_eq_true HXP.out]; have HK12 := bx (HK11.out.below hb12 HK11.out.lt); have hS2 := im_all HK12.out; have HB12 := bx (HB11.out.trans (hb12.mono HB11.out.size)); clear hb12)
    | (go_at_call 23; refine (one_any w10.drew).mono ?_; rintro e w11 ⟨G1, rfl, hG1, hrm11, hb11⟩; have HR11 := bx hrm11; have HK11 := bx ((HK10.out.drewN 1).below hb11 hgl); have HX11 := bx ((HR10.out.up (below_drewN (Below.refl _ w10) 1)).up hb11); have hS1 := im_all HK11.out; have HB11 : Bx (Below w.heap.size w w11) := bx ((below_drewN HB10.out 1).trans (hb11.mono HB10.out.size)); clear hb11 hrm11 hG1)))
  go_wp2
  go_ret
  exact ⟨rfl, HB14.out⟩
end Go.Proofs.Ytdioijhmmmnbgaa
