/- Walk of ImageReads. -/
import Derived.Test.YtdioijhmmmnbgaaQiImWb
import Derived.Test.YtdioijhmmmnbgaaQiImWo
import Derived.Test.YtdioijhmmmnbgaaQiRqY
import Derived.Test.YtdioijhmmmnbgaaPi6
namespace Go.Proofs.Ytdioijhmmmnbgaa
open Go.RowKit
/-- What Parse answers, as an image and a code. -/
def imgOf (l : List UInt8) : Img := match parseP l with
  | .ok m => m
  | .err _ => img0
def codOf (l : List UInt8) : Int := match parseP l with
  | .ok _ => 0
  | .err k => k
theorem ppAny {l : List UInt8} {w : World} {e : Ending} {w' : World} (h : ParsePost (parseP l) w e w') : ∃ x : ImE, x.p = imgOf l ∧ e = .returned (.tuple #[.agg #[.int .i64 x.minor, .int .i64 x.major, .slice x.pA x.pn x.pc, .int .i64 x.access, .int .i64 x.this, .int .i64 x.super, .slice x.iA x.i_n x.ic, .slice x.fA x.fn x.fc, .slice x.mA x.mn x.mc, .slice x.aA x.an x.ac], .int .i64 (codOf l)]) ∧ RIm w' w'.heap.size x ∧ ImSz x ∧ Below w.heap.size w w' := by
  unfold imgOf codOf
  obtain ⟨R, hR⟩ : ∃ R, parseP l = R := ⟨_, rfl⟩
  rw [hR] at h ⊢
  cases R with
  | err k =>
    obtain ⟨rfl, hb, _⟩ := ppErr h rfl
    refine ⟨⟨0, 0, none, 0, 0, [], 0, 0, 0, none, 0, 0, [], none, 0, 0, [], none, 0, 0, [], none, 0, 0, []⟩, rfl, rfl, ?_, ?_, hb⟩
    · exact ⟨RS.nil, ⟨rfl, Nat.le_refl _, by show ((0 : Nat) : Int) ≤ _; decide⟩, RL.nil, ⟨rfl, Nat.le_refl _, by show ((0 : Nat) : Int) ≤ _; decide⟩, RM.nil, ⟨rfl, Nat.le_refl _, by show ((0 : Nat) : Int) ≤ _; decide⟩, RM.nil, ⟨rfl, Nat.le_refl _, by show ((0 : Nat) : Int) ≤ _; decide⟩, RA.nil, ⟨rfl, Nat.le_refl _, by show ((0 : Nat) : Int) ≤ _; decide⟩⟩
    · exact ⟨(fun z hz => (by cases hz)), (fun z hz => (by cases hz)), (fun z hz => (by cases hz)), by show ((0 : Nat) : Int) ≤ _; decide, by show ((0 : Nat) : Int) ≤ _; decide, by show ((0 : Nat) : Int) ≤ _; decide, by show ((0 : Nat) : Int) ≤ _; decide, by show ((0 : Nat) : Int) ≤ _; decide⟩
  | ok m =>
    obtain ⟨x, hx, rfl, hr, hb⟩ := ppOk h rfl
    refine ⟨x, hx, rfl, hr, sz_of hr ?_, hb⟩
    rw [hx]
    exact (parse_ok hR).2.2.2.1
set_option maxRecDepth 100000 in
set_option maxHeartbeats 4000000 in
theorem imageReads_walk (w : World) (A : Option Addr) (n c : Nat) (l : List UInt8) (e0 : l.length = n) (hc : n ≤ c) (hm : (c : Int) ≤ 9223372036854775807) (r0 : RB w w.heap.size A l) (_b0 : n ≤ 140737488351232) :
    Calls Try.prog 3 #[.slice A n c] w fun e w' => e = .returned (.bool true) ∧ Below w.heap.size w w' := by
  have HL := bx e0
  have HCC := bx (And.intro hc hm)
  clear e0 hc hm
  go_enter Try.func3, Try.ntmps3
  by_cases hbig : 40000 < n
  · go_wp2_with fail
    refine (fixed14_any w).mono ?_
    rintro e w1 ⟨rfl, hb1⟩
    go_wp2
    go_ret
    exact ⟨rfl, hb1⟩
  · go_wp2_with fail
    refine (fixed14_any w).mono ?_
    rintro e w1 ⟨rfl, hb1⟩
    have HB1 := bx hb1
    have HR1 := bx (r0.step hb1)
    have hz1 := le_alloc0 (w := w1) (Nat.le_refl w1.heap.size) (.cells #[] 5)
    have HN1 : Bx ((([] : List UInt8).length + l.length) * 1 ≤ 140737488355328) := bx (by rw [HL.out]; simp only [List.length_nil]; omega)
    clear hb1 r0
    go_wp2_with (at_builtin; refine wpList_appL _ bV_one rfl (.tmp 13) (.tmp 14) rfl byteTy (by decide) w1.heap.size _ [] rfl (OwL.lit0 w1 (Nat.le_refl _)) _ A n c l rfl HL.out (HR1.out.alloc (Nat.le_refl _) _) HN1.out hz1 ?_; intro v2 w2 own2 _ _ hb2; rw [List.nil_append] at own2; have HB12 := bx ((bl_alloc (Below.refl w1.heap.size w1) (Nat.le_refl _) (.cells #[] 5)).trans hb2); obtain ⟨A2, n2, c2, rfl, hn2, hr2⟩ := OwL.sl own2; clear own2 hb2)
    have HN2 := bx hn2.out
    have HR2 := bx hr2
    have HL2 := bx (HR1.out.step HB12.out)
    have HB2 := bx (HB1.out.trans (HB12.out.mono HB1.out.size))
    have HP := bx (parse_any A2 n2 c2 l w2 hn2.out.symm (by have := hn2.out; have := HL.out; omega) hr2)
    clear hn2 hr2 HB1 HR1 HB12 HN1 hz1
    obtain ⟨kc, hkc⟩ : ∃ k, codOf l = k := ⟨_, rfl⟩
    have HKC := bx hkc
    clear hkc
    refine HP.out.mono ?_
    intro e w3 hp
    obtain ⟨x, hxp, rfl, hrm3, hsx, hb3⟩ := ppAny hp
    rw [HKC.out]
    have HXP := bx hxp
    have HSX := bx hsx
    have HB3 := bx (HB2.out.trans (hb3.mono HB2.out.size))
    have HR3 := bx (HR2.out.step hb3)
    have HL3 := bx (HL2.out.step hb3)
    obtain ⟨g, hg⟩ : ∃ g, w3.heap.size = g := ⟨_, rfl⟩
    have HG := bx hg
    have hba : Below w3.heap.size w3 (w3.alloc (.cells (imC x) 29)) := bl_alloc (Below.refl _ _) (Nat.le_refl _) _
    have HK4 : Bx (Bk (w3.alloc (.cells (imC x) 29)) g 29 (imC x)) := bx (Bk.newAt _ _ _ hg)
    have HX4 := bx (hrm3.up hba)
    have HB4 := bx (HB3.out.trans (hba.mono HB3.out.size))
    have HR4 := bx (HR3.out.step hba)
    have HL4 := bx (HL3.out.step hba)
    clear hp hxp hsx hrm3 hb3 hg hba HP HB2 HR2 HL2 HB3 HR3 HL3
    go_upto_region 7 with (fail)
    rw [HG.out]
    change Code.wp _ _ _ _ (w3.alloc (.cells (imC x) 29))
    generalize w3.alloc (.cells (imC x) 29) = w4 at HK4 HX4 HB4 HR4 HL4 ⊢
    have HQ := bx (rparse_any A n c l w4 HL.out HCC.out.1 HCC.out.2 (by omega) HL4.out)
    go_wp2_with fail
    refine HQ.out.mono ?_
    intro e w5 hp
    obtain ⟨y, hyp, rfl, hrm5, hsy, hb5⟩ := ppAny hp
    rw [HKC.out]
    have HYP := bx hyp
    have HSY := bx hsy
    have HB5 := bx (HB4.out.trans (hb5.mono HB4.out.size))
    have HR5 := bx (HR4.out.step hb5)
    have HL5 := bx (HL4.out.step hb5)
    have HK5 := bx (HK4.out.below hb5 HK4.out.lt)
    have HX5 := bx (HX4.out.up hb5)
    obtain ⟨g2, hg2⟩ : ∃ g, w5.heap.size = g := ⟨_, rfl⟩
    have HG2 := bx hg2
    have hba : Below w5.heap.size w5 (w5.alloc (.cells (imC y) 29)) := bl_alloc (Below.refl _ _) (Nat.le_refl _) _
    have HKY : Bx (Bk (w5.alloc (.cells (imC y) 29)) g2 29 (imC y)) := bx (Bk.newAt _ _ _ hg2)
    have HY6 := bx (hrm5.up hba)
    have HX6 := bx (HX5.out.up hba)
    have HK6 := bx (HK5.out.below hba HK5.out.lt)
    have HB6 := bx (HB5.out.trans (hba.mono HB5.out.size))
    have HR6 := bx (HR5.out.step hba)
    have HL6 := bx (HL5.out.step hba)
    clear hp hyp hsy hrm5 hb5 hg2 hba HQ HB4 HR4 HL4 HB5 HR5 HL5 HK4 HK5 HX4 HX5
    go_upto_region 8 with (fail)
    rw [HG2.out]
    change Code.wp _ _ _ _ (w5.alloc (.cells (imC y) 29))
    generalize w5.alloc (.cells (imC y) 29) = w6 at HKY HY6 HX6 HK6 HB6 HR6 HL6 ⊢
    have HS6 := bx (same14_any x y w6 HX6.out HY6.out HSX.out HSY.out)
    rw [show decide (x.p = y.p) = true by rw [HXP.out, HYP.out]; exact decide_eq_true rfl] at HS6
    have hkk : (kc == kc) = true := beq_self_eq_true kc
    obtain ⟨f0, f1, f2, f3, f4, f5, f6, f7, f8, f9⟩ := im_all HK6.out
    obtain ⟨e0, e1, e2, e3, e4, e5, e6, e7, e8, e9⟩ := im_all HKY.out
    go_wp2_with fail
    refine HS6.out.mono ?_
    rintro e w7 ⟨rfl, hb7⟩
    have HB7 := bx (HB6.out.trans (hb7.mono HB6.out.size))
    have HS7 := bx (same_any A2 A n2 c2 n c w7 l l HN2.out.symm HL.out (by rw [HN2.out, HL.out]; omega) (by omega) (HR6.out.step hb7) (HL6.out.step hb7))
    rw [dec_same] at HS7
    clear hb7 HS6 HB6 HR6 HL6 HK6 HKY HY6 HX6 f0 f1 f2 f3 f4 f5 f6 f7 f8 f9 e0 e1 e2 e3 e4 e5 e6 e7 e8 e9
    go_wp2_with fail
    refine HS7.out.mono ?_
    rintro e w8 ⟨rfl, hb8⟩
    have HB8 := bx (HB7.out.trans (hb8.mono HB7.out.size))
    clear hb8 HS7 HB7
    go_wp2
    go_ret
    exact ⟨rfl, HB8.out⟩
end Go.Proofs.Ytdioijhmmmnbgaa
