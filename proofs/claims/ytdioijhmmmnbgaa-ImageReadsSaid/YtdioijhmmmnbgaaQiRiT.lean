/- Contracts: samovarref14.tag, Text, Class: the document's. -/
import Derived.Test.YtdioijhmmmnbgaaQiImT
namespace Go.Proofs.Ytdioijhmmmnbgaa
open Go.RowKit
theorem tag_lo {L : List Cst} {i : Int} (h : i < 1) : tagP L i = 0 := by unfold tagP; rw [if_pos h]
theorem tag_hi {L : List Cst} {i : Int} (h : ¬ i < 1) (h2 : (L.length : Int) ≤ i) : tagP L i = 0 := by
  unfold tagP
  rw [if_neg h, List.getElem?_eq_none (by omega)]
theorem tag_at {L : List Cst} {k : Nat} {c : Cst} (h : ¬ (k : Int) < 1) (hc : L[k]? = some c) : tagP L (k : Int) = c.tag := by
  unfold tagP
  rw [if_neg h, Int.toNat_natCast, hc]
set_option maxRecDepth 100000 in
set_option maxHeartbeats 4000000 in
theorem rtag_any (x : ImE) (i : Int) (w : World) (hx : RIm w w.heap.size x) :
    Calls Try.prog 55 #[.agg (imC x), .int .i64 i] w fun e w' => e = .returned (.int .i64 (tagP x.pool i)) ∧ Below w.heap.size w w' := by
  have HX := bx hx
  have hpb : (x.pn : Int) ≤ 9223372036854775807 := by have := hx.pl; omega
  obtain ⟨cs, hcs⟩ : ∃ cs, cs = imC x := ⟨_, rfl⟩
  rw [← hcs]
  have HCS := bx hcs
  obtain ⟨T, hT⟩ : ∃ T, tagP x.pool i = T := ⟨_, rfl⟩
  rw [hT]
  have HT := bx hT
  obtain ⟨B, hB⟩ : ∃ B, w.heap.size = B := ⟨_, rfl⟩
  have HKB := bx (Bk.newAt w 29 cs hB)
  have HBB := bx (bl_alloc (Below.refl w.heap.size w) (Nat.le_refl _) (.cells cs 29))
  have HB := bx hB
  clear hx hcs hB hT
  go_enter Try.func55, Try.ntmps55
  go_upto_region 1 with (fail)
  rw [HB.out]
  generalize w.alloc (.cells cs 29) = wb at HKB HBB ⊢
  have HXB := bx (HX.out.up HBB.out)
  have f2 := HKB.out.im2 HCS.out
  by_cases h1 : i < 1
  · obtain rfl : T = 0 := HT.out.symm.trans (tag_lo h1)
    go_wp2
    go_ret
    exact ⟨rfl, HBB.out⟩
  · by_cases h2 : (x.pn : Int) ≤ i
    · obtain rfl : T = 0 := HT.out.symm.trans (tag_hi h1 (by rw [HX.out.pl.1]; exact h2))
      go_wp2
      go_ret
      exact ⟨rfl, HBB.out⟩
    · obtain ⟨k, hk⟩ : ∃ k : Nat, i = (k : Int) := ⟨i.toNat, by omega⟩
      subst hk
      have hkn : k < x.pn := by omega
      have hkI : (k : Int) < (x.pn : Int) := by omega
      have hkJ : (0 : Int) ≤ (k : Int) := by omega
      obtain ⟨ad, c, hA, _, HC', p0, p1, p2, p3, p4⟩ := cst_at HXB.out.pool (k := k) (by rw [HX.out.pl.1]; exact hkn)
      obtain rfl : T = c.tag := HT.out.symm.trans (tag_at h1 HC'.out)
      rw [hA] at f2
      clear hA
      go_wp2
      go_ret
      exact ⟨rfl, HBB.out⟩
set_option maxRecDepth 100000 in
set_option maxHeartbeats 4000000 in
theorem rtext_any (x : ImE) (i : Int) (w : World) (hx : RIm w w.heap.size x) :
    Calls Try.prog 20 #[.agg (imC x), .int .i64 i] w (TextPost (textP x.p i) w) := by
  obtain ⟨T, hT⟩ : ∃ T, textP x.p i = T := ⟨_, rfl⟩
  rw [hT]
  have HT := bx hT
  clear hT
  have HX := bx hx
  have hpb : (x.pn : Int) ≤ 9223372036854775807 := by have := hx.pl; omega
  obtain ⟨cs, hcs⟩ : ∃ cs, cs = imC x := ⟨_, rfl⟩
  rw [← hcs]
  have HCS := bx hcs
  obtain ⟨B, hB⟩ : ∃ B, w.heap.size = B := ⟨_, rfl⟩
  have HKB := bx (Bk.newAt w 29 cs hB)
  have HBB := bx (bl_alloc (Below.refl w.heap.size w) (Nat.le_refl _) (.cells cs 29))
  have HB := bx hB
  clear hx hcs hB
  go_enter Try.func20, Try.ntmps20
  go_upto_region 1 with (fail)
  rw [HB.out]
  generalize w.alloc (.cells cs 29) = wb at HKB HBB ⊢
  have HXB := bx (HX.out.up HBB.out)
  have f2 := HKB.out.im2 HCS.out
  have f0 := HKB.out.im0 HCS.out
  have f1 := HKB.out.im1 HCS.out
  have f3 := HKB.out.im3 HCS.out
  have f4 := HKB.out.im4 HCS.out
  have f5 := HKB.out.im5 HCS.out
  have f6 := HKB.out.im6 HCS.out
  have f7 := HKB.out.im7 HCS.out
  have f8 := HKB.out.im8 HCS.out
  have f9 := HKB.out.im9 HCS.out
  have HTG := bx (rtag_any x i wb HXB.out)
  obtain ⟨tg, htg⟩ : ∃ t, tagP x.pool i = t := ⟨_, rfl⟩
  rw [htg] at HTG
  have HTT := bx htg
  clear htg
  cases hq : decide (tagP x.pool i = 1) with
  | false =>
    have HQ := bx hq
    have HN : Bx (T = ([], false)) := bx (by rw [← HT.out]; unfold textP; rw [if_neg (show ¬ tagP x.p.pool i = 1 from of_decide_eq_false hq)])
    have htb : (tg != 1) = true := by rw [bne_iff_ne]; rw [← HTT.out]; exact of_decide_eq_false hq
    clear hq
    go_wp2_with fail
    refine HTG.out.mono ?_
    rintro e w2 ⟨rfl, hb2⟩
    have HB2 := bx (HBB.out.trans (hb2.mono HBB.out.size))
    clear hb2 HTG f2 f0 f1 f3 f4 f5 f6 f7 f8 f9
    go_wp2
    go_ret2
    exact ⟨by rw [HN.out]; rfl, HB2.out⟩
  | true =>
    obtain ⟨k, c, rfl, hc, hct, hk⟩ := tag_in (of_decide_eq_true hq) (by decide)
    have HQ := bx hq
    have hkn : k < x.pn := by have := HX.out.pl.1; omega
    have hkI : (k : Int) < (x.pn : Int) := by omega
    have hkJ : (0 : Int) ≤ (k : Int) := by omega
    have hkK : (k : Int).toNat = k := by omega
    have HN : Bx (T = (c.text, true)) := bx (by
      rw [← HT.out]; unfold textP; rw [if_pos (show tagP x.p.pool (k : Int) = 1 from of_decide_eq_true hq), hkK]
      have hc : x.p.pool[k]? = some c := hc
      rw [hc])
    have HCC := bx hc
    have htb : (tg != 1) = false := by rw [← HTT.out, of_decide_eq_true hq]; rfl
    clear hq hc hct hk
    go_wp2_with fail
    refine HTG.out.mono ?_
    rintro e w2 ⟨rfl, hb2⟩
    have HB2 := bx (HBB.out.trans (hb2.mono HBB.out.size))
    have HX2 := bx (HX.out.up HB2.out)
    have HK2 := bx (HKB.out.below hb2 HKB.out.lt)
    clear hb2 HTG f2 f0 f1 f3 f4 f5 f6 f7 f8 f9
    obtain ⟨ad2, c2, hA2, _, HC2, p0, p1, p2, p3, p4⟩ := cst_at HX2.out.pool (k := k) (by rw [HX.out.pl.1]; exact hkn)
    obtain rfl : c = c2 := by have := HCC.out.symm.trans HC2.out; injection this
    have f2 := HK2.out.im2 HCS.out
    rw [hA2] at f2
    clear hA2
    go_wp2
    go_ret2
    exact ⟨by rw [HN.out]; rfl, HB2.out⟩
set_option maxRecDepth 100000 in
set_option maxHeartbeats 4000000 in
theorem rclass_any (x : ImE) (i : Int) (w : World) (hx : RIm w w.heap.size x) :
    Calls Try.prog 22 #[.agg (imC x), .int .i64 i] w (TextPost (classP x.p i) w) := by
  obtain ⟨T, hT⟩ : ∃ T, classP x.p i = T := ⟨_, rfl⟩
  rw [hT]
  have HT := bx hT
  clear hT
  have HX := bx hx
  have hpb : (x.pn : Int) ≤ 9223372036854775807 := by have := hx.pl; omega
  obtain ⟨cs, hcs⟩ : ∃ cs, cs = imC x := ⟨_, rfl⟩
  rw [← hcs]
  have HCS := bx hcs
  obtain ⟨B, hB⟩ : ∃ B, w.heap.size = B := ⟨_, rfl⟩
  have HKB := bx (Bk.newAt w 29 cs hB)
  have HBB := bx (bl_alloc (Below.refl w.heap.size w) (Nat.le_refl _) (.cells cs 29))
  have HB := bx hB
  clear hx hcs hB
  go_enter Try.func22, Try.ntmps22
  go_upto_region 1 with (fail)
  rw [HB.out]
  generalize w.alloc (.cells cs 29) = wb at HKB HBB ⊢
  have HXB := bx (HX.out.up HBB.out)
  have f2 := HKB.out.im2 HCS.out
  have f0 := HKB.out.im0 HCS.out
  have f1 := HKB.out.im1 HCS.out
  have f3 := HKB.out.im3 HCS.out
  have f4 := HKB.out.im4 HCS.out
  have f5 := HKB.out.im5 HCS.out
  have f6 := HKB.out.im6 HCS.out
  have f7 := HKB.out.im7 HCS.out
  have f8 := HKB.out.im8 HCS.out
  have f9 := HKB.out.im9 HCS.out
  have HTG := bx (rtag_any x i wb HXB.out)
  obtain ⟨tg, htg⟩ : ∃ t, tagP x.pool i = t := ⟨_, rfl⟩
  rw [htg] at HTG
  have HTT := bx htg
  clear htg
  cases hq : decide (tagP x.pool i = 7) with
  | false =>
    have HQ := bx hq
    have HN : Bx (T = ([], false)) := bx (by rw [← HT.out]; unfold classP; rw [if_neg (show ¬ tagP x.p.pool i = 7 from of_decide_eq_false hq)])
    have htb : (tg != 7) = true := by rw [bne_iff_ne]; rw [← HTT.out]; exact of_decide_eq_false hq
    clear hq
    go_wp2_with fail
    refine HTG.out.mono ?_
    rintro e w2 ⟨rfl, hb2⟩
    have HB2 := bx (HBB.out.trans (hb2.mono HBB.out.size))
    clear hb2 HTG f2 f0 f1 f3 f4 f5 f6 f7 f8 f9
    go_wp2
    go_ret2
    exact ⟨by rw [HN.out]; rfl, HB2.out⟩
  | true =>
    obtain ⟨k, c, rfl, hc, hct, hk⟩ := tag_in (of_decide_eq_true hq) (by decide)
    have HQ := bx hq
    have hkn : k < x.pn := by have := HX.out.pl.1; omega
    have hkI : (k : Int) < (x.pn : Int) := by omega
    have hkJ : (0 : Int) ≤ (k : Int) := by omega
    have hkK : (k : Int).toNat = k := by omega
    have HN : Bx (T = textP x.p c.a) := bx (by
      rw [← HT.out]; unfold classP; rw [if_pos (show tagP x.p.pool (k : Int) = 7 from of_decide_eq_true hq), hkK]
      have hc : x.p.pool[k]? = some c := hc
      rw [hc])
    have HCC := bx hc
    have htb : (tg != 7) = false := by rw [← HTT.out, of_decide_eq_true hq]; rfl
    clear hq hc hct hk
    go_wp2_with fail
    refine HTG.out.mono ?_
    rintro e wb' ⟨rfl, hb2⟩
    have HB2 := bx (HBB.out.trans (hb2.mono HBB.out.size))
    have HX2 := bx (HX.out.up HB2.out)
    have HK2 := bx (HKB.out.below hb2 HKB.out.lt)
    clear hb2 HTG f2 f0 f1 f3 f4 f5 f6 f7 f8 f9 HBB HXB HKB
    have HBB := HB2
    have HXB := HX2
    have HKB := HK2
    clear HB2 HX2 HK2
    obtain ⟨ad, c2, hA, _, HC2, p0, p1, p2, p3, p4⟩ := cst_at HXB.out.pool (k := k) (by rw [HX.out.pl.1]; exact hkn)
    obtain rfl : c = c2 := by have := HCC.out.symm.trans HC2.out; injection this
    have f2 := HKB.out.im2 HCS.out
    rw [hA] at f2
    have HAD := bx hA
    clear hA
    go_upto_region 3 with (fail)
    have f0 := HKB.out.im0 HCS.out
    have f1 := HKB.out.im1 HCS.out
    have f3 := HKB.out.im3 HCS.out
    have f4 := HKB.out.im4 HCS.out
    have f5 := HKB.out.im5 HCS.out
    have f6 := HKB.out.im6 HCS.out
    have f7 := HKB.out.im7 HCS.out
    have f8 := HKB.out.im8 HCS.out
    have f9 := HKB.out.im9 HCS.out
    have HTX : Bx (Calls Try.prog 20 #[.agg #[.int .i64 x.minor, .int .i64 x.major, .slice (some ad) x.pn x.pc, .int .i64 x.access, .int .i64 x.this, .int .i64 x.super, .slice x.iA x.i_n x.ic, .slice x.fA x.fn x.fc, .slice x.mA x.mn x.mc, .slice x.aA x.an x.ac], .int .i64 c.a] wb'.drew (TextPost T wb'.drew)) := bx (by
      rw [HN.out]
      have h9 := rtext_any x c.a wb'.drew (HXB.out.up (below_drewN (Below.refl _ _) 1))
      have e9 : (.agg (imC x) : Value) = .agg #[.int .i64 x.minor, .int .i64 x.major, .slice (some ad) x.pn x.pc, .int .i64 x.access, .int .i64 x.this, .int .i64 x.super, .slice x.iA x.i_n x.ic, .slice x.fA x.fn x.fc, .slice x.mA x.mn x.mc, .slice x.aA x.an x.ac] := by unfold imC; rw [HAD.out]
      rw [e9] at h9
      exact h9)
    have hS5 : (fun w' => w'.cell? ⟨B, 0, none⟩ = some (.int .i64 x.minor) ∧ w'.cell? ⟨B, 1, none⟩ = some (.int .i64 x.major) ∧ w'.cell? ⟨B, 2, none⟩ = some (.slice (some ad) x.pn x.pc) ∧ w'.cell? ⟨B, 3, none⟩ = some (.int .i64 x.access) ∧ w'.cell? ⟨B, 4, none⟩ = some (.int .i64 x.this) ∧ w'.cell? ⟨B, 5, none⟩ = some (.int .i64 x.super) ∧ w'.cell? ⟨B, 6, none⟩ = some (.slice x.iA x.i_n x.ic) ∧ w'.cell? ⟨B, 7, none⟩ = some (.slice x.fA x.fn x.fc) ∧ w'.cell? ⟨B, 8, none⟩ = some (.slice x.mA x.mn x.mc) ∧ w'.cell? ⟨B, 9, none⟩ = some (.slice x.aA x.an x.ac) ∧ w'.cell? ⟨(ad.add (k * 5)).block, (ad.add (k * 5)).off + 1, none⟩ = some (.int .i64 c.a)) wb' := ⟨f0, f1, f2, f3, f4, f5, f6, f7, f8, f9, p1⟩
    have HLT : Bx ((ad.add (k * 5)).block < wb'.heap.size) := bx (by rw [blk_add]; assumption)
    clear HT HN p0 p2 p3 p4
    go_region_held3 (fun w' => w'.cell? ⟨B, 0, none⟩ = some (.int .i64 x.minor) ∧ w'.cell? ⟨B, 1, none⟩ = some (.int .i64 x.major) ∧ w'.cell? ⟨B, 2, none⟩ = some (.slice (some ad) x.pn x.pc) ∧ w'.cell? ⟨B, 3, none⟩ = some (.int .i64 x.access) ∧ w'.cell? ⟨B, 4, none⟩ = some (.int .i64 x.this) ∧ w'.cell? ⟨B, 5, none⟩ = some (.int .i64 x.super) ∧ w'.cell? ⟨B, 6, none⟩ = some (.slice x.iA x.i_n x.ic) ∧ w'.cell? ⟨B, 7, none⟩ = some (.slice x.fA x.fn x.fc) ∧ w'.cell? ⟨B, 8, none⟩ = some (.slice x.mA x.mn x.mc) ∧ w'.cell? ⟨B, 9, none⟩ = some (.slice x.aA x.an x.ac) ∧ w'.cell? ⟨(ad.add (k * 5)).block, (ad.add (k * 5)).off + 1, none⟩ = some (.int .i64 c.a)) (first | exact hS5 | exact hS6) ((go_at_call 20; refine HTX.out.mono ?_; rintro e w6 ⟨rfl, hb6⟩; have hK6 := (HKB.out.drewN 1).below hb6 (HKB.out.drewN 1).lt; have HB6 := bx hb6; have hS6 : (fun w' => w'.cell? ⟨B, 0, none⟩ = some (.int .i64 x.minor) ∧ w'.cell? ⟨B, 1, none⟩ = some (.int .i64 x.major) ∧ w'.cell? ⟨B, 2, none⟩ = some (.slice (some ad) x.pn x.pc) ∧ w'.cell? ⟨B, 3, none⟩ = some (.int .i64 x.access) ∧ w'.cell? ⟨B, 4, none⟩ = some (.int .i64 x.this) ∧ w'.cell? ⟨B, 5, none⟩ = some (.int .i64 x.super) ∧ w'.cell? ⟨B, 6, none⟩ = some (.slice x.iA x.i_n x.ic) ∧ w'.cell? ⟨B, 7, none⟩ = some (.slice x.fA x.fn x.fc) ∧ w'.cell? ⟨B, 8, none⟩ = some (.slice x.mA x.mn x.mc) ∧ w'.cell? ⟨B, 9, none⟩ = some (.slice x.aA x.an x.ac) ∧ w'.cell? ⟨(ad.add (k * 5)).block, (ad.add (k * 5)).off + 1, none⟩ = some (.int .i64 c.a)) w6 := ⟨hK6.im0 HCS.out, hK6.im1 HCS.out, (hK6.im2 HCS.out).trans (by rw [HAD.out]), hK6.im3 HCS.out, hK6.im4 HCS.out, hK6.im5 HCS.out, hK6.im6 HCS.out, hK6.im7 HCS.out, hK6.im8 HCS.out, hK6.im9 HCS.out, (hb6.cell (p := ⟨(ad.add (k * 5)).block, (ad.add (k * 5)).off + 1, none⟩) HLT.out).trans p1⟩))
    all_goals (
      go_wp2
      go_ret2
      exact ⟨rfl, (below_drewN HBB.out 1).trans (HB6.out.mono HBB.out.size)⟩)
end Go.Proofs.Ytdioijhmmmnbgaa
