/- Contracts: image.Text and Class. -/
import Derived.Test.YtdioijhmmmnbgaaQiImW
import Derived.Deep.RegionHeld3
namespace Go.Proofs.Ytdioijhmmmnbgaa
open Go.RowKit
def textP (m : Img) (i : Int) : List UInt8 × Bool := if tagP m.pool i = 1 then match m.pool[i.toNat]? with
    | some c => (c.text, true)
    | none => ([], false)
  else ([], false)
def classP (m : Img) (i : Int) : List UInt8 × Bool := if tagP m.pool i = 7 then match m.pool[i.toNat]? with
    | some c => textP m c.a
    | none => ([], false)
  else ([], false)
def TextPost (r : List UInt8 × Bool) (w : World) (e : Ending) (w' : World) : Prop := e = .returned (.tuple #[.string ⟨r.1.toArray⟩, .bool r.2]) ∧ Below w.heap.size w w'
theorem tag_in {L : List Cst} {i t : Int} (h : tagP L i = t) (ht : t ≠ 0) : ∃ (k : Nat) (c : Cst), i = (k : Int) ∧ L[k]? = some c ∧ c.tag = t ∧ k < L.length := by
  unfold tagP at h
  by_cases h1 : i < 1
  · rw [if_pos h1] at h; exact absurd h.symm ht
  rw [if_neg h1] at h
  cases hc : L[i.toNat]? with
  | none => rw [hc] at h; exact absurd h.symm ht
  | some c =>
    rw [hc] at h
    exact ⟨i.toNat, c, by omega, hc, h, (List.getElem?_eq_some_iff.1 hc).1⟩
set_option maxRecDepth 100000 in
set_option maxHeartbeats 4000000 in
theorem text_any (x : ImE) (i : Int) (w : World) (hx : RIm w w.heap.size x) :
    Calls Try.prog 19 #[.agg (imC x), .int .i64 i] w (TextPost (textP x.p i) w) := by
  obtain ⟨T, hT⟩ : ∃ T, textP x.p i = T := ⟨_, rfl⟩
  rw [hT]
  have HT := bx hT
  clear hT
  have HX := bx hx
  have hpb : (x.pn : Int) ≤ 9223372036854775807 := by have := hx.pl; omega
  obtain ⟨cs, hcs⟩ : ∃ cs, cs = imC x := ⟨_, rfl⟩
  rw [← hcs]
  have HCS := bx hcs
  obtain ⟨B, hB⟩ : ∃ B, w.heap.size = B := ⟨_, rfl⟩
  have HKB := bx (Bk.newAt w 29 cs hB)
  have HBB := bx (bl_alloc (Below.refl w.heap.size w) (Nat.le_refl _) (.cells cs 29))
  have HB := bx hB
  clear hx hcs hB
  go_enter Try.func19, Try.ntmps19
  go_upto_region 1 with (fail)
  rw [HB.out]
  generalize w.alloc (.cells cs 29) = wb at HKB HBB ⊢
  have HXB := bx (HX.out.up HBB.out)
  have f2 := HKB.out.im2 HCS.out
  cases hq : decide (tagP x.pool i = 1) with
  | false =>
    have HQ := bx hq
    have HN : Bx (T = ([], false)) := bx (by rw [← HT.out]; unfold textP; rw [if_neg (show ¬ tagP x.p.pool i = 1 from of_decide_eq_false hq)])
    clear hq
    go_wp2_with (go_at_call 50; refine (is_any _ x.pn _ x.pool _ 1 wb HX.out.pl.1 hpb (by decide) HXB.out.pool).mono ?_; rintro e w' ⟨rfl, rfl⟩; rw [HQ.out])
    go_ret2
    exact ⟨by rw [HN.out]; rfl, HBB.out⟩
  | true =>
    obtain ⟨k, c, rfl, hc, hct, hk⟩ := tag_in (of_decide_eq_true hq) (by decide)
    have HQ := bx hq
    have hkn : k < x.pn := by have := HX.out.pl.1; omega
    have hkI : (k : Int) < (x.pn : Int) := by omega
    have hkJ : (0 : Int) ≤ (k : Int) := by omega
    have hkK : (k : Int).toNat = k := by omega
    have HN : Bx (T = (c.text, true)) := bx (by
      rw [← HT.out]; unfold textP; rw [if_pos (show tagP x.p.pool (k : Int) = 1 from of_decide_eq_true hq), hkK]
      have hc : x.p.pool[k]? = some c := hc
      rw [hc])
    obtain ⟨ad, c', hA, _, HC', p0, p1, p2, p3, p4⟩ := cst_at HXB.out.pool (k := k) hk
    obtain rfl : c = c' := by have := hc.symm.trans HC'.out; injection this
    rw [hA] at f2
    have HRP : Bx (RS cstC wb wb.heap.size (some ad) x.pool) := bx (by rw [← hA]; exact HXB.out.pool)
    clear hq hc hct hk hA
    go_wp2_with (go_at_call 50; refine (is_any _ x.pn _ x.pool _ 1 wb HX.out.pl.1 hpb (by decide) HRP.out).mono ?_; rintro e w' ⟨rfl, rfl⟩; rw [HQ.out])
    go_ret2
    exact ⟨by rw [HN.out]; rfl, HBB.out⟩
set_option maxRecDepth 100000 in
set_option maxHeartbeats 4000000 in
theorem class_any (x : ImE) (i : Int) (w : World) (hx : RIm w w.heap.size x) :
    Calls Try.prog 21 #[.agg (imC x), .int .i64 i] w (TextPost (classP x.p i) w) := by
  obtain ⟨T, hT⟩ : ∃ T, classP x.p i = T := ⟨_, rfl⟩
  rw [hT]
  have HT := bx hT
  clear hT
  have HX := bx hx
  have hpb : (x.pn : Int) ≤ 9223372036854775807 := by have := hx.pl; omega
  obtain ⟨cs, hcs⟩ : ∃ cs, cs = imC x := ⟨_, rfl⟩
  rw [← hcs]
  have HCS := bx hcs
  obtain ⟨B, hB⟩ : ∃ B, w.heap.size = B := ⟨_, rfl⟩
  have HKB := bx (Bk.newAt w 29 cs hB)
  have HBB := bx (bl_alloc (Below.refl w.heap.size w) (Nat.le_refl _) (.cells cs 29))
  have HB := bx hB
  clear hx hcs hB
  go_enter Try.func21, Try.ntmps21
  go_upto_region 1 with (fail)
  rw [HB.out]
  generalize w.alloc (.cells cs 29) = wb at HKB HBB ⊢
  have HXB := bx (HX.out.up HBB.out)
  have f2 := HKB.out.im2 HCS.out
  cases hq : decide (tagP x.pool i = 7) with
  | false =>
    have HQ := bx hq
    have HN : Bx (T = ([], false)) := bx (by rw [← HT.out]; unfold classP; rw [if_neg (show ¬ tagP x.p.pool i = 7 from of_decide_eq_false hq)])
    clear hq
    go_wp2_with (go_at_call 50; refine (is_any _ x.pn _ x.pool _ 7 wb HX.out.pl.1 hpb (by decide) HXB.out.pool).mono ?_; rintro e w' ⟨rfl, rfl⟩; rw [HQ.out])
    go_ret2
    exact ⟨by rw [HN.out]; rfl, HBB.out⟩
  | true =>
    obtain ⟨k, c, rfl, hc, hct, hk⟩ := tag_in (of_decide_eq_true hq) (by decide)
    have HQ := bx hq
    have hkn : k < x.pn := by have := HX.out.pl.1; omega
    have hkI : (k : Int) < (x.pn : Int) := by omega
    have hkJ : (0 : Int) ≤ (k : Int) := by omega
    have hkK : (k : Int).toNat = k := by omega
    have HN : Bx (T = textP x.p c.a) := bx (by
      rw [← HT.out]; unfold classP; rw [if_pos (show tagP x.p.pool (k : Int) = 7 from of_decide_eq_true hq), hkK]
      have hc : x.p.pool[k]? = some c := hc
      rw [hc])
    obtain ⟨ad, c', hA, _, HC', p0, p1, p2, p3, p4⟩ := cst_at HXB.out.pool (k := k) hk
    obtain rfl : c = c' := by have := hc.symm.trans HC'.out; injection this
    rw [hA] at f2
    have HRP : Bx (RS cstC wb wb.heap.size (some ad) x.pool) := bx (by rw [← hA]; exact HXB.out.pool)
    have HAD := bx hA
    clear hq hc hct hk hA
    go_upto_region 3 with (go_at_call 50; refine (is_any _ x.pn _ x.pool _ 7 wb HX.out.pl.1 hpb (by decide) HRP.out).mono ?_; rintro e w' ⟨rfl, rfl⟩; rw [HQ.out])
    have f0 := HKB.out.im0 HCS.out
    have f1 := HKB.out.im1 HCS.out
    have f3 := HKB.out.im3 HCS.out
    have f4 := HKB.out.im4 HCS.out
    have f5 := HKB.out.im5 HCS.out
    have f6 := HKB.out.im6 HCS.out
    have f7 := HKB.out.im7 HCS.out
    have f8 := HKB.out.im8 HCS.out
    have f9 := HKB.out.im9 HCS.out
    have HTX : Bx (Calls Try.prog 19 #[.agg #[.int .i64 x.minor, .int .i64 x.major, .slice (some ad) x.pn x.pc, .int .i64 x.access, .int .i64 x.this, .int .i64 x.super, .slice x.iA x.i_n x.ic, .slice x.fA x.fn x.fc, .slice x.mA x.mn x.mc, .slice x.aA x.an x.ac], .int .i64 c.a] wb.drew (TextPost T wb.drew)) := bx (by
      rw [HN.out]
      have h9 := text_any x c.a wb.drew (HXB.out.up (below_drewN (Below.refl _ _) 1))
      have e9 : (.agg (imC x) : Value) = .agg #[.int .i64 x.minor, .int .i64 x.major, .slice (some ad) x.pn x.pc, .int .i64 x.access, .int .i64 x.this, .int .i64 x.super, .slice x.iA x.i_n x.ic, .slice x.fA x.fn x.fc, .slice x.mA x.mn x.mc, .slice x.aA x.an x.ac] := by unfold imC; rw [HAD.out]
      rw [e9] at h9
      exact h9)
    have hS5 : (fun w' => w'.cell? ⟨B, 0, none⟩ = some (.int .i64 x.minor) ∧ w'.cell? ⟨B, 1, none⟩ = some (.int .i64 x.major) ∧ w'.cell? ⟨B, 2, none⟩ = some (.slice (some ad) x.pn x.pc) ∧ w'.cell? ⟨B, 3, none⟩ = some (.int .i64 x.access) ∧ w'.cell? ⟨B, 4, none⟩ = some (.int .i64 x.this) ∧ w'.cell? ⟨B, 5, none⟩ = some (.int .i64 x.super) ∧ w'.cell? ⟨B, 6, none⟩ = some (.slice x.iA x.i_n x.ic) ∧ w'.cell? ⟨B, 7, none⟩ = some (.slice x.fA x.fn x.fc) ∧ w'.cell? ⟨B, 8, none⟩ = some (.slice x.mA x.mn x.mc) ∧ w'.cell? ⟨B, 9, none⟩ = some (.slice x.aA x.an x.ac) ∧ w'.cell? ⟨(ad.add (k * 5)).block, (ad.add (k * 5)).off + 1, none⟩ = some (.int .i64 c.a)) wb := ⟨f0, f1, f2, f3, f4, f5, f6, f7, f8, f9, p1⟩
    have HLT : Bx ((ad.add (k * 5)).block < wb.heap.size) := bx (by rw [blk_add]; assumption)
    clear HT HN p0 p2 p3 p4
    go_region_held3 (fun w' => w'.cell? ⟨B, 0, none⟩ = some (.int .i64 x.minor) ∧ w'.cell? ⟨B, 1, none⟩ = some (.int .i64 x.major) ∧ w'.cell? ⟨B, 2, none⟩ = some (.slice (some ad) x.pn x.pc) ∧ w'.cell? ⟨B, 3, none⟩ = some (.int .i64 x.access) ∧ w'.cell? ⟨B, 4, none⟩ = some (.int .i64 x.this) ∧ w'.cell? ⟨B, 5, none⟩ = some (.int .i64 x.super) ∧ w'.cell? ⟨B, 6, none⟩ = some (.slice x.iA x.i_n x.ic) ∧ w'.cell? ⟨B, 7, none⟩ = some (.slice x.fA x.fn x.fc) ∧ w'.cell? ⟨B, 8, none⟩ = some (.slice x.mA x.mn x.mc) ∧ w'.cell? ⟨B, 9, none⟩ = some (.slice x.aA x.an x.ac) ∧ w'.cell? ⟨(ad.add (k * 5)).block, (ad.add (k * 5)).off + 1, none⟩ = some (.int .i64 c.a)) (first | exact hS5 | exact hS6) ((go_at_call 19; refine HTX.out.mono ?_; rintro e w6 ⟨rfl, hb6⟩; have hK6 := (HKB.out.drewN 1).below hb6 (HKB.out.drewN 1).lt; have HB6 := bx hb6; have hS6 : (fun w' => w'.cell? ⟨B, 0, none⟩ = some (.int .i64 x.minor) ∧ w'.cell? ⟨B, 1, none⟩ = some (.int .i64 x.major) ∧ w'.cell? ⟨B, 2, none⟩ = some (.slice (some ad) x.pn x.pc) ∧ w'.cell? ⟨B, 3, none⟩ = some (.int .i64 x.access) ∧ w'.cell? ⟨B, 4, none⟩ = some (.int .i64 x.this) ∧ w'.cell? ⟨B, 5, none⟩ = some (.int .i64 x.super) ∧ w'.cell? ⟨B, 6, none⟩ = some (.slice x.iA x.i_n x.ic) ∧ w'.cell? ⟨B, 7, none⟩ = some (.slice x.fA x.fn x.fc) ∧ w'.cell? ⟨B, 8, none⟩ = some (.slice x.mA x.mn x.mc) ∧ w'.cell? ⟨B, 9, none⟩ = some (.slice x.aA x.an x.ac) ∧ w'.cell? ⟨(ad.add (k * 5)).block, (ad.add (k * 5)).off + 1, none⟩ = some (.int .i64 c.a)) w6 := ⟨hK6.im0 HCS.out, hK6.im1 HCS.out, (hK6.im2 HCS.out).trans (by rw [HAD.out]), hK6.im3 HCS.out, hK6.im4 HCS.out, hK6.im5 HCS.out, hK6.im6 HCS.out, hK6.im7 HCS.out, hK6.im8 HCS.out, hK6.im9 HCS.out, (hb6.cell (p := ⟨(ad.add (k * 5)).block, (ad.add (k * 5)).off + 1, none⟩) HLT.out).trans p1⟩))
    all_goals (
      go_wp2
      go_ret2
      exact ⟨rfl, (below_drewN HBB.out 1).trans (HB6.out.mono HBB.out.size)⟩)
end Go.Proofs.Ytdioijhmmmnbgaa
