/- Contract of the document's reading: constant. -/
import Derived.Test.YtdioijhmmmnbgaaQiRqB
import Derived.Test.YtdioijhmmmnbgaaQiImD
import Derived.Test.YtdioijhmmmnbgaaQiImG
import Derived.Test.YtdioijhmmmnbgaaPi5
namespace Go.Proofs.Ytdioijhmmmnbgaa
open Go.RowKit
theorem sgn_four {y : Nat} (h : y < 256 ^ 4) : signV 4 (wrap64 (y : Int)) = sgn32 y := by
  have e : signV ((4 : Nat) : Int) (wrap64 (y : Int)) = _ := signV_less 4 y (by decide) (by decide) h
  have p4 : (256 : Nat) ^ 4 = 4294967296 := by decide
  rw [p4] at e h
  refine e.trans ?_
  unfold sgn32
  rw [show wrap64 (y : Int) = y from IntWalk.wrap64_in _ ⟨by omega, by omega⟩]
  split <;> split <;> omega
/-- say of Off, behind Signed. -/
theorem rsay_off (g : Nat) (b : List UInt8) (a : Nat) (bd : Bool) (w : World) (h : Rdq 0 w g b a bd) :
    Calls Try.prog 32 #[.pointer (some ⟨g, 0, none⟩), .bool bd, .int .i64 2] w fun e w' => (∃ v, e = .returned v) ∧ Rg w' g b (if bd = true then .err 2 else .ok a) ∧ Ch w w' (Onl g) := by
  cases bd with
  | false => exact rsay_any g b (.ok a) false 2 w (Rg.of_ok h) (by decide)
  | true =>
    have HD := bx h
    obtain ⟨_, _, c3, f3, hlt⟩ := h.cells
    clear h
    go_enter Try.func32, Try.ntmps32
    go_wp2
    go_end0
    exact ⟨⟨_, rfl⟩, Rg.of_err (HD.out.fail 2) (by decide), onl_set _ _⟩
/-- What reading a constant leaves. -/
def CstPostQ (w : World) (g : Nat) (b : List UInt8) (R : Rz (Cst × Nat)) (e : Ending) (w' : World) : Prop := ∃ c : Cst, e = .returned (.agg (cstC c).toArray) ∧ Rg w' g b (stR R) ∧ Ch w w' (Onl g) ∧ (∀ x, R = .ok x → c = x.1) ∧ c.text.length ≤ b.length
set_option maxRecDepth 100000 in
set_option maxHeartbeats 8000000 in
theorem rconst_any (g p : Nat) (b : List UInt8) (w : World) (h : Rg w g b (.ok p)) (hb : b.length ≤ 1000000) :
    Calls Try.prog 34 #[.pointer (some ⟨g, 0, none⟩)] w (CstPostQ w g b (onR (.ok p) cstP b)) := by
  obtain ⟨R, hR⟩ : ∃ R, onR (.ok p) cstP b = R := ⟨_, rfl⟩
  rw [hR]
  have HR := bx hR
  obtain ⟨B, hB⟩ : ∃ B, w.heap.size = B := ⟨_, rfl⟩
  have HB := bx hB
  have hlt := h.lt
  have hg9 : g < B := by omega
  have HKZ0 := bx (Bk.newAt w 53 #[.int .i64 0, .int .i64 0, .int .i64 0, .int .i64 0, .string ⟨#[]⟩] hB)
  have HS0 := bx (h.below (bl_alloc (Below.refl _ _) (Nat.le_refl _) (.cells #[.int .i64 0, .int .i64 0, .int .i64 0, .int .i64 0, .string ⟨#[]⟩] 53)))
  have HC0 : Bx (Ch w (w.alloc (.cells #[.int .i64 0, .int .i64 0, .int .i64 0, .int .i64 0, .string ⟨#[]⟩] 53)) (Onl g)) := bx ((Ch.refl w).alloc _)
  clear h hR hlt hB
  go_enter Try.func34, Try.ntmps34
  go_upto_region 1 with (fail)
  rw [HB.out]
  generalize w.alloc (.cells #[.int .i64 0, .int .i64 0, .int .i64 0, .int .i64 0, .string ⟨#[]⟩] 53) = w0 at HKZ0 HS0 HC0 ⊢
  obtain ⟨r1, h1⟩ : ∃ r1, onR (.ok p) (rdN 1) b = r1 := ⟨_, rfl⟩
  have HN1 := bx (rnum_ok g 1 256 b p w0 HS0.out (by decide) (by decide) (by decide))
  rw [h1] at HN1
  have H1 := bx h1
  clear h1
  go_wp2_with fail
  refine HN1.out.mono ?_
  rintro e w1 ⟨v1, rfl, hv10, hv11, hx1, hs1, hc1, hz1⟩
  have HNO := bx hz1
  have HV1 := bx hx1
  have HKZ1 := bx (HKZ0.out.ch hc1 (fun h => by have := Onl.lt hg9 B h; omega))
  have HC1 := bx (HC0.out.trans hc1 (fun _ _ h => h))
  obtain ⟨ga, hga⟩ : ∃ ga, w1.heap.size = ga := ⟨_, rfl⟩
  have HGA := bx hga
  have hzB : B < ga := by rw [← hga]; exact HKZ1.out.lt
  have HK2 := bx (Bk.newAt w1 53 #[.int .i64 v1, .int .i64 0, .int .i64 0, .int .i64 0, .string ⟨#[]⟩] hga)
  have HKZ2 := bx (HKZ1.out.alloc (.cells #[.int .i64 v1, .int .i64 0, .int .i64 0, .int .i64 0, .string ⟨#[]⟩] 53))
  have HS2 := bx (hs1.below (bl_alloc (Below.refl _ _) (Nat.le_refl _) (.cells #[.int .i64 v1, .int .i64 0, .int .i64 0, .int .i64 0, .string ⟨#[]⟩] 53)))
  have HC2 := bx (HC1.out.alloc (.cells #[.int .i64 v1, .int .i64 0, .int .i64 0, .int .i64 0, .string ⟨#[]⟩] 53))
  clear hs1 hc1 hx1 hz1 HN1 HKZ0 HS0 HC0 HKZ1 HC1 hga
  go_upto_region 2 with (fail)
  rw [HGA.out]
  generalize w1.alloc (.cells #[.int .i64 v1, .int .i64 0, .int .i64 0, .int .i64 0, .string ⟨#[]⟩] 53) = w2 at HK2 HKZ2 HS2 HC2 ⊢
  have hc0 : w2.cell? ⟨ga, 0, none⟩ = some (.int .i64 v1) := (HK2.out.cell 0).trans rfl
  by_cases hoth : v1 ≠ 1 ∧ v1 ≠ 3 ∧ v1 ≠ 5 ∧ v1 ≠ 7 ∧ v1 ≠ 8 ∧ v1 ≠ 9 ∧ v1 ≠ 10 ∧ v1 ≠ 11 ∧ v1 ≠ 12
  · obtain ⟨o1, o3, o5, o7, o8, o9, o10, o11, o12⟩ := hoth
    have d1 : (v1 == 1) = false := by simpa using o1
    have d3 : (v1 == 3) = false := by simpa using o3
    have d5 : (v1 == 5) = false := by simpa using o5
    have d7 : (v1 == 7) = false := by simpa using o7
    have d8 : (v1 == 8) = false := by simpa using o8
    have d9 : (v1 == 9) = false := by simpa using o9
    have d10 : (v1 == 10) = false := by simpa using o10
    have d11 : (v1 == 11) = false := by simpa using o11
    have d12 : (v1 == 12) = false := by simpa using o12
    have HST : Bx (stR R = failR (stR r1) 24 ∧ ∀ x, R ≠ .ok x) := bx (by
      cases r1 with
      | err k => rw [← HR.out, cst_bad H1.out]; exact ⟨rfl, fun x e => err_no e⟩
      | ok y =>
        obtain ⟨t, p⟩ := y
        have hv : v1 = (t : Int) := HV1.out _ rfl
        rw [← HR.out, cst_tag H1.out, cst_none (by omega)]
        exact ⟨rfl, fun x e => err_no e⟩)
    have HF := bx (rsay_any g b _ true 24 w2 HS2.out (by decide))
    clear o1 o3 o5 o7 o8 o9 o10 o11 o12 HS2
    go_wp2_with fail
    refine HF.out.mono ?_
    rintro e w3 ⟨⟨v, rfl⟩, hs3, hc3⟩
    have HK3 := bx (HK2.out.ch hc3 (fun h => by have := Onl.lt hg9 ga h; omega))
    have HKZ3 := bx (HKZ2.out.ch hc3 (fun h => by have := Onl.lt hg9 B h; omega))
    have HC3 := bx (HC2.out.trans hc3 (fun _ _ h => h))
    have HS3 : Bx (Rg w3 g b (failR (stR r1) 24)) := bx hs3
    clear hs3 hc3 HF HK2 HKZ2 HC2 hc0 d1 d3 d5 d7 d8 d9 d10 d11 d12
    have k0 : w3.cell? ⟨ga, 0, none⟩ = some (.int .i64 v1) := (HK3.out.cell 0).trans rfl
    have k1 : w3.cell? ⟨ga, 1, none⟩ = some (.int .i64 0) := (HK3.out.cell 1).trans rfl
    have k2 : w3.cell? ⟨ga, 2, none⟩ = some (.int .i64 0) := (HK3.out.cell 2).trans rfl
    have k3 : w3.cell? ⟨ga, 3, none⟩ = some (.int .i64 0) := (HK3.out.cell 3).trans rfl
    have k4 : w3.cell? ⟨ga, 4, none⟩ = some (.string ⟨#[]⟩) := (HK3.out.cell 4).trans rfl
    have z0 : w3.cell? ⟨B, 0, none⟩ = some (.int .i64 0) := (HKZ3.out.cell 0).trans rfl
    have z1 : w3.cell? ⟨B, 1, none⟩ = some (.int .i64 0) := (HKZ3.out.cell 1).trans rfl
    have z2 : w3.cell? ⟨B, 2, none⟩ = some (.int .i64 0) := (HKZ3.out.cell 2).trans rfl
    have z3 : w3.cell? ⟨B, 3, none⟩ = some (.int .i64 0) := (HKZ3.out.cell 3).trans rfl
    have z4 : w3.cell? ⟨B, 4, none⟩ = some (.string ⟨#[]⟩) := (HKZ3.out.cell 4).trans rfl
    have f0 := HKZ3.out.frz 0
    have f1 := HKZ3.out.frz 1
    have f2 := HKZ3.out.frz 2
    have f3 := HKZ3.out.frz 3
    have f4 := HKZ3.out.frz 4
    go_wp2
    have HZ9 := bx (bk_store5 HKZ3.out (.int .i64 v1) (.int .i64 0) (.int .i64 0) (.int .i64 0) (.string ⟨#[]⟩))
    have HB9 := bx (bl_store5 (B := B) (Below.refl B w3) (.int .i64 v1) (.int .i64 0) (.int .i64 0) (.int .i64 0) (.string ⟨#[]⟩))
    have HC9 := bx (ch_store5 HC3.out (Nat.le_of_eq HB.out) (.int .i64 v1) (.int .i64 0) (.int .i64 0) (.int .i64 0) (.string ⟨#[]⟩))
    have HS9 := bx (HS3.out.low HB9.out hg9)
    generalize (((((w3.setCell ⟨B, 0, none⟩ (.int .i64 v1)).setCell ⟨B, 1, none⟩ (.int .i64 0)).setCell ⟨B, 2, none⟩ (.int .i64 0)).setCell ⟨B, 3, none⟩ (.int .i64 0)).setCell ⟨B, 4, none⟩ (.string ⟨#[]⟩)) = w9 at HZ9 HB9 HC9 HS9 ⊢
    have e0 : w9.cell? ⟨B, 0, none⟩ = some (.int .i64 v1) := (HZ9.out.cell 0).trans rfl
    have e1 : w9.cell? ⟨B, 1, none⟩ = some (.int .i64 0) := (HZ9.out.cell 1).trans rfl
    have e2 : w9.cell? ⟨B, 2, none⟩ = some (.int .i64 0) := (HZ9.out.cell 2).trans rfl
    have e3 : w9.cell? ⟨B, 3, none⟩ = some (.int .i64 0) := (HZ9.out.cell 3).trans rfl
    have e4 : w9.cell? ⟨B, 4, none⟩ = some (.string ⟨#[]⟩) := (HZ9.out.cell 4).trans rfl
    exact bodyPost_ret (v := .agg #[.int .i64 v1, .int .i64 0, .int .i64 0, .int .i64 0, .string ⟨#[]⟩]) (by simp [results, Try.results34, go_sem, e0, e1, e2, e3, e4]) rfl ⟨⟨v1, 0, 0, 0, []⟩, rfl, by rw [HST.out.1]; exact HS9.out, HC9.out, fun x hx => absurd hx (HST.out.2 x), Nat.zero_le _⟩
  · obtain ⟨t, q, hr1⟩ : ∃ t q, r1 = .ok (t, q) := by
      cases r1 with
      | err k =>
        exfalso
        have h9 := HNO.out k rfl
        exact absurd (by omega) hoth
      | ok y => exact ⟨y.1, y.2, rfl⟩
    subst hr1
    have hv : (t : Int) = v1 := (HV1.out _ rfl).symm
    have HRT := bx (cst_tag H1.out)
    rw [HR.out] at HRT
    have HS2 : Bx (Rg w2 g b (.ok q)) := bx HS2.out
    have ht9 : t = 1 ∨ t = 3 ∨ t = 5 ∨ t = 7 ∨ t = 8 ∨ t = 9 ∨ t = 10 ∨ t = 11 ∨ t = 12 := by omega
    clear H1 HV1 hoth HNO
    rcases ht9 with rfl | rfl | rfl | rfl | rfl | rfl | rfl | rfl | rfl
    · obtain rfl : v1 = 1 := by have h9 : ((1 : Nat) : Int) = v1 := hv; omega
      clear hv hv10 hv11
      have d1 : ((1 : Int) == 1) = true := by rfl
      have d3 : ((1 : Int) == 3) = false := by rfl
      have d5 : ((1 : Int) == 5) = false := by rfl
      have d7 : ((1 : Int) == 7) = false := by rfl
      have d8 : ((1 : Int) == 8) = false := by rfl
      have d9 : ((1 : Int) == 9) = false := by rfl
      have d10 : ((1 : Int) == 10) = false := by rfl
      have d11 : ((1 : Int) == 11) = false := by rfl
      have d12 : ((1 : Int) == 12) = false := by rfl
      obtain ⟨r2, h2⟩ : ∃ r, onR (.ok q) (rdN 2) b = r := ⟨_, rfl⟩
      have HN := bx (rnum_any g 2 65536 b (.ok q) w2 HS2.out (by decide) (by decide) (by decide))
      rw [h2] at HN
      have H2 := bx h2
      clear h2
      go_wp2_with fail
      refine HN.out.mono ?_
      rintro e w3 ⟨v2, rfl, hv20, hv21, hv2x, hs3, hc3⟩
      have HK3 := bx (HK2.out.ch hc3 (fun h => by have := Onl.lt hg9 ga h; omega))
      have HKZ3 := bx (HKZ2.out.ch hc3 (fun h => by have := Onl.lt hg9 B h; omega))
      have HC3 := bx (HC2.out.trans hc3 (fun _ _ h => h))
      have HS3 := bx hs3
      have HV2 := bx hv2x
      clear hs3 hc3 HN hv2x
      obtain ⟨s2, hs2⟩ : ∃ s, stR r2 = s := ⟨_, rfl⟩
      rw [hs2] at HS3
      have HSS := bx hs2
      clear hs2
      cases s2 with
      | err k9 =>
        obtain ⟨⟨ae, be, hB1⟩, hk0⟩ := HS3.out.err_
        obtain ⟨_, _, c3, _, yl⟩ := hB1.cells
        have hkI : (k9 == 0) = false := by rw [beq_eq_false_iff_ne]; exact hk0
        have HST : Bx (stR R = .err k9 ∧ ∀ x, R ≠ .ok x) := bx (by
          rw [HRT.out, cst_text (r3 := .err k9) (n := (valN r2).toNat) H2.out (by have := (valN_lt 2 (.ok q) b).1; rw [H2.out] at this; omega) (by rw [HSS.out]; rfl)]
          exact ⟨rfl, fun x e => err_no e⟩)
        have q4 : w3.cell? ⟨ga, 4, none⟩ = some (.string ⟨#[]⟩) := (HK3.out.cell 4).trans rfl
        have HU := bx (refUnits_post ⟨#[]⟩ w3 (by decide))
        clear hB1 hk0
        go_wp2_with fail
        refine HU.out.mono ?_
        rintro e w6 ⟨AU, nU, cU, rfl, _, _, hb6⟩
        have HK6 := bx (HK3.out.below hb6 HK3.out.lt)
        have HKZ6 := bx (HKZ3.out.below hb6 HKZ3.out.lt)
        have HC6 := bx (HC3.out.trans (Ch.of_below (S := Onl g) hb6) (fun _ _ h => h))
        have HS6 := bx (HS3.out.below hb6)
        have hz6 : (unitsV ([] : List UInt8)).2 = 0 := units_0 (by decide)
        have hz6 : (unitsV (⟨#[]⟩ : ByteArray).data.toList).2 = 0 := hz6
        rw [hz6]
        have HF := bx (rsay_any g b (.err k9) false 23 w6 HS6.out (by decide))
        clear hb6 HU HK3 HKZ3 HC3 HS3 q4 c3 hkI yl hz6 HSS
        go_wp2_with fail
        refine HF.out.mono ?_
        rintro e w7 ⟨⟨v, rfl⟩, hs3, hc3⟩
        have HK7 := bx (HK6.out.ch hc3 (fun h => by have := Onl.lt hg9 ga h; omega))
        have HKZ7 := bx (HKZ6.out.ch hc3 (fun h => by have := Onl.lt hg9 B h; omega))
        have HC7 := bx (HC6.out.trans hc3 (fun _ _ h => h))
        have HS7 : Bx (Rg w7 g b (.err k9)) := bx hs3
        clear hs3 hc3 HF HK6 HKZ6 HC6 HS6
        have k0 : w7.cell? ⟨ga, 0, none⟩ = some (.int .i64 1) := (HK7.out.cell 0).trans rfl
        have k1 : w7.cell? ⟨ga, 1, none⟩ = some (.int .i64 0) := (HK7.out.cell 1).trans rfl
        have k2 : w7.cell? ⟨ga, 2, none⟩ = some (.int .i64 0) := (HK7.out.cell 2).trans rfl
        have k3 : w7.cell? ⟨ga, 3, none⟩ = some (.int .i64 0) := (HK7.out.cell 3).trans rfl
        have k4 : w7.cell? ⟨ga, 4, none⟩ = some (.string ⟨#[]⟩) := (HK7.out.cell 4).trans rfl
        have z0 : w7.cell? ⟨B, 0, none⟩ = some (.int .i64 0) := (HKZ7.out.cell 0).trans rfl
        have z1 : w7.cell? ⟨B, 1, none⟩ = some (.int .i64 0) := (HKZ7.out.cell 1).trans rfl
        have z2 : w7.cell? ⟨B, 2, none⟩ = some (.int .i64 0) := (HKZ7.out.cell 2).trans rfl
        have z3 : w7.cell? ⟨B, 3, none⟩ = some (.int .i64 0) := (HKZ7.out.cell 3).trans rfl
        have z4 : w7.cell? ⟨B, 4, none⟩ = some (.string ⟨#[]⟩) := (HKZ7.out.cell 4).trans rfl
        have f0 := HKZ7.out.frz 0
        have f1 := HKZ7.out.frz 1
        have f2 := HKZ7.out.frz 2
        have f3 := HKZ7.out.frz 3
        have f4 := HKZ7.out.frz 4
        go_wp2
        have HZ9 := bx (bk_store5 HKZ7.out (.int .i64 1) (.int .i64 0) (.int .i64 0) (.int .i64 0) (.string ⟨#[]⟩))
        have HB9 := bx (bl_store5 (B := B) (Below.refl B w7) (.int .i64 1) (.int .i64 0) (.int .i64 0) (.int .i64 0) (.string ⟨#[]⟩))
        have HC9 := bx (ch_store5 HC7.out (Nat.le_of_eq HB.out) (.int .i64 1) (.int .i64 0) (.int .i64 0) (.int .i64 0) (.string ⟨#[]⟩))
        have HS9 := bx (HS7.out.low HB9.out hg9)
        generalize (((((w7.setCell ⟨B, 0, none⟩ (.int .i64 1)).setCell ⟨B, 1, none⟩ (.int .i64 0)).setCell ⟨B, 2, none⟩ (.int .i64 0)).setCell ⟨B, 3, none⟩ (.int .i64 0)).setCell ⟨B, 4, none⟩ (.string ⟨#[]⟩)) = w9 at HZ9 HB9 HC9 HS9 ⊢
        have e0 : w9.cell? ⟨B, 0, none⟩ = some (.int .i64 1) := (HZ9.out.cell 0).trans rfl
        have e1 : w9.cell? ⟨B, 1, none⟩ = some (.int .i64 0) := (HZ9.out.cell 1).trans rfl
        have e2 : w9.cell? ⟨B, 2, none⟩ = some (.int .i64 0) := (HZ9.out.cell 2).trans rfl
        have e3 : w9.cell? ⟨B, 3, none⟩ = some (.int .i64 0) := (HZ9.out.cell 3).trans rfl
        have e4 : w9.cell? ⟨B, 4, none⟩ = some (.string ⟨#[]⟩) := (HZ9.out.cell 4).trans rfl
        exact bodyPost_ret (v := .agg #[.int .i64 1, .int .i64 0, .int .i64 0, .int .i64 0, .string ⟨#[]⟩]) (by simp [results, Try.results34, go_sem, e0, e1, e2, e3, e4]) rfl ⟨⟨1, 0, 0, 0, []⟩, rfl, by rw [HST.out.1]; exact HS9.out, HC9.out, fun x hx => absurd hx (HST.out.2 x), Nat.zero_le _⟩
      | ok p2 =>
        obtain ⟨_, _, c3, _, yl⟩ := HS3.out.ok_.cells
        have HV2N : Bx (v2 = valN r2) := bx (by
          obtain ⟨x2, e2⟩ := st_ok HSS.out
          rw [e2, HV2.out x2 e2]; rfl)
        obtain ⟨n2, rfl⟩ : ∃ n2 : Nat, v2 = (n2 : Int) := ⟨v2.toNat, by omega⟩
        obtain ⟨r3, h3⟩ : ∃ r3, onR (stR r2) (rdB n2) b = r3 := ⟨_, rfl⟩
        have HP := bx (rbytes_ok g n2 p2 b w3 HS3.out)
        have hlen := valB_len n2 (stR r2) b
        have hh3 := h3
        rw [HSS.out] at hh3
        rw [hh3] at HP
        rw [h3] at hlen
        have H3 := bx h3
        unfold RBytPost at HP
        obtain ⟨l, hl⟩ : ∃ l, valB r3 = l := ⟨_, rfl⟩
        rw [hl] at HP hlen
        have HL := bx hl
        have HLN := bx hlen
        clear h3 hh3 hl hlen
        go_wp2_with fail
        refine HP.out.mono ?_
        rintro e w4 ⟨⟨v, rfl, ho4⟩, hs3, hc3⟩
        have HK4 := bx (HK3.out.ch hc3 (fun h => by have := Onl.lt hg9 ga h; omega))
        have HKZ4 := bx (HKZ3.out.ch hc3 (fun h => by have := Onl.lt hg9 B h; omega))
        have HC4 := bx (HC3.out.trans hc3 (fun _ _ h => h))
        have HS4 := bx hs3
        obtain ⟨A4, c4, rfl, hr4, _, _⟩ := OwL.rd ho4
        have hcs := run_conv_str (P := Try.prog) (c := c4) Try.underlying22 Try.underlying5 Try.underlying9 rfl hr4
        clear hs3 hc3 HP ho4 hr4 HK3 HKZ3 HC3 HS3 c3 yl
        have q0 : w4.cell? ⟨ga, 4, none⟩ = some (.string ⟨#[]⟩) := (HK4.out.cell 4).trans rfl
        have qf := HK4.out.frz 4
        have ql := HK4.out.lt
        go_upto_region 8 with (fail)
        have HK5 : Bx (Bk (w4.setCell ⟨ga, 4, none⟩ (.string ⟨l.toArray⟩)) ga 53 #[.int .i64 1, .int .i64 0, .int .i64 0, .int .i64 0, .string ⟨l.toArray⟩]) := bx (by simpa using HK4.out.set 4 (.string ⟨l.toArray⟩))
        have HKZ5 := bx (HKZ4.out.far (p := ⟨ga, 4, none⟩) (by show B ≠ ga; omega) (.string ⟨l.toArray⟩))
        have HC5 := bx (HC4.out.setCell (p := ⟨ga, 4, none⟩) (fun h => absurd (show ga < w.heap.size from h) (by have := HB.out; omega)) (.string ⟨l.toArray⟩))
        have HS5 := bx (HS4.out.low (B := B) ((Below.refl B w4).setCell (p := ⟨ga, 4, none⟩) (Nat.le_of_lt hzB) (.string ⟨l.toArray⟩)) hg9)
        generalize w4.setCell ⟨ga, 4, none⟩ (.string ⟨l.toArray⟩) = w5 at HK5 HKZ5 HC5 HS5 ⊢
        clear HK4 HKZ4 HC4 HS4 q0 qf ql
        clear hcs
        have q4 : w5.cell? ⟨ga, 4, none⟩ = some (.string ⟨l.toArray⟩) := (HK5.out.cell 4).trans rfl
        have HU := bx (refUnits_post ⟨l.toArray⟩ w5 (by have := HLN.out; show l.toArray.size ≤ 2000000; rw [List.size_toArray]; omega))
        go_wp2_with fail
        refine HU.out.mono ?_
        rintro e w6 ⟨AU, nU, cU, rfl, _, _, hb6⟩
        have HK6 := bx (HK5.out.below hb6 HK5.out.lt)
        have HKZ6 := bx (HKZ5.out.below hb6 HKZ5.out.lt)
        have HC6 := bx (HC5.out.trans (Ch.of_below (S := Onl g) hb6) (fun _ _ h => h))
        have HS6 := bx (HS5.out.below hb6)
        clear hb6 HU HK5 HKZ5 HC5 HS5 q4
        by_cases hu : uOk l = true
        · rw [units_0 hu]
          have HF := bx (rsay_any g b (stR r3) false 23 w6 HS6.out (by decide))
          have HST : Bx (stR R = stR r3 ∧ ∀ x, R = .ok x → (⟨1, 0, 0, 0, l⟩ : Cst) = x.1) := bx (by
            rw [HRT.out, cst_text H2.out HV2N.out.symm H3.out]
            cases r3 with
            | err k => exact ⟨rfl, fun x e => err_no e⟩
            | ok z =>
              have hl : z.1 = l := HL.out
              show stR (if uOk z.1 = true then Rz.ok ((⟨1, 0, 0, 0, z.1⟩ : Cst), z.2) else Rz.err 23) = _ ∧ ∀ x, (if uOk z.1 = true then Rz.ok ((⟨1, 0, 0, 0, z.1⟩ : Cst), z.2) else Rz.err 23) = .ok x → _
              rw [if_pos (by rw [hl]; exact hu)]
              refine ⟨rfl, fun x e => ?_⟩
              injection e with e
              rw [← e, hl])
          clear hu
          go_wp2_with fail
          refine HF.out.mono ?_
          rintro e w7 ⟨⟨v, rfl⟩, hs3, hc3⟩
          have HK7 := bx (HK6.out.ch hc3 (fun h => by have := Onl.lt hg9 ga h; omega))
          have HKZ7 := bx (HKZ6.out.ch hc3 (fun h => by have := Onl.lt hg9 B h; omega))
          have HC7 := bx (HC6.out.trans hc3 (fun _ _ h => h))
          have HS7 : Bx (Rg w7 g b (stR r3)) := bx hs3
          clear hs3 hc3 HF HK6 HKZ6 HC6 HS6
          have k0 : w7.cell? ⟨ga, 0, none⟩ = some (.int .i64 1) := (HK7.out.cell 0).trans rfl
          have k1 : w7.cell? ⟨ga, 1, none⟩ = some (.int .i64 0) := (HK7.out.cell 1).trans rfl
          have k2 : w7.cell? ⟨ga, 2, none⟩ = some (.int .i64 0) := (HK7.out.cell 2).trans rfl
          have k3 : w7.cell? ⟨ga, 3, none⟩ = some (.int .i64 0) := (HK7.out.cell 3).trans rfl
          have k4 : w7.cell? ⟨ga, 4, none⟩ = some (.string ⟨l.toArray⟩) := (HK7.out.cell 4).trans rfl
          have z0 : w7.cell? ⟨B, 0, none⟩ = some (.int .i64 0) := (HKZ7.out.cell 0).trans rfl
          have z1 : w7.cell? ⟨B, 1, none⟩ = some (.int .i64 0) := (HKZ7.out.cell 1).trans rfl
          have z2 : w7.cell? ⟨B, 2, none⟩ = some (.int .i64 0) := (HKZ7.out.cell 2).trans rfl
          have z3 : w7.cell? ⟨B, 3, none⟩ = some (.int .i64 0) := (HKZ7.out.cell 3).trans rfl
          have z4 : w7.cell? ⟨B, 4, none⟩ = some (.string ⟨#[]⟩) := (HKZ7.out.cell 4).trans rfl
          have f0 := HKZ7.out.frz 0
          have f1 := HKZ7.out.frz 1
          have f2 := HKZ7.out.frz 2
          have f3 := HKZ7.out.frz 3
          have f4 := HKZ7.out.frz 4
          go_wp2
          have HZ9 := bx (bk_store5 HKZ7.out (.int .i64 1) (.int .i64 0) (.int .i64 0) (.int .i64 0) (.string ⟨l.toArray⟩))
          have HB9 := bx (bl_store5 (B := B) (Below.refl B w7) (.int .i64 1) (.int .i64 0) (.int .i64 0) (.int .i64 0) (.string ⟨l.toArray⟩))
          have HC9 := bx (ch_store5 HC7.out (Nat.le_of_eq HB.out) (.int .i64 1) (.int .i64 0) (.int .i64 0) (.int .i64 0) (.string ⟨l.toArray⟩))
          have HS9 := bx (HS7.out.low HB9.out hg9)
          generalize (((((w7.setCell ⟨B, 0, none⟩ (.int .i64 1)).setCell ⟨B, 1, none⟩ (.int .i64 0)).setCell ⟨B, 2, none⟩ (.int .i64 0)).setCell ⟨B, 3, none⟩ (.int .i64 0)).setCell ⟨B, 4, none⟩ (.string ⟨l.toArray⟩)) = w9 at HZ9 HB9 HC9 HS9 ⊢
          have e0 : w9.cell? ⟨B, 0, none⟩ = some (.int .i64 1) := (HZ9.out.cell 0).trans rfl
          have e1 : w9.cell? ⟨B, 1, none⟩ = some (.int .i64 0) := (HZ9.out.cell 1).trans rfl
          have e2 : w9.cell? ⟨B, 2, none⟩ = some (.int .i64 0) := (HZ9.out.cell 2).trans rfl
          have e3 : w9.cell? ⟨B, 3, none⟩ = some (.int .i64 0) := (HZ9.out.cell 3).trans rfl
          have e4 : w9.cell? ⟨B, 4, none⟩ = some (.string ⟨l.toArray⟩) := (HZ9.out.cell 4).trans rfl
          exact bodyPost_ret (v := .agg #[.int .i64 1, .int .i64 0, .int .i64 0, .int .i64 0, .string ⟨l.toArray⟩]) (by simp [results, Try.results34, go_sem, e0, e1, e2, e3, e4]) rfl ⟨⟨1, 0, 0, 0, l⟩, rfl, by rw [HST.out.1]; exact HS9.out, HC9.out, HST.out.2, HLN.out⟩
        · rw [units_1 (by simpa using hu)]
          have HF := bx (rsay_any g b (stR r3) true 23 w6 HS6.out (by decide))
          have HST : Bx (stR R = failR (stR r3) 23 ∧ ∀ x, R ≠ .ok x) := bx (by
            rw [HRT.out, cst_text H2.out HV2N.out.symm H3.out]
            cases r3 with
            | err k =>
              have hl : ([] : List UInt8) = l := HL.out
              rw [← hl] at hu; exact absurd (by decide) hu
            | ok z =>
              have hl : z.1 = l := HL.out
              show stR (if uOk z.1 = true then Rz.ok ((⟨1, 0, 0, 0, z.1⟩ : Cst), z.2) else Rz.err 23) = _ ∧ ∀ x, (if uOk z.1 = true then Rz.ok ((⟨1, 0, 0, 0, z.1⟩ : Cst), z.2) else Rz.err 23) ≠ .ok x
              rw [if_neg (by rw [hl]; exact hu)]
              exact ⟨rfl, fun x e => err_no e⟩)
          clear hu
          go_wp2_with fail
          refine HF.out.mono ?_
          rintro e w7 ⟨⟨v, rfl⟩, hs3, hc3⟩
          have HK7 := bx (HK6.out.ch hc3 (fun h => by have := Onl.lt hg9 ga h; omega))
          have HKZ7 := bx (HKZ6.out.ch hc3 (fun h => by have := Onl.lt hg9 B h; omega))
          have HC7 := bx (HC6.out.trans hc3 (fun _ _ h => h))
          have HS7 : Bx (Rg w7 g b (failR (stR r3) 23)) := bx hs3
          clear hs3 hc3 HF HK6 HKZ6 HC6 HS6
          have k0 : w7.cell? ⟨ga, 0, none⟩ = some (.int .i64 1) := (HK7.out.cell 0).trans rfl
          have k1 : w7.cell? ⟨ga, 1, none⟩ = some (.int .i64 0) := (HK7.out.cell 1).trans rfl
          have k2 : w7.cell? ⟨ga, 2, none⟩ = some (.int .i64 0) := (HK7.out.cell 2).trans rfl
          have k3 : w7.cell? ⟨ga, 3, none⟩ = some (.int .i64 0) := (HK7.out.cell 3).trans rfl
          have k4 : w7.cell? ⟨ga, 4, none⟩ = some (.string ⟨l.toArray⟩) := (HK7.out.cell 4).trans rfl
          have z0 : w7.cell? ⟨B, 0, none⟩ = some (.int .i64 0) := (HKZ7.out.cell 0).trans rfl
          have z1 : w7.cell? ⟨B, 1, none⟩ = some (.int .i64 0) := (HKZ7.out.cell 1).trans rfl
          have z2 : w7.cell? ⟨B, 2, none⟩ = some (.int .i64 0) := (HKZ7.out.cell 2).trans rfl
          have z3 : w7.cell? ⟨B, 3, none⟩ = some (.int .i64 0) := (HKZ7.out.cell 3).trans rfl
          have z4 : w7.cell? ⟨B, 4, none⟩ = some (.string ⟨#[]⟩) := (HKZ7.out.cell 4).trans rfl
          have f0 := HKZ7.out.frz 0
          have f1 := HKZ7.out.frz 1
          have f2 := HKZ7.out.frz 2
          have f3 := HKZ7.out.frz 3
          have f4 := HKZ7.out.frz 4
          go_wp2
          have HZ9 := bx (bk_store5 HKZ7.out (.int .i64 1) (.int .i64 0) (.int .i64 0) (.int .i64 0) (.string ⟨l.toArray⟩))
          have HB9 := bx (bl_store5 (B := B) (Below.refl B w7) (.int .i64 1) (.int .i64 0) (.int .i64 0) (.int .i64 0) (.string ⟨l.toArray⟩))
          have HC9 := bx (ch_store5 HC7.out (Nat.le_of_eq HB.out) (.int .i64 1) (.int .i64 0) (.int .i64 0) (.int .i64 0) (.string ⟨l.toArray⟩))
          have HS9 := bx (HS7.out.low HB9.out hg9)
          generalize (((((w7.setCell ⟨B, 0, none⟩ (.int .i64 1)).setCell ⟨B, 1, none⟩ (.int .i64 0)).setCell ⟨B, 2, none⟩ (.int .i64 0)).setCell ⟨B, 3, none⟩ (.int .i64 0)).setCell ⟨B, 4, none⟩ (.string ⟨l.toArray⟩)) = w9 at HZ9 HB9 HC9 HS9 ⊢
          have e0 : w9.cell? ⟨B, 0, none⟩ = some (.int .i64 1) := (HZ9.out.cell 0).trans rfl
          have e1 : w9.cell? ⟨B, 1, none⟩ = some (.int .i64 0) := (HZ9.out.cell 1).trans rfl
          have e2 : w9.cell? ⟨B, 2, none⟩ = some (.int .i64 0) := (HZ9.out.cell 2).trans rfl
          have e3 : w9.cell? ⟨B, 3, none⟩ = some (.int .i64 0) := (HZ9.out.cell 3).trans rfl
          have e4 : w9.cell? ⟨B, 4, none⟩ = some (.string ⟨l.toArray⟩) := (HZ9.out.cell 4).trans rfl
          exact bodyPost_ret (v := .agg #[.int .i64 1, .int .i64 0, .int .i64 0, .int .i64 0, .string ⟨l.toArray⟩]) (by simp [results, Try.results34, go_sem, e0, e1, e2, e3, e4]) rfl ⟨⟨1, 0, 0, 0, l⟩, rfl, by rw [HST.out.1]; exact HS9.out, HC9.out, fun x hx => absurd hx (HST.out.2 x), HLN.out⟩
    · obtain rfl : v1 = 3 := by have h9 : ((3 : Nat) : Int) = v1 := hv; omega
      clear hv hv10 hv11
      have d1 : ((3 : Int) == 1) = false := by rfl
      have d3 : ((3 : Int) == 3) = true := by rfl
      have d5 : ((3 : Int) == 5) = false := by rfl
      have d7 : ((3 : Int) == 7) = false := by rfl
      have d8 : ((3 : Int) == 8) = false := by rfl
      have d9 : ((3 : Int) == 9) = false := by rfl
      have d10 : ((3 : Int) == 10) = false := by rfl
      have d11 : ((3 : Int) == 11) = false := by rfl
      have d12 : ((3 : Int) == 12) = false := by rfl
      have hrq := HS2.out.ok_
      have HSG := bx (rqSigned_any g b q false 4 w2 hrq)
      obtain ⟨u2, hu2⟩ : ∃ u, signV 4 (numV b q false 4) = u := ⟨_, rfl⟩
      obtain ⟨a3, ha3⟩ : ∃ a, numAt b q false 4 = a := ⟨_, rfl⟩
      obtain ⟨bd, hbd⟩ : ∃ x, (!okN b q false 4) = x := ⟨_, rfl⟩
      rw [hu2, ha3, hbd] at HSG
      have HST : Bx ((if bd = true then Rz.err 2 else Rz.ok a3) = stR R ∧ ∀ x, R = .ok x → (⟨3, 0, 0, u2, []⟩ : Cst) = x.1) := bx (by
        have hok : okN b q false ((4 : Nat) : Int) = decide (q + 4 ≤ b.length) := okN_le (by decide) (by decide)
        have hok : okN b q false 4 = decide (q + 4 ≤ b.length) := hok
        rw [HRT.out, cst_int rfl, onR_ok]
        unfold rdN
        by_cases hp : q + 4 ≤ b.length
        · rw [decide_eq_true hp] at hok
          rw [if_pos hp, ← hbd, hok, if_neg (by decide), ← ha3]
          refine ⟨?_, fun x e => ?_⟩
          · unfold numAt; rw [hok, if_pos rfl]; rfl
          · have e : Rz.ok _ = Rz.ok x := e
            injection e with e
            rw [← e, ← hu2]
            have hvv : numV b q false 4 = wrap64 ((beN ((b.drop q).take 4) : Nat) : Int) := by unfold numV; rw [hok, if_pos rfl]; rfl
            have hlt : beN ((b.drop q).take 4) < 256 ^ 4 := beN_lt_of _ (by simp; omega)
            have e4 : signV 4 (wrap64 ((beN ((b.drop q).take 4) : Nat) : Int)) = sgn32 (beN ((b.drop q).take 4)) := sgn_four hlt
            rw [hvv, e4]
        · rw [decide_eq_false hp] at hok
          rw [if_neg hp, ← hbd, hok, if_pos (by decide)]
          exact ⟨rfl, fun x e => err_no e⟩)
      clear hrq hu2 ha3 hbd
      have hg2 := HS2.out.lt
      go_wp2_with fail
      refine HSG.out.mono ?_
      rintro e w3 ⟨rfl, hrq3, hgb⟩
      have hc3 := onl_gb hgb
      have HK3 := bx (HK2.out.ch hc3 (fun h => by have := Onl.lt hg9 ga h; omega))
      have HKZ3 := bx (HKZ2.out.ch hc3 (fun h => by have := Onl.lt hg9 B h; omega))
      have HC3 := bx (HC2.out.trans hc3 (fun _ _ h => h))
      have HD3 := bx hrq3
      clear hrq3 hc3 hgb HSG HK2 HKZ2 HC2 HS2
      have q0 : w3.cell? ⟨ga, 3, none⟩ = some (.int .i64 0) := (HK3.out.cell 3).trans rfl
      have qf := HK3.out.frz 3
      have ql := HK3.out.lt
      go_upto_region 16 with (fail)
      have HK4 : Bx (Bk (w3.setCell ⟨ga, 3, none⟩ (.int .i64 u2)) ga 53 #[.int .i64 3, .int .i64 0, .int .i64 0, .int .i64 u2, .string ⟨#[]⟩]) := bx (by simpa using HK3.out.set 3 (.int .i64 u2))
      have HKZ4 := bx (HKZ3.out.far (p := ⟨ga, 3, none⟩) (by show B ≠ ga; omega) (.int .i64 u2))
      have HC4 := bx (HC3.out.setCell (p := ⟨ga, 3, none⟩) (fun h => absurd (show ga < w.heap.size from h) (by have := HB.out; omega)) (.int .i64 u2))
      have HD4 : Bx (Rdq 0 (w3.setCell ⟨ga, 3, none⟩ (.int .i64 u2)) g b a3 bd) := bx (HD3.out.keep (fun k hk => Below.heap_setCell w3 ⟨ga, 3, none⟩ (.int .i64 u2) k (by show k ≠ ga; omega)))
      generalize w3.setCell ⟨ga, 3, none⟩ (.int .i64 u2) = w4 at HK4 HKZ4 HC4 HD4 ⊢
      clear HK3 HKZ3 HC3 HD3 q0 qf ql
      have HSY := bx (rsay_off g b a3 bd w4 HD4.out)
      obtain ⟨_, y2, y3, _, yl⟩ := HD4.out.cells
      go_wp2_with fail
      refine HSY.out.mono ?_
      rintro e w5 ⟨⟨v, rfl⟩, hs3, hc3⟩
      have HK5 := bx (HK4.out.ch hc3 (fun h => by have := Onl.lt hg9 ga h; omega))
      have HKZ5 := bx (HKZ4.out.ch hc3 (fun h => by have := Onl.lt hg9 B h; omega))
      have HC5 := bx (HC4.out.trans hc3 (fun _ _ h => h))
      have HS5 := bx hs3
      clear hs3 hc3 HSY HK4 HKZ4 HC4 HD4 y2 y3 yl
      have k0 : w5.cell? ⟨ga, 0, none⟩ = some (.int .i64 3) := (HK5.out.cell 0).trans rfl
      have k1 : w5.cell? ⟨ga, 1, none⟩ = some (.int .i64 0) := (HK5.out.cell 1).trans rfl
      have k2 : w5.cell? ⟨ga, 2, none⟩ = some (.int .i64 0) := (HK5.out.cell 2).trans rfl
      have k3 : w5.cell? ⟨ga, 3, none⟩ = some (.int .i64 u2) := (HK5.out.cell 3).trans rfl
      have k4 : w5.cell? ⟨ga, 4, none⟩ = some (.string ⟨#[]⟩) := (HK5.out.cell 4).trans rfl
      have z0 : w5.cell? ⟨B, 0, none⟩ = some (.int .i64 0) := (HKZ5.out.cell 0).trans rfl
      have z1 : w5.cell? ⟨B, 1, none⟩ = some (.int .i64 0) := (HKZ5.out.cell 1).trans rfl
      have z2 : w5.cell? ⟨B, 2, none⟩ = some (.int .i64 0) := (HKZ5.out.cell 2).trans rfl
      have z3 : w5.cell? ⟨B, 3, none⟩ = some (.int .i64 0) := (HKZ5.out.cell 3).trans rfl
      have z4 : w5.cell? ⟨B, 4, none⟩ = some (.string ⟨#[]⟩) := (HKZ5.out.cell 4).trans rfl
      have f0 := HKZ5.out.frz 0
      have f1 := HKZ5.out.frz 1
      have f2 := HKZ5.out.frz 2
      have f3 := HKZ5.out.frz 3
      have f4 := HKZ5.out.frz 4
      go_wp2
      have HZ9 := bx (bk_store5 HKZ5.out (.int .i64 3) (.int .i64 0) (.int .i64 0) (.int .i64 u2) (.string ⟨#[]⟩))
      have HB9 := bx (bl_store5 (B := B) (Below.refl B w5) (.int .i64 3) (.int .i64 0) (.int .i64 0) (.int .i64 u2) (.string ⟨#[]⟩))
      have HC9 := bx (ch_store5 HC5.out (Nat.le_of_eq HB.out) (.int .i64 3) (.int .i64 0) (.int .i64 0) (.int .i64 u2) (.string ⟨#[]⟩))
      have HS9 := bx (HS5.out.low HB9.out hg9)
      generalize (((((w5.setCell ⟨B, 0, none⟩ (.int .i64 3)).setCell ⟨B, 1, none⟩ (.int .i64 0)).setCell ⟨B, 2, none⟩ (.int .i64 0)).setCell ⟨B, 3, none⟩ (.int .i64 u2)).setCell ⟨B, 4, none⟩ (.string ⟨#[]⟩)) = w9 at HZ9 HB9 HC9 HS9 ⊢
      have e0 : w9.cell? ⟨B, 0, none⟩ = some (.int .i64 3) := (HZ9.out.cell 0).trans rfl
      have e1 : w9.cell? ⟨B, 1, none⟩ = some (.int .i64 0) := (HZ9.out.cell 1).trans rfl
      have e2 : w9.cell? ⟨B, 2, none⟩ = some (.int .i64 0) := (HZ9.out.cell 2).trans rfl
      have e3 : w9.cell? ⟨B, 3, none⟩ = some (.int .i64 u2) := (HZ9.out.cell 3).trans rfl
      have e4 : w9.cell? ⟨B, 4, none⟩ = some (.string ⟨#[]⟩) := (HZ9.out.cell 4).trans rfl
      exact bodyPost_ret (v := .agg #[.int .i64 3, .int .i64 0, .int .i64 0, .int .i64 u2, .string ⟨#[]⟩]) (by simp [results, Try.results34, go_sem, e0, e1, e2, e3, e4]) rfl ⟨⟨3, 0, 0, u2, []⟩, rfl, by rw [← HST.out.1]; exact HS9.out, HC9.out, HST.out.2, Nat.zero_le _⟩
    · obtain rfl : v1 = 5 := by have h9 : ((5 : Nat) : Int) = v1 := hv; omega
      clear hv hv10 hv11
      have d1 : ((5 : Int) == 1) = false := by rfl
      have d3 : ((5 : Int) == 3) = false := by rfl
      have d5 : ((5 : Int) == 5) = true := by rfl
      have d7 : ((5 : Int) == 7) = false := by rfl
      have d8 : ((5 : Int) == 8) = false := by rfl
      have d9 : ((5 : Int) == 9) = false := by rfl
      have d10 : ((5 : Int) == 10) = false := by rfl
      have d11 : ((5 : Int) == 11) = false := by rfl
      have d12 : ((5 : Int) == 12) = false := by rfl
      have hrq := HS2.out.ok_
      have HSG := bx (rqSigned_any g b q false 8 w2 hrq)
      obtain ⟨u2, hu2⟩ : ∃ u, signV 8 (numV b q false 8) = u := ⟨_, rfl⟩
      obtain ⟨a3, ha3⟩ : ∃ a, numAt b q false 8 = a := ⟨_, rfl⟩
      obtain ⟨bd, hbd⟩ : ∃ x, (!okN b q false 8) = x := ⟨_, rfl⟩
      rw [hu2, ha3, hbd] at HSG
      have HST : Bx ((if bd = true then Rz.err 2 else Rz.ok a3) = stR R ∧ ∀ x, R = .ok x → (⟨5, 0, 0, u2, []⟩ : Cst) = x.1) := bx (by
        have hok : okN b q false ((8 : Nat) : Int) = decide (q + 8 ≤ b.length) := okN_le (by decide) (by decide)
        have hok : okN b q false 8 = decide (q + 8 ≤ b.length) := hok
        rw [HRT.out, cst_long rfl, onR_ok]
        unfold rdN
        by_cases hp : q + 8 ≤ b.length
        · rw [decide_eq_true hp] at hok
          rw [if_pos hp, ← hbd, hok, if_neg (by decide), ← ha3]
          refine ⟨?_, fun x e => ?_⟩
          · unfold numAt; rw [hok, if_pos rfl]; rfl
          · have e : Rz.ok _ = Rz.ok x := e
            injection e with e
            rw [← e, ← hu2]
            have hvv : numV b q false 8 = wrap64 ((beN ((b.drop q).take 8) : Nat) : Int) := by unfold numV; rw [hok, if_pos rfl]; rfl
            rw [hvv, signV_eight]
        · rw [decide_eq_false hp] at hok
          rw [if_neg hp, ← hbd, hok, if_pos (by decide)]
          exact ⟨rfl, fun x e => err_no e⟩)
      clear hrq hu2 ha3 hbd
      have hg2 := HS2.out.lt
      go_wp2_with fail
      refine HSG.out.mono ?_
      rintro e w3 ⟨rfl, hrq3, hgb⟩
      have hc3 := onl_gb hgb
      have HK3 := bx (HK2.out.ch hc3 (fun h => by have := Onl.lt hg9 ga h; omega))
      have HKZ3 := bx (HKZ2.out.ch hc3 (fun h => by have := Onl.lt hg9 B h; omega))
      have HC3 := bx (HC2.out.trans hc3 (fun _ _ h => h))
      have HD3 := bx hrq3
      clear hrq3 hc3 hgb HSG HK2 HKZ2 HC2 HS2
      have q0 : w3.cell? ⟨ga, 3, none⟩ = some (.int .i64 0) := (HK3.out.cell 3).trans rfl
      have qf := HK3.out.frz 3
      have ql := HK3.out.lt
      go_upto_region 16 with (fail)
      have HK4 : Bx (Bk (w3.setCell ⟨ga, 3, none⟩ (.int .i64 u2)) ga 53 #[.int .i64 5, .int .i64 0, .int .i64 0, .int .i64 u2, .string ⟨#[]⟩]) := bx (by simpa using HK3.out.set 3 (.int .i64 u2))
      have HKZ4 := bx (HKZ3.out.far (p := ⟨ga, 3, none⟩) (by show B ≠ ga; omega) (.int .i64 u2))
      have HC4 := bx (HC3.out.setCell (p := ⟨ga, 3, none⟩) (fun h => absurd (show ga < w.heap.size from h) (by have := HB.out; omega)) (.int .i64 u2))
      have HD4 : Bx (Rdq 0 (w3.setCell ⟨ga, 3, none⟩ (.int .i64 u2)) g b a3 bd) := bx (HD3.out.keep (fun k hk => Below.heap_setCell w3 ⟨ga, 3, none⟩ (.int .i64 u2) k (by show k ≠ ga; omega)))
      generalize w3.setCell ⟨ga, 3, none⟩ (.int .i64 u2) = w4 at HK4 HKZ4 HC4 HD4 ⊢
      clear HK3 HKZ3 HC3 HD3 q0 qf ql
      have HSY := bx (rsay_off g b a3 bd w4 HD4.out)
      obtain ⟨_, y2, y3, _, yl⟩ := HD4.out.cells
      go_wp2_with fail
      refine HSY.out.mono ?_
      rintro e w5 ⟨⟨v, rfl⟩, hs3, hc3⟩
      have HK5 := bx (HK4.out.ch hc3 (fun h => by have := Onl.lt hg9 ga h; omega))
      have HKZ5 := bx (HKZ4.out.ch hc3 (fun h => by have := Onl.lt hg9 B h; omega))
      have HC5 := bx (HC4.out.trans hc3 (fun _ _ h => h))
      have HS5 := bx hs3
      clear hs3 hc3 HSY HK4 HKZ4 HC4 HD4 y2 y3 yl
      have k0 : w5.cell? ⟨ga, 0, none⟩ = some (.int .i64 5) := (HK5.out.cell 0).trans rfl
      have k1 : w5.cell? ⟨ga, 1, none⟩ = some (.int .i64 0) := (HK5.out.cell 1).trans rfl
      have k2 : w5.cell? ⟨ga, 2, none⟩ = some (.int .i64 0) := (HK5.out.cell 2).trans rfl
      have k3 : w5.cell? ⟨ga, 3, none⟩ = some (.int .i64 u2) := (HK5.out.cell 3).trans rfl
      have k4 : w5.cell? ⟨ga, 4, none⟩ = some (.string ⟨#[]⟩) := (HK5.out.cell 4).trans rfl
      have z0 : w5.cell? ⟨B, 0, none⟩ = some (.int .i64 0) := (HKZ5.out.cell 0).trans rfl
      have z1 : w5.cell? ⟨B, 1, none⟩ = some (.int .i64 0) := (HKZ5.out.cell 1).trans rfl
      have z2 : w5.cell? ⟨B, 2, none⟩ = some (.int .i64 0) := (HKZ5.out.cell 2).trans rfl
      have z3 : w5.cell? ⟨B, 3, none⟩ = some (.int .i64 0) := (HKZ5.out.cell 3).trans rfl
      have z4 : w5.cell? ⟨B, 4, none⟩ = some (.string ⟨#[]⟩) := (HKZ5.out.cell 4).trans rfl
      have f0 := HKZ5.out.frz 0
      have f1 := HKZ5.out.frz 1
      have f2 := HKZ5.out.frz 2
      have f3 := HKZ5.out.frz 3
      have f4 := HKZ5.out.frz 4
      go_wp2
      have HZ9 := bx (bk_store5 HKZ5.out (.int .i64 5) (.int .i64 0) (.int .i64 0) (.int .i64 u2) (.string ⟨#[]⟩))
      have HB9 := bx (bl_store5 (B := B) (Below.refl B w5) (.int .i64 5) (.int .i64 0) (.int .i64 0) (.int .i64 u2) (.string ⟨#[]⟩))
      have HC9 := bx (ch_store5 HC5.out (Nat.le_of_eq HB.out) (.int .i64 5) (.int .i64 0) (.int .i64 0) (.int .i64 u2) (.string ⟨#[]⟩))
      have HS9 := bx (HS5.out.low HB9.out hg9)
      generalize (((((w5.setCell ⟨B, 0, none⟩ (.int .i64 5)).setCell ⟨B, 1, none⟩ (.int .i64 0)).setCell ⟨B, 2, none⟩ (.int .i64 0)).setCell ⟨B, 3, none⟩ (.int .i64 u2)).setCell ⟨B, 4, none⟩ (.string ⟨#[]⟩)) = w9 at HZ9 HB9 HC9 HS9 ⊢
      have e0 : w9.cell? ⟨B, 0, none⟩ = some (.int .i64 5) := (HZ9.out.cell 0).trans rfl
      have e1 : w9.cell? ⟨B, 1, none⟩ = some (.int .i64 0) := (HZ9.out.cell 1).trans rfl
      have e2 : w9.cell? ⟨B, 2, none⟩ = some (.int .i64 0) := (HZ9.out.cell 2).trans rfl
      have e3 : w9.cell? ⟨B, 3, none⟩ = some (.int .i64 u2) := (HZ9.out.cell 3).trans rfl
      have e4 : w9.cell? ⟨B, 4, none⟩ = some (.string ⟨#[]⟩) := (HZ9.out.cell 4).trans rfl
      exact bodyPost_ret (v := .agg #[.int .i64 5, .int .i64 0, .int .i64 0, .int .i64 u2, .string ⟨#[]⟩]) (by simp [results, Try.results34, go_sem, e0, e1, e2, e3, e4]) rfl ⟨⟨5, 0, 0, u2, []⟩, rfl, by rw [← HST.out.1]; exact HS9.out, HC9.out, HST.out.2, Nat.zero_le _⟩
    · obtain rfl : v1 = 7 := by have h9 : ((7 : Nat) : Int) = v1 := hv; omega
      clear hv hv10 hv11
      have d1 : ((7 : Int) == 1) = false := by rfl
      have d3 : ((7 : Int) == 3) = false := by rfl
      have d5 : ((7 : Int) == 5) = false := by rfl
      have d7 : ((7 : Int) == 7) = true := by rfl
      have d8 : ((7 : Int) == 8) = false := by rfl
      have d9 : ((7 : Int) == 9) = false := by rfl
      have d10 : ((7 : Int) == 10) = false := by rfl
      have d11 : ((7 : Int) == 11) = false := by rfl
      have d12 : ((7 : Int) == 12) = false := by rfl
      obtain ⟨r2, h2⟩ : ∃ r, onR (.ok q) (rdN 2) b = r := ⟨_, rfl⟩
      have HN := bx (rnum_any g 2 65536 b (.ok q) w2 HS2.out (by decide) (by decide) (by decide))
      rw [h2] at HN
      have H2 := bx h2
      clear h2
      go_wp2_with fail
      refine HN.out.mono ?_
      rintro e w3 ⟨v2, rfl, hv20, hv21, hv2x, hs3, hc3⟩
      have HK3 := bx (HK2.out.ch hc3 (fun h => by have := Onl.lt hg9 ga h; omega))
      have HKZ3 := bx (HKZ2.out.ch hc3 (fun h => by have := Onl.lt hg9 B h; omega))
      have HC3 := bx (HC2.out.trans hc3 (fun _ _ h => h))
      have HS3 := bx hs3
      have HV2 := bx hv2x
      clear hs3 hc3 HN hv2x
      have q0 : w3.cell? ⟨ga, 1, none⟩ = some (.int .i64 0) := (HK3.out.cell 1).trans rfl
      have qf := HK3.out.frz 1
      have ql := HK3.out.lt
      go_upto_region 26 with (fail)
      have HK4 : Bx (Bk (w3.setCell ⟨ga, 1, none⟩ (.int .i64 v2)) ga 53 #[.int .i64 7, .int .i64 v2, .int .i64 0, .int .i64 0, .string ⟨#[]⟩]) := bx (by simpa using HK3.out.set 1 (.int .i64 v2))
      have HKZ4 := bx (HKZ3.out.far (p := ⟨ga, 1, none⟩) (by show B ≠ ga; omega) (.int .i64 v2))
      have HC4 := bx (HC3.out.setCell (p := ⟨ga, 1, none⟩) (fun h => absurd (show ga < w.heap.size from h) (by have := HB.out; omega)) (.int .i64 v2))
      have HS4 := bx (HS3.out.low (B := B) ((Below.refl B w3).setCell (p := ⟨ga, 1, none⟩) (Nat.le_of_lt hzB) (.int .i64 v2)) hg9)
      generalize w3.setCell ⟨ga, 1, none⟩ (.int .i64 v2) = w4 at HK4 HKZ4 HC4 HS4 ⊢
      clear HK3 HKZ3 HC3 HS3 q0 qf ql
      have HST : Bx (stR R = stR r2 ∧ ∀ x, R = .ok x → (⟨7, v2, 0, 0, []⟩ : Cst) = x.1) := bx (by
        rw [HRT.out, cst_one (.inl rfl) H2.out]
        cases r2 with
        | err k => exact ⟨rfl, fun x e => err_no e⟩
        | ok y =>
          refine ⟨rfl, fun x e => ?_⟩
          have e : Rz.ok _ = Rz.ok x := e
          injection e with e
          rw [← e, HV2.out y rfl]; rfl)
      have k0 : w4.cell? ⟨ga, 0, none⟩ = some (.int .i64 7) := (HK4.out.cell 0).trans rfl
      have k1 : w4.cell? ⟨ga, 1, none⟩ = some (.int .i64 v2) := (HK4.out.cell 1).trans rfl
      have k2 : w4.cell? ⟨ga, 2, none⟩ = some (.int .i64 0) := (HK4.out.cell 2).trans rfl
      have k3 : w4.cell? ⟨ga, 3, none⟩ = some (.int .i64 0) := (HK4.out.cell 3).trans rfl
      have k4 : w4.cell? ⟨ga, 4, none⟩ = some (.string ⟨#[]⟩) := (HK4.out.cell 4).trans rfl
      have z0 : w4.cell? ⟨B, 0, none⟩ = some (.int .i64 0) := (HKZ4.out.cell 0).trans rfl
      have z1 : w4.cell? ⟨B, 1, none⟩ = some (.int .i64 0) := (HKZ4.out.cell 1).trans rfl
      have z2 : w4.cell? ⟨B, 2, none⟩ = some (.int .i64 0) := (HKZ4.out.cell 2).trans rfl
      have z3 : w4.cell? ⟨B, 3, none⟩ = some (.int .i64 0) := (HKZ4.out.cell 3).trans rfl
      have z4 : w4.cell? ⟨B, 4, none⟩ = some (.string ⟨#[]⟩) := (HKZ4.out.cell 4).trans rfl
      have f0 := HKZ4.out.frz 0
      have f1 := HKZ4.out.frz 1
      have f2 := HKZ4.out.frz 2
      have f3 := HKZ4.out.frz 3
      have f4 := HKZ4.out.frz 4
      go_wp2
      have HZ9 := bx (bk_store5 HKZ4.out (.int .i64 7) (.int .i64 v2) (.int .i64 0) (.int .i64 0) (.string ⟨#[]⟩))
      have HB9 := bx (bl_store5 (B := B) (Below.refl B w4) (.int .i64 7) (.int .i64 v2) (.int .i64 0) (.int .i64 0) (.string ⟨#[]⟩))
      have HC9 := bx (ch_store5 HC4.out (Nat.le_of_eq HB.out) (.int .i64 7) (.int .i64 v2) (.int .i64 0) (.int .i64 0) (.string ⟨#[]⟩))
      have HS9 := bx (HS4.out.low HB9.out hg9)
      generalize (((((w4.setCell ⟨B, 0, none⟩ (.int .i64 7)).setCell ⟨B, 1, none⟩ (.int .i64 v2)).setCell ⟨B, 2, none⟩ (.int .i64 0)).setCell ⟨B, 3, none⟩ (.int .i64 0)).setCell ⟨B, 4, none⟩ (.string ⟨#[]⟩)) = w9 at HZ9 HB9 HC9 HS9 ⊢
      have e0 : w9.cell? ⟨B, 0, none⟩ = some (.int .i64 7) := (HZ9.out.cell 0).trans rfl
      have e1 : w9.cell? ⟨B, 1, none⟩ = some (.int .i64 v2) := (HZ9.out.cell 1).trans rfl
      have e2 : w9.cell? ⟨B, 2, none⟩ = some (.int .i64 0) := (HZ9.out.cell 2).trans rfl
      have e3 : w9.cell? ⟨B, 3, none⟩ = some (.int .i64 0) := (HZ9.out.cell 3).trans rfl
      have e4 : w9.cell? ⟨B, 4, none⟩ = some (.string ⟨#[]⟩) := (HZ9.out.cell 4).trans rfl
      exact bodyPost_ret (v := .agg #[.int .i64 7, .int .i64 v2, .int .i64 0, .int .i64 0, .string ⟨#[]⟩]) (by simp [results, Try.results34, go_sem, e0, e1, e2, e3, e4]) rfl ⟨⟨7, v2, 0, 0, []⟩, rfl, by rw [HST.out.1]; exact HS9.out, HC9.out, HST.out.2, Nat.zero_le _⟩
    · obtain rfl : v1 = 8 := by have h9 : ((8 : Nat) : Int) = v1 := hv; omega
      clear hv hv10 hv11
      have d1 : ((8 : Int) == 1) = false := by rfl
      have d3 : ((8 : Int) == 3) = false := by rfl
      have d5 : ((8 : Int) == 5) = false := by rfl
      have d7 : ((8 : Int) == 7) = false := by rfl
      have d8 : ((8 : Int) == 8) = true := by rfl
      have d9 : ((8 : Int) == 9) = false := by rfl
      have d10 : ((8 : Int) == 10) = false := by rfl
      have d11 : ((8 : Int) == 11) = false := by rfl
      have d12 : ((8 : Int) == 12) = false := by rfl
      obtain ⟨r2, h2⟩ : ∃ r, onR (.ok q) (rdN 2) b = r := ⟨_, rfl⟩
      have HN := bx (rnum_any g 2 65536 b (.ok q) w2 HS2.out (by decide) (by decide) (by decide))
      rw [h2] at HN
      have H2 := bx h2
      clear h2
      go_wp2_with fail
      refine HN.out.mono ?_
      rintro e w3 ⟨v2, rfl, hv20, hv21, hv2x, hs3, hc3⟩
      have HK3 := bx (HK2.out.ch hc3 (fun h => by have := Onl.lt hg9 ga h; omega))
      have HKZ3 := bx (HKZ2.out.ch hc3 (fun h => by have := Onl.lt hg9 B h; omega))
      have HC3 := bx (HC2.out.trans hc3 (fun _ _ h => h))
      have HS3 := bx hs3
      have HV2 := bx hv2x
      clear hs3 hc3 HN hv2x
      have q0 : w3.cell? ⟨ga, 1, none⟩ = some (.int .i64 0) := (HK3.out.cell 1).trans rfl
      have qf := HK3.out.frz 1
      have ql := HK3.out.lt
      go_upto_region 26 with (fail)
      have HK4 : Bx (Bk (w3.setCell ⟨ga, 1, none⟩ (.int .i64 v2)) ga 53 #[.int .i64 8, .int .i64 v2, .int .i64 0, .int .i64 0, .string ⟨#[]⟩]) := bx (by simpa using HK3.out.set 1 (.int .i64 v2))
      have HKZ4 := bx (HKZ3.out.far (p := ⟨ga, 1, none⟩) (by show B ≠ ga; omega) (.int .i64 v2))
      have HC4 := bx (HC3.out.setCell (p := ⟨ga, 1, none⟩) (fun h => absurd (show ga < w.heap.size from h) (by have := HB.out; omega)) (.int .i64 v2))
      have HS4 := bx (HS3.out.low (B := B) ((Below.refl B w3).setCell (p := ⟨ga, 1, none⟩) (Nat.le_of_lt hzB) (.int .i64 v2)) hg9)
      generalize w3.setCell ⟨ga, 1, none⟩ (.int .i64 v2) = w4 at HK4 HKZ4 HC4 HS4 ⊢
      clear HK3 HKZ3 HC3 HS3 q0 qf ql
      have HST : Bx (stR R = stR r2 ∧ ∀ x, R = .ok x → (⟨8, v2, 0, 0, []⟩ : Cst) = x.1) := bx (by
        rw [HRT.out, cst_one (.inr rfl) H2.out]
        cases r2 with
        | err k => exact ⟨rfl, fun x e => err_no e⟩
        | ok y =>
          refine ⟨rfl, fun x e => ?_⟩
          have e : Rz.ok _ = Rz.ok x := e
          injection e with e
          rw [← e, HV2.out y rfl]; rfl)
      have k0 : w4.cell? ⟨ga, 0, none⟩ = some (.int .i64 8) := (HK4.out.cell 0).trans rfl
      have k1 : w4.cell? ⟨ga, 1, none⟩ = some (.int .i64 v2) := (HK4.out.cell 1).trans rfl
      have k2 : w4.cell? ⟨ga, 2, none⟩ = some (.int .i64 0) := (HK4.out.cell 2).trans rfl
      have k3 : w4.cell? ⟨ga, 3, none⟩ = some (.int .i64 0) := (HK4.out.cell 3).trans rfl
      have k4 : w4.cell? ⟨ga, 4, none⟩ = some (.string ⟨#[]⟩) := (HK4.out.cell 4).trans rfl
      have z0 : w4.cell? ⟨B, 0, none⟩ = some (.int .i64 0) := (HKZ4.out.cell 0).trans rfl
      have z1 : w4.cell? ⟨B, 1, none⟩ = some (.int .i64 0) := (HKZ4.out.cell 1).trans rfl
      have z2 : w4.cell? ⟨B, 2, none⟩ = some (.int .i64 0) := (HKZ4.out.cell 2).trans rfl
      have z3 : w4.cell? ⟨B, 3, none⟩ = some (.int .i64 0) := (HKZ4.out.cell 3).trans rfl
      have z4 : w4.cell? ⟨B, 4, none⟩ = some (.string ⟨#[]⟩) := (HKZ4.out.cell 4).trans rfl
      have f0 := HKZ4.out.frz 0
      have f1 := HKZ4.out.frz 1
      have f2 := HKZ4.out.frz 2
      have f3 := HKZ4.out.frz 3
      have f4 := HKZ4.out.frz 4
      go_wp2
      have HZ9 := bx (bk_store5 HKZ4.out (.int .i64 8) (.int .i64 v2) (.int .i64 0) (.int .i64 0) (.string ⟨#[]⟩))
      have HB9 := bx (bl_store5 (B := B) (Below.refl B w4) (.int .i64 8) (.int .i64 v2) (.int .i64 0) (.int .i64 0) (.string ⟨#[]⟩))
      have HC9 := bx (ch_store5 HC4.out (Nat.le_of_eq HB.out) (.int .i64 8) (.int .i64 v2) (.int .i64 0) (.int .i64 0) (.string ⟨#[]⟩))
      have HS9 := bx (HS4.out.low HB9.out hg9)
      generalize (((((w4.setCell ⟨B, 0, none⟩ (.int .i64 8)).setCell ⟨B, 1, none⟩ (.int .i64 v2)).setCell ⟨B, 2, none⟩ (.int .i64 0)).setCell ⟨B, 3, none⟩ (.int .i64 0)).setCell ⟨B, 4, none⟩ (.string ⟨#[]⟩)) = w9 at HZ9 HB9 HC9 HS9 ⊢
      have e0 : w9.cell? ⟨B, 0, none⟩ = some (.int .i64 8) := (HZ9.out.cell 0).trans rfl
      have e1 : w9.cell? ⟨B, 1, none⟩ = some (.int .i64 v2) := (HZ9.out.cell 1).trans rfl
      have e2 : w9.cell? ⟨B, 2, none⟩ = some (.int .i64 0) := (HZ9.out.cell 2).trans rfl
      have e3 : w9.cell? ⟨B, 3, none⟩ = some (.int .i64 0) := (HZ9.out.cell 3).trans rfl
      have e4 : w9.cell? ⟨B, 4, none⟩ = some (.string ⟨#[]⟩) := (HZ9.out.cell 4).trans rfl
      exact bodyPost_ret (v := .agg #[.int .i64 8, .int .i64 v2, .int .i64 0, .int .i64 0, .string ⟨#[]⟩]) (by simp [results, Try.results34, go_sem, e0, e1, e2, e3, e4]) rfl ⟨⟨8, v2, 0, 0, []⟩, rfl, by rw [HST.out.1]; exact HS9.out, HC9.out, HST.out.2, Nat.zero_le _⟩
    · obtain rfl : v1 = 9 := by have h9 : ((9 : Nat) : Int) = v1 := hv; omega
      clear hv hv10 hv11
      have d1 : ((9 : Int) == 1) = false := by rfl
      have d3 : ((9 : Int) == 3) = false := by rfl
      have d5 : ((9 : Int) == 5) = false := by rfl
      have d7 : ((9 : Int) == 7) = false := by rfl
      have d8 : ((9 : Int) == 8) = false := by rfl
      have d9 : ((9 : Int) == 9) = true := by rfl
      have d10 : ((9 : Int) == 10) = false := by rfl
      have d11 : ((9 : Int) == 11) = false := by rfl
      have d12 : ((9 : Int) == 12) = false := by rfl
      obtain ⟨r2, h2⟩ : ∃ r, onR (.ok q) (rdN 2) b = r := ⟨_, rfl⟩
      have HN := bx (rnum_any g 2 65536 b (.ok q) w2 HS2.out (by decide) (by decide) (by decide))
      rw [h2] at HN
      have H2 := bx h2
      clear h2
      go_wp2_with fail
      refine HN.out.mono ?_
      rintro e w3 ⟨v2, rfl, hv20, hv21, hv2x, hs3, hc3⟩
      have HK3 := bx (HK2.out.ch hc3 (fun h => by have := Onl.lt hg9 ga h; omega))
      have HKZ3 := bx (HKZ2.out.ch hc3 (fun h => by have := Onl.lt hg9 B h; omega))
      have HC3 := bx (HC2.out.trans hc3 (fun _ _ h => h))
      have HS3 := bx hs3
      have HV2 := bx hv2x
      clear hs3 hc3 HN hv2x
      have q0 : w3.cell? ⟨ga, 1, none⟩ = some (.int .i64 0) := (HK3.out.cell 1).trans rfl
      have qf := HK3.out.frz 1
      have ql := HK3.out.lt
      go_upto_region 25 with (fail)
      have HK4 : Bx (Bk (w3.setCell ⟨ga, 1, none⟩ (.int .i64 v2)) ga 53 #[.int .i64 9, .int .i64 v2, .int .i64 0, .int .i64 0, .string ⟨#[]⟩]) := bx (by simpa using HK3.out.set 1 (.int .i64 v2))
      have HKZ4 := bx (HKZ3.out.far (p := ⟨ga, 1, none⟩) (by show B ≠ ga; omega) (.int .i64 v2))
      have HC4 := bx (HC3.out.setCell (p := ⟨ga, 1, none⟩) (fun h => absurd (show ga < w.heap.size from h) (by have := HB.out; omega)) (.int .i64 v2))
      have HS4 := bx (HS3.out.low (B := B) ((Below.refl B w3).setCell (p := ⟨ga, 1, none⟩) (Nat.le_of_lt hzB) (.int .i64 v2)) hg9)
      generalize w3.setCell ⟨ga, 1, none⟩ (.int .i64 v2) = w4 at HK4 HKZ4 HC4 HS4 ⊢
      clear HK3 HKZ3 HC3 HS3 q0 qf ql
      obtain ⟨r3, h3⟩ : ∃ r, onR (stR r2) (rdN 2) b = r := ⟨_, rfl⟩
      have HN := bx (rnum_any g 2 65536 b (stR r2) w4 HS4.out (by decide) (by decide) (by decide))
      rw [h3] at HN
      have H3 := bx h3
      clear h3
      go_wp2_with fail
      refine HN.out.mono ?_
      rintro e w5 ⟨v3, rfl, hv30, hv31, hv3x, hs3, hc3⟩
      have HK5 := bx (HK4.out.ch hc3 (fun h => by have := Onl.lt hg9 ga h; omega))
      have HKZ5 := bx (HKZ4.out.ch hc3 (fun h => by have := Onl.lt hg9 B h; omega))
      have HC5 := bx (HC4.out.trans hc3 (fun _ _ h => h))
      have HS5 := bx hs3
      have HV3 := bx hv3x
      clear hs3 hc3 HN hv3x
      have q0 : w5.cell? ⟨ga, 2, none⟩ = some (.int .i64 0) := (HK5.out.cell 2).trans rfl
      have qf := HK5.out.frz 2
      have ql := HK5.out.lt
      go_upto_region 26 with (fail)
      have HK6 : Bx (Bk (w5.setCell ⟨ga, 2, none⟩ (.int .i64 v3)) ga 53 #[.int .i64 9, .int .i64 v2, .int .i64 v3, .int .i64 0, .string ⟨#[]⟩]) := bx (by simpa using HK5.out.set 2 (.int .i64 v3))
      have HKZ6 := bx (HKZ5.out.far (p := ⟨ga, 2, none⟩) (by show B ≠ ga; omega) (.int .i64 v3))
      have HC6 := bx (HC5.out.setCell (p := ⟨ga, 2, none⟩) (fun h => absurd (show ga < w.heap.size from h) (by have := HB.out; omega)) (.int .i64 v3))
      have HS6 := bx (HS5.out.low (B := B) ((Below.refl B w5).setCell (p := ⟨ga, 2, none⟩) (Nat.le_of_lt hzB) (.int .i64 v3)) hg9)
      generalize w5.setCell ⟨ga, 2, none⟩ (.int .i64 v3) = w6 at HK6 HKZ6 HC6 HS6 ⊢
      clear HK5 HKZ5 HC5 HS5 q0 qf ql
      have HST : Bx (stR R = stR r3 ∧ ∀ x, R = .ok x → (⟨9, v2, v3, 0, []⟩ : Cst) = x.1) := bx (by
        rw [HRT.out, cst_two (by decide) H2.out H3.out]
        cases r3 with
        | err k => exact ⟨rfl, fun x e => err_no e⟩
        | ok y =>
          obtain ⟨x2, e2⟩ := okb H3.out
          refine ⟨rfl, fun x e => ?_⟩
          have e : Rz.ok _ = Rz.ok x := e
          injection e with e
          rw [← e, HV3.out y rfl, HV2.out x2 e2, e2]; rfl)
      have k0 : w6.cell? ⟨ga, 0, none⟩ = some (.int .i64 9) := (HK6.out.cell 0).trans rfl
      have k1 : w6.cell? ⟨ga, 1, none⟩ = some (.int .i64 v2) := (HK6.out.cell 1).trans rfl
      have k2 : w6.cell? ⟨ga, 2, none⟩ = some (.int .i64 v3) := (HK6.out.cell 2).trans rfl
      have k3 : w6.cell? ⟨ga, 3, none⟩ = some (.int .i64 0) := (HK6.out.cell 3).trans rfl
      have k4 : w6.cell? ⟨ga, 4, none⟩ = some (.string ⟨#[]⟩) := (HK6.out.cell 4).trans rfl
      have z0 : w6.cell? ⟨B, 0, none⟩ = some (.int .i64 0) := (HKZ6.out.cell 0).trans rfl
      have z1 : w6.cell? ⟨B, 1, none⟩ = some (.int .i64 0) := (HKZ6.out.cell 1).trans rfl
      have z2 : w6.cell? ⟨B, 2, none⟩ = some (.int .i64 0) := (HKZ6.out.cell 2).trans rfl
      have z3 : w6.cell? ⟨B, 3, none⟩ = some (.int .i64 0) := (HKZ6.out.cell 3).trans rfl
      have z4 : w6.cell? ⟨B, 4, none⟩ = some (.string ⟨#[]⟩) := (HKZ6.out.cell 4).trans rfl
      have f0 := HKZ6.out.frz 0
      have f1 := HKZ6.out.frz 1
      have f2 := HKZ6.out.frz 2
      have f3 := HKZ6.out.frz 3
      have f4 := HKZ6.out.frz 4
      go_wp2
      have HZ9 := bx (bk_store5 HKZ6.out (.int .i64 9) (.int .i64 v2) (.int .i64 v3) (.int .i64 0) (.string ⟨#[]⟩))
      have HB9 := bx (bl_store5 (B := B) (Below.refl B w6) (.int .i64 9) (.int .i64 v2) (.int .i64 v3) (.int .i64 0) (.string ⟨#[]⟩))
      have HC9 := bx (ch_store5 HC6.out (Nat.le_of_eq HB.out) (.int .i64 9) (.int .i64 v2) (.int .i64 v3) (.int .i64 0) (.string ⟨#[]⟩))
      have HS9 := bx (HS6.out.low HB9.out hg9)
      generalize (((((w6.setCell ⟨B, 0, none⟩ (.int .i64 9)).setCell ⟨B, 1, none⟩ (.int .i64 v2)).setCell ⟨B, 2, none⟩ (.int .i64 v3)).setCell ⟨B, 3, none⟩ (.int .i64 0)).setCell ⟨B, 4, none⟩ (.string ⟨#[]⟩)) = w9 at HZ9 HB9 HC9 HS9 ⊢
      have e0 : w9.cell? ⟨B, 0, none⟩ = some (.int .i64 9) := (HZ9.out.cell 0).trans rfl
      have e1 : w9.cell? ⟨B, 1, none⟩ = some (.int .i64 v2) := (HZ9.out.cell 1).trans rfl
      have e2 : w9.cell? ⟨B, 2, none⟩ = some (.int .i64 v3) := (HZ9.out.cell 2).trans rfl
      have e3 : w9.cell? ⟨B, 3, none⟩ = some (.int .i64 0) := (HZ9.out.cell 3).trans rfl
      have e4 : w9.cell? ⟨B, 4, none⟩ = some (.string ⟨#[]⟩) := (HZ9.out.cell 4).trans rfl
      exact bodyPost_ret (v := .agg #[.int .i64 9, .int .i64 v2, .int .i64 v3, .int .i64 0, .string ⟨#[]⟩]) (by simp [results, Try.results34, go_sem, e0, e1, e2, e3, e4]) rfl ⟨⟨9, v2, v3, 0, []⟩, rfl, by rw [HST.out.1]; exact HS9.out, HC9.out, HST.out.2, Nat.zero_le _⟩
    · obtain rfl : v1 = 10 := by have h9 : ((10 : Nat) : Int) = v1 := hv; omega
      clear hv hv10 hv11
      have d1 : ((10 : Int) == 1) = false := by rfl
      have d3 : ((10 : Int) == 3) = false := by rfl
      have d5 : ((10 : Int) == 5) = false := by rfl
      have d7 : ((10 : Int) == 7) = false := by rfl
      have d8 : ((10 : Int) == 8) = false := by rfl
      have d9 : ((10 : Int) == 9) = false := by rfl
      have d10 : ((10 : Int) == 10) = true := by rfl
      have d11 : ((10 : Int) == 11) = false := by rfl
      have d12 : ((10 : Int) == 12) = false := by rfl
      obtain ⟨r2, h2⟩ : ∃ r, onR (.ok q) (rdN 2) b = r := ⟨_, rfl⟩
      have HN := bx (rnum_any g 2 65536 b (.ok q) w2 HS2.out (by decide) (by decide) (by decide))
      rw [h2] at HN
      have H2 := bx h2
      clear h2
      go_wp2_with fail
      refine HN.out.mono ?_
      rintro e w3 ⟨v2, rfl, hv20, hv21, hv2x, hs3, hc3⟩
      have HK3 := bx (HK2.out.ch hc3 (fun h => by have := Onl.lt hg9 ga h; omega))
      have HKZ3 := bx (HKZ2.out.ch hc3 (fun h => by have := Onl.lt hg9 B h; omega))
      have HC3 := bx (HC2.out.trans hc3 (fun _ _ h => h))
      have HS3 := bx hs3
      have HV2 := bx hv2x
      clear hs3 hc3 HN hv2x
      have q0 : w3.cell? ⟨ga, 1, none⟩ = some (.int .i64 0) := (HK3.out.cell 1).trans rfl
      have qf := HK3.out.frz 1
      have ql := HK3.out.lt
      go_upto_region 25 with (fail)
      have HK4 : Bx (Bk (w3.setCell ⟨ga, 1, none⟩ (.int .i64 v2)) ga 53 #[.int .i64 10, .int .i64 v2, .int .i64 0, .int .i64 0, .string ⟨#[]⟩]) := bx (by simpa using HK3.out.set 1 (.int .i64 v2))
      have HKZ4 := bx (HKZ3.out.far (p := ⟨ga, 1, none⟩) (by show B ≠ ga; omega) (.int .i64 v2))
      have HC4 := bx (HC3.out.setCell (p := ⟨ga, 1, none⟩) (fun h => absurd (show ga < w.heap.size from h) (by have := HB.out; omega)) (.int .i64 v2))
      have HS4 := bx (HS3.out.low (B := B) ((Below.refl B w3).setCell (p := ⟨ga, 1, none⟩) (Nat.le_of_lt hzB) (.int .i64 v2)) hg9)
      generalize w3.setCell ⟨ga, 1, none⟩ (.int .i64 v2) = w4 at HK4 HKZ4 HC4 HS4 ⊢
      clear HK3 HKZ3 HC3 HS3 q0 qf ql
      obtain ⟨r3, h3⟩ : ∃ r, onR (stR r2) (rdN 2) b = r := ⟨_, rfl⟩
      have HN := bx (rnum_any g 2 65536 b (stR r2) w4 HS4.out (by decide) (by decide) (by decide))
      rw [h3] at HN
      have H3 := bx h3
      clear h3
      go_wp2_with fail
      refine HN.out.mono ?_
      rintro e w5 ⟨v3, rfl, hv30, hv31, hv3x, hs3, hc3⟩
      have HK5 := bx (HK4.out.ch hc3 (fun h => by have := Onl.lt hg9 ga h; omega))
      have HKZ5 := bx (HKZ4.out.ch hc3 (fun h => by have := Onl.lt hg9 B h; omega))
      have HC5 := bx (HC4.out.trans hc3 (fun _ _ h => h))
      have HS5 := bx hs3
      have HV3 := bx hv3x
      clear hs3 hc3 HN hv3x
      have q0 : w5.cell? ⟨ga, 2, none⟩ = some (.int .i64 0) := (HK5.out.cell 2).trans rfl
      have qf := HK5.out.frz 2
      have ql := HK5.out.lt
      go_upto_region 26 with (fail)
      have HK6 : Bx (Bk (w5.setCell ⟨ga, 2, none⟩ (.int .i64 v3)) ga 53 #[.int .i64 10, .int .i64 v2, .int .i64 v3, .int .i64 0, .string ⟨#[]⟩]) := bx (by simpa using HK5.out.set 2 (.int .i64 v3))
      have HKZ6 := bx (HKZ5.out.far (p := ⟨ga, 2, none⟩) (by show B ≠ ga; omega) (.int .i64 v3))
      have HC6 := bx (HC5.out.setCell (p := ⟨ga, 2, none⟩) (fun h => absurd (show ga < w.heap.size from h) (by have := HB.out; omega)) (.int .i64 v3))
      have HS6 := bx (HS5.out.low (B := B) ((Below.refl B w5).setCell (p := ⟨ga, 2, none⟩) (Nat.le_of_lt hzB) (.int .i64 v3)) hg9)
      generalize w5.setCell ⟨ga, 2, none⟩ (.int .i64 v3) = w6 at HK6 HKZ6 HC6 HS6 ⊢
      clear HK5 HKZ5 HC5 HS5 q0 qf ql
      have HST : Bx (stR R = stR r3 ∧ ∀ x, R = .ok x → (⟨10, v2, v3, 0, []⟩ : Cst) = x.1) := bx (by
        rw [HRT.out, cst_two (by decide) H2.out H3.out]
        cases r3 with
        | err k => exact ⟨rfl, fun x e => err_no e⟩
        | ok y =>
          obtain ⟨x2, e2⟩ := okb H3.out
          refine ⟨rfl, fun x e => ?_⟩
          have e : Rz.ok _ = Rz.ok x := e
          injection e with e
          rw [← e, HV3.out y rfl, HV2.out x2 e2, e2]; rfl)
      have k0 : w6.cell? ⟨ga, 0, none⟩ = some (.int .i64 10) := (HK6.out.cell 0).trans rfl
      have k1 : w6.cell? ⟨ga, 1, none⟩ = some (.int .i64 v2) := (HK6.out.cell 1).trans rfl
      have k2 : w6.cell? ⟨ga, 2, none⟩ = some (.int .i64 v3) := (HK6.out.cell 2).trans rfl
      have k3 : w6.cell? ⟨ga, 3, none⟩ = some (.int .i64 0) := (HK6.out.cell 3).trans rfl
      have k4 : w6.cell? ⟨ga, 4, none⟩ = some (.string ⟨#[]⟩) := (HK6.out.cell 4).trans rfl
      have z0 : w6.cell? ⟨B, 0, none⟩ = some (.int .i64 0) := (HKZ6.out.cell 0).trans rfl
      have z1 : w6.cell? ⟨B, 1, none⟩ = some (.int .i64 0) := (HKZ6.out.cell 1).trans rfl
      have z2 : w6.cell? ⟨B, 2, none⟩ = some (.int .i64 0) := (HKZ6.out.cell 2).trans rfl
      have z3 : w6.cell? ⟨B, 3, none⟩ = some (.int .i64 0) := (HKZ6.out.cell 3).trans rfl
      have z4 : w6.cell? ⟨B, 4, none⟩ = some (.string ⟨#[]⟩) := (HKZ6.out.cell 4).trans rfl
      have f0 := HKZ6.out.frz 0
      have f1 := HKZ6.out.frz 1
      have f2 := HKZ6.out.frz 2
      have f3 := HKZ6.out.frz 3
      have f4 := HKZ6.out.frz 4
      go_wp2
      have HZ9 := bx (bk_store5 HKZ6.out (.int .i64 10) (.int .i64 v2) (.int .i64 v3) (.int .i64 0) (.string ⟨#[]⟩))
      have HB9 := bx (bl_store5 (B := B) (Below.refl B w6) (.int .i64 10) (.int .i64 v2) (.int .i64 v3) (.int .i64 0) (.string ⟨#[]⟩))
      have HC9 := bx (ch_store5 HC6.out (Nat.le_of_eq HB.out) (.int .i64 10) (.int .i64 v2) (.int .i64 v3) (.int .i64 0) (.string ⟨#[]⟩))
      have HS9 := bx (HS6.out.low HB9.out hg9)
      generalize (((((w6.setCell ⟨B, 0, none⟩ (.int .i64 10)).setCell ⟨B, 1, none⟩ (.int .i64 v2)).setCell ⟨B, 2, none⟩ (.int .i64 v3)).setCell ⟨B, 3, none⟩ (.int .i64 0)).setCell ⟨B, 4, none⟩ (.string ⟨#[]⟩)) = w9 at HZ9 HB9 HC9 HS9 ⊢
      have e0 : w9.cell? ⟨B, 0, none⟩ = some (.int .i64 10) := (HZ9.out.cell 0).trans rfl
      have e1 : w9.cell? ⟨B, 1, none⟩ = some (.int .i64 v2) := (HZ9.out.cell 1).trans rfl
      have e2 : w9.cell? ⟨B, 2, none⟩ = some (.int .i64 v3) := (HZ9.out.cell 2).trans rfl
      have e3 : w9.cell? ⟨B, 3, none⟩ = some (.int .i64 0) := (HZ9.out.cell 3).trans rfl
      have e4 : w9.cell? ⟨B, 4, none⟩ = some (.string ⟨#[]⟩) := (HZ9.out.cell 4).trans rfl
      exact bodyPost_ret (v := .agg #[.int .i64 10, .int .i64 v2, .int .i64 v3, .int .i64 0, .string ⟨#[]⟩]) (by simp [results, Try.results34, go_sem, e0, e1, e2, e3, e4]) rfl ⟨⟨10, v2, v3, 0, []⟩, rfl, by rw [HST.out.1]; exact HS9.out, HC9.out, HST.out.2, Nat.zero_le _⟩
    · obtain rfl : v1 = 11 := by have h9 : ((11 : Nat) : Int) = v1 := hv; omega
      clear hv hv10 hv11
      have d1 : ((11 : Int) == 1) = false := by rfl
      have d3 : ((11 : Int) == 3) = false := by rfl
      have d5 : ((11 : Int) == 5) = false := by rfl
      have d7 : ((11 : Int) == 7) = false := by rfl
      have d8 : ((11 : Int) == 8) = false := by rfl
      have d9 : ((11 : Int) == 9) = false := by rfl
      have d10 : ((11 : Int) == 10) = false := by rfl
      have d11 : ((11 : Int) == 11) = true := by rfl
      have d12 : ((11 : Int) == 12) = false := by rfl
      obtain ⟨r2, h2⟩ : ∃ r, onR (.ok q) (rdN 2) b = r := ⟨_, rfl⟩
      have HN := bx (rnum_any g 2 65536 b (.ok q) w2 HS2.out (by decide) (by decide) (by decide))
      rw [h2] at HN
      have H2 := bx h2
      clear h2
      go_wp2_with fail
      refine HN.out.mono ?_
      rintro e w3 ⟨v2, rfl, hv20, hv21, hv2x, hs3, hc3⟩
      have HK3 := bx (HK2.out.ch hc3 (fun h => by have := Onl.lt hg9 ga h; omega))
      have HKZ3 := bx (HKZ2.out.ch hc3 (fun h => by have := Onl.lt hg9 B h; omega))
      have HC3 := bx (HC2.out.trans hc3 (fun _ _ h => h))
      have HS3 := bx hs3
      have HV2 := bx hv2x
      clear hs3 hc3 HN hv2x
      have q0 : w3.cell? ⟨ga, 1, none⟩ = some (.int .i64 0) := (HK3.out.cell 1).trans rfl
      have qf := HK3.out.frz 1
      have ql := HK3.out.lt
      go_upto_region 25 with (fail)
      have HK4 : Bx (Bk (w3.setCell ⟨ga, 1, none⟩ (.int .i64 v2)) ga 53 #[.int .i64 11, .int .i64 v2, .int .i64 0, .int .i64 0, .string ⟨#[]⟩]) := bx (by simpa using HK3.out.set 1 (.int .i64 v2))
      have HKZ4 := bx (HKZ3.out.far (p := ⟨ga, 1, none⟩) (by show B ≠ ga; omega) (.int .i64 v2))
      have HC4 := bx (HC3.out.setCell (p := ⟨ga, 1, none⟩) (fun h => absurd (show ga < w.heap.size from h) (by have := HB.out; omega)) (.int .i64 v2))
      have HS4 := bx (HS3.out.low (B := B) ((Below.refl B w3).setCell (p := ⟨ga, 1, none⟩) (Nat.le_of_lt hzB) (.int .i64 v2)) hg9)
      generalize w3.setCell ⟨ga, 1, none⟩ (.int .i64 v2) = w4 at HK4 HKZ4 HC4 HS4 ⊢
      clear HK3 HKZ3 HC3 HS3 q0 qf ql
      obtain ⟨r3, h3⟩ : ∃ r, onR (stR r2) (rdN 2) b = r := ⟨_, rfl⟩
      have HN := bx (rnum_any g 2 65536 b (stR r2) w4 HS4.out (by decide) (by decide) (by decide))
      rw [h3] at HN
      have H3 := bx h3
      clear h3
      go_wp2_with fail
      refine HN.out.mono ?_
      rintro e w5 ⟨v3, rfl, hv30, hv31, hv3x, hs3, hc3⟩
      have HK5 := bx (HK4.out.ch hc3 (fun h => by have := Onl.lt hg9 ga h; omega))
      have HKZ5 := bx (HKZ4.out.ch hc3 (fun h => by have := Onl.lt hg9 B h; omega))
      have HC5 := bx (HC4.out.trans hc3 (fun _ _ h => h))
      have HS5 := bx hs3
      have HV3 := bx hv3x
      clear hs3 hc3 HN hv3x
      have q0 : w5.cell? ⟨ga, 2, none⟩ = some (.int .i64 0) := (HK5.out.cell 2).trans rfl
      have qf := HK5.out.frz 2
      have ql := HK5.out.lt
      go_upto_region 26 with (fail)
      have HK6 : Bx (Bk (w5.setCell ⟨ga, 2, none⟩ (.int .i64 v3)) ga 53 #[.int .i64 11, .int .i64 v2, .int .i64 v3, .int .i64 0, .string ⟨#[]⟩]) := bx (by simpa using HK5.out.set 2 (.int .i64 v3))
      have HKZ6 := bx (HKZ5.out.far (p := ⟨ga, 2, none⟩) (by show B ≠ ga; omega) (.int .i64 v3))
      have HC6 := bx (HC5.out.setCell (p := ⟨ga, 2, none⟩) (fun h => absurd (show ga < w.heap.size from h) (by have := HB.out; omega)) (.int .i64 v3))
      have HS6 := bx (HS5.out.low (B := B) ((Below.refl B w5).setCell (p := ⟨ga, 2, none⟩) (Nat.le_of_lt hzB) (.int .i64 v3)) hg9)
      generalize w5.setCell ⟨ga, 2, none⟩ (.int .i64 v3) = w6 at HK6 HKZ6 HC6 HS6 ⊢
      clear HK5 HKZ5 HC5 HS5 q0 qf ql
      have HST : Bx (stR R = stR r3 ∧ ∀ x, R = .ok x → (⟨11, v2, v3, 0, []⟩ : Cst) = x.1) := bx (by
        rw [HRT.out, cst_two (by decide) H2.out H3.out]
        cases r3 with
        | err k => exact ⟨rfl, fun x e => err_no e⟩
        | ok y =>
          obtain ⟨x2, e2⟩ := okb H3.out
          refine ⟨rfl, fun x e => ?_⟩
          have e : Rz.ok _ = Rz.ok x := e
          injection e with e
          rw [← e, HV3.out y rfl, HV2.out x2 e2, e2]; rfl)
      have k0 : w6.cell? ⟨ga, 0, none⟩ = some (.int .i64 11) := (HK6.out.cell 0).trans rfl
      have k1 : w6.cell? ⟨ga, 1, none⟩ = some (.int .i64 v2) := (HK6.out.cell 1).trans rfl
      have k2 : w6.cell? ⟨ga, 2, none⟩ = some (.int .i64 v3) := (HK6.out.cell 2).trans rfl
      have k3 : w6.cell? ⟨ga, 3, none⟩ = some (.int .i64 0) := (HK6.out.cell 3).trans rfl
      have k4 : w6.cell? ⟨ga, 4, none⟩ = some (.string ⟨#[]⟩) := (HK6.out.cell 4).trans rfl
      have z0 : w6.cell? ⟨B, 0, none⟩ = some (.int .i64 0) := (HKZ6.out.cell 0).trans rfl
      have z1 : w6.cell? ⟨B, 1, none⟩ = some (.int .i64 0) := (HKZ6.out.cell 1).trans rfl
      have z2 : w6.cell? ⟨B, 2, none⟩ = some (.int .i64 0) := (HKZ6.out.cell 2).trans rfl
      have z3 : w6.cell? ⟨B, 3, none⟩ = some (.int .i64 0) := (HKZ6.out.cell 3).trans rfl
      have z4 : w6.cell? ⟨B, 4, none⟩ = some (.string ⟨#[]⟩) := (HKZ6.out.cell 4).trans rfl
      have f0 := HKZ6.out.frz 0
      have f1 := HKZ6.out.frz 1
      have f2 := HKZ6.out.frz 2
      have f3 := HKZ6.out.frz 3
      have f4 := HKZ6.out.frz 4
      go_wp2
      have HZ9 := bx (bk_store5 HKZ6.out (.int .i64 11) (.int .i64 v2) (.int .i64 v3) (.int .i64 0) (.string ⟨#[]⟩))
      have HB9 := bx (bl_store5 (B := B) (Below.refl B w6) (.int .i64 11) (.int .i64 v2) (.int .i64 v3) (.int .i64 0) (.string ⟨#[]⟩))
      have HC9 := bx (ch_store5 HC6.out (Nat.le_of_eq HB.out) (.int .i64 11) (.int .i64 v2) (.int .i64 v3) (.int .i64 0) (.string ⟨#[]⟩))
      have HS9 := bx (HS6.out.low HB9.out hg9)
      generalize (((((w6.setCell ⟨B, 0, none⟩ (.int .i64 11)).setCell ⟨B, 1, none⟩ (.int .i64 v2)).setCell ⟨B, 2, none⟩ (.int .i64 v3)).setCell ⟨B, 3, none⟩ (.int .i64 0)).setCell ⟨B, 4, none⟩ (.string ⟨#[]⟩)) = w9 at HZ9 HB9 HC9 HS9 ⊢
      have e0 : w9.cell? ⟨B, 0, none⟩ = some (.int .i64 11) := (HZ9.out.cell 0).trans rfl
      have e1 : w9.cell? ⟨B, 1, none⟩ = some (.int .i64 v2) := (HZ9.out.cell 1).trans rfl
      have e2 : w9.cell? ⟨B, 2, none⟩ = some (.int .i64 v3) := (HZ9.out.cell 2).trans rfl
      have e3 : w9.cell? ⟨B, 3, none⟩ = some (.int .i64 0) := (HZ9.out.cell 3).trans rfl
      have e4 : w9.cell? ⟨B, 4, none⟩ = some (.string ⟨#[]⟩) := (HZ9.out.cell 4).trans rfl
      exact bodyPost_ret (v := .agg #[.int .i64 11, .int .i64 v2, .int .i64 v3, .int .i64 0, .string ⟨#[]⟩]) (by simp [results, Try.results34, go_sem, e0, e1, e2, e3, e4]) rfl ⟨⟨11, v2, v3, 0, []⟩, rfl, by rw [HST.out.1]; exact HS9.out, HC9.out, HST.out.2, Nat.zero_le _⟩
    · obtain rfl : v1 = 12 := by have h9 : ((12 : Nat) : Int) = v1 := hv; omega
      clear hv hv10 hv11
      have d1 : ((12 : Int) == 1) = false := by rfl
      have d3 : ((12 : Int) == 3) = false := by rfl
      have d5 : ((12 : Int) == 5) = false := by rfl
      have d7 : ((12 : Int) == 7) = false := by rfl
      have d8 : ((12 : Int) == 8) = false := by rfl
      have d9 : ((12 : Int) == 9) = false := by rfl
      have d10 : ((12 : Int) == 10) = false := by rfl
      have d11 : ((12 : Int) == 11) = false := by rfl
      have d12 : ((12 : Int) == 12) = true := by rfl
      obtain ⟨r2, h2⟩ : ∃ r, onR (.ok q) (rdN 2) b = r := ⟨_, rfl⟩
      have HN := bx (rnum_any g 2 65536 b (.ok q) w2 HS2.out (by decide) (by decide) (by decide))
      rw [h2] at HN
      have H2 := bx h2
      clear h2
      go_wp2_with fail
      refine HN.out.mono ?_
      rintro e w3 ⟨v2, rfl, hv20, hv21, hv2x, hs3, hc3⟩
      have HK3 := bx (HK2.out.ch hc3 (fun h => by have := Onl.lt hg9 ga h; omega))
      have HKZ3 := bx (HKZ2.out.ch hc3 (fun h => by have := Onl.lt hg9 B h; omega))
      have HC3 := bx (HC2.out.trans hc3 (fun _ _ h => h))
      have HS3 := bx hs3
      have HV2 := bx hv2x
      clear hs3 hc3 HN hv2x
      have q0 : w3.cell? ⟨ga, 1, none⟩ = some (.int .i64 0) := (HK3.out.cell 1).trans rfl
      have qf := HK3.out.frz 1
      have ql := HK3.out.lt
      go_upto_region 25 with (fail)
      have HK4 : Bx (Bk (w3.setCell ⟨ga, 1, none⟩ (.int .i64 v2)) ga 53 #[.int .i64 12, .int .i64 v2, .int .i64 0, .int .i64 0, .string ⟨#[]⟩]) := bx (by simpa using HK3.out.set 1 (.int .i64 v2))
      have HKZ4 := bx (HKZ3.out.far (p := ⟨ga, 1, none⟩) (by show B ≠ ga; omega) (.int .i64 v2))
      have HC4 := bx (HC3.out.setCell (p := ⟨ga, 1, none⟩) (fun h => absurd (show ga < w.heap.size from h) (by have := HB.out; omega)) (.int .i64 v2))
      have HS4 := bx (HS3.out.low (B := B) ((Below.refl B w3).setCell (p := ⟨ga, 1, none⟩) (Nat.le_of_lt hzB) (.int .i64 v2)) hg9)
      generalize w3.setCell ⟨ga, 1, none⟩ (.int .i64 v2) = w4 at HK4 HKZ4 HC4 HS4 ⊢
      clear HK3 HKZ3 HC3 HS3 q0 qf ql
      obtain ⟨r3, h3⟩ : ∃ r, onR (stR r2) (rdN 2) b = r := ⟨_, rfl⟩
      have HN := bx (rnum_any g 2 65536 b (stR r2) w4 HS4.out (by decide) (by decide) (by decide))
      rw [h3] at HN
      have H3 := bx h3
      clear h3
      go_wp2_with fail
      refine HN.out.mono ?_
      rintro e w5 ⟨v3, rfl, hv30, hv31, hv3x, hs3, hc3⟩
      have HK5 := bx (HK4.out.ch hc3 (fun h => by have := Onl.lt hg9 ga h; omega))
      have HKZ5 := bx (HKZ4.out.ch hc3 (fun h => by have := Onl.lt hg9 B h; omega))
      have HC5 := bx (HC4.out.trans hc3 (fun _ _ h => h))
      have HS5 := bx hs3
      have HV3 := bx hv3x
      clear hs3 hc3 HN hv3x
      have q0 : w5.cell? ⟨ga, 2, none⟩ = some (.int .i64 0) := (HK5.out.cell 2).trans rfl
      have qf := HK5.out.frz 2
      have ql := HK5.out.lt
      go_upto_region 26 with (fail)
      have HK6 : Bx (Bk (w5.setCell ⟨ga, 2, none⟩ (.int .i64 v3)) ga 53 #[.int .i64 12, .int .i64 v2, .int .i64 v3, .int .i64 0, .string ⟨#[]⟩]) := bx (by simpa using HK5.out.set 2 (.int .i64 v3))
      have HKZ6 := bx (HKZ5.out.far (p := ⟨ga, 2, none⟩) (by show B ≠ ga; omega) (.int .i64 v3))
      have HC6 := bx (HC5.out.setCell (p := ⟨ga, 2, none⟩) (fun h => absurd (show ga < w.heap.size from h) (by have := HB.out; omega)) (.int .i64 v3))
      have HS6 := bx (HS5.out.low (B := B) ((Below.refl B w5).setCell (p := ⟨ga, 2, none⟩) (Nat.le_of_lt hzB) (.int .i64 v3)) hg9)
      generalize w5.setCell ⟨ga, 2, none⟩ (.int .i64 v3) = w6 at HK6 HKZ6 HC6 HS6 ⊢
      clear HK5 HKZ5 HC5 HS5 q0 qf ql
      have HST : Bx (stR R = stR r3 ∧ ∀ x, R = .ok x → (⟨12, v2, v3, 0, []⟩ : Cst) = x.1) := bx (by
        rw [HRT.out, cst_two (by decide) H2.out H3.out]
        cases r3 with
        | err k => exact ⟨rfl, fun x e => err_no e⟩
        | ok y =>
          obtain ⟨x2, e2⟩ := okb H3.out
          refine ⟨rfl, fun x e => ?_⟩
          have e : Rz.ok _ = Rz.ok x := e
          injection e with e
          rw [← e, HV3.out y rfl, HV2.out x2 e2, e2]; rfl)
      have k0 : w6.cell? ⟨ga, 0, none⟩ = some (.int .i64 12) := (HK6.out.cell 0).trans rfl
      have k1 : w6.cell? ⟨ga, 1, none⟩ = some (.int .i64 v2) := (HK6.out.cell 1).trans rfl
      have k2 : w6.cell? ⟨ga, 2, none⟩ = some (.int .i64 v3) := (HK6.out.cell 2).trans rfl
      have k3 : w6.cell? ⟨ga, 3, none⟩ = some (.int .i64 0) := (HK6.out.cell 3).trans rfl
      have k4 : w6.cell? ⟨ga, 4, none⟩ = some (.string ⟨#[]⟩) := (HK6.out.cell 4).trans rfl
      have z0 : w6.cell? ⟨B, 0, none⟩ = some (.int .i64 0) := (HKZ6.out.cell 0).trans rfl
      have z1 : w6.cell? ⟨B, 1, none⟩ = some (.int .i64 0) := (HKZ6.out.cell 1).trans rfl
      have z2 : w6.cell? ⟨B, 2, none⟩ = some (.int .i64 0) := (HKZ6.out.cell 2).trans rfl
      have z3 : w6.cell? ⟨B, 3, none⟩ = some (.int .i64 0) := (HKZ6.out.cell 3).trans rfl
      have z4 : w6.cell? ⟨B, 4, none⟩ = some (.string ⟨#[]⟩) := (HKZ6.out.cell 4).trans rfl
      have f0 := HKZ6.out.frz 0
      have f1 := HKZ6.out.frz 1
      have f2 := HKZ6.out.frz 2
      have f3 := HKZ6.out.frz 3
      have f4 := HKZ6.out.frz 4
      go_wp2
      have HZ9 := bx (bk_store5 HKZ6.out (.int .i64 12) (.int .i64 v2) (.int .i64 v3) (.int .i64 0) (.string ⟨#[]⟩))
      have HB9 := bx (bl_store5 (B := B) (Below.refl B w6) (.int .i64 12) (.int .i64 v2) (.int .i64 v3) (.int .i64 0) (.string ⟨#[]⟩))
      have HC9 := bx (ch_store5 HC6.out (Nat.le_of_eq HB.out) (.int .i64 12) (.int .i64 v2) (.int .i64 v3) (.int .i64 0) (.string ⟨#[]⟩))
      have HS9 := bx (HS6.out.low HB9.out hg9)
      generalize (((((w6.setCell ⟨B, 0, none⟩ (.int .i64 12)).setCell ⟨B, 1, none⟩ (.int .i64 v2)).setCell ⟨B, 2, none⟩ (.int .i64 v3)).setCell ⟨B, 3, none⟩ (.int .i64 0)).setCell ⟨B, 4, none⟩ (.string ⟨#[]⟩)) = w9 at HZ9 HB9 HC9 HS9 ⊢
      have e0 : w9.cell? ⟨B, 0, none⟩ = some (.int .i64 12) := (HZ9.out.cell 0).trans rfl
      have e1 : w9.cell? ⟨B, 1, none⟩ = some (.int .i64 v2) := (HZ9.out.cell 1).trans rfl
      have e2 : w9.cell? ⟨B, 2, none⟩ = some (.int .i64 v3) := (HZ9.out.cell 2).trans rfl
      have e3 : w9.cell? ⟨B, 3, none⟩ = some (.int .i64 0) := (HZ9.out.cell 3).trans rfl
      have e4 : w9.cell? ⟨B, 4, none⟩ = some (.string ⟨#[]⟩) := (HZ9.out.cell 4).trans rfl
      exact bodyPost_ret (v := .agg #[.int .i64 12, .int .i64 v2, .int .i64 v3, .int .i64 0, .string ⟨#[]⟩]) (by simp [results, Try.results34, go_sem, e0, e1, e2, e3, e4]) rfl ⟨⟨12, v2, v3, 0, []⟩, rfl, by rw [HST.out.1]; exact HS9.out, HC9.out, HST.out.2, Nat.zero_le _⟩
end Go.Proofs.Ytdioijhmmmnbgaa
