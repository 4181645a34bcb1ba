/- Contract of image's source: constant. -/
import Derived.Test.YtdioijhmmmnbgaaQiImA
import Derived.Test.YtdioijhmmmnbgaaPi1
import Derived.Test.YtdioijhmmmnbgaaPi7
import Derived.Test.YtdioijhmmmnbgaaPi5
import Derived.Test.YtdioijhmmmnbgaaPi2
import Derived.Deep.DeepCutAuto
import Derived.Deep.CutBlock
namespace Go.Proofs.Ytdioijhmmmnbgaa
open Go.RowKit
theorem valB_len (n : Nat) (s : Rz Nat) (b : List UInt8) : (valB (onR s (rdB n) b)).length ≤ b.length := by
  cases s with
  | err k => exact Nat.zero_le _
  | ok p =>
    rw [onR_ok]
    unfold rdB
    split
    · show ((b.drop p).take n).length ≤ _
      rw [List.length_take, List.length_drop]; omega
    · exact Nat.zero_le _
theorem sgn_wrap {v : Nat} (h : v < 4294967296) : wrap64 (wrap32 (v : Int)) = sgn32 v := by
  unfold wrap64 wrap32 sgn32
  split <;> omega
section
variable {w w' : World} {g B T : Nat} {z0 z1 z2 z3 z4 : Value}
theorem bk_store5 (h : Bk w g T #[z0, z1, z2, z3, z4]) (x0 x1 x2 x3 x4 : Value) : Bk (((((w.setCell ⟨g, 0, none⟩ x0).setCell ⟨g, 1, none⟩ x1).setCell ⟨g, 2, none⟩ x2).setCell ⟨g, 3, none⟩ x3).setCell ⟨g, 4, none⟩ x4) g T #[x0, x1, x2, x3, x4] := by
  have h0 : Bk (w.setCell ⟨g, 0, none⟩ x0) g T #[x0, z1, z2, z3, z4] := by simpa using h.set 0 x0
  have h1 : Bk ((w.setCell ⟨g, 0, none⟩ x0).setCell ⟨g, 1, none⟩ x1) g T #[x0, x1, z2, z3, z4] := by simpa using h0.set 1 x1
  have h2 : Bk (((w.setCell ⟨g, 0, none⟩ x0).setCell ⟨g, 1, none⟩ x1).setCell ⟨g, 2, none⟩ x2) g T #[x0, x1, x2, z3, z4] := by simpa using h1.set 2 x2
  have h3 : Bk ((((w.setCell ⟨g, 0, none⟩ x0).setCell ⟨g, 1, none⟩ x1).setCell ⟨g, 2, none⟩ x2).setCell ⟨g, 3, none⟩ x3) g T #[x0, x1, x2, x3, z4] := by simpa using h2.set 3 x3
  simpa using h3.set 4 x4
theorem bl_store5 (h : Below B w w') (x0 x1 x2 x3 x4 : Value) : Below B w (((((w'.setCell ⟨B, 0, none⟩ x0).setCell ⟨B, 1, none⟩ x1).setCell ⟨B, 2, none⟩ x2).setCell ⟨B, 3, none⟩ x3).setCell ⟨B, 4, none⟩ x4) :=
  ((((h.setCell (Nat.le_refl B) x0).setCell (Nat.le_refl B) x1).setCell (Nat.le_refl B) x2).setCell (Nat.le_refl B) x3).setCell (Nat.le_refl B) x4
theorem ch_store5 {S : Nat → Prop} (h : Ch w w' S) (hB : w.heap.size ≤ B) (x0 x1 x2 x3 x4 : Value) : Ch w (((((w'.setCell ⟨B, 0, none⟩ x0).setCell ⟨B, 1, none⟩ x1).setCell ⟨B, 2, none⟩ x2).setCell ⟨B, 3, none⟩ x3).setCell ⟨B, 4, none⟩ x4) S := by
  have hp : ∀ o, (⟨B, o, none⟩ : Addr).block < w.heap.size → S (⟨B, o, none⟩ : Addr).block := fun _ hb => absurd hb (Nat.not_lt.2 hB)
  exact ((((h.setCell (hp 0) x0).setCell (hp 1) x1).setCell (hp 2) x2).setCell (hp 3) x3).setCell (hp 4) x4
end
/-- What reading a constant leaves. -/
def CstPost (w : World) (gs gr : Nat) (b : List UInt8) (R : Rz (Cst × Nat)) (e : Ending) (w' : World) : Prop := ∃ c : Cst, e = .returned (.agg (cstC c).toArray) ∧ Src w' gs gr b (stR R) ∧ Ch w w' (Two gs gr) ∧ ∀ x, R = .ok x → c = x.1
set_option maxRecDepth 100000 in
set_option maxHeartbeats 4000000 in
theorem sconst_any (gs gr : Nat) (b : List UInt8) (s : Rz Nat) (w : World) (h : Src w gs gr b s) (hb : b.length ≤ 1000000) :
    Calls Try.prog 27 #[.pointer (some ⟨gs, 0, none⟩)] w (CstPost w gs gr b (onR s cstP b)) := by
  obtain ⟨R, hR⟩ : ∃ R, onR s cstP b = R := ⟨_, rfl⟩
  rw [hR]
  have HR := bx hR
  obtain ⟨B, hB⟩ : ∃ B, w.heap.size = B := ⟨_, rfl⟩
  have HB := bx hB
  have hlt := h.lt
  have hgs : gs < B := by omega
  have hgr : gr < B := by omega
  have HKZ := bx (Bk.newAt w 53 #[.int .i64 0, .int .i64 0, .int .i64 0, .int .i64 0, .string ⟨#[]⟩] hB)
  have HS0 := bx (h.below (bl_alloc (Below.refl _ _) (Nat.le_refl _) (.cells #[.int .i64 0, .int .i64 0, .int .i64 0, .int .i64 0, .string ⟨#[]⟩] 53)))
  have HC0 : Bx (Ch w (w.alloc (.cells #[.int .i64 0, .int .i64 0, .int .i64 0, .int .i64 0, .string ⟨#[]⟩] 53)) (Two gs gr)) := bx ((Ch.refl w).alloc _)
  clear h hR hlt hB
  go_enter Try.func27, Try.ntmps27
  go_upto_region 1 with (fail)
  rw [HB.out]
  generalize w.alloc (.cells #[.int .i64 0, .int .i64 0, .int .i64 0, .int .i64 0, .string ⟨#[]⟩] 53) = w0 at HKZ HS0 HC0 ⊢
  obtain ⟨r1, h1⟩ : ∃ r1, onR s (rdN 1) b = r1 := ⟨_, rfl⟩
  have HN1 := bx (snum_small gs gr 1 b s w0 HS0.out (by decide) (by decide))
  have hv1 := valN_lt 1 s b
  rw [h1] at HN1 hv1
  have H1 := bx h1
  obtain ⟨v1, hv⟩ : ∃ v1, valN r1 = v1 := ⟨_, rfl⟩
  rw [hv] at HN1 hv1
  have HV := bx hv
  have hv0 := hv1.1
  have hv256 : v1 < 256 := hv1.2
  clear h1 hv hv1
  go_wp2_with fail
  refine HN1.out.mono ?_
  rintro e w1 ⟨rfl, hs1, hc1⟩
  have HKZ1 := bx (HKZ.out.ch hc1 (fun h => by have := Two.lt hgs hgr B h; omega))
  have HC1 := bx (HC0.out.trans hc1 (fun _ _ h => h))
  obtain ⟨ga, hga⟩ : ∃ ga, w1.heap.size = ga := ⟨_, rfl⟩
  have HGA := bx hga
  have hzB : B < ga := by rw [← hga]; exact HKZ1.out.lt
  have HK2 := bx (Bk.newAt w1 53 #[.int .i64 v1, .int .i64 0, .int .i64 0, .int .i64 0, .string ⟨#[]⟩] hga)
  have HKZ2 := bx (HKZ1.out.alloc (.cells #[.int .i64 v1, .int .i64 0, .int .i64 0, .int .i64 0, .string ⟨#[]⟩] 53))
  have HS2 := bx (hs1.below (bl_alloc (Below.refl _ _) (Nat.le_refl _) (.cells #[.int .i64 v1, .int .i64 0, .int .i64 0, .int .i64 0, .string ⟨#[]⟩] 53)))
  have HC2 := bx (HC1.out.alloc (.cells #[.int .i64 v1, .int .i64 0, .int .i64 0, .int .i64 0, .string ⟨#[]⟩] 53))
  clear hs1 hc1 HN1 HKZ HS0 HC0 HKZ1 HC1 hga
  go_upto_region 2 with (fail)
  rw [HGA.out]
  generalize w1.alloc (.cells #[.int .i64 v1, .int .i64 0, .int .i64 0, .int .i64 0, .string ⟨#[]⟩] 53) = w2 at HK2 HKZ2 HS2 HC2 ⊢
  have hc0 : w2.cell? ⟨ga, 0, none⟩ = some (.int .i64 v1) := (HK2.out.cell 0).trans rfl
  by_cases hoth : v1 ≠ 1 ∧ v1 ≠ 3 ∧ v1 ≠ 5 ∧ v1 ≠ 7 ∧ v1 ≠ 8 ∧ v1 ≠ 9 ∧ v1 ≠ 10 ∧ v1 ≠ 11 ∧ v1 ≠ 12
  · obtain ⟨o1, o3, o5, o7, o8, o9, o10, o11, o12⟩ := hoth
    have d1 : (v1 == 1) = false := by simpa using o1
    have d3 : (v1 == 3) = false := by simpa using o3
    have d5 : (v1 == 5) = false := by simpa using o5
    have d7 : (v1 == 7) = false := by simpa using o7
    have d8 : (v1 == 8) = false := by simpa using o8
    have d9 : (v1 == 9) = false := by simpa using o9
    have d10 : (v1 == 10) = false := by simpa using o10
    have d11 : (v1 == 11) = false := by simpa using o11
    have d12 : (v1 == 12) = false := by simpa using o12
    have HST : Bx (stR R = failR (stR r1) 24 ∧ ∀ x, R ≠ .ok x) := bx (by
      cases r1 with
      | err k => rw [← HR.out, cst_bad H1.out]; exact ⟨rfl, fun x e => by cases e⟩
      | ok y =>
        obtain ⟨t, p⟩ := y
        have hv : (t : Int) = v1 := HV.out
        rw [← HR.out, cst_tag H1.out, cst_none (by omega)]
        exact ⟨rfl, fun x e => by cases e⟩)
    have HF := bx (sfail_any gs gr b _ 24 w2 HS2.out (by decide))
    clear o1 o3 o5 o7 o8 o9 o10 o11 o12 HS2
    go_wp2_with fail
    refine HF.out.mono ?_
    rintro e w3 ⟨⟨v, rfl⟩, hs3, hc3⟩
    have HK3 := bx (HK2.out.ch hc3 (fun h => by have := Two.lt hgs hgr ga h; omega))
    have HKZ3 := bx (HKZ2.out.ch hc3 (fun h => by have := Two.lt hgs hgr B h; omega))
    have HC3 := bx (HC2.out.trans hc3 (fun _ _ h => h))
    have HS3 := bx hs3
    clear hs3 hc3 HF HK2 HKZ2 HC2 hc0 d1 d3 d5 d7 d8 d9 d10 d11 d12
    have k0 : w3.cell? ⟨ga, 0, none⟩ = some (.int .i64 v1) := (HK3.out.cell 0).trans rfl
    have k1 : w3.cell? ⟨ga, 1, none⟩ = some (.int .i64 0) := (HK3.out.cell 1).trans rfl
    have k2 : w3.cell? ⟨ga, 2, none⟩ = some (.int .i64 0) := (HK3.out.cell 2).trans rfl
    have k3 : w3.cell? ⟨ga, 3, none⟩ = some (.int .i64 0) := (HK3.out.cell 3).trans rfl
    have k4 : w3.cell? ⟨ga, 4, none⟩ = some (.string ⟨#[]⟩) := (HK3.out.cell 4).trans rfl
    have z0 : w3.cell? ⟨B, 0, none⟩ = some (.int .i64 0) := (HKZ3.out.cell 0).trans rfl
    have z1 : w3.cell? ⟨B, 1, none⟩ = some (.int .i64 0) := (HKZ3.out.cell 1).trans rfl
    have z2 : w3.cell? ⟨B, 2, none⟩ = some (.int .i64 0) := (HKZ3.out.cell 2).trans rfl
    have z3 : w3.cell? ⟨B, 3, none⟩ = some (.int .i64 0) := (HKZ3.out.cell 3).trans rfl
    have z4 : w3.cell? ⟨B, 4, none⟩ = some (.string ⟨#[]⟩) := (HKZ3.out.cell 4).trans rfl
    have f0 := HKZ3.out.frz 0
    have f1 := HKZ3.out.frz 1
    have f2 := HKZ3.out.frz 2
    have f3 := HKZ3.out.frz 3
    have f4 := HKZ3.out.frz 4
    go_wp2
    have HZ9 := bx (bk_store5 HKZ3.out (.int .i64 v1) (.int .i64 0) (.int .i64 0) (.int .i64 0) (.string ⟨#[]⟩))
    have HB9 := bx (bl_store5 (B := B) (Below.refl B w3) (.int .i64 v1) (.int .i64 0) (.int .i64 0) (.int .i64 0) (.string ⟨#[]⟩))
    have HC9 := bx (ch_store5 HC3.out (Nat.le_of_eq HB.out) (.int .i64 v1) (.int .i64 0) (.int .i64 0) (.int .i64 0) (.string ⟨#[]⟩))
    have HS9 := bx (HS3.out.low HB9.out hgs hgr)
    generalize (((((w3.setCell ⟨B, 0, none⟩ (.int .i64 v1)).setCell ⟨B, 1, none⟩ (.int .i64 0)).setCell ⟨B, 2, none⟩ (.int .i64 0)).setCell ⟨B, 3, none⟩ (.int .i64 0)).setCell ⟨B, 4, none⟩ (.string ⟨#[]⟩)) = w9 at HZ9 HB9 HC9 HS9 ⊢
    have e0 : w9.cell? ⟨B, 0, none⟩ = some (.int .i64 v1) := (HZ9.out.cell 0).trans rfl
    have e1 : w9.cell? ⟨B, 1, none⟩ = some (.int .i64 0) := (HZ9.out.cell 1).trans rfl
    have e2 : w9.cell? ⟨B, 2, none⟩ = some (.int .i64 0) := (HZ9.out.cell 2).trans rfl
    have e3 : w9.cell? ⟨B, 3, none⟩ = some (.int .i64 0) := (HZ9.out.cell 3).trans rfl
    have e4 : w9.cell? ⟨B, 4, none⟩ = some (.string ⟨#[]⟩) := (HZ9.out.cell 4).trans rfl
    exact bodyPost_ret (v := .agg #[.int .i64 v1, .int .i64 0, .int .i64 0, .int .i64 0, .string ⟨#[]⟩]) (by simp [results, Try.results27, go_sem, e0, e1, e2, e3, e4]) rfl ⟨⟨v1, 0, 0, 0, []⟩, rfl, by rw [HST.out.1]; exact HS9.out, HC9.out, fun x hx => absurd hx (HST.out.2 x)⟩
  · obtain ⟨t, q, hr1⟩ : ∃ t q, r1 = .ok (t, q) := by
      cases r1 with
      | err k =>
        have hv : (0 : Int) = v1 := HV.out
        exact absurd (by omega) hoth
      | ok y => exact ⟨y.1, y.2, rfl⟩
    subst hr1
    have hv : (t : Int) = v1 := HV.out
    have HRT := bx (cst_tag H1.out)
    rw [HR.out] at HRT
    have HS2 : Bx (Src w2 gs gr b (.ok q)) := bx HS2.out
    have ht9 : t = 1 ∨ t = 3 ∨ t = 5 ∨ t = 7 ∨ t = 8 ∨ t = 9 ∨ t = 10 ∨ t = 11 ∨ t = 12 := by omega
    clear H1 HV hv0 hv256 hoth
    rcases ht9 with rfl | rfl | rfl | rfl | rfl | rfl | rfl | rfl | rfl
    · obtain rfl : v1 = 1 := by have h9 : ((1 : Nat) : Int) = v1 := hv; omega
      clear hv
      have d1 : ((1 : Int) == 1) = true := by rfl
      have d3 : ((1 : Int) == 3) = false := by rfl
      have d5 : ((1 : Int) == 5) = false := by rfl
      have d7 : ((1 : Int) == 7) = false := by rfl
      have d8 : ((1 : Int) == 8) = false := by rfl
      have d9 : ((1 : Int) == 9) = false := by rfl
      have d10 : ((1 : Int) == 10) = false := by rfl
      have d11 : ((1 : Int) == 11) = false := by rfl
      have d12 : ((1 : Int) == 12) = false := by rfl
      obtain ⟨r2, h2⟩ : ∃ r2, onR (.ok q) (rdN 2) b = r2 := ⟨_, rfl⟩
      have HN := bx (snum_small gs gr 2 b (.ok q) w2 HS2.out (by decide) (by decide))
      rw [h2] at HN
      have H2 := bx h2
      clear h2
      go_wp2_with fail
      refine HN.out.mono ?_
      rintro e w3 ⟨rfl, hs3, hc3⟩
      have HK3 := bx (HK2.out.ch hc3 (fun h => by have := Two.lt hgs hgr ga h; omega))
      have HKZ3 := bx (HKZ2.out.ch hc3 (fun h => by have := Two.lt hgs hgr B h; omega))
      have HC3 := bx (HC2.out.trans hc3 (fun _ _ h => h))
      have HS3 := bx hs3
      clear hs3 hc3 HN
      have hv2 := valN_lt 2 (.ok q) b
      rw [H2.out] at hv2
      obtain ⟨n2, hn2⟩ : ∃ n2 : Nat, valN r2 = (n2 : Int) := ⟨(valN r2).toNat, by omega⟩
      rw [hn2]
      have HV2 := bx hn2
      clear hv2 hn2
      obtain ⟨r3, h3⟩ : ∃ r3, onR (stR r2) (rdB n2) b = r3 := ⟨_, rfl⟩
      have HP := bx (spart_any gs gr n2 b (stR r2) w3 HS3.out)
      have hlen := valB_len n2 (stR r2) b
      rw [h3] at HP hlen
      have H3 := bx h3
      obtain ⟨l, hl⟩ : ∃ l, valB r3 = l := ⟨_, rfl⟩
      rw [hl] at HP hlen
      have HL := bx hl
      have HLN := bx hlen
      clear h3 hl hlen
      go_wp2_with fail
      refine HP.out.mono ?_
      rintro e w4 ⟨⟨v, rfl, ho4⟩, hs3, hc3⟩
      have HK4 := bx (HK3.out.ch hc3 (fun h => by have := Two.lt hgs hgr ga h; omega))
      have HKZ4 := bx (HKZ3.out.ch hc3 (fun h => by have := Two.lt hgs hgr B h; omega))
      have HC4 := bx (HC3.out.trans hc3 (fun _ _ h => h))
      have HS4 := bx hs3
      obtain ⟨A4, c4, rfl, hr4, _, _⟩ := OwL.rd ho4
      have hcs := run_conv_str (P := Try.prog) (c := c4) Try.underlying22 Try.underlying5 Try.underlying9 rfl hr4
      clear hs3 hc3 HP ho4 hr4 HK3 HKZ3 HC3 HS3
      have q0 : w4.cell? ⟨ga, 4, none⟩ = some (.string ⟨#[]⟩) := (HK4.out.cell 4).trans rfl
      have qf := HK4.out.frz 4
      have ql := HK4.out.lt
      go_upto_region 6 with (fail)
      have HK5 : Bx (Bk (w4.setCell ⟨ga, 4, none⟩ (.string ⟨l.toArray⟩)) ga 53 #[.int .i64 1, .int .i64 0, .int .i64 0, .int .i64 0, .string ⟨l.toArray⟩]) := bx (by simpa using HK4.out.set 4 (.string ⟨l.toArray⟩))
      have HKZ5 := bx (HKZ4.out.far (p := ⟨ga, 4, none⟩) (by show B ≠ ga; omega) (.string ⟨l.toArray⟩))
      have HC5 := bx (HC4.out.setCell (p := ⟨ga, 4, none⟩) (fun h => absurd (show ga < w.heap.size from h) (by have := HB.out; omega)) (.string ⟨l.toArray⟩))
      have HS5 := bx (HS4.out.low (B := B) ((Below.refl B w4).setCell (p := ⟨ga, 4, none⟩) (Nat.le_of_lt hzB) (.string ⟨l.toArray⟩)) hgs hgr)
      generalize w4.setCell ⟨ga, 4, none⟩ (.string ⟨l.toArray⟩) = w5 at HK5 HKZ5 HC5 HS5 ⊢
      clear HK4 HKZ4 HC4 HS4
      clear q0 qf ql hcs
      have q4 : w5.cell? ⟨ga, 4, none⟩ = some (.string ⟨l.toArray⟩) := (HK5.out.cell 4).trans rfl
      have HU := bx (units_post ⟨l.toArray⟩ w5 (by have := HLN.out; show l.toArray.size ≤ 2000000; rw [List.size_toArray]; omega))
      go_wp2_with fail
      refine HU.out.mono ?_
      rintro e w6 ⟨AU, nU, cU, rfl, _, _, hb6⟩
      have HK6 := bx (HK5.out.below hb6 HK5.out.lt)
      have HKZ6 := bx (HKZ5.out.below hb6 HKZ5.out.lt)
      have HC6 := bx (HC5.out.trans (Ch.of_below (S := Two gs gr) hb6) (fun _ _ h => h))
      have HS6 := bx (HS5.out.below hb6)
      clear hb6 HU HK5 HKZ5 HC5 HS5 q4
      cases hu : unitsB l with
      | none =>
        rw [unitsV_no hu]
        have HST : Bx (stR R = failR (stR r3) 23 ∧ ∀ x, R ≠ .ok x) := bx (by
          have hno : uOk l = false := by unfold uOk; rw [hu]; rfl
          rw [HRT.out, cst_text H2.out HV2.out H3.out]
          cases r3 with
          | err k =>
            have hl : ([] : List UInt8) = l := HL.out
            rw [← hl] at hno; exact absurd hno (by decide)
          | ok z =>
            have hl : z.1 = l := HL.out
            show stR (if uOk z.1 = true then Rz.ok ((⟨1, 0, 0, 0, z.1⟩ : Cst), z.2) else Rz.err 23) = _ ∧ ∀ x, (if uOk z.1 = true then Rz.ok ((⟨1, 0, 0, 0, z.1⟩ : Cst), z.2) else Rz.err 23) ≠ .ok x
            rw [if_neg (by rw [hl, hno]; decide)]
            exact ⟨rfl, fun x e => by cases e⟩)
        have HF := bx (sfail_any gs gr b _ 23 w6 HS6.out (by decide))
        clear hu
        go_wp2_with fail
        refine HF.out.mono ?_
        rintro e w7 ⟨⟨v, rfl⟩, hs3, hc3⟩
        have HK7 := bx (HK6.out.ch hc3 (fun h => by have := Two.lt hgs hgr ga h; omega))
        have HKZ7 := bx (HKZ6.out.ch hc3 (fun h => by have := Two.lt hgs hgr B h; omega))
        have HC7 := bx (HC6.out.trans hc3 (fun _ _ h => h))
        have HS7 := bx hs3
        clear hs3 hc3 HF HK6 HKZ6 HC6 HS6
        have k0 : w7.cell? ⟨ga, 0, none⟩ = some (.int .i64 1) := (HK7.out.cell 0).trans rfl
        have k1 : w7.cell? ⟨ga, 1, none⟩ = some (.int .i64 0) := (HK7.out.cell 1).trans rfl
        have k2 : w7.cell? ⟨ga, 2, none⟩ = some (.int .i64 0) := (HK7.out.cell 2).trans rfl
        have k3 : w7.cell? ⟨ga, 3, none⟩ = some (.int .i64 0) := (HK7.out.cell 3).trans rfl
        have k4 : w7.cell? ⟨ga, 4, none⟩ = some (.string ⟨l.toArray⟩) := (HK7.out.cell 4).trans rfl
        have z0 : w7.cell? ⟨B, 0, none⟩ = some (.int .i64 0) := (HKZ7.out.cell 0).trans rfl
        have z1 : w7.cell? ⟨B, 1, none⟩ = some (.int .i64 0) := (HKZ7.out.cell 1).trans rfl
        have z2 : w7.cell? ⟨B, 2, none⟩ = some (.int .i64 0) := (HKZ7.out.cell 2).trans rfl
        have z3 : w7.cell? ⟨B, 3, none⟩ = some (.int .i64 0) := (HKZ7.out.cell 3).trans rfl
        have z4 : w7.cell? ⟨B, 4, none⟩ = some (.string ⟨#[]⟩) := (HKZ7.out.cell 4).trans rfl
        have f0 := HKZ7.out.frz 0
        have f1 := HKZ7.out.frz 1
        have f2 := HKZ7.out.frz 2
        have f3 := HKZ7.out.frz 3
        have f4 := HKZ7.out.frz 4
        go_wp2
        have HZ9 := bx (bk_store5 HKZ7.out (.int .i64 1) (.int .i64 0) (.int .i64 0) (.int .i64 0) (.string ⟨l.toArray⟩))
        have HB9 := bx (bl_store5 (B := B) (Below.refl B w7) (.int .i64 1) (.int .i64 0) (.int .i64 0) (.int .i64 0) (.string ⟨l.toArray⟩))
        have HC9 := bx (ch_store5 HC7.out (Nat.le_of_eq HB.out) (.int .i64 1) (.int .i64 0) (.int .i64 0) (.int .i64 0) (.string ⟨l.toArray⟩))
        have HS9 := bx (HS7.out.low HB9.out hgs hgr)
        generalize (((((w7.setCell ⟨B, 0, none⟩ (.int .i64 1)).setCell ⟨B, 1, none⟩ (.int .i64 0)).setCell ⟨B, 2, none⟩ (.int .i64 0)).setCell ⟨B, 3, none⟩ (.int .i64 0)).setCell ⟨B, 4, none⟩ (.string ⟨l.toArray⟩)) = w9 at HZ9 HB9 HC9 HS9 ⊢
        have e0 : w9.cell? ⟨B, 0, none⟩ = some (.int .i64 1) := (HZ9.out.cell 0).trans rfl
        have e1 : w9.cell? ⟨B, 1, none⟩ = some (.int .i64 0) := (HZ9.out.cell 1).trans rfl
        have e2 : w9.cell? ⟨B, 2, none⟩ = some (.int .i64 0) := (HZ9.out.cell 2).trans rfl
        have e3 : w9.cell? ⟨B, 3, none⟩ = some (.int .i64 0) := (HZ9.out.cell 3).trans rfl
        have e4 : w9.cell? ⟨B, 4, none⟩ = some (.string ⟨l.toArray⟩) := (HZ9.out.cell 4).trans rfl
        exact bodyPost_ret (v := .agg #[.int .i64 1, .int .i64 0, .int .i64 0, .int .i64 0, .string ⟨l.toArray⟩]) (by simp [results, Try.results27, go_sem, e0, e1, e2, e3, e4]) rfl ⟨⟨1, 0, 0, 0, l⟩, rfl, by rw [HST.out.1]; exact HS9.out, HC9.out, fun x hx => absurd hx (HST.out.2 x)⟩
      | some us =>
        rw [unitsV_yes hu]
        have HST : Bx (stR R = stR r3 ∧ ∀ x, R = .ok x → (⟨1, 0, 0, 0, l⟩ : Cst) = x.1) := bx (by
          have hyes : uOk l = true := by unfold uOk; rw [hu]; rfl
          rw [HRT.out, cst_text H2.out HV2.out H3.out]
          cases r3 with
          | err k => exact ⟨rfl, fun x e => by cases e⟩
          | ok z =>
            have hl : z.1 = l := HL.out
            show stR (if uOk z.1 = true then Rz.ok ((⟨1, 0, 0, 0, z.1⟩ : Cst), z.2) else Rz.err 23) = _ ∧ ∀ x, (if uOk z.1 = true then Rz.ok ((⟨1, 0, 0, 0, z.1⟩ : Cst), z.2) else Rz.err 23) = .ok x → _
            rw [if_pos (by rw [hl]; exact hyes)]
            refine ⟨rfl, fun x e => ?_⟩
            injection e with e
            rw [← e, hl])
        clear hu
        have k0 : w6.cell? ⟨ga, 0, none⟩ = some (.int .i64 1) := (HK6.out.cell 0).trans rfl
        have k1 : w6.cell? ⟨ga, 1, none⟩ = some (.int .i64 0) := (HK6.out.cell 1).trans rfl
        have k2 : w6.cell? ⟨ga, 2, none⟩ = some (.int .i64 0) := (HK6.out.cell 2).trans rfl
        have k3 : w6.cell? ⟨ga, 3, none⟩ = some (.int .i64 0) := (HK6.out.cell 3).trans rfl
        have k4 : w6.cell? ⟨ga, 4, none⟩ = some (.string ⟨l.toArray⟩) := (HK6.out.cell 4).trans rfl
        have z0 : w6.cell? ⟨B, 0, none⟩ = some (.int .i64 0) := (HKZ6.out.cell 0).trans rfl
        have z1 : w6.cell? ⟨B, 1, none⟩ = some (.int .i64 0) := (HKZ6.out.cell 1).trans rfl
        have z2 : w6.cell? ⟨B, 2, none⟩ = some (.int .i64 0) := (HKZ6.out.cell 2).trans rfl
        have z3 : w6.cell? ⟨B, 3, none⟩ = some (.int .i64 0) := (HKZ6.out.cell 3).trans rfl
        have z4 : w6.cell? ⟨B, 4, none⟩ = some (.string ⟨#[]⟩) := (HKZ6.out.cell 4).trans rfl
        have f0 := HKZ6.out.frz 0
        have f1 := HKZ6.out.frz 1
        have f2 := HKZ6.out.frz 2
        have f3 := HKZ6.out.frz 3
        have f4 := HKZ6.out.frz 4
        go_wp2
        have HZ9 := bx (bk_store5 HKZ6.out (.int .i64 1) (.int .i64 0) (.int .i64 0) (.int .i64 0) (.string ⟨l.toArray⟩))
        have HB9 := bx (bl_store5 (B := B) (Below.refl B w6) (.int .i64 1) (.int .i64 0) (.int .i64 0) (.int .i64 0) (.string ⟨l.toArray⟩))
        have HC9 := bx (ch_store5 HC6.out (Nat.le_of_eq HB.out) (.int .i64 1) (.int .i64 0) (.int .i64 0) (.int .i64 0) (.string ⟨l.toArray⟩))
        have HS9 := bx (HS6.out.low HB9.out hgs hgr)
        generalize (((((w6.setCell ⟨B, 0, none⟩ (.int .i64 1)).setCell ⟨B, 1, none⟩ (.int .i64 0)).setCell ⟨B, 2, none⟩ (.int .i64 0)).setCell ⟨B, 3, none⟩ (.int .i64 0)).setCell ⟨B, 4, none⟩ (.string ⟨l.toArray⟩)) = w9 at HZ9 HB9 HC9 HS9 ⊢
        have e0 : w9.cell? ⟨B, 0, none⟩ = some (.int .i64 1) := (HZ9.out.cell 0).trans rfl
        have e1 : w9.cell? ⟨B, 1, none⟩ = some (.int .i64 0) := (HZ9.out.cell 1).trans rfl
        have e2 : w9.cell? ⟨B, 2, none⟩ = some (.int .i64 0) := (HZ9.out.cell 2).trans rfl
        have e3 : w9.cell? ⟨B, 3, none⟩ = some (.int .i64 0) := (HZ9.out.cell 3).trans rfl
        have e4 : w9.cell? ⟨B, 4, none⟩ = some (.string ⟨l.toArray⟩) := (HZ9.out.cell 4).trans rfl
        exact bodyPost_ret (v := .agg #[.int .i64 1, .int .i64 0, .int .i64 0, .int .i64 0, .string ⟨l.toArray⟩]) (by simp [results, Try.results27, go_sem, e0, e1, e2, e3, e4]) rfl ⟨⟨1, 0, 0, 0, l⟩, rfl, by rw [HST.out.1]; exact HS9.out, HC9.out, HST.out.2⟩
    · obtain rfl : v1 = 3 := by have h9 : ((3 : Nat) : Int) = v1 := hv; omega
      clear hv
      have d1 : ((3 : Int) == 1) = false := by rfl
      have d3 : ((3 : Int) == 3) = true := by rfl
      have d5 : ((3 : Int) == 5) = false := by rfl
      have d7 : ((3 : Int) == 7) = false := by rfl
      have d8 : ((3 : Int) == 8) = false := by rfl
      have d9 : ((3 : Int) == 9) = false := by rfl
      have d10 : ((3 : Int) == 10) = false := by rfl
      have d11 : ((3 : Int) == 11) = false := by rfl
      have d12 : ((3 : Int) == 12) = false := by rfl
      obtain ⟨r2, h2⟩ : ∃ r2, onR (.ok q) (rdN 4) b = r2 := ⟨_, rfl⟩
      have HN := bx (snum_small gs gr 4 b (.ok q) w2 HS2.out (by decide) (by decide))
      rw [h2] at HN
      have H2 := bx h2
      clear h2
      go_wp2_with fail
      refine HN.out.mono ?_
      rintro e w3 ⟨rfl, hs3, hc3⟩
      have HK3 := bx (HK2.out.ch hc3 (fun h => by have := Two.lt hgs hgr ga h; omega))
      have HKZ3 := bx (HKZ2.out.ch hc3 (fun h => by have := Two.lt hgs hgr B h; omega))
      have HC3 := bx (HC2.out.trans hc3 (fun _ _ h => h))
      have HS3 := bx hs3
      clear hs3 hc3 HN
      have hb := valN_lt 4 (.ok q) b
      rw [H2.out] at hb
      obtain ⟨v2, hv2⟩ : ∃ v2, valN r2 = v2 := ⟨_, rfl⟩
      rw [hv2]
      have HV2 := bx hv2
      rw [hv2] at hb
      have hb0 := hb.1
      have hb1 : v2 < 4294967296 := hb.2
      clear hb
      clear hv2
      have q0 : w3.cell? ⟨ga, 3, none⟩ = some (.int .i64 0) := (HK3.out.cell 3).trans rfl
      have qf := HK3.out.frz 3
      have ql := HK3.out.lt
      go_upto_region 22 with (fail)
      generalize hu : wrap64 (wrap32 v2) = u2
      have HU := bx hu
      clear hu
      have HK4 : Bx (Bk (w3.setCell ⟨ga, 3, none⟩ (.int .i64 u2)) ga 53 #[.int .i64 3, .int .i64 0, .int .i64 0, .int .i64 u2, .string ⟨#[]⟩]) := bx (by simpa using HK3.out.set 3 (.int .i64 u2))
      have HKZ4 := bx (HKZ3.out.far (p := ⟨ga, 3, none⟩) (by show B ≠ ga; omega) (.int .i64 u2))
      have HC4 := bx (HC3.out.setCell (p := ⟨ga, 3, none⟩) (fun h => absurd (show ga < w.heap.size from h) (by have := HB.out; omega)) (.int .i64 u2))
      have HS4 := bx (HS3.out.low (B := B) ((Below.refl B w3).setCell (p := ⟨ga, 3, none⟩) (Nat.le_of_lt hzB) (.int .i64 u2)) hgs hgr)
      generalize w3.setCell ⟨ga, 3, none⟩ (.int .i64 u2) = w4 at HK4 HKZ4 HC4 HS4 ⊢
      clear HK3 HKZ3 HC3 HS3
      have HST : Bx (stR R = stR r2 ∧ ∀ x, R = .ok x → (⟨3, 0, 0, u2, []⟩ : Cst) = x.1) := bx (by
        rw [HRT.out, cst_int H2.out]
        cases r2 with
        | err k => exact ⟨rfl, fun x e => by cases e⟩
        | ok y =>
          refine ⟨rfl, fun x e => ?_⟩
          have e : Rz.ok _ = Rz.ok x := e
          injection e with e
          rw [← e]
          have hy : (y.1 : Int) = v2 := HV2.out
          rw [← HU.out, ← hy, sgn_wrap (by omega)])
      have k0 : w4.cell? ⟨ga, 0, none⟩ = some (.int .i64 3) := (HK4.out.cell 0).trans rfl
      have k1 : w4.cell? ⟨ga, 1, none⟩ = some (.int .i64 0) := (HK4.out.cell 1).trans rfl
      have k2 : w4.cell? ⟨ga, 2, none⟩ = some (.int .i64 0) := (HK4.out.cell 2).trans rfl
      have k3 : w4.cell? ⟨ga, 3, none⟩ = some (.int .i64 u2) := (HK4.out.cell 3).trans rfl
      have k4 : w4.cell? ⟨ga, 4, none⟩ = some (.string ⟨#[]⟩) := (HK4.out.cell 4).trans rfl
      have z0 : w4.cell? ⟨B, 0, none⟩ = some (.int .i64 0) := (HKZ4.out.cell 0).trans rfl
      have z1 : w4.cell? ⟨B, 1, none⟩ = some (.int .i64 0) := (HKZ4.out.cell 1).trans rfl
      have z2 : w4.cell? ⟨B, 2, none⟩ = some (.int .i64 0) := (HKZ4.out.cell 2).trans rfl
      have z3 : w4.cell? ⟨B, 3, none⟩ = some (.int .i64 0) := (HKZ4.out.cell 3).trans rfl
      have z4 : w4.cell? ⟨B, 4, none⟩ = some (.string ⟨#[]⟩) := (HKZ4.out.cell 4).trans rfl
      have f0 := HKZ4.out.frz 0
      have f1 := HKZ4.out.frz 1
      have f2 := HKZ4.out.frz 2
      have f3 := HKZ4.out.frz 3
      have f4 := HKZ4.out.frz 4
      go_wp2
      have HZ9 := bx (bk_store5 HKZ4.out (.int .i64 3) (.int .i64 0) (.int .i64 0) (.int .i64 u2) (.string ⟨#[]⟩))
      have HB9 := bx (bl_store5 (B := B) (Below.refl B w4) (.int .i64 3) (.int .i64 0) (.int .i64 0) (.int .i64 u2) (.string ⟨#[]⟩))
      have HC9 := bx (ch_store5 HC4.out (Nat.le_of_eq HB.out) (.int .i64 3) (.int .i64 0) (.int .i64 0) (.int .i64 u2) (.string ⟨#[]⟩))
      have HS9 := bx (HS4.out.low HB9.out hgs hgr)
      generalize (((((w4.setCell ⟨B, 0, none⟩ (.int .i64 3)).setCell ⟨B, 1, none⟩ (.int .i64 0)).setCell ⟨B, 2, none⟩ (.int .i64 0)).setCell ⟨B, 3, none⟩ (.int .i64 u2)).setCell ⟨B, 4, none⟩ (.string ⟨#[]⟩)) = w9 at HZ9 HB9 HC9 HS9 ⊢
      have e0 : w9.cell? ⟨B, 0, none⟩ = some (.int .i64 3) := (HZ9.out.cell 0).trans rfl
      have e1 : w9.cell? ⟨B, 1, none⟩ = some (.int .i64 0) := (HZ9.out.cell 1).trans rfl
      have e2 : w9.cell? ⟨B, 2, none⟩ = some (.int .i64 0) := (HZ9.out.cell 2).trans rfl
      have e3 : w9.cell? ⟨B, 3, none⟩ = some (.int .i64 u2) := (HZ9.out.cell 3).trans rfl
      have e4 : w9.cell? ⟨B, 4, none⟩ = some (.string ⟨#[]⟩) := (HZ9.out.cell 4).trans rfl
      exact bodyPost_ret (v := .agg #[.int .i64 3, .int .i64 0, .int .i64 0, .int .i64 u2, .string ⟨#[]⟩]) (by simp [results, Try.results27, go_sem, e0, e1, e2, e3, e4]) rfl ⟨⟨3, 0, 0, u2, []⟩, rfl, by rw [HST.out.1]; exact HS9.out, HC9.out, HST.out.2⟩
    · obtain rfl : v1 = 5 := by have h9 : ((5 : Nat) : Int) = v1 := hv; omega
      clear hv
      have d1 : ((5 : Int) == 1) = false := by rfl
      have d3 : ((5 : Int) == 3) = false := by rfl
      have d5 : ((5 : Int) == 5) = true := by rfl
      have d7 : ((5 : Int) == 7) = false := by rfl
      have d8 : ((5 : Int) == 8) = false := by rfl
      have d9 : ((5 : Int) == 9) = false := by rfl
      have d10 : ((5 : Int) == 10) = false := by rfl
      have d11 : ((5 : Int) == 11) = false := by rfl
      have d12 : ((5 : Int) == 12) = false := by rfl
      obtain ⟨r2, h2⟩ : ∃ r2, onR (.ok q) (rdN 8) b = r2 := ⟨_, rfl⟩
      have HN := bx (snum_any gs gr 8 b (.ok q) w2 HS2.out (by decide) (by decide))
      rw [h2] at HN
      have H2 := bx h2
      clear h2
      go_wp2_with fail
      refine HN.out.mono ?_
      rintro e w3 ⟨rfl, hs3, hc3⟩
      have HK3 := bx (HK2.out.ch hc3 (fun h => by have := Two.lt hgs hgr ga h; omega))
      have HKZ3 := bx (HKZ2.out.ch hc3 (fun h => by have := Two.lt hgs hgr B h; omega))
      have HC3 := bx (HC2.out.trans hc3 (fun _ _ h => h))
      have HS3 := bx hs3
      clear hs3 hc3 HN
      obtain ⟨v2, hv2⟩ : ∃ v2, wrap64 (valN r2) = v2 := ⟨_, rfl⟩
      rw [hv2]
      have HV2 := bx hv2
      clear hv2
      have q0 : w3.cell? ⟨ga, 3, none⟩ = some (.int .i64 0) := (HK3.out.cell 3).trans rfl
      have qf := HK3.out.frz 3
      have ql := HK3.out.lt
      go_upto_region 22 with (fail)
      have HK4 : Bx (Bk (w3.setCell ⟨ga, 3, none⟩ (.int .i64 v2)) ga 53 #[.int .i64 5, .int .i64 0, .int .i64 0, .int .i64 v2, .string ⟨#[]⟩]) := bx (by simpa using HK3.out.set 3 (.int .i64 v2))
      have HKZ4 := bx (HKZ3.out.far (p := ⟨ga, 3, none⟩) (by show B ≠ ga; omega) (.int .i64 v2))
      have HC4 := bx (HC3.out.setCell (p := ⟨ga, 3, none⟩) (fun h => absurd (show ga < w.heap.size from h) (by have := HB.out; omega)) (.int .i64 v2))
      have HS4 := bx (HS3.out.low (B := B) ((Below.refl B w3).setCell (p := ⟨ga, 3, none⟩) (Nat.le_of_lt hzB) (.int .i64 v2)) hgs hgr)
      generalize w3.setCell ⟨ga, 3, none⟩ (.int .i64 v2) = w4 at HK4 HKZ4 HC4 HS4 ⊢
      clear HK3 HKZ3 HC3 HS3
      have HST : Bx (stR R = stR r2 ∧ ∀ x, R = .ok x → (⟨5, 0, 0, v2, []⟩ : Cst) = x.1) := bx (by
        rw [HRT.out, cst_long H2.out]
        cases r2 with
        | err k => exact ⟨rfl, fun x e => by cases e⟩
        | ok y =>
          refine ⟨rfl, fun x e => ?_⟩
          have e : Rz.ok _ = Rz.ok x := e
          injection e with e
          rw [← e]
          rw [← HV2.out]; rfl)
      have k0 : w4.cell? ⟨ga, 0, none⟩ = some (.int .i64 5) := (HK4.out.cell 0).trans rfl
      have k1 : w4.cell? ⟨ga, 1, none⟩ = some (.int .i64 0) := (HK4.out.cell 1).trans rfl
      have k2 : w4.cell? ⟨ga, 2, none⟩ = some (.int .i64 0) := (HK4.out.cell 2).trans rfl
      have k3 : w4.cell? ⟨ga, 3, none⟩ = some (.int .i64 v2) := (HK4.out.cell 3).trans rfl
      have k4 : w4.cell? ⟨ga, 4, none⟩ = some (.string ⟨#[]⟩) := (HK4.out.cell 4).trans rfl
      have z0 : w4.cell? ⟨B, 0, none⟩ = some (.int .i64 0) := (HKZ4.out.cell 0).trans rfl
      have z1 : w4.cell? ⟨B, 1, none⟩ = some (.int .i64 0) := (HKZ4.out.cell 1).trans rfl
      have z2 : w4.cell? ⟨B, 2, none⟩ = some (.int .i64 0) := (HKZ4.out.cell 2).trans rfl
      have z3 : w4.cell? ⟨B, 3, none⟩ = some (.int .i64 0) := (HKZ4.out.cell 3).trans rfl
      have z4 : w4.cell? ⟨B, 4, none⟩ = some (.string ⟨#[]⟩) := (HKZ4.out.cell 4).trans rfl
      have f0 := HKZ4.out.frz 0
      have f1 := HKZ4.out.frz 1
      have f2 := HKZ4.out.frz 2
      have f3 := HKZ4.out.frz 3
      have f4 := HKZ4.out.frz 4
      go_wp2
      have HZ9 := bx (bk_store5 HKZ4.out (.int .i64 5) (.int .i64 0) (.int .i64 0) (.int .i64 v2) (.string ⟨#[]⟩))
      have HB9 := bx (bl_store5 (B := B) (Below.refl B w4) (.int .i64 5) (.int .i64 0) (.int .i64 0) (.int .i64 v2) (.string ⟨#[]⟩))
      have HC9 := bx (ch_store5 HC4.out (Nat.le_of_eq HB.out) (.int .i64 5) (.int .i64 0) (.int .i64 0) (.int .i64 v2) (.string ⟨#[]⟩))
      have HS9 := bx (HS4.out.low HB9.out hgs hgr)
      generalize (((((w4.setCell ⟨B, 0, none⟩ (.int .i64 5)).setCell ⟨B, 1, none⟩ (.int .i64 0)).setCell ⟨B, 2, none⟩ (.int .i64 0)).setCell ⟨B, 3, none⟩ (.int .i64 v2)).setCell ⟨B, 4, none⟩ (.string ⟨#[]⟩)) = w9 at HZ9 HB9 HC9 HS9 ⊢
      have e0 : w9.cell? ⟨B, 0, none⟩ = some (.int .i64 5) := (HZ9.out.cell 0).trans rfl
      have e1 : w9.cell? ⟨B, 1, none⟩ = some (.int .i64 0) := (HZ9.out.cell 1).trans rfl
      have e2 : w9.cell? ⟨B, 2, none⟩ = some (.int .i64 0) := (HZ9.out.cell 2).trans rfl
      have e3 : w9.cell? ⟨B, 3, none⟩ = some (.int .i64 v2) := (HZ9.out.cell 3).trans rfl
      have e4 : w9.cell? ⟨B, 4, none⟩ = some (.string ⟨#[]⟩) := (HZ9.out.cell 4).trans rfl
      exact bodyPost_ret (v := .agg #[.int .i64 5, .int .i64 0, .int .i64 0, .int .i64 v2, .string ⟨#[]⟩]) (by simp [results, Try.results27, go_sem, e0, e1, e2, e3, e4]) rfl ⟨⟨5, 0, 0, v2, []⟩, rfl, by rw [HST.out.1]; exact HS9.out, HC9.out, HST.out.2⟩
    · obtain rfl : v1 = 7 := by have h9 : ((7 : Nat) : Int) = v1 := hv; omega
      clear hv
      have d1 : ((7 : Int) == 1) = false := by rfl
      have d3 : ((7 : Int) == 3) = false := by rfl
      have d5 : ((7 : Int) == 5) = false := by rfl
      have d7 : ((7 : Int) == 7) = true := by rfl
      have d8 : ((7 : Int) == 8) = false := by rfl
      have d9 : ((7 : Int) == 9) = false := by rfl
      have d10 : ((7 : Int) == 10) = false := by rfl
      have d11 : ((7 : Int) == 11) = false := by rfl
      have d12 : ((7 : Int) == 12) = false := by rfl
      obtain ⟨r2, h2⟩ : ∃ r2, onR (.ok q) (rdN 2) b = r2 := ⟨_, rfl⟩
      have HN := bx (snum_small gs gr 2 b (.ok q) w2 HS2.out (by decide) (by decide))
      rw [h2] at HN
      have H2 := bx h2
      clear h2
      go_wp2_with fail
      refine HN.out.mono ?_
      rintro e w3 ⟨rfl, hs3, hc3⟩
      have HK3 := bx (HK2.out.ch hc3 (fun h => by have := Two.lt hgs hgr ga h; omega))
      have HKZ3 := bx (HKZ2.out.ch hc3 (fun h => by have := Two.lt hgs hgr B h; omega))
      have HC3 := bx (HC2.out.trans hc3 (fun _ _ h => h))
      have HS3 := bx hs3
      clear hs3 hc3 HN
      obtain ⟨v2, hv2⟩ : ∃ v2, valN r2 = v2 := ⟨_, rfl⟩
      rw [hv2]
      have HV2 := bx hv2
      clear hv2
      have q0 : w3.cell? ⟨ga, 1, none⟩ = some (.int .i64 0) := (HK3.out.cell 1).trans rfl
      have qf := HK3.out.frz 1
      have ql := HK3.out.lt
      go_upto_region 22 with (fail)
      have HK4 : Bx (Bk (w3.setCell ⟨ga, 1, none⟩ (.int .i64 v2)) ga 53 #[.int .i64 7, .int .i64 v2, .int .i64 0, .int .i64 0, .string ⟨#[]⟩]) := bx (by simpa using HK3.out.set 1 (.int .i64 v2))
      have HKZ4 := bx (HKZ3.out.far (p := ⟨ga, 1, none⟩) (by show B ≠ ga; omega) (.int .i64 v2))
      have HC4 := bx (HC3.out.setCell (p := ⟨ga, 1, none⟩) (fun h => absurd (show ga < w.heap.size from h) (by have := HB.out; omega)) (.int .i64 v2))
      have HS4 := bx (HS3.out.low (B := B) ((Below.refl B w3).setCell (p := ⟨ga, 1, none⟩) (Nat.le_of_lt hzB) (.int .i64 v2)) hgs hgr)
      generalize w3.setCell ⟨ga, 1, none⟩ (.int .i64 v2) = w4 at HK4 HKZ4 HC4 HS4 ⊢
      clear HK3 HKZ3 HC3 HS3
      have HST : Bx (stR R = stR r2 ∧ ∀ x, R = .ok x → (⟨7, v2, 0, 0, []⟩ : Cst) = x.1) := bx (by
        rw [HRT.out, cst_one (.inl rfl) H2.out]
        cases r2 with
        | err k => exact ⟨rfl, fun x e => by cases e⟩
        | ok y =>
          refine ⟨rfl, fun x e => ?_⟩
          have e : Rz.ok _ = Rz.ok x := e
          injection e with e
          rw [← e]
          rw [← HV2.out]; rfl)
      have k0 : w4.cell? ⟨ga, 0, none⟩ = some (.int .i64 7) := (HK4.out.cell 0).trans rfl
      have k1 : w4.cell? ⟨ga, 1, none⟩ = some (.int .i64 v2) := (HK4.out.cell 1).trans rfl
      have k2 : w4.cell? ⟨ga, 2, none⟩ = some (.int .i64 0) := (HK4.out.cell 2).trans rfl
      have k3 : w4.cell? ⟨ga, 3, none⟩ = some (.int .i64 0) := (HK4.out.cell 3).trans rfl
      have k4 : w4.cell? ⟨ga, 4, none⟩ = some (.string ⟨#[]⟩) := (HK4.out.cell 4).trans rfl
      have z0 : w4.cell? ⟨B, 0, none⟩ = some (.int .i64 0) := (HKZ4.out.cell 0).trans rfl
      have z1 : w4.cell? ⟨B, 1, none⟩ = some (.int .i64 0) := (HKZ4.out.cell 1).trans rfl
      have z2 : w4.cell? ⟨B, 2, none⟩ = some (.int .i64 0) := (HKZ4.out.cell 2).trans rfl
      have z3 : w4.cell? ⟨B, 3, none⟩ = some (.int .i64 0) := (HKZ4.out.cell 3).trans rfl
      have z4 : w4.cell? ⟨B, 4, none⟩ = some (.string ⟨#[]⟩) := (HKZ4.out.cell 4).trans rfl
      have f0 := HKZ4.out.frz 0
      have f1 := HKZ4.out.frz 1
      have f2 := HKZ4.out.frz 2
      have f3 := HKZ4.out.frz 3
      have f4 := HKZ4.out.frz 4
      go_wp2
      have HZ9 := bx (bk_store5 HKZ4.out (.int .i64 7) (.int .i64 v2) (.int .i64 0) (.int .i64 0) (.string ⟨#[]⟩))
      have HB9 := bx (bl_store5 (B := B) (Below.refl B w4) (.int .i64 7) (.int .i64 v2) (.int .i64 0) (.int .i64 0) (.string ⟨#[]⟩))
      have HC9 := bx (ch_store5 HC4.out (Nat.le_of_eq HB.out) (.int .i64 7) (.int .i64 v2) (.int .i64 0) (.int .i64 0) (.string ⟨#[]⟩))
      have HS9 := bx (HS4.out.low HB9.out hgs hgr)
      generalize (((((w4.setCell ⟨B, 0, none⟩ (.int .i64 7)).setCell ⟨B, 1, none⟩ (.int .i64 v2)).setCell ⟨B, 2, none⟩ (.int .i64 0)).setCell ⟨B, 3, none⟩ (.int .i64 0)).setCell ⟨B, 4, none⟩ (.string ⟨#[]⟩)) = w9 at HZ9 HB9 HC9 HS9 ⊢
      have e0 : w9.cell? ⟨B, 0, none⟩ = some (.int .i64 7) := (HZ9.out.cell 0).trans rfl
      have e1 : w9.cell? ⟨B, 1, none⟩ = some (.int .i64 v2) := (HZ9.out.cell 1).trans rfl
      have e2 : w9.cell? ⟨B, 2, none⟩ = some (.int .i64 0) := (HZ9.out.cell 2).trans rfl
      have e3 : w9.cell? ⟨B, 3, none⟩ = some (.int .i64 0) := (HZ9.out.cell 3).trans rfl
      have e4 : w9.cell? ⟨B, 4, none⟩ = some (.string ⟨#[]⟩) := (HZ9.out.cell 4).trans rfl
      exact bodyPost_ret (v := .agg #[.int .i64 7, .int .i64 v2, .int .i64 0, .int .i64 0, .string ⟨#[]⟩]) (by simp [results, Try.results27, go_sem, e0, e1, e2, e3, e4]) rfl ⟨⟨7, v2, 0, 0, []⟩, rfl, by rw [HST.out.1]; exact HS9.out, HC9.out, HST.out.2⟩
    · obtain rfl : v1 = 8 := by have h9 : ((8 : Nat) : Int) = v1 := hv; omega
      clear hv
      have d1 : ((8 : Int) == 1) = false := by rfl
      have d3 : ((8 : Int) == 3) = false := by rfl
      have d5 : ((8 : Int) == 5) = false := by rfl
      have d7 : ((8 : Int) == 7) = false := by rfl
      have d8 : ((8 : Int) == 8) = true := by rfl
      have d9 : ((8 : Int) == 9) = false := by rfl
      have d10 : ((8 : Int) == 10) = false := by rfl
      have d11 : ((8 : Int) == 11) = false := by rfl
      have d12 : ((8 : Int) == 12) = false := by rfl
      obtain ⟨r2, h2⟩ : ∃ r2, onR (.ok q) (rdN 2) b = r2 := ⟨_, rfl⟩
      have HN := bx (snum_small gs gr 2 b (.ok q) w2 HS2.out (by decide) (by decide))
      rw [h2] at HN
      have H2 := bx h2
      clear h2
      go_wp2_with fail
      refine HN.out.mono ?_
      rintro e w3 ⟨rfl, hs3, hc3⟩
      have HK3 := bx (HK2.out.ch hc3 (fun h => by have := Two.lt hgs hgr ga h; omega))
      have HKZ3 := bx (HKZ2.out.ch hc3 (fun h => by have := Two.lt hgs hgr B h; omega))
      have HC3 := bx (HC2.out.trans hc3 (fun _ _ h => h))
      have HS3 := bx hs3
      clear hs3 hc3 HN
      obtain ⟨v2, hv2⟩ : ∃ v2, valN r2 = v2 := ⟨_, rfl⟩
      rw [hv2]
      have HV2 := bx hv2
      clear hv2
      have q0 : w3.cell? ⟨ga, 1, none⟩ = some (.int .i64 0) := (HK3.out.cell 1).trans rfl
      have qf := HK3.out.frz 1
      have ql := HK3.out.lt
      go_upto_region 22 with (fail)
      have HK4 : Bx (Bk (w3.setCell ⟨ga, 1, none⟩ (.int .i64 v2)) ga 53 #[.int .i64 8, .int .i64 v2, .int .i64 0, .int .i64 0, .string ⟨#[]⟩]) := bx (by simpa using HK3.out.set 1 (.int .i64 v2))
      have HKZ4 := bx (HKZ3.out.far (p := ⟨ga, 1, none⟩) (by show B ≠ ga; omega) (.int .i64 v2))
      have HC4 := bx (HC3.out.setCell (p := ⟨ga, 1, none⟩) (fun h => absurd (show ga < w.heap.size from h) (by have := HB.out; omega)) (.int .i64 v2))
      have HS4 := bx (HS3.out.low (B := B) ((Below.refl B w3).setCell (p := ⟨ga, 1, none⟩) (Nat.le_of_lt hzB) (.int .i64 v2)) hgs hgr)
      generalize w3.setCell ⟨ga, 1, none⟩ (.int .i64 v2) = w4 at HK4 HKZ4 HC4 HS4 ⊢
      clear HK3 HKZ3 HC3 HS3
      have HST : Bx (stR R = stR r2 ∧ ∀ x, R = .ok x → (⟨8, v2, 0, 0, []⟩ : Cst) = x.1) := bx (by
        rw [HRT.out, cst_one (.inr rfl) H2.out]
        cases r2 with
        | err k => exact ⟨rfl, fun x e => by cases e⟩
        | ok y =>
          refine ⟨rfl, fun x e => ?_⟩
          have e : Rz.ok _ = Rz.ok x := e
          injection e with e
          rw [← e]
          rw [← HV2.out]; rfl)
      have k0 : w4.cell? ⟨ga, 0, none⟩ = some (.int .i64 8) := (HK4.out.cell 0).trans rfl
      have k1 : w4.cell? ⟨ga, 1, none⟩ = some (.int .i64 v2) := (HK4.out.cell 1).trans rfl
      have k2 : w4.cell? ⟨ga, 2, none⟩ = some (.int .i64 0) := (HK4.out.cell 2).trans rfl
      have k3 : w4.cell? ⟨ga, 3, none⟩ = some (.int .i64 0) := (HK4.out.cell 3).trans rfl
      have k4 : w4.cell? ⟨ga, 4, none⟩ = some (.string ⟨#[]⟩) := (HK4.out.cell 4).trans rfl
      have z0 : w4.cell? ⟨B, 0, none⟩ = some (.int .i64 0) := (HKZ4.out.cell 0).trans rfl
      have z1 : w4.cell? ⟨B, 1, none⟩ = some (.int .i64 0) := (HKZ4.out.cell 1).trans rfl
      have z2 : w4.cell? ⟨B, 2, none⟩ = some (.int .i64 0) := (HKZ4.out.cell 2).trans rfl
      have z3 : w4.cell? ⟨B, 3, none⟩ = some (.int .i64 0) := (HKZ4.out.cell 3).trans rfl
      have z4 : w4.cell? ⟨B, 4, none⟩ = some (.string ⟨#[]⟩) := (HKZ4.out.cell 4).trans rfl
      have f0 := HKZ4.out.frz 0
      have f1 := HKZ4.out.frz 1
      have f2 := HKZ4.out.frz 2
      have f3 := HKZ4.out.frz 3
      have f4 := HKZ4.out.frz 4
      go_wp2
      have HZ9 := bx (bk_store5 HKZ4.out (.int .i64 8) (.int .i64 v2) (.int .i64 0) (.int .i64 0) (.string ⟨#[]⟩))
      have HB9 := bx (bl_store5 (B := B) (Below.refl B w4) (.int .i64 8) (.int .i64 v2) (.int .i64 0) (.int .i64 0) (.string ⟨#[]⟩))
      have HC9 := bx (ch_store5 HC4.out (Nat.le_of_eq HB.out) (.int .i64 8) (.int .i64 v2) (.int .i64 0) (.int .i64 0) (.string ⟨#[]⟩))
      have HS9 := bx (HS4.out.low HB9.out hgs hgr)
      generalize (((((w4.setCell ⟨B, 0, none⟩ (.int .i64 8)).setCell ⟨B, 1, none⟩ (.int .i64 v2)).setCell ⟨B, 2, none⟩ (.int .i64 0)).setCell ⟨B, 3, none⟩ (.int .i64 0)).setCell ⟨B, 4, none⟩ (.string ⟨#[]⟩)) = w9 at HZ9 HB9 HC9 HS9 ⊢
      have e0 : w9.cell? ⟨B, 0, none⟩ = some (.int .i64 8) := (HZ9.out.cell 0).trans rfl
      have e1 : w9.cell? ⟨B, 1, none⟩ = some (.int .i64 v2) := (HZ9.out.cell 1).trans rfl
      have e2 : w9.cell? ⟨B, 2, none⟩ = some (.int .i64 0) := (HZ9.out.cell 2).trans rfl
      have e3 : w9.cell? ⟨B, 3, none⟩ = some (.int .i64 0) := (HZ9.out.cell 3).trans rfl
      have e4 : w9.cell? ⟨B, 4, none⟩ = some (.string ⟨#[]⟩) := (HZ9.out.cell 4).trans rfl
      exact bodyPost_ret (v := .agg #[.int .i64 8, .int .i64 v2, .int .i64 0, .int .i64 0, .string ⟨#[]⟩]) (by simp [results, Try.results27, go_sem, e0, e1, e2, e3, e4]) rfl ⟨⟨8, v2, 0, 0, []⟩, rfl, by rw [HST.out.1]; exact HS9.out, HC9.out, HST.out.2⟩
    · obtain rfl : v1 = 9 := by have h9 : ((9 : Nat) : Int) = v1 := hv; omega
      clear hv
      have d1 : ((9 : Int) == 1) = false := by rfl
      have d3 : ((9 : Int) == 3) = false := by rfl
      have d5 : ((9 : Int) == 5) = false := by rfl
      have d7 : ((9 : Int) == 7) = false := by rfl
      have d8 : ((9 : Int) == 8) = false := by rfl
      have d9 : ((9 : Int) == 9) = true := by rfl
      have d10 : ((9 : Int) == 10) = false := by rfl
      have d11 : ((9 : Int) == 11) = false := by rfl
      have d12 : ((9 : Int) == 12) = false := by rfl
      obtain ⟨r2, h2⟩ : ∃ r2, onR (.ok q) (rdN 2) b = r2 := ⟨_, rfl⟩
      have HN := bx (snum_small gs gr 2 b (.ok q) w2 HS2.out (by decide) (by decide))
      rw [h2] at HN
      have H2 := bx h2
      clear h2
      go_wp2_with fail
      refine HN.out.mono ?_
      rintro e w3 ⟨rfl, hs3, hc3⟩
      have HK3 := bx (HK2.out.ch hc3 (fun h => by have := Two.lt hgs hgr ga h; omega))
      have HKZ3 := bx (HKZ2.out.ch hc3 (fun h => by have := Two.lt hgs hgr B h; omega))
      have HC3 := bx (HC2.out.trans hc3 (fun _ _ h => h))
      have HS3 := bx hs3
      clear hs3 hc3 HN
      obtain ⟨v2, hv2⟩ : ∃ v2, valN r2 = v2 := ⟨_, rfl⟩
      rw [hv2]
      have HV2 := bx hv2
      clear hv2
      have q0 : w3.cell? ⟨ga, 1, none⟩ = some (.int .i64 0) := (HK3.out.cell 1).trans rfl
      have qf := HK3.out.frz 1
      have ql := HK3.out.lt
      go_upto_region 21 with (fail)
      have HK4 : Bx (Bk (w3.setCell ⟨ga, 1, none⟩ (.int .i64 v2)) ga 53 #[.int .i64 9, .int .i64 v2, .int .i64 0, .int .i64 0, .string ⟨#[]⟩]) := bx (by simpa using HK3.out.set 1 (.int .i64 v2))
      have HKZ4 := bx (HKZ3.out.far (p := ⟨ga, 1, none⟩) (by show B ≠ ga; omega) (.int .i64 v2))
      have HC4 := bx (HC3.out.setCell (p := ⟨ga, 1, none⟩) (fun h => absurd (show ga < w.heap.size from h) (by have := HB.out; omega)) (.int .i64 v2))
      have HS4 := bx (HS3.out.low (B := B) ((Below.refl B w3).setCell (p := ⟨ga, 1, none⟩) (Nat.le_of_lt hzB) (.int .i64 v2)) hgs hgr)
      generalize w3.setCell ⟨ga, 1, none⟩ (.int .i64 v2) = w4 at HK4 HKZ4 HC4 HS4 ⊢
      clear HK3 HKZ3 HC3 HS3
      clear q0 qf ql
      obtain ⟨r3, h3⟩ : ∃ r3, onR (stR r2) (rdN 2) b = r3 := ⟨_, rfl⟩
      have HN := bx (snum_small gs gr 2 b (stR r2) w4 HS4.out (by decide) (by decide))
      rw [h3] at HN
      have H3 := bx h3
      clear h3
      go_wp2_with fail
      refine HN.out.mono ?_
      rintro e w5 ⟨rfl, hs3, hc3⟩
      have HK5 := bx (HK4.out.ch hc3 (fun h => by have := Two.lt hgs hgr ga h; omega))
      have HKZ5 := bx (HKZ4.out.ch hc3 (fun h => by have := Two.lt hgs hgr B h; omega))
      have HC5 := bx (HC4.out.trans hc3 (fun _ _ h => h))
      have HS5 := bx hs3
      clear hs3 hc3 HN
      obtain ⟨v3, hv3⟩ : ∃ v3, valN r3 = v3 := ⟨_, rfl⟩
      rw [hv3]
      have HV3 := bx hv3
      clear hv3
      have q0 : w5.cell? ⟨ga, 2, none⟩ = some (.int .i64 0) := (HK5.out.cell 2).trans rfl
      have qf := HK5.out.frz 2
      have ql := HK5.out.lt
      go_upto_region 22 with (fail)
      have HK6 : Bx (Bk (w5.setCell ⟨ga, 2, none⟩ (.int .i64 v3)) ga 53 #[.int .i64 9, .int .i64 v2, .int .i64 v3, .int .i64 0, .string ⟨#[]⟩]) := bx (by simpa using HK5.out.set 2 (.int .i64 v3))
      have HKZ6 := bx (HKZ5.out.far (p := ⟨ga, 2, none⟩) (by show B ≠ ga; omega) (.int .i64 v3))
      have HC6 := bx (HC5.out.setCell (p := ⟨ga, 2, none⟩) (fun h => absurd (show ga < w.heap.size from h) (by have := HB.out; omega)) (.int .i64 v3))
      have HS6 := bx (HS5.out.low (B := B) ((Below.refl B w5).setCell (p := ⟨ga, 2, none⟩) (Nat.le_of_lt hzB) (.int .i64 v3)) hgs hgr)
      generalize w5.setCell ⟨ga, 2, none⟩ (.int .i64 v3) = w6 at HK6 HKZ6 HC6 HS6 ⊢
      clear HK5 HKZ5 HC5 HS5
      have HST : Bx (stR R = stR r3 ∧ ∀ x, R = .ok x → (⟨9, v2, v3, 0, []⟩ : Cst) = x.1) := bx (by
        rw [HRT.out, cst_two (by decide) H2.out H3.out]
        cases r3 with
        | err k => exact ⟨rfl, fun x e => by cases e⟩
        | ok y =>
          refine ⟨rfl, fun x e => ?_⟩
          have e : Rz.ok _ = Rz.ok x := e
          injection e with e
          rw [← e, ← HV3.out, ← HV2.out]; rfl)
      have k0 : w6.cell? ⟨ga, 0, none⟩ = some (.int .i64 9) := (HK6.out.cell 0).trans rfl
      have k1 : w6.cell? ⟨ga, 1, none⟩ = some (.int .i64 v2) := (HK6.out.cell 1).trans rfl
      have k2 : w6.cell? ⟨ga, 2, none⟩ = some (.int .i64 v3) := (HK6.out.cell 2).trans rfl
      have k3 : w6.cell? ⟨ga, 3, none⟩ = some (.int .i64 0) := (HK6.out.cell 3).trans rfl
      have k4 : w6.cell? ⟨ga, 4, none⟩ = some (.string ⟨#[]⟩) := (HK6.out.cell 4).trans rfl
      have z0 : w6.cell? ⟨B, 0, none⟩ = some (.int .i64 0) := (HKZ6.out.cell 0).trans rfl
      have z1 : w6.cell? ⟨B, 1, none⟩ = some (.int .i64 0) := (HKZ6.out.cell 1).trans rfl
      have z2 : w6.cell? ⟨B, 2, none⟩ = some (.int .i64 0) := (HKZ6.out.cell 2).trans rfl
      have z3 : w6.cell? ⟨B, 3, none⟩ = some (.int .i64 0) := (HKZ6.out.cell 3).trans rfl
      have z4 : w6.cell? ⟨B, 4, none⟩ = some (.string ⟨#[]⟩) := (HKZ6.out.cell 4).trans rfl
      have f0 := HKZ6.out.frz 0
      have f1 := HKZ6.out.frz 1
      have f2 := HKZ6.out.frz 2
      have f3 := HKZ6.out.frz 3
      have f4 := HKZ6.out.frz 4
      go_wp2
      have HZ9 := bx (bk_store5 HKZ6.out (.int .i64 9) (.int .i64 v2) (.int .i64 v3) (.int .i64 0) (.string ⟨#[]⟩))
      have HB9 := bx (bl_store5 (B := B) (Below.refl B w6) (.int .i64 9) (.int .i64 v2) (.int .i64 v3) (.int .i64 0) (.string ⟨#[]⟩))
      have HC9 := bx (ch_store5 HC6.out (Nat.le_of_eq HB.out) (.int .i64 9) (.int .i64 v2) (.int .i64 v3) (.int .i64 0) (.string ⟨#[]⟩))
      have HS9 := bx (HS6.out.low HB9.out hgs hgr)
      generalize (((((w6.setCell ⟨B, 0, none⟩ (.int .i64 9)).setCell ⟨B, 1, none⟩ (.int .i64 v2)).setCell ⟨B, 2, none⟩ (.int .i64 v3)).setCell ⟨B, 3, none⟩ (.int .i64 0)).setCell ⟨B, 4, none⟩ (.string ⟨#[]⟩)) = w9 at HZ9 HB9 HC9 HS9 ⊢
      have e0 : w9.cell? ⟨B, 0, none⟩ = some (.int .i64 9) := (HZ9.out.cell 0).trans rfl
      have e1 : w9.cell? ⟨B, 1, none⟩ = some (.int .i64 v2) := (HZ9.out.cell 1).trans rfl
      have e2 : w9.cell? ⟨B, 2, none⟩ = some (.int .i64 v3) := (HZ9.out.cell 2).trans rfl
      have e3 : w9.cell? ⟨B, 3, none⟩ = some (.int .i64 0) := (HZ9.out.cell 3).trans rfl
      have e4 : w9.cell? ⟨B, 4, none⟩ = some (.string ⟨#[]⟩) := (HZ9.out.cell 4).trans rfl
      exact bodyPost_ret (v := .agg #[.int .i64 9, .int .i64 v2, .int .i64 v3, .int .i64 0, .string ⟨#[]⟩]) (by simp [results, Try.results27, go_sem, e0, e1, e2, e3, e4]) rfl ⟨⟨9, v2, v3, 0, []⟩, rfl, by rw [HST.out.1]; exact HS9.out, HC9.out, HST.out.2⟩
    · obtain rfl : v1 = 10 := by have h9 : ((10 : Nat) : Int) = v1 := hv; omega
      clear hv
      have d1 : ((10 : Int) == 1) = false := by rfl
      have d3 : ((10 : Int) == 3) = false := by rfl
      have d5 : ((10 : Int) == 5) = false := by rfl
      have d7 : ((10 : Int) == 7) = false := by rfl
      have d8 : ((10 : Int) == 8) = false := by rfl
      have d9 : ((10 : Int) == 9) = false := by rfl
      have d10 : ((10 : Int) == 10) = true := by rfl
      have d11 : ((10 : Int) == 11) = false := by rfl
      have d12 : ((10 : Int) == 12) = false := by rfl
      obtain ⟨r2, h2⟩ : ∃ r2, onR (.ok q) (rdN 2) b = r2 := ⟨_, rfl⟩
      have HN := bx (snum_small gs gr 2 b (.ok q) w2 HS2.out (by decide) (by decide))
      rw [h2] at HN
      have H2 := bx h2
      clear h2
      go_wp2_with fail
      refine HN.out.mono ?_
      rintro e w3 ⟨rfl, hs3, hc3⟩
      have HK3 := bx (HK2.out.ch hc3 (fun h => by have := Two.lt hgs hgr ga h; omega))
      have HKZ3 := bx (HKZ2.out.ch hc3 (fun h => by have := Two.lt hgs hgr B h; omega))
      have HC3 := bx (HC2.out.trans hc3 (fun _ _ h => h))
      have HS3 := bx hs3
      clear hs3 hc3 HN
      obtain ⟨v2, hv2⟩ : ∃ v2, valN r2 = v2 := ⟨_, rfl⟩
      rw [hv2]
      have HV2 := bx hv2
      clear hv2
      have q0 : w3.cell? ⟨ga, 1, none⟩ = some (.int .i64 0) := (HK3.out.cell 1).trans rfl
      have qf := HK3.out.frz 1
      have ql := HK3.out.lt
      go_upto_region 21 with (fail)
      have HK4 : Bx (Bk (w3.setCell ⟨ga, 1, none⟩ (.int .i64 v2)) ga 53 #[.int .i64 10, .int .i64 v2, .int .i64 0, .int .i64 0, .string ⟨#[]⟩]) := bx (by simpa using HK3.out.set 1 (.int .i64 v2))
      have HKZ4 := bx (HKZ3.out.far (p := ⟨ga, 1, none⟩) (by show B ≠ ga; omega) (.int .i64 v2))
      have HC4 := bx (HC3.out.setCell (p := ⟨ga, 1, none⟩) (fun h => absurd (show ga < w.heap.size from h) (by have := HB.out; omega)) (.int .i64 v2))
      have HS4 := bx (HS3.out.low (B := B) ((Below.refl B w3).setCell (p := ⟨ga, 1, none⟩) (Nat.le_of_lt hzB) (.int .i64 v2)) hgs hgr)
      generalize w3.setCell ⟨ga, 1, none⟩ (.int .i64 v2) = w4 at HK4 HKZ4 HC4 HS4 ⊢
      clear HK3 HKZ3 HC3 HS3
      clear q0 qf ql
      obtain ⟨r3, h3⟩ : ∃ r3, onR (stR r2) (rdN 2) b = r3 := ⟨_, rfl⟩
      have HN := bx (snum_small gs gr 2 b (stR r2) w4 HS4.out (by decide) (by decide))
      rw [h3] at HN
      have H3 := bx h3
      clear h3
      go_wp2_with fail
      refine HN.out.mono ?_
      rintro e w5 ⟨rfl, hs3, hc3⟩
      have HK5 := bx (HK4.out.ch hc3 (fun h => by have := Two.lt hgs hgr ga h; omega))
      have HKZ5 := bx (HKZ4.out.ch hc3 (fun h => by have := Two.lt hgs hgr B h; omega))
      have HC5 := bx (HC4.out.trans hc3 (fun _ _ h => h))
      have HS5 := bx hs3
      clear hs3 hc3 HN
      obtain ⟨v3, hv3⟩ : ∃ v3, valN r3 = v3 := ⟨_, rfl⟩
      rw [hv3]
      have HV3 := bx hv3
      clear hv3
      have q0 : w5.cell? ⟨ga, 2, none⟩ = some (.int .i64 0) := (HK5.out.cell 2).trans rfl
      have qf := HK5.out.frz 2
      have ql := HK5.out.lt
      go_upto_region 22 with (fail)
      have HK6 : Bx (Bk (w5.setCell ⟨ga, 2, none⟩ (.int .i64 v3)) ga 53 #[.int .i64 10, .int .i64 v2, .int .i64 v3, .int .i64 0, .string ⟨#[]⟩]) := bx (by simpa using HK5.out.set 2 (.int .i64 v3))
      have HKZ6 := bx (HKZ5.out.far (p := ⟨ga, 2, none⟩) (by show B ≠ ga; omega) (.int .i64 v3))
      have HC6 := bx (HC5.out.setCell (p := ⟨ga, 2, none⟩) (fun h => absurd (show ga < w.heap.size from h) (by have := HB.out; omega)) (.int .i64 v3))
      have HS6 := bx (HS5.out.low (B := B) ((Below.refl B w5).setCell (p := ⟨ga, 2, none⟩) (Nat.le_of_lt hzB) (.int .i64 v3)) hgs hgr)
      generalize w5.setCell ⟨ga, 2, none⟩ (.int .i64 v3) = w6 at HK6 HKZ6 HC6 HS6 ⊢
      clear HK5 HKZ5 HC5 HS5
      have HST : Bx (stR R = stR r3 ∧ ∀ x, R = .ok x → (⟨10, v2, v3, 0, []⟩ : Cst) = x.1) := bx (by
        rw [HRT.out, cst_two (by decide) H2.out H3.out]
        cases r3 with
        | err k => exact ⟨rfl, fun x e => by cases e⟩
        | ok y =>
          refine ⟨rfl, fun x e => ?_⟩
          have e : Rz.ok _ = Rz.ok x := e
          injection e with e
          rw [← e, ← HV3.out, ← HV2.out]; rfl)
      have k0 : w6.cell? ⟨ga, 0, none⟩ = some (.int .i64 10) := (HK6.out.cell 0).trans rfl
      have k1 : w6.cell? ⟨ga, 1, none⟩ = some (.int .i64 v2) := (HK6.out.cell 1).trans rfl
      have k2 : w6.cell? ⟨ga, 2, none⟩ = some (.int .i64 v3) := (HK6.out.cell 2).trans rfl
      have k3 : w6.cell? ⟨ga, 3, none⟩ = some (.int .i64 0) := (HK6.out.cell 3).trans rfl
      have k4 : w6.cell? ⟨ga, 4, none⟩ = some (.string ⟨#[]⟩) := (HK6.out.cell 4).trans rfl
      have z0 : w6.cell? ⟨B, 0, none⟩ = some (.int .i64 0) := (HKZ6.out.cell 0).trans rfl
      have z1 : w6.cell? ⟨B, 1, none⟩ = some (.int .i64 0) := (HKZ6.out.cell 1).trans rfl
      have z2 : w6.cell? ⟨B, 2, none⟩ = some (.int .i64 0) := (HKZ6.out.cell 2).trans rfl
      have z3 : w6.cell? ⟨B, 3, none⟩ = some (.int .i64 0) := (HKZ6.out.cell 3).trans rfl
      have z4 : w6.cell? ⟨B, 4, none⟩ = some (.string ⟨#[]⟩) := (HKZ6.out.cell 4).trans rfl
      have f0 := HKZ6.out.frz 0
      have f1 := HKZ6.out.frz 1
      have f2 := HKZ6.out.frz 2
      have f3 := HKZ6.out.frz 3
      have f4 := HKZ6.out.frz 4
      go_wp2
      have HZ9 := bx (bk_store5 HKZ6.out (.int .i64 10) (.int .i64 v2) (.int .i64 v3) (.int .i64 0) (.string ⟨#[]⟩))
      have HB9 := bx (bl_store5 (B := B) (Below.refl B w6) (.int .i64 10) (.int .i64 v2) (.int .i64 v3) (.int .i64 0) (.string ⟨#[]⟩))
      have HC9 := bx (ch_store5 HC6.out (Nat.le_of_eq HB.out) (.int .i64 10) (.int .i64 v2) (.int .i64 v3) (.int .i64 0) (.string ⟨#[]⟩))
      have HS9 := bx (HS6.out.low HB9.out hgs hgr)
      generalize (((((w6.setCell ⟨B, 0, none⟩ (.int .i64 10)).setCell ⟨B, 1, none⟩ (.int .i64 v2)).setCell ⟨B, 2, none⟩ (.int .i64 v3)).setCell ⟨B, 3, none⟩ (.int .i64 0)).setCell ⟨B, 4, none⟩ (.string ⟨#[]⟩)) = w9 at HZ9 HB9 HC9 HS9 ⊢
      have e0 : w9.cell? ⟨B, 0, none⟩ = some (.int .i64 10) := (HZ9.out.cell 0).trans rfl
      have e1 : w9.cell? ⟨B, 1, none⟩ = some (.int .i64 v2) := (HZ9.out.cell 1).trans rfl
      have e2 : w9.cell? ⟨B, 2, none⟩ = some (.int .i64 v3) := (HZ9.out.cell 2).trans rfl
      have e3 : w9.cell? ⟨B, 3, none⟩ = some (.int .i64 0) := (HZ9.out.cell 3).trans rfl
      have e4 : w9.cell? ⟨B, 4, none⟩ = some (.string ⟨#[]⟩) := (HZ9.out.cell 4).trans rfl
      exact bodyPost_ret (v := .agg #[.int .i64 10, .int .i64 v2, .int .i64 v3, .int .i64 0, .string ⟨#[]⟩]) (by simp [results, Try.results27, go_sem, e0, e1, e2, e3, e4]) rfl ⟨⟨10, v2, v3, 0, []⟩, rfl, by rw [HST.out.1]; exact HS9.out, HC9.out, HST.out.2⟩
    · obtain rfl : v1 = 11 := by have h9 : ((11 : Nat) : Int) = v1 := hv; omega
      clear hv
      have d1 : ((11 : Int) == 1) = false := by rfl
      have d3 : ((11 : Int) == 3) = false := by rfl
      have d5 : ((11 : Int) == 5) = false := by rfl
      have d7 : ((11 : Int) == 7) = false := by rfl
      have d8 : ((11 : Int) == 8) = false := by rfl
      have d9 : ((11 : Int) == 9) = false := by rfl
      have d10 : ((11 : Int) == 10) = false := by rfl
      have d11 : ((11 : Int) == 11) = true := by rfl
      have d12 : ((11 : Int) == 12) = false := by rfl
      obtain ⟨r2, h2⟩ : ∃ r2, onR (.ok q) (rdN 2) b = r2 := ⟨_, rfl⟩
      have HN := bx (snum_small gs gr 2 b (.ok q) w2 HS2.out (by decide) (by decide))
      rw [h2] at HN
      have H2 := bx h2
      clear h2
      go_wp2_with fail
      refine HN.out.mono ?_
      rintro e w3 ⟨rfl, hs3, hc3⟩
      have HK3 := bx (HK2.out.ch hc3 (fun h => by have := Two.lt hgs hgr ga h; omega))
      have HKZ3 := bx (HKZ2.out.ch hc3 (fun h => by have := Two.lt hgs hgr B h; omega))
      have HC3 := bx (HC2.out.trans hc3 (fun _ _ h => h))
      have HS3 := bx hs3
      clear hs3 hc3 HN
      obtain ⟨v2, hv2⟩ : ∃ v2, valN r2 = v2 := ⟨_, rfl⟩
      rw [hv2]
      have HV2 := bx hv2
      clear hv2
      have q0 : w3.cell? ⟨ga, 1, none⟩ = some (.int .i64 0) := (HK3.out.cell 1).trans rfl
      have qf := HK3.out.frz 1
      have ql := HK3.out.lt
      go_upto_region 21 with (fail)
      have HK4 : Bx (Bk (w3.setCell ⟨ga, 1, none⟩ (.int .i64 v2)) ga 53 #[.int .i64 11, .int .i64 v2, .int .i64 0, .int .i64 0, .string ⟨#[]⟩]) := bx (by simpa using HK3.out.set 1 (.int .i64 v2))
      have HKZ4 := bx (HKZ3.out.far (p := ⟨ga, 1, none⟩) (by show B ≠ ga; omega) (.int .i64 v2))
      have HC4 := bx (HC3.out.setCell (p := ⟨ga, 1, none⟩) (fun h => absurd (show ga < w.heap.size from h) (by have := HB.out; omega)) (.int .i64 v2))
      have HS4 := bx (HS3.out.low (B := B) ((Below.refl B w3).setCell (p := ⟨ga, 1, none⟩) (Nat.le_of_lt hzB) (.int .i64 v2)) hgs hgr)
      generalize w3.setCell ⟨ga, 1, none⟩ (.int .i64 v2) = w4 at HK4 HKZ4 HC4 HS4 ⊢
      clear HK3 HKZ3 HC3 HS3
      clear q0 qf ql
      obtain ⟨r3, h3⟩ : ∃ r3, onR (stR r2) (rdN 2) b = r3 := ⟨_, rfl⟩
      have HN := bx (snum_small gs gr 2 b (stR r2) w4 HS4.out (by decide) (by decide))
      rw [h3] at HN
      have H3 := bx h3
      clear h3
      go_wp2_with fail
      refine HN.out.mono ?_
      rintro e w5 ⟨rfl, hs3, hc3⟩
      have HK5 := bx (HK4.out.ch hc3 (fun h => by have := Two.lt hgs hgr ga h; omega))
      have HKZ5 := bx (HKZ4.out.ch hc3 (fun h => by have := Two.lt hgs hgr B h; omega))
      have HC5 := bx (HC4.out.trans hc3 (fun _ _ h => h))
      have HS5 := bx hs3
      clear hs3 hc3 HN
      obtain ⟨v3, hv3⟩ : ∃ v3, valN r3 = v3 := ⟨_, rfl⟩
      rw [hv3]
      have HV3 := bx hv3
      clear hv3
      have q0 : w5.cell? ⟨ga, 2, none⟩ = some (.int .i64 0) := (HK5.out.cell 2).trans rfl
      have qf := HK5.out.frz 2
      have ql := HK5.out.lt
      go_upto_region 22 with (fail)
      have HK6 : Bx (Bk (w5.setCell ⟨ga, 2, none⟩ (.int .i64 v3)) ga 53 #[.int .i64 11, .int .i64 v2, .int .i64 v3, .int .i64 0, .string ⟨#[]⟩]) := bx (by simpa using HK5.out.set 2 (.int .i64 v3))
      have HKZ6 := bx (HKZ5.out.far (p := ⟨ga, 2, none⟩) (by show B ≠ ga; omega) (.int .i64 v3))
      have HC6 := bx (HC5.out.setCell (p := ⟨ga, 2, none⟩) (fun h => absurd (show ga < w.heap.size from h) (by have := HB.out; omega)) (.int .i64 v3))
      have HS6 := bx (HS5.out.low (B := B) ((Below.refl B w5).setCell (p := ⟨ga, 2, none⟩) (Nat.le_of_lt hzB) (.int .i64 v3)) hgs hgr)
      generalize w5.setCell ⟨ga, 2, none⟩ (.int .i64 v3) = w6 at HK6 HKZ6 HC6 HS6 ⊢
      clear HK5 HKZ5 HC5 HS5
      have HST : Bx (stR R = stR r3 ∧ ∀ x, R = .ok x → (⟨11, v2, v3, 0, []⟩ : Cst) = x.1) := bx (by
        rw [HRT.out, cst_two (by decide) H2.out H3.out]
        cases r3 with
        | err k => exact ⟨rfl, fun x e => by cases e⟩
        | ok y =>
          refine ⟨rfl, fun x e => ?_⟩
          have e : Rz.ok _ = Rz.ok x := e
          injection e with e
          rw [← e, ← HV3.out, ← HV2.out]; rfl)
      have k0 : w6.cell? ⟨ga, 0, none⟩ = some (.int .i64 11) := (HK6.out.cell 0).trans rfl
      have k1 : w6.cell? ⟨ga, 1, none⟩ = some (.int .i64 v2) := (HK6.out.cell 1).trans rfl
      have k2 : w6.cell? ⟨ga, 2, none⟩ = some (.int .i64 v3) := (HK6.out.cell 2).trans rfl
      have k3 : w6.cell? ⟨ga, 3, none⟩ = some (.int .i64 0) := (HK6.out.cell 3).trans rfl
      have k4 : w6.cell? ⟨ga, 4, none⟩ = some (.string ⟨#[]⟩) := (HK6.out.cell 4).trans rfl
      have z0 : w6.cell? ⟨B, 0, none⟩ = some (.int .i64 0) := (HKZ6.out.cell 0).trans rfl
      have z1 : w6.cell? ⟨B, 1, none⟩ = some (.int .i64 0) := (HKZ6.out.cell 1).trans rfl
      have z2 : w6.cell? ⟨B, 2, none⟩ = some (.int .i64 0) := (HKZ6.out.cell 2).trans rfl
      have z3 : w6.cell? ⟨B, 3, none⟩ = some (.int .i64 0) := (HKZ6.out.cell 3).trans rfl
      have z4 : w6.cell? ⟨B, 4, none⟩ = some (.string ⟨#[]⟩) := (HKZ6.out.cell 4).trans rfl
      have f0 := HKZ6.out.frz 0
      have f1 := HKZ6.out.frz 1
      have f2 := HKZ6.out.frz 2
      have f3 := HKZ6.out.frz 3
      have f4 := HKZ6.out.frz 4
      go_wp2
      have HZ9 := bx (bk_store5 HKZ6.out (.int .i64 11) (.int .i64 v2) (.int .i64 v3) (.int .i64 0) (.string ⟨#[]⟩))
      have HB9 := bx (bl_store5 (B := B) (Below.refl B w6) (.int .i64 11) (.int .i64 v2) (.int .i64 v3) (.int .i64 0) (.string ⟨#[]⟩))
      have HC9 := bx (ch_store5 HC6.out (Nat.le_of_eq HB.out) (.int .i64 11) (.int .i64 v2) (.int .i64 v3) (.int .i64 0) (.string ⟨#[]⟩))
      have HS9 := bx (HS6.out.low HB9.out hgs hgr)
      generalize (((((w6.setCell ⟨B, 0, none⟩ (.int .i64 11)).setCell ⟨B, 1, none⟩ (.int .i64 v2)).setCell ⟨B, 2, none⟩ (.int .i64 v3)).setCell ⟨B, 3, none⟩ (.int .i64 0)).setCell ⟨B, 4, none⟩ (.string ⟨#[]⟩)) = w9 at HZ9 HB9 HC9 HS9 ⊢
      have e0 : w9.cell? ⟨B, 0, none⟩ = some (.int .i64 11) := (HZ9.out.cell 0).trans rfl
      have e1 : w9.cell? ⟨B, 1, none⟩ = some (.int .i64 v2) := (HZ9.out.cell 1).trans rfl
      have e2 : w9.cell? ⟨B, 2, none⟩ = some (.int .i64 v3) := (HZ9.out.cell 2).trans rfl
      have e3 : w9.cell? ⟨B, 3, none⟩ = some (.int .i64 0) := (HZ9.out.cell 3).trans rfl
      have e4 : w9.cell? ⟨B, 4, none⟩ = some (.string ⟨#[]⟩) := (HZ9.out.cell 4).trans rfl
      exact bodyPost_ret (v := .agg #[.int .i64 11, .int .i64 v2, .int .i64 v3, .int .i64 0, .string ⟨#[]⟩]) (by simp [results, Try.results27, go_sem, e0, e1, e2, e3, e4]) rfl ⟨⟨11, v2, v3, 0, []⟩, rfl, by rw [HST.out.1]; exact HS9.out, HC9.out, HST.out.2⟩
    · obtain rfl : v1 = 12 := by have h9 : ((12 : Nat) : Int) = v1 := hv; omega
      clear hv
      have d1 : ((12 : Int) == 1) = false := by rfl
      have d3 : ((12 : Int) == 3) = false := by rfl
      have d5 : ((12 : Int) == 5) = false := by rfl
      have d7 : ((12 : Int) == 7) = false := by rfl
      have d8 : ((12 : Int) == 8) = false := by rfl
      have d9 : ((12 : Int) == 9) = false := by rfl
      have d10 : ((12 : Int) == 10) = false := by rfl
      have d11 : ((12 : Int) == 11) = false := by rfl
      have d12 : ((12 : Int) == 12) = true := by rfl
      obtain ⟨r2, h2⟩ : ∃ r2, onR (.ok q) (rdN 2) b = r2 := ⟨_, rfl⟩
      have HN := bx (snum_small gs gr 2 b (.ok q) w2 HS2.out (by decide) (by decide))
      rw [h2] at HN
      have H2 := bx h2
      clear h2
      go_wp2_with fail
      refine HN.out.mono ?_
      rintro e w3 ⟨rfl, hs3, hc3⟩
      have HK3 := bx (HK2.out.ch hc3 (fun h => by have := Two.lt hgs hgr ga h; omega))
      have HKZ3 := bx (HKZ2.out.ch hc3 (fun h => by have := Two.lt hgs hgr B h; omega))
      have HC3 := bx (HC2.out.trans hc3 (fun _ _ h => h))
      have HS3 := bx hs3
      clear hs3 hc3 HN
      obtain ⟨v2, hv2⟩ : ∃ v2, valN r2 = v2 := ⟨_, rfl⟩
      rw [hv2]
      have HV2 := bx hv2
      clear hv2
      have q0 : w3.cell? ⟨ga, 1, none⟩ = some (.int .i64 0) := (HK3.out.cell 1).trans rfl
      have qf := HK3.out.frz 1
      have ql := HK3.out.lt
      go_upto_region 21 with (fail)
      have HK4 : Bx (Bk (w3.setCell ⟨ga, 1, none⟩ (.int .i64 v2)) ga 53 #[.int .i64 12, .int .i64 v2, .int .i64 0, .int .i64 0, .string ⟨#[]⟩]) := bx (by simpa using HK3.out.set 1 (.int .i64 v2))
      have HKZ4 := bx (HKZ3.out.far (p := ⟨ga, 1, none⟩) (by show B ≠ ga; omega) (.int .i64 v2))
      have HC4 := bx (HC3.out.setCell (p := ⟨ga, 1, none⟩) (fun h => absurd (show ga < w.heap.size from h) (by have := HB.out; omega)) (.int .i64 v2))
      have HS4 := bx (HS3.out.low (B := B) ((Below.refl B w3).setCell (p := ⟨ga, 1, none⟩) (Nat.le_of_lt hzB) (.int .i64 v2)) hgs hgr)
      generalize w3.setCell ⟨ga, 1, none⟩ (.int .i64 v2) = w4 at HK4 HKZ4 HC4 HS4 ⊢
      clear HK3 HKZ3 HC3 HS3
      clear q0 qf ql
      obtain ⟨r3, h3⟩ : ∃ r3, onR (stR r2) (rdN 2) b = r3 := ⟨_, rfl⟩
      have HN := bx (snum_small gs gr 2 b (stR r2) w4 HS4.out (by decide) (by decide))
      rw [h3] at HN
      have H3 := bx h3
      clear h3
      go_wp2_with fail
      refine HN.out.mono ?_
      rintro e w5 ⟨rfl, hs3, hc3⟩
      have HK5 := bx (HK4.out.ch hc3 (fun h => by have := Two.lt hgs hgr ga h; omega))
      have HKZ5 := bx (HKZ4.out.ch hc3 (fun h => by have := Two.lt hgs hgr B h; omega))
      have HC5 := bx (HC4.out.trans hc3 (fun _ _ h => h))
      have HS5 := bx hs3
      clear hs3 hc3 HN
      obtain ⟨v3, hv3⟩ : ∃ v3, valN r3 = v3 := ⟨_, rfl⟩
      rw [hv3]
      have HV3 := bx hv3
      clear hv3
      have q0 : w5.cell? ⟨ga, 2, none⟩ = some (.int .i64 0) := (HK5.out.cell 2).trans rfl
      have qf := HK5.out.frz 2
      have ql := HK5.out.lt
      go_upto_region 22 with (fail)
      have HK6 : Bx (Bk (w5.setCell ⟨ga, 2, none⟩ (.int .i64 v3)) ga 53 #[.int .i64 12, .int .i64 v2, .int .i64 v3, .int .i64 0, .string ⟨#[]⟩]) := bx (by simpa using HK5.out.set 2 (.int .i64 v3))
      have HKZ6 := bx (HKZ5.out.far (p := ⟨ga, 2, none⟩) (by show B ≠ ga; omega) (.int .i64 v3))
      have HC6 := bx (HC5.out.setCell (p := ⟨ga, 2, none⟩) (fun h => absurd (show ga < w.heap.size from h) (by have := HB.out; omega)) (.int .i64 v3))
      have HS6 := bx (HS5.out.low (B := B) ((Below.refl B w5).setCell (p := ⟨ga, 2, none⟩) (Nat.le_of_lt hzB) (.int .i64 v3)) hgs hgr)
      generalize w5.setCell ⟨ga, 2, none⟩ (.int .i64 v3) = w6 at HK6 HKZ6 HC6 HS6 ⊢
      clear HK5 HKZ5 HC5 HS5
      have HST : Bx (stR R = stR r3 ∧ ∀ x, R = .ok x → (⟨12, v2, v3, 0, []⟩ : Cst) = x.1) := bx (by
        rw [HRT.out, cst_two (by decide) H2.out H3.out]
        cases r3 with
        | err k => exact ⟨rfl, fun x e => by cases e⟩
        | ok y =>
          refine ⟨rfl, fun x e => ?_⟩
          have e : Rz.ok _ = Rz.ok x := e
          injection e with e
          rw [← e, ← HV3.out, ← HV2.out]; rfl)
      have k0 : w6.cell? ⟨ga, 0, none⟩ = some (.int .i64 12) := (HK6.out.cell 0).trans rfl
      have k1 : w6.cell? ⟨ga, 1, none⟩ = some (.int .i64 v2) := (HK6.out.cell 1).trans rfl
      have k2 : w6.cell? ⟨ga, 2, none⟩ = some (.int .i64 v3) := (HK6.out.cell 2).trans rfl
      have k3 : w6.cell? ⟨ga, 3, none⟩ = some (.int .i64 0) := (HK6.out.cell 3).trans rfl
      have k4 : w6.cell? ⟨ga, 4, none⟩ = some (.string ⟨#[]⟩) := (HK6.out.cell 4).trans rfl
      have z0 : w6.cell? ⟨B, 0, none⟩ = some (.int .i64 0) := (HKZ6.out.cell 0).trans rfl
      have z1 : w6.cell? ⟨B, 1, none⟩ = some (.int .i64 0) := (HKZ6.out.cell 1).trans rfl
      have z2 : w6.cell? ⟨B, 2, none⟩ = some (.int .i64 0) := (HKZ6.out.cell 2).trans rfl
      have z3 : w6.cell? ⟨B, 3, none⟩ = some (.int .i64 0) := (HKZ6.out.cell 3).trans rfl
      have z4 : w6.cell? ⟨B, 4, none⟩ = some (.string ⟨#[]⟩) := (HKZ6.out.cell 4).trans rfl
      have f0 := HKZ6.out.frz 0
      have f1 := HKZ6.out.frz 1
      have f2 := HKZ6.out.frz 2
      have f3 := HKZ6.out.frz 3
      have f4 := HKZ6.out.frz 4
      go_wp2
      have HZ9 := bx (bk_store5 HKZ6.out (.int .i64 12) (.int .i64 v2) (.int .i64 v3) (.int .i64 0) (.string ⟨#[]⟩))
      have HB9 := bx (bl_store5 (B := B) (Below.refl B w6) (.int .i64 12) (.int .i64 v2) (.int .i64 v3) (.int .i64 0) (.string ⟨#[]⟩))
      have HC9 := bx (ch_store5 HC6.out (Nat.le_of_eq HB.out) (.int .i64 12) (.int .i64 v2) (.int .i64 v3) (.int .i64 0) (.string ⟨#[]⟩))
      have HS9 := bx (HS6.out.low HB9.out hgs hgr)
      generalize (((((w6.setCell ⟨B, 0, none⟩ (.int .i64 12)).setCell ⟨B, 1, none⟩ (.int .i64 v2)).setCell ⟨B, 2, none⟩ (.int .i64 v3)).setCell ⟨B, 3, none⟩ (.int .i64 0)).setCell ⟨B, 4, none⟩ (.string ⟨#[]⟩)) = w9 at HZ9 HB9 HC9 HS9 ⊢
      have e0 : w9.cell? ⟨B, 0, none⟩ = some (.int .i64 12) := (HZ9.out.cell 0).trans rfl
      have e1 : w9.cell? ⟨B, 1, none⟩ = some (.int .i64 v2) := (HZ9.out.cell 1).trans rfl
      have e2 : w9.cell? ⟨B, 2, none⟩ = some (.int .i64 v3) := (HZ9.out.cell 2).trans rfl
      have e3 : w9.cell? ⟨B, 3, none⟩ = some (.int .i64 0) := (HZ9.out.cell 3).trans rfl
      have e4 : w9.cell? ⟨B, 4, none⟩ = some (.string ⟨#[]⟩) := (HZ9.out.cell 4).trans rfl
      exact bodyPost_ret (v := .agg #[.int .i64 12, .int .i64 v2, .int .i64 v3, .int .i64 0, .string ⟨#[]⟩]) (by simp [results, Try.results27, go_sem, e0, e1, e2, e3, e4]) rfl ⟨⟨12, v2, v3, 0, []⟩, rfl, by rw [HST.out.1]; exact HS9.out, HC9.out, HST.out.2⟩
end Go.Proofs.Ytdioijhmmmnbgaa
