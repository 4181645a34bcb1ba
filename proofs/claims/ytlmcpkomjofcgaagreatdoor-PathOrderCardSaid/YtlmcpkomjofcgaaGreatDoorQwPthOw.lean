/- Walk of PathOrder. -/
import Derived.Test.YtlmcpkomjofcgaaGreatDoorPw16
import Derived.Test.YtlmcpkomjofcgaaGreatDoorPw12
namespace Go.Proofs.YtlmcpkomjofcgaaGreatDoor
open Go.RowKit
set_option maxRecDepth 100000 in
set_option maxHeartbeats 16000000 in
theorem pathOrder_walk (mx : Int) (w : World) (hm : w.cell? ⟨0, 0, none⟩ = some (.int .i64 mx)) (A0 : Option Addr) (n0 c0 : Nat) (l0 : List UInt8) (e0 : l0.length = n0) (_hc0 : n0 ≤ c0) (_hm0 : (c0 : Int) ≤ 9223372036854775807) (r0 : RB w w.heap.size A0 l0) (b0 : n0 ≤ 140737488351232) (A1 : Option Addr) (n1 c1 : Nat) (l1 : List UInt8) (e1 : l1.length = n1) (hc1 : n1 ≤ c1) (hm1 : (c1 : Int) ≤ 9223372036854775807) (r1 : RB w w.heap.size A1 l1) (b1 : n1 ≤ 140737488351232)
    (s : ByteArray) (hs : s.size ≤ 140737488351232) :
    Calls Tryz.prog 3 #[.slice A0 n0 c0, .slice A1 n1 c1, .string s] w fun e w' => e = .returned (.bool true) ∧ Below w.heap.size w w' := by
  have hz := cell_lt10 hm
  have HFX := bx (fixed22_any mx w hm hz)
  have HM := bx hm
  have HZ := bx hz
  have HR0 := bx r0
  have HR1 := bx r1
  have HE0 := bx e0
  have HE1 := bx e1
  have HSQ : Bx (s.size ≤ maxLen) := bx (by unfold maxLen; omega)
  have HCM := bx (And.intro hc1 hm1)
  clear hm hz r0 r1 e0 e1 hs hc1 hm1
  by_cases hb1 : 20000 < n0 + n1
  · have hI : (20000 : Int) < (n0 : Int) + (n1 : Int) := by omega
    go_enter Tryz.func3, Tryz.ntmps3
    go_wp2_with fail
    refine HFX.out.mono ?_
    rintro e w1 ⟨rfl, hb1⟩
    have HB1 := bx hb1
    clear hb1
    go_wp2
    go_ret
    exact ⟨rfl, HB1.out⟩
  have hI : ¬ (20000 : Int) < (n0 : Int) + (n1 : Int) := by omega
  have HSM : Bx (n0 + n1 ≤ 20000) := bx (by omega)
  clear hb1
  go_enter Tryz.func3, Tryz.ntmps3
  go_wp2_with fail
  refine HFX.out.mono ?_
  rintro e w1 ⟨rfl, hb1⟩
  have HB1 := bx hb1
  clear hb1 HFX
  go_wp2_with fail
  refine (fnew_any w1 (fun _ => False) (fun _ e => e.elim)).mono ?_
  rintro e w2 ⟨gf, bR, bF, rfl, f1, f2, f3, hb2, hf⟩
  obtain ⟨M0, hM0⟩ : ∃ M : Nat → Prop, (fun k => False ∨ k = gf ∨ k = bR ∨ k = bF) = M := ⟨_, rfl⟩
  have hf : FsM w2 M0 gf bR bF FS.new := by rw [← hM0]; exact hf
  have HML0 : Bx (∀ k, M0 k → w.heap.size ≤ k) := bx (fun k e => by
    have h1 := HB1.out.size
    rw [← hM0] at e
    rcases e with e | e | e | e
    · exact e.elim
    all_goals omega)
  have HC2 : Bx (Ch w w2 M0) := bx (Ch.of_below (HB1.out.trans (hb2.mono HB1.out.size)))
  have HF2 := bx hf
  have hbw : Below w.heap.size w w2 := HB1.out.trans (hb2.mono HB1.out.size)
  have hp1 := fput_any ⟨#[111, 110, 101]⟩ A0 n0 c0 l0 w2 M0 gf bR bF FS.new HF2.out HE0.out (by have := HSM.out; omega) ((HR0.out.below hbw (Nat.le_refl _)).more hbw.size) (by decide)
  rw [show (⟨#[111, 110, 101]⟩ : ByteArray).data.toList = nOne from rfl, put_one (by rw [HE0.out]; have := HSM.out; omega)] at hp1
  have HP1 := bx hp1
  clear hp1 hbw hf hb2 f1 f2 f3 hM0
  go_wp2_with fail
  refine HP1.out.mono ?_
  rintro e w3 ⟨rfl, hf3, hc3⟩
  have HC3 : Bx (Ch w w3 M0) := bx (HC2.out.trans (hc3.mono (S' := M0) (fun k _ e => by rw [show k = bR from e]; exact HF2.out.own.2.1)) (fun _ _ e => e))
  have hbw : Below w.heap.size w w3 := HC3.out.below (Nat.le_refl _) (fun k hk e => by have := HML0.out k e; omega)
  have hp2 := fput_any ⟨#[116, 119, 111]⟩ A1 n1 c1 l1 w3 M0 gf bR bF (fsA l0) hf3 HE1.out (by have := HSM.out; omega) ((HR1.out.below hbw (Nat.le_refl _)).more hbw.size) (by decide)
  rw [show (⟨#[116, 119, 111]⟩ : ByteArray).data.toList = nTwo from rfl, put_two (by rw [HE1.out]; have := HSM.out; omega)] at hp2
  have HP2 := bx hp2
  clear hp2 hbw hf3 hc3 HP1 HC2
  go_wp2_with fail
  refine HP2.out.mono ?_
  rintro e w4 ⟨rfl, hf4, hc4⟩
  have HF : Bx (FsM w4 M0 gf bR bF (fsB l0 l1)) := bx hf4
  have HC0 : Bx (Ch w w4 M0) := bx (HC3.out.trans (hc4.mono (S' := M0) (fun k _ e => by rw [show k = bR from e]; exact HF2.out.own.2.1)) (fun _ _ e => e))
  clear hf4 hc4 HP2 HC3 HF2
  go_wp2_with fail
  have hba : Below w4.heap.size w4 (w4.alloc (.cells #[.string ⟨#[111, 110, 101]⟩, .string ⟨#[116, 119, 111]⟩] 9)) := bl_alloc (Below.refl _ _) (Nat.le_refl _) _
  obtain ⟨hh, hhh⟩ : ∃ g, w4.heap.size = g := ⟨_, rfl⟩
  have hrow := nms_one w4 hh hhh [nOne, nTwo] #[.string ⟨#[111, 110, 101]⟩, .string ⟨#[116, 119, 111]⟩] rfl
  have HFa := bx (HF.out.below hba)
  have HCa := bx (HC0.out.trans (Ch.of_below (S := M0) hba) (fun _ _ e => e))
  rw [hhh]
  generalize w4.alloc (.cells #[.string ⟨#[111, 110, 101]⟩, .string ⟨#[116, 119, 111]⟩] 9) = wa1 at hba hrow HFa  HCa ⊢
  have hzz : wa1.cell? ⟨0, 0, none⟩ = some (.int .i64 mx) ∧ ¬ M0 0 ∧ 0 < wa1.heap.size := ⟨(cell_same (p := ⟨0, 0, none⟩) (HCa.out.same 0 HZ.out (fun e => by have := HML0.out 0 e; have := HZ.out; omega))).trans HM.out, fun e => by have := HML0.out 0 e; have := HZ.out; omega, Nat.lt_of_lt_of_le HZ.out HCa.out.size⟩
  have HNW := bx (ptnew_any (some ⟨hh, 0, none⟩) 2 2 [nOne, nTwo] wa1 M0 gf bR bF (fsB l0 l1) mx HFa.out hzz rfl (by decide) (by decide) hrow (fun x hx => by simp only [List.mem_cons, List.not_mem_nil, or_false] at hx; rcases hx with rfl | rfl <;> decide))
  clear hba hhh hrow hzz HF  HC0
  refine HNW.out.mono ?_
  rintro e wn1 ⟨gp, bK, bC, rfl, p1, p2, p3, hb, hps⟩
  obtain ⟨M1, hMM⟩ : ∃ M : Nat → Prop, (fun k => M0 k ∨ k = gp ∨ k = bK ∨ k = bC) = M := ⟨_, rfl⟩
  have hps : PsM wn1 M1 gf bR bF gp bK bC [nOne, nTwo] (fsB l0 l1) kn0 mx := by rw [← hMM]; exact hps
  have hmore : (∀ k, M0 k → M1 k) ∧ (∀ k, M1 k → M0 k ∨ wa1.heap.size ≤ k) := ⟨fun k e => by rw [← hMM]; exact .inl e, fun k e => by
    rw [← hMM] at e
    rcases e with e | e | e | e
    · exact .inl e
    · right; omega
    · right; omega
    · right; omega⟩
  have hsz := HCa.out.size
  have HML1 : Bx (∀ k, M1 k → w.heap.size ≤ k) := bx (fun k e => by rcases hmore.2 k e with e | e; exact HML0.out k e; omega)
  have HP1 := bx hps
  have HC1 : Bx (Ch w wn1 M1) := bx ((HCa.out.mono (S' := M1) (fun k _ e => hmore.1 k e)).trans (Ch.of_below (S := M1) hb) (fun _ _ e => e))
  have HPB1 : Bx (wa1.heap.size ≤ gp ∧ wa1.heap.size ≤ bK ∧ wa1.heap.size ≤ bC) := bx ⟨p1, p2, p3⟩
  clear hps hb hMM hsz hmore p1 p2 p3 HNW HFa  HCa
  go_wp2_with fail
  have hba : Below wn1.heap.size wn1 (wn1.alloc (.cells #[.string ⟨#[111, 110, 101]⟩] 9)) := bl_alloc (Below.refl _ _) (Nat.le_refl _) _
  obtain ⟨hh, hhh⟩ : ∃ g, wn1.heap.size = g := ⟨_, rfl⟩
  have hrow := nms_one wn1 hh hhh [nOne] #[.string ⟨#[111, 110, 101]⟩] rfl
  have HFa := bx (HP1.out.fs.below hba)
  have HPa1 := bx (HP1.out.below hba)
  have HCa := bx (HC1.out.trans (Ch.of_below (S := M1) hba) (fun _ _ e => e))
  rw [hhh]
  generalize wn1.alloc (.cells #[.string ⟨#[111, 110, 101]⟩] 9) = wa2 at hba hrow HFa HPa1 HCa ⊢
  have hzz : wa2.cell? ⟨0, 0, none⟩ = some (.int .i64 mx) ∧ ¬ M1 0 ∧ 0 < wa2.heap.size := ⟨(cell_same (p := ⟨0, 0, none⟩) (HCa.out.same 0 HZ.out (fun e => by have := HML1.out 0 e; have := HZ.out; omega))).trans HM.out, fun e => by have := HML1.out 0 e; have := HZ.out; omega, Nat.lt_of_lt_of_le HZ.out HCa.out.size⟩
  have HNW := bx (ptnew_any (some ⟨hh, 0, none⟩) 1 1 [nOne] wa2 M1 gf bR bF (fsB l0 l1) mx HFa.out hzz rfl (by decide) (by decide) hrow (fun x hx => by simp only [List.mem_cons, List.not_mem_nil, or_false] at hx; rcases hx with rfl <;> decide))
  clear hba hhh hrow hzz  HP1 HC1
  refine HNW.out.mono ?_
  rintro e wn2 ⟨gq, bK2, bC2, rfl, p1, p2, p3, hb, hps⟩
  obtain ⟨M2, hMM⟩ : ∃ M : Nat → Prop, (fun k => M1 k ∨ k = gq ∨ k = bK2 ∨ k = bC2) = M := ⟨_, rfl⟩
  have hps : PsM wn2 M2 gf bR bF gq bK2 bC2 [nOne] (fsB l0 l1) kn0 mx := by rw [← hMM]; exact hps
  have hmore : (∀ k, M1 k → M2 k) ∧ (∀ k, M2 k → M1 k ∨ wa2.heap.size ≤ k) := ⟨fun k e => by rw [← hMM]; exact .inl e, fun k e => by
    rw [← hMM] at e
    rcases e with e | e | e | e
    · exact .inl e
    · right; omega
    · right; omega
    · right; omega⟩
  have HP1 := bx (HPa1.out.more hb hmore.1 hmore.2 hps.pt.all)
  have HL12 := bx HPa1.out.pt.lt
  have hsz := HCa.out.size
  have HML2 : Bx (∀ k, M2 k → w.heap.size ≤ k) := bx (fun k e => by rcases hmore.2 k e with e | e; exact HML1.out k e; omega)
  have HP2 := bx hps
  have HC2 : Bx (Ch w wn2 M2) := bx ((HCa.out.mono (S' := M2) (fun k _ e => hmore.1 k e)).trans (Ch.of_below (S := M2) hb) (fun _ _ e => e))
  have HPB2 : Bx (wa2.heap.size ≤ gq ∧ wa2.heap.size ≤ bK2 ∧ wa2.heap.size ≤ bC2) := bx ⟨p1, p2, p3⟩
  clear hps hb hMM hsz hmore p1 p2 p3 HNW HFa HPa1 HCa
  go_wp2_with fail
  have hba : Below wn2.heap.size wn2 (wn2.alloc (.cells #[.string ⟨#[116, 119, 111]⟩] 9)) := bl_alloc (Below.refl _ _) (Nat.le_refl _) _
  obtain ⟨hh, hhh⟩ : ∃ g, wn2.heap.size = g := ⟨_, rfl⟩
  have hrow := nms_one wn2 hh hhh [nTwo] #[.string ⟨#[116, 119, 111]⟩] rfl
  have HFa := bx (HP1.out.fs.below hba)
  have HPa1 := bx (HP1.out.below hba)
  have HPa2 := bx (HP2.out.below hba)
  have HCa := bx (HC2.out.trans (Ch.of_below (S := M2) hba) (fun _ _ e => e))
  rw [hhh]
  generalize wn2.alloc (.cells #[.string ⟨#[116, 119, 111]⟩] 9) = wa3 at hba hrow HFa HPa1 HPa2 HCa ⊢
  have hzz : wa3.cell? ⟨0, 0, none⟩ = some (.int .i64 mx) ∧ ¬ M2 0 ∧ 0 < wa3.heap.size := ⟨(cell_same (p := ⟨0, 0, none⟩) (HCa.out.same 0 HZ.out (fun e => by have := HML2.out 0 e; have := HZ.out; omega))).trans HM.out, fun e => by have := HML2.out 0 e; have := HZ.out; omega, Nat.lt_of_lt_of_le HZ.out HCa.out.size⟩
  have HNW := bx (ptnew_any (some ⟨hh, 0, none⟩) 1 1 [nTwo] wa3 M2 gf bR bF (fsB l0 l1) mx HFa.out hzz rfl (by decide) (by decide) hrow (fun x hx => by simp only [List.mem_cons, List.not_mem_nil, or_false] at hx; rcases hx with rfl <;> decide))
  clear hba hhh hrow hzz  HP1 HP2 HC2
  refine HNW.out.mono ?_
  rintro e wn3 ⟨gr, bK3, bC3, rfl, p1, p2, p3, hb, hps⟩
  obtain ⟨M3, hMM⟩ : ∃ M : Nat → Prop, (fun k => M2 k ∨ k = gr ∨ k = bK3 ∨ k = bC3) = M := ⟨_, rfl⟩
  have hps : PsM wn3 M3 gf bR bF gr bK3 bC3 [nTwo] (fsB l0 l1) kn0 mx := by rw [← hMM]; exact hps
  have hmore : (∀ k, M2 k → M3 k) ∧ (∀ k, M3 k → M2 k ∨ wa3.heap.size ≤ k) := ⟨fun k e => by rw [← hMM]; exact .inl e, fun k e => by
    rw [← hMM] at e
    rcases e with e | e | e | e
    · exact .inl e
    · right; omega
    · right; omega
    · right; omega⟩
  have HP1 := bx (HPa1.out.more hb hmore.1 hmore.2 hps.pt.all)
  have HL13 := bx HPa1.out.pt.lt
  have HP2 := bx (HPa2.out.more hb hmore.1 hmore.2 hps.pt.all)
  have HL23 := bx HPa2.out.pt.lt
  have hsz := HCa.out.size
  have HML3 : Bx (∀ k, M3 k → w.heap.size ≤ k) := bx (fun k e => by rcases hmore.2 k e with e | e; exact HML2.out k e; omega)
  have HP3 := bx hps
  have HC3 : Bx (Ch w wn3 M3) := bx ((HCa.out.mono (S' := M3) (fun k _ e => hmore.1 k e)).trans (Ch.of_below (S := M3) hb) (fun _ _ e => e))
  have HPB3 : Bx (wa3.heap.size ≤ gr ∧ wa3.heap.size ≤ bK3 ∧ wa3.heap.size ≤ bC3) := bx ⟨p1, p2, p3⟩
  clear hps hb hMM hsz hmore p1 p2 p3 HNW HFa HPa1 HPa2 HCa
  have HD12 : Bx (((bK ≠ gq ∧ bK ≠ bK2 ∧ bK ≠ bC2) ∧ (bC ≠ gq ∧ bC ≠ bK2 ∧ bC ≠ bC2)) ∧ ((bK ≠ gr ∧ bK ≠ bK3 ∧ bK ≠ bC3) ∧ (bC ≠ gr ∧ bC ≠ bK3 ∧ bC ≠ bC3)) ∧ ((bK2 ≠ gr ∧ bK2 ≠ bK3 ∧ bK2 ≠ bC3) ∧ (bC2 ≠ gr ∧ bC2 ≠ bK3 ∧ bC2 ≠ bC3))) := bx (by
    have h1 := HL12.out
    have h2 := HL13.out
    have h3 := HL23.out
    have h4 := HPB2.out
    have h5 := HPB3.out
    omega)
  clear HL12 HL13 HL23 HPB1 HPB2 HPB3 HML0 HML1 HML2
  obtain ⟨R1, hR1⟩ : ∃ R, amongP [nOne, nTwo] s.data.toList 2 0 (fsB l0 l1) kn0 = R := ⟨_, rfl⟩
  obtain ⟨R2, hR2⟩ : ∃ R, amongP [nOne] s.data.toList 1 0 R1.2.1 kn0 = R := ⟨_, rfl⟩
  obtain ⟨R3, hR3⟩ : ∃ R, amongP [nTwo] s.data.toList 1 0 R2.2.1 kn0 = R := ⟨_, rfl⟩
  have hq1 : Quiet R1.2.1 ∧ R1.2.1.rows = (fsB l0 l1).rows := by rw [← hR1]; obtain ⟨G2, hG2, hG3, hG4⟩ := among_quiet (nms := [nOne, nTwo]) (nm := s.data.toList) (K := kn0) 2 (fsB_quiet l0 l1); rw [hG2]; exact ⟨hG4, hG3⟩
  have hq2 : Quiet R2.2.1 ∧ R2.2.1.rows = (fsB l0 l1).rows := by rw [← hR2]; obtain ⟨G2, hG2, hG3, hG4⟩ := among_quiet (nms := [nOne]) (nm := s.data.toList) (K := kn0) 1 hq1.1; rw [hG2]; exact ⟨hG4, hG3.trans hq1.2⟩
  have hv1 := among_two (nm := s.data.toList) (fsB_quiet l0 l1) (K := kn0) ⟨rfl, rfl⟩ (fsB_one l0 l1) (fsB_two l0 l1)
  have hv2 : R2.1 = findP l0 s.data.toList := by rw [← hR2]; exact among_alone hq1.1 rfl (by rw [hq1.2]; exact fsB_one l0 l1)
  have hv3 : R3.1 = findP l1 s.data.toList := by rw [← hR3]; exact among_alone hq2.1 rfl (by rw [hq2.2]; exact fsB_two l0 l1)
  rw [hR1] at hv1
  have hd1 : R1.2.1.reads ≤ 4 ∧ R2.2.1.reads ≤ 8 := by
    have h1 := among_reads (nms := [nOne, nTwo]) (nm := s.data.toList) 2 0 (fsB l0 l1) kn0
    have h2 := among_reads (nms := [nOne]) (nm := s.data.toList) 1 0 R1.2.1 kn0
    rw [hR1] at h1
    rw [hR2] at h2
    have h0 : (fsB l0 l1).reads = 0 := rfl
    omega
  have hd2 : (fsB l0 l1).reads ≤ R1.2.1.reads ∧ R1.2.1.reads ≤ R2.2.1.reads := ⟨by rw [← hR1]; exact among_mono 2 0 _ _, by rw [← hR2]; exact among_mono 1 0 _ _⟩
  have HD1 := bx hd1
  have HD2 := bx hd2
  have HV1 := bx hv1
  have HV2 := bx hv2
  have HV3 := bx hv3
  have HF1 := bx (pfind_any s wn3 M3 gf bR bF gp bK bC [nOne, nTwo] (fsB l0 l1) kn0 mx HP1.out HSQ.out (show 0 + 40 < 1000000 by decide))
  rw [show ([nOne, nTwo] : List (List UInt8)).length = 2 from rfl, hR1] at HF1
  have HRR2 := bx hR2
  have HRR3 := bx hR3
  clear hR1 hR2 hR3 hq1 hq2 hv1 hv2 hv3 hd1 hd2
  go_wp2_with fail
  refine HF1.out.mono ?_
  intro e w5 hp
  obtain ⟨ha, hps, hc⟩ := hp
  obtain ⟨A3, n3, c3, rfl, hl3, hs3, ho3⟩ := ans_form ha
  have HX3 : Bx (Std w5 M3 ⟨A3, n3, c3, okl R1.1⟩) := bx (slX_own (ho3.low (by exact Nat.le_refl _)) (fun k hk => by exact HP1.out.pt.all k hk))
  have HL3 := bx hl3.out
  have HS3 : Bx ((n3 : Int) ≤ 140737488355328) := bx (by have := hs3.out; omega)
  have HQ2 := bx (HP2.out.other hps hc HD12.out.1 HD2.out.1)
  have HQ3 := bx (HP3.out.other hps hc HD12.out.2.1 HD2.out.1)
  have hsub := path_sub HP1.out
  have HC5 := bx (HC3.out.trans (hc.mono (S' := M3) (fun k _ e => hsub k e)) (fun _ _ e => e))
  clear ha hps hc hl3 hs3 ho3 hsub HF1 HP1 HP2 HP3 HC3
  go_wp2_with fail
  have HF2 := bx (pfind_any s w5 M3 gf bR bF gq bK2 bC2 [nOne] R1.2.1 kn0 mx HQ2.out HSQ.out (by have := HD1.out.1; omega))
  rw [show ([nOne] : List (List UInt8)).length = 1 from rfl, HRR2.out] at HF2
  refine HF2.out.mono ?_
  intro e w6 hp
  obtain ⟨ha, hps, hc⟩ := hp
  obtain ⟨A4, n4, c4, rfl, hl4, hs4, ho4⟩ := ans_form ha
  have hsub := path_sub HQ2.out
  have HX4 : Bx (Std w6 M3 ⟨A4, n4, c4, okl R2.1⟩) := bx (slX_own (ho4.low (by exact Nat.le_refl _)) (fun k hk => by exact HQ2.out.pt.all k hk))
  have HL4 := bx hl4.out
  have HS4 : Bx ((n4 : Int) ≤ 140737488355328) := bx (by have := hs4.out; omega)
  have HT3 := bx (HQ3.out.other hps hc HD12.out.2.2 HD2.out.2)
  have HC6 := bx (HC5.out.trans (hc.mono (S' := M3) (fun k _ e => hsub k e)) (fun _ _ e => e))
  have HY3 := bx (HX3.out.ch hc hsub)
  clear ha hps hc hl4 hs4 ho4 hsub HF2 HQ2 HQ3 HC5 HX3 HRR2
  by_cases h21 : findP l0 s.data.toList ≠ .err 21
  · have h22 : R1.1 = R2.1 := by rw [HV1.out.1 h21, HV2.out]
    have h23 : ecd R2.1 ≠ 21 := by rw [HV2.out]; exact ecd_21 h21
    rw [h22] at HL3 HY3 ⊢
    obtain ⟨ek, hek⟩ : ∃ ek, ecd R2.1 = ek := ⟨_, rfl⟩
    rw [hek] at h23 ⊢
    have hk1 : (ek != 21) = true := by simpa using h23
    have hk2 : (ek == ek) = true := by simp
    clear h21 h22 h23 hek
    go_wp2_with fail
    refine (same_any A3 A4 n3 c3 n4 c4 w6 (okl R2.1) (okl R2.1) HL3.out HL4.out HS3.out HS4.out (Std.rb HY3.out) (Std.rb HX4.out)).mono ?_
    rintro e w7 ⟨rfl, hb⟩
    rw [dec_self10]
    have HB7 := bx (HC6.out.trans (Ch.of_below (S := M3) hb) (fun _ _ e => e))
    clear hb
    go_wp2
    go_ret
    exact ⟨rfl, HB7.out.below (Nat.le_refl _) (fun k hk e => by have := HML3.out k e; omega)⟩
  · have h24 : findP l0 s.data.toList = .err 21 := Classical.not_not.1 h21
    have h22 : R1.1 = findP l1 s.data.toList := HV1.out.2 h24
    have h23 : ecd R2.1 = 21 := by rw [HV2.out, h24]; rfl
    obtain ⟨Z, hZ⟩ : ∃ Z, findP l1 s.data.toList = Z := ⟨_, rfl⟩
    rw [hZ] at h22
    rw [hZ] at HV3
    have HZZ := bx hZ
    rw [h22] at HL3 HY3 ⊢
    rw [h23]
    clear h21 h22 h23 h24 hZ HV1 HV2 HX4 HL4 HS4
    go_wp2_with fail
    have HF3 := bx (pfind_any s w6 M3 gf bR bF gr bK3 bC3 [nTwo] R2.2.1 kn0 mx HT3.out HSQ.out (by have := HD1.out.2; omega))
    rw [show ([nTwo] : List (List UInt8)).length = 1 from rfl, HRR3.out] at HF3
    refine HF3.out.mono ?_
    intro e w7 hp
    obtain ⟨ha, hps, hc⟩ := hp
    rw [HV3.out] at ha
    obtain ⟨A5, n5, c5, rfl, hl5, hs5, ho5⟩ := ans_form ha
    have hsub := path_sub HT3.out
    have HX5 : Bx (Std w7 M3 ⟨A5, n5, c5, okl Z⟩) := bx (slX_own (ho5.low (by exact Nat.le_refl _)) (fun k hk => by exact HT3.out.pt.all k hk))
    have HL5 := bx hl5.out
    have HS5 : Bx ((n5 : Int) ≤ 140737488355328) := bx (by have := hs5.out; omega)
    have HC7 := bx (HC6.out.trans (hc.mono (S' := M3) (fun k _ e => hsub k e)) (fun _ _ e => e))
    have HY4 := bx (HY3.out.ch hc hsub)
    have hbw : Below w.heap.size w w7 := HC7.out.below (Nat.le_refl _) (fun k hk e => by have := HML3.out k e; omega)
    have HRW := bx ((HR1.out.below hbw (Nat.le_refl _)).more hbw.size)
    clear ha hps hc hl5 hs5 ho5 hsub hbw HF3 HT3 HC6 HY3 HRR3
    go_wp2_with fail
    have HF4 := bx (rfind_any A1 n1 c1 l1 s w7 HE1.out b1 HCM.out.1 HCM.out.2 HRW.out)
    rw [HZZ.out] at HF4
    refine HF4.out.mono ?_
    intro e w8 hp
    obtain ⟨A6, n6, c6, rfl, hl6, hs6, ho6⟩ := ans_form (AnsP.unp hp (Nat.le_refl _))
    have HL6 := bx hl6.out
    have HS6 : Bx ((n6 : Int) ≤ 140737488355328) := bx (by have := hs6.out; omega)
    have HX6 : Bx (RB w8 w8.heap.size A6 (okl Z)) := bx (OwL.rl ho6)
    have HY5 := bx (HX5.out.below hp.1)
    have HY6 := bx (HY4.out.below hp.1)
    have HC8 := bx (HC7.out.trans (Ch.of_below (S := M3) hp.1) (fun _ _ e => e))
    clear hp hl6 hs6 ho6 HF4 HX5 HY4 HC7
    obtain ⟨ek, hek⟩ : ∃ ek, ecd Z = ek := ⟨_, rfl⟩
    rw [hek]
    have hk2 : (ek == ek) = true := by simp
    clear hek
    go_wp2_with fail
    refine (same_any A3 A5 n3 c3 n5 c5 w8 (okl Z) (okl Z) HL3.out HL5.out HS3.out HS5.out (Std.rb HY6.out) (Std.rb HY5.out)).mono ?_
    rintro e w9 ⟨rfl, hb⟩
    rw [dec_self10]
    have HC9 := bx (HC8.out.trans (Ch.of_below (S := M3) hb) (fun _ _ e => e))
    have HZ5 := bx (HY5.out.below hb)
    have HZ6 := bx (HX6.out.step hb)
    clear hb
    go_wp2_with fail
    refine (same_any A5 A6 n5 c5 n6 c6 w9 (okl Z) (okl Z) HL5.out HL6.out HS5.out HS6.out (Std.rb HZ5.out) HZ6.out).mono ?_
    rintro e w10 ⟨rfl, hb⟩
    rw [dec_self10]
    have HC10 := bx (HC9.out.trans (Ch.of_below (S := M3) hb) (fun _ _ e => e))
    clear hb
    go_wp2
    go_ret
    exact ⟨rfl, HC10.out.below (Nat.le_refl _) (fun k hk e => by have := HML3.out k e; omega)⟩
end Go.Proofs.YtlmcpkomjofcgaaGreatDoor
