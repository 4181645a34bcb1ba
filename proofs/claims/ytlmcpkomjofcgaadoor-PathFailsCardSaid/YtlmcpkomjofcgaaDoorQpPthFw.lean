/- Walk of PathFails. -/
import Derived.Test.YtlmcpkomjofcgaaDoorPp15
import Derived.Test.YtlmcpkomjofcgaaDoorQpPthS
namespace Go.Proofs.YtlmcpkomjofcgaaDoor
open Go.RowKit
set_option maxRecDepth 100000 in
set_option maxHeartbeats 16000000 in
theorem pathFails_walk (mx : Int) (w : World) (hm : w.cell? ⟨0, 0, none⟩ = some (.int .i64 mx)) (A0 : Option Addr) (n0 c0 : Nat) (l0 : List UInt8) (e0 : l0.length = n0) (_hc0 : n0 ≤ c0) (_hm0 : (c0 : Int) ≤ 9223372036854775807) (r0 : RB w w.heap.size A0 l0) (b0 : n0 ≤ 140737488351232) (A1 : Option Addr) (n1 c1 : Nat) (l1 : List UInt8) (e1 : l1.length = n1) (_hc1 : n1 ≤ c1) (_hm1 : (c1 : Int) ≤ 9223372036854775807) (r1 : RB w w.heap.size A1 l1) (b1 : n1 ≤ 140737488351232)
    (A2 : Option Addr) (n2 c2 : Nat) (l2 : List (List UInt8)) (e2 : l2.length = n2) (r2 : RL strV w w.heap.size A2 l2) (q2 : ∀ p ∈ l2, p.length ≤ 140737488351232) (b2 : n2 ≤ 140737488351232) (x : Int) (hx : 0 ≤ x ∧ x ≤ 255) :
    Calls Tryd.prog 3 #[.slice A0 n0 c0, .slice A1 n1 c1, .slice A2 n2 c2, .int .u8 x] w fun e w' => e = .returned (.bool true) ∧ Below w.heap.size w w' := by
  have hz := cell_lt10 hm
  have HFX := bx (fixed22_any mx w hm hz)
  have HM := bx hm
  have HZ := bx hz
  have HR0 := bx r0
  have HR1 := bx r1
  have HR2 := bx r2
  have HE0 := bx e0
  have HE1 := bx e1
  have HE2 := bx e2
  have HQ2 := bx q2
  obtain ⟨a, rfl⟩ : ∃ a : Nat, x = (a : Int) := ⟨x.toNat, by omega⟩
  have ha : a ≤ 255 := by omega
  obtain ⟨d, hd, hd2⟩ : ∃ d : Nat, (a : Int) % 20 = (d : Int) ∧ d ≤ 19 := ⟨a % 20, by omega, by omega⟩
  clear hm hz hx r0 r1 r2 e0 e1 e2 q2
  by_cases hbig : 20000 < n0 + n1 ∨ 30 < n2
  · by_cases hb1 : 20000 < n0 + n1
    · have hI : (20000 : Int) < (n0 : Int) + (n1 : Int) := by omega
      clear hbig
      go_enter Tryd.func3, Tryd.ntmps3
      go_wp2_with fail
      refine HFX.out.mono ?_
      rintro e w1 ⟨rfl, hb1⟩
      have HB1 := bx hb1
      clear hb1
      go_wp2
      go_ret
      exact ⟨rfl, HB1.out⟩
    · have hI : ¬ (20000 : Int) < (n0 : Int) + (n1 : Int) := by omega
      have hI2 : (30 : Int) < (n2 : Int) := by omega
      clear hbig
      go_enter Tryd.func3, Tryd.ntmps3
      go_wp2_with fail
      refine HFX.out.mono ?_
      rintro e w1 ⟨rfl, hb1⟩
      have HB1 := bx hb1
      clear hb1
      go_wp2
      go_ret
      exact ⟨rfl, HB1.out⟩
  have hI : ¬ (20000 : Int) < (n0 : Int) + (n1 : Int) := by omega
  have hI2 : ¬ (30 : Int) < (n2 : Int) := by omega
  have HSM : Bx (n0 + n1 ≤ 20000 ∧ n2 ≤ 30) := bx (by omega)
  clear hbig
  go_enter Tryd.func3, Tryd.ntmps3
  go_wp2_with fail
  refine HFX.out.mono ?_
  rintro e w1 ⟨rfl, hb1⟩
  have HB1 := bx hb1
  clear hb1 HFX
  go_wp2_with fail
  refine (fnew_any w1 (fun _ => False) (fun _ e => e.elim)).mono ?_
  rintro e w2 ⟨gf, bR, bF, rfl, f1, f2, f3, hb2, hf⟩
  have FN := bx hf
  go_wp2_with fail
  refine (fnew_any w2 (fun k => False ∨ k = gf ∨ k = bR ∨ k = bF) hf.all).mono ?_
  rintro e w3 ⟨gg, bR2, bF2, rfl, g1, g2, g3, hb3, hg⟩
  obtain ⟨M0, hM0⟩ : ∃ M : Nat → Prop, (fun k => (False ∨ k = gf ∨ k = bR ∨ k = bF) ∨ k = gg ∨ k = bR2 ∨ k = bF2) = M := ⟨_, rfl⟩
  have hg : FsM w3 M0 gg bR2 bF2 FS.new := by rw [← hM0]; exact hg
  have hf : FsM w3 M0 gf bR bF FS.new := hf.more hb3 (fun k e => by rw [← hM0]; exact .inl e) (fun k e => by
    rw [← hM0] at e
    rcases e with e | e | e | e
    · exact .inl e
    · right; omega
    · right; omega
    · right; omega) hg.all
  have hord : (gf < w2.heap.size ∧ bR < w2.heap.size ∧ bF < w2.heap.size) ∧ w2.heap.size ≤ gg ∧ w2.heap.size ≤ bR2 ∧ w2.heap.size ≤ bF2 := ⟨FN.out.lt, g1, g2, g3⟩
  have HML0 : Bx (∀ k, M0 k → w.heap.size ≤ k ∧ k < w3.heap.size) := bx (fun k e => ⟨by
    have h1 := HB1.out.size
    have h2 := hb2.size
    rw [← hM0] at e
    rcases e with (e | e | e | e) | e | e | e
    · exact e.elim
    all_goals omega, hg.all k e⟩)
  have HORD := bx hord
  have HB3 : Bx (Below w.heap.size w w3) := bx (HB1.out.trans ((hb2.trans (hb3.mono hb2.size)).mono HB1.out.size))
  have HT0 : Bx (TwoF w w3 M0 gf bR bF gg bR2 bF2 l0 l1 0) := bx ⟨Ch.of_below HB3.out, hf, hg⟩
  have HTN : Bx ((bR ≠ gg ∧ bR ≠ bR2 ∧ bR ≠ bF2) ∧ (bR2 ≠ gf ∧ bR2 ≠ bR ∧ bR2 ≠ bF)) := bx (by omega)
  clear hf hg hb2 hb3 hord f1 f2 f3 g1 g2 g3 hM0 FN
  go_wp2_with fail
  have hba : Below w3.heap.size w3 (w3.alloc (.cells #[.pointer (some ⟨gf, 0, none⟩), .pointer (some ⟨gg, 0, none⟩)] 25)) := bl_alloc (Below.refl _ _) (Nat.le_refl _) _
  obtain ⟨bl, hbl⟩ : ∃ g, w3.heap.size = g := ⟨_, rfl⟩
  have hbk := Bk.newAt w3 25 #[.pointer (some ⟨gf, 0, none⟩), .pointer (some ⟨gg, 0, none⟩)] hbl
  have HT1 := bx (HT0.out.below hba)
  rw [hbl]
  generalize w3.alloc (.cells #[.pointer (some ⟨gf, 0, none⟩), .pointer (some ⟨gg, 0, none⟩)] 25) = wA at hba hbk HT1 ⊢
  have HBK := bx hbk
  have HNM : Bx (¬ M0 bl) := bx (fun e => by have := (HML0.out bl e).2; omega)
  have HBL := bx hbl
  clear hba hbk hbl HT0
  go_loopw [43] (fun iv wx => ∃ j : Nat, j ≤ 2 ∧ iv = .int .i64 (j : Int) ∧ Bx (TwoF w wx M0 gf bR bF gg bR2 bF2 l0 l1 j ∧ Bk wx bl 25 #[.pointer (some ⟨gf, 0, none⟩), .pointer (some ⟨gg, 0, none⟩)])) (fun iv _ => 2 - (intOf iv).toNat)
  case atStart => exact ⟨0, by omega, rfl, bx ⟨HT1.out, HBK.out⟩⟩
  case round =>
    obtain ⟨j, hj, rfl, HST⟩ := hrel
    by_cases hj2 : j < 2
    · have hjI : (j : Int) < 2 := by omega
      obtain ⟨gx, bRx, bFx, hcx, hfx, hnx, hnext⟩ := HST.out.1.round hj2 HTN.out HST.out.2
      have HNX := bx hnext
      have HFX := bx hfx
      have HMX := bx hnx
      have hbw := HST.out.1.low (fun k e => (HML0.out k e).1)
      have HRA := bx ((HR0.out.below hbw (Nat.le_refl _)).more hbw.size)
      have HBW := bx hbw
      clear hbw hnext hfx hnx
      have hp1 := fput_any ⟨#[111, 110, 101]⟩ A0 n0 c0 l0 wr M0 gx bRx bFx FS.new HFX.out HE0.out (by have := HSM.out.1; omega) HRA.out (by decide)
      rw [show (⟨#[111, 110, 101]⟩ : ByteArray).data.toList = nOne from rfl, put_one (by rw [HE0.out]; have := HSM.out.1; omega)] at hp1
      have HP1 := bx hp1
      clear hp1
      go_wp2_with fail
      refine HP1.out.mono ?_
      rintro e w4 ⟨rfl, hf4, hc4⟩
      have hbw4 : Below w.heap.size w w4 := hc4.low HBW.out HBW.out.size (fun k e => by rw [show k = bRx from e]; exact (HML0.out bRx HMX.out).1)
      have HRB := bx ((HR1.out.below hbw4 (Nat.le_refl _)).more hbw4.size)
      have hp2 := fput_any ⟨#[116, 119, 111]⟩ A1 n1 c1 l1 w4 M0 gx bRx bFx (fsA l0) hf4 HE1.out (by have := HSM.out.1; omega) HRB.out (by decide)
      rw [show (⟨#[116, 119, 111]⟩ : ByteArray).data.toList = nTwo from rfl, put_two (by rw [HE1.out]; have := HSM.out.1; omega)] at hp2
      have HP2 := bx hp2
      have HC4 := bx hc4
      clear hp2 hf4 hc4 hbw4 HP1 HRA HRB
      go_wp2_with fail
      refine HP2.out.mono ?_
      rintro e w5 ⟨rfl, hf5, hc5⟩
      have HT5 := bx (HNX.out w5 hf5 (HC4.out.trans hc5 (fun _ _ e => e)))
      clear hf5 hc5 HC4 HP2 HNX
      go_wp2
      go_roundw
      case rel => exact ⟨j + 1, by omega, by go_num, bx ⟨HT5.out.1, HT5.out.2 HNM.out⟩⟩
      case measure => simp [intOf]; omega
    · obtain rfl : j = 2 := by omega
      obtain ⟨hch, hf, hg⟩ := HST.out.1
      have HCH := bx hch
      have HF : Bx (FsM wr M0 gf bR bF (fsB l0 l1)) := bx hf
      have HG : Bx (FsM wr M0 gg bR2 bF2 (fsB l0 l1)) := bx hg
      have HLR : Bx (w3.heap.size ≤ wr.heap.size) := bx (by have h1 := HST.out.2.lt; have h2 := HBL.out; omega)
      have HMLa : Bx (∀ k, M0 k → w.heap.size ≤ k) := bx (fun k e => (HML0.out k e).1)
      have HFG : Bx (gg < w3.heap.size ∧ bR2 < w3.heap.size ∧ bF2 < w3.heap.size) := bx ⟨(HML0.out gg HG.out.own.1).2, (HML0.out bR2 HG.out.own.2.1).2, (HML0.out bF2 HG.out.own.2.2).2⟩
      clear hch hf hg HST HT1 HBK
      obtain ⟨wB, rfl⟩ : ∃ wB, wB = wr := ⟨_, rfl⟩
      go_wp2_with fail
      have hba : Below wB.heap.size wB (wB.alloc (.cells #[.string ⟨#[111, 110, 101]⟩, .string ⟨#[116, 119, 111]⟩] 9)) := bl_alloc (Below.refl _ _) (Nat.le_refl _) _
      obtain ⟨hh, hhh⟩ : ∃ g, wB.heap.size = g := ⟨_, rfl⟩
      have hrow := nms_one wB hh hhh [nOne, nTwo] #[.string ⟨#[111, 110, 101]⟩, .string ⟨#[116, 119, 111]⟩] rfl
      have HFa := bx (HF.out.below hba)
      have HXa := bx (HG.out.below hba)
      have HCa := bx (HCH.out.trans (Ch.of_below (S := M0) hba) (fun _ _ e => e))
      have HSa1 := bx hba.size
      rw [hhh]
      generalize wB.alloc (.cells #[.string ⟨#[111, 110, 101]⟩, .string ⟨#[116, 119, 111]⟩] 9) = wC at hba hrow HFa HXa HCa HSa1 ⊢
      have hzz : wC.cell? ⟨0, 0, none⟩ = some (.int .i64 mx) ∧ ¬ M0 0 ∧ 0 < wC.heap.size := ⟨(cell_same (p := ⟨0, 0, none⟩) (HCa.out.same 0 HZ.out (fun e => by have := HMLa.out 0 e; have := HZ.out; omega))).trans HM.out, fun e => by have := HMLa.out 0 e; have := HZ.out; omega, Nat.lt_of_lt_of_le HZ.out HCa.out.size⟩
      have HNW := bx (ptnew_any (some ⟨hh, 0, none⟩) 2 2 [nOne, nTwo] wC M0 gf bR bF (fsB l0 l1) mx HFa.out hzz rfl (by decide) (by decide) hrow (fun x hx => by simp only [List.mem_cons, List.not_mem_nil, or_false] at hx; rcases hx with rfl | rfl <;> decide))
      clear hba hhh hrow hzz HF HG HCH
      refine HNW.out.mono ?_
      rintro e wD ⟨gp, bK, bC, rfl, p1, p2, p3, hb, hps⟩
      obtain ⟨M1, hMM⟩ : ∃ M : Nat → Prop, (fun k => M0 k ∨ k = gp ∨ k = bK ∨ k = bC) = M := ⟨_, rfl⟩
      have hps : PsM wD M1 gf bR bF gp bK bC [nOne, nTwo] (fsB l0 l1) kn0 mx := by rw [← hMM]; exact hps
      have HO1 : Bx (FsM wD M1 gg bR2 bF2 (fsB l0 l1)) := bx (HXa.out.more hb (fun k e => by rw [← hMM]; exact .inl e) (fun k e => by
        rw [← hMM] at e
        rcases e with e | e | e | e
        · exact .inl e
        · right; omega
        · right; omega
        · right; omega) hps.pt.all)
      have hsz := HCa.out.size
      have HML1 : Bx (∀ k, M1 k → w.heap.size ≤ k) := bx (fun k e => by rw [← hMM] at e; rcases e with e | e | e | e; exact HMLa.out k e; all_goals omega)
      have HP1 := bx hps
      have HC1 : Bx (Ch w wD M1) := bx ((HCa.out.mono (S' := M1) (fun k _ e => by rw [← hMM]; exact .inl e)).trans (Ch.of_below (S := M1) hb) (fun _ _ e => e))
      have HPB1 : Bx (wC.heap.size ≤ gp ∧ wC.heap.size ≤ bK ∧ wC.heap.size ≤ bC) := bx ⟨p1, p2, p3⟩
      have HPL1 := bx hps.pt.lt
      clear hps hb hMM hsz p1 p2 p3 HNW HFa HXa HCa
      go_wp2_with fail
      have hba : Below wD.heap.size wD (wD.alloc (.cells #[.string ⟨#[111, 110, 101]⟩, .string ⟨#[116, 119, 111]⟩] 9)) := bl_alloc (Below.refl _ _) (Nat.le_refl _) _
      obtain ⟨hh, hhh⟩ : ∃ g, wD.heap.size = g := ⟨_, rfl⟩
      have hrow := nms_one wD hh hhh [nOne, nTwo] #[.string ⟨#[111, 110, 101]⟩, .string ⟨#[116, 119, 111]⟩] rfl
      have HFa := bx (HO1.out.below hba)
      have HXa := bx (HP1.out.below hba)
      have HCa := bx (HC1.out.trans (Ch.of_below (S := M1) hba) (fun _ _ e => e))
      have HSa2 := bx hba.size
      rw [hhh]
      generalize wD.alloc (.cells #[.string ⟨#[111, 110, 101]⟩, .string ⟨#[116, 119, 111]⟩] 9) = wE at hba hrow HFa HXa HCa HSa2 ⊢
      have hzz : wE.cell? ⟨0, 0, none⟩ = some (.int .i64 mx) ∧ ¬ M1 0 ∧ 0 < wE.heap.size := ⟨(cell_same (p := ⟨0, 0, none⟩) (HCa.out.same 0 HZ.out (fun e => by have := HML1.out 0 e; have := HZ.out; omega))).trans HM.out, fun e => by have := HML1.out 0 e; have := HZ.out; omega, Nat.lt_of_lt_of_le HZ.out HCa.out.size⟩
      have HNW := bx (ptnew_any (some ⟨hh, 0, none⟩) 2 2 [nOne, nTwo] wE M1 gg bR2 bF2 (fsB l0 l1) mx HFa.out hzz rfl (by decide) (by decide) hrow (fun x hx => by simp only [List.mem_cons, List.not_mem_nil, or_false] at hx; rcases hx with rfl | rfl <;> decide))
      clear hba hhh hrow hzz HO1 HP1 HC1
      refine HNW.out.mono ?_
      rintro e wF ⟨gq, bK2, bC2, rfl, p1, p2, p3, hb, hps⟩
      obtain ⟨M, hMM⟩ : ∃ M : Nat → Prop, (fun k => M1 k ∨ k = gq ∨ k = bK2 ∨ k = bC2) = M := ⟨_, rfl⟩
      have hps : PsM wF M gg bR2 bF2 gq bK2 bC2 [nOne, nTwo] (fsB l0 l1) kn0 mx := by rw [← hMM]; exact hps
      have HO2 : Bx (PsM wF M gf bR bF gp bK bC [nOne, nTwo] (fsB l0 l1) kn0 mx) := bx (HXa.out.more hb (fun k e => by rw [← hMM]; exact .inl e) (fun k e => by
        rw [← hMM] at e
        rcases e with e | e | e | e
        · exact .inl e
        · right; omega
        · right; omega
        · right; omega) hps.pt.all)
      have hsz := HCa.out.size
      have HML2 : Bx (∀ k, M k → w.heap.size ≤ k) := bx (fun k e => by rw [← hMM] at e; rcases e with e | e | e | e; exact HML1.out k e; all_goals omega)
      have HP2 := bx hps
      have HC2 : Bx (Ch w wF M) := bx ((HCa.out.mono (S' := M) (fun k _ e => by rw [← hMM]; exact .inl e)).trans (Ch.of_below (S := M) hb) (fun _ _ e => e))
      have HPB2 : Bx (wE.heap.size ≤ gq ∧ wE.heap.size ≤ bK2 ∧ wE.heap.size ≤ bC2) := bx ⟨p1, p2, p3⟩
      have HPL2 := bx hps.pt.lt
      clear hps hb hMM hsz p1 p2 p3 HNW HFa HXa HCa
      have hlt1 := HPL1.out
      have hlt2 := HP2.out.pt.lt
      have hk1 := path_sub HO2.out
      have hk2 := path_sub HP2.out
      have hfg := HFG.out
      have hob := HORD.out
      have hs1 := HSa1.out
      have hs2 := HSa2.out
      have hs3 := HLR.out
      have hp1 := HPB1.out
      have hp2 := HPB2.out
      have HD1 : Bx (∀ k, PathS gf bF bK bC k → M k ∧ (k ≠ gg ∧ k ≠ bR2 ∧ k ≠ bF2) ∧ (k ≠ gq ∧ k ≠ bK2 ∧ k ≠ bC2)) := bx (fun k e => ⟨hk1 k e, by unfold PathS at e; omega, by unfold PathS at e; omega⟩)
      have HD2 : Bx (∀ k, PathS gg bF2 bK2 bC2 k → M k ∧ (k ≠ gf ∧ k ≠ bR ∧ k ≠ bF) ∧ (k ≠ gp ∧ k ≠ bK ∧ k ≠ bC)) := bx (fun k e => ⟨hk2 k e, by unfold PathS at e; omega, by unfold PathS at e; omega⟩)
      have HD3 : Bx (∀ k, TwoK gf bF k → M k ∧ (k ≠ gg ∧ k ≠ bR2 ∧ k ≠ bF2) ∧ (k ≠ gq ∧ k ≠ bK2 ∧ k ≠ bC2)) := bx (fun k e => HD1.out k (by rcases e with e | e; exact .inl e; exact .inr (.inl e)))
      clear hlt1 hlt2 hk1 hk2 hfg hob hs1 hs2 hs3 hp1 hp2 HPB1 HPB2 HSa1 HSa2 HLR HORD HFG HPL1 HPL2
      go_wp2_with fail
      refine (ffail_any _ wF M gf bR bF (fsB l0 l1) HO2.out.fs (show (0 : Nat) < 1000000 by decide)).mono ?_
      rintro e wG ⟨rfl, hf, hc⟩
      have HPE : Bx (∃ F, PsM wG M gf bR bF gp bK bC [nOne, nTwo] F kn0 mx ∧ F.rows = (fsB l0 l1).rows ∧ F.reads = 0 ∧ ∃ m, Pend m F) := bx ⟨_, HO2.out.read hf hc (by rw [(fail_rows _ _).2]; exact Nat.le_refl _), (fail_rows _ _).1, (fail_rows _ _).2, fail_pend (fsB_quiet l0 l1)⟩
      have HQE := bx (HP2.out.keep hc HD3.out)
      have HCG := bx (HC2.out.trans (hc.mono (S' := M) (fun k _ e => (HD3.out k e).1)) (fun _ _ e => e))
      clear hf hc HO2 HP2 HC2 HD3
      obtain ⟨F, hpe, hfr, hfe, hfp⟩ := HPE.out
      have HLS : Bx (LkS w wG M gf bR bF gp bK bC gg bR2 bF2 gq bK2 bC2 F (fsB l0 l1) kn0 mx 0 0) := bx ⟨HCG.out, hpe, HQE.out, hfr, fsB_quiet l0 l1, by rw [hfe]; exact Nat.le_refl _, Nat.le_refl _, .inl ⟨rfl, hfp⟩⟩
      clear hpe hfr hfe hfp HPE HQE HCG
      go_wp2_with fail
      go_loopw [17, 78] (fun fv iv wx => ∃ (j nf : Nat) (F G : FS) (K : Kn), j ≤ n2 ∧ iv = .int .i64 (j : Int) ∧ fv = .int .i64 (nf : Int) ∧ Bx (LkS w wx M gf bR bF gp bK bC gg bR2 bF2 gq bK2 bC2 F G K mx nf j)) (fun _ iv _ => n2 - (intOf iv).toNat)
      case atStart => exact ⟨0, 0, F, fsB l0 l1, kn0, by omega, rfl, rfl, HLS⟩
      case round =>
        clear HLS
        obtain ⟨j, nf, F, G, K, hj, rfl, rfl, HLK⟩ := hrel
        have HNF := bx HLK.out.pd.2
        by_cases hjn : j < n2
        · have hjI : (j : Int) < (n2 : Int) := by omega
          have HJ30 : Bx (j < 30) := bx (by have := HSM.out.2; omega)
          obtain ⟨ad, x, rfl, hlt, hx, hcx⟩ := HR2.out.atl (k := j) (by rw [HE2.out]; exact hjn)
          have hbw : Below w.heap.size w wr := HLK.out.ch.below (Nat.le_refl _) (fun k hk e => by have := HML2.out k e; omega)
          obtain ⟨s, hs⟩ : ∃ s : ByteArray, (⟨x.toArray⟩ : ByteArray) = s := ⟨_, rfl⟩
          have hcs : wr.cell? (ad.add j) = some (.string s) := ((cell_same (p := ad.add j) (by rw [blk_add]; exact hbw.block _ hlt)).trans hcx).trans (by rw [← hs]; rfl)
          have HSQ : Bx (s.size ≤ 140737488351232) := bx (by rw [← hs]; exact HQ2.out x (List.mem_of_getElem? hx.out))
          clear hbw hs hx hcx hlt
          obtain ⟨R, hRR⟩ : ∃ R, amongP [nOne, nTwo] s.data.toList 2 0 G K = R := ⟨_, rfl⟩
          obtain ⟨P, hPP⟩ : ∃ P, amongP [nOne, nTwo] s.data.toList 2 0 F K = P := ⟨_, rfl⟩
          obtain ⟨m, hm⟩ := HLK.out.pd.1
          have hlook := look_pend (nms := [nOne, nTwo]) (nm := s.data.toList) (K := K) 2 HLK.out.rows hm HLK.out.qt
          rw [hRR, hPP] at hlook
          have hrdP : P.2.1.reads ≤ F.reads + 4 := by rw [← hPP]; exact among_reads 2 0 F K
          have HPF := bx (pfind_any s wr M gf bR bF gp bK bC [nOne, nTwo] F K mx HLK.out.p (by have := HSQ.out; unfold maxLen; omega) (by have h1 := HLK.out.rdF; have h2 := HJ30.out; omega))
          rw [show ([nOne, nTwo] : List (List UInt8)).length = 2 from rfl, hPP] at HPF
          have HRP := bx hrdP
          have HRR := bx hRR
          have HPP := bx hPP
          clear hm hrdP hRR hPP
          rcases hlook with ⟨h1, h2, h3, h4, h5, h6⟩ | ⟨h1, h2, h3, h4, h5, h6, h7, h8⟩
          · have HFR : Bx (P.2.1.rows = F.rows ∧ ((nf = 0 ∧ ∃ m, Pend m P.2.1) ∨ (nf = 1 ∧ Quiet P.2.1))) := bx ⟨h4, by
              rcases HLK.out.pend with ⟨e, _⟩ | ⟨e, hq⟩
              · exact .inl ⟨e, _, h5⟩
              · exact .inr ⟨e, h6 hq⟩⟩
            have HKK := bx h3
            have HAA := bx h1
            have h20 := ecd_20 h2
            obtain ⟨ek, hek⟩ : ∃ ek, ecd P.1 = ek := ⟨_, rfl⟩
            rw [hek] at h20
            have hk20 : (ek == 20) = false := by simpa using h20
            have HEK0 := bx hek
            clear h1 h2 h3 h4 h5 h6 h20 hek
            go_wp2_with fail
            refine HPF.out.mono ?_
            intro e w1 hp
            obtain ⟨ha, hps, hc⟩ := hp
            obtain ⟨A3, n3, c3, rfl, hl3, hs3, ho3⟩ := ans_form ha
            rw [HEK0.out]
            rw [HAA.out] at hl3 ho3
            have HXB : Bx (Std w1 M ⟨A3, n3, c3, okl R.1⟩) := bx (slX_own (ho3.low (by exact Nat.le_refl _)) (fun k hk => by exact HLK.out.p.pt.all k hk))
            have HL3 := bx hl3.out
            have HS3 : Bx ((n3 : Int) ≤ 140737488355328) := bx (by have := hs3.out; omega)
            have HP9 : Bx (PsM w1 M gf bR bF gp bK bC [nOne, nTwo] P.2.1 R.2.2 mx) := bx (by rw [← HKK.out]; exact hps)
            have HQ9 := bx (HLK.out.q.keep hc HD1.out)
            have HC9 := bx (HLK.out.ch.trans (hc.mono (S' := M) (fun k _ e => (HD1.out k e).1)) (fun _ _ e => e))
            clear ha hps hc hl3 hs3 ho3 HPF HKK
            rw [HAA.out] at HEK0
            have hRR := HRR.out
            clear HRR HPP HAA
            go_wp2_with fail
            refine (pfind_any s w1 M gg bR2 bF2 gq bK2 bC2 [nOne, nTwo] G K mx HQ9.out (by have := HSQ.out; unfold maxLen; omega) (by have h1 := HLK.out.rdG; have h2 := HJ30.out; omega)).mono ?_
            intro e w4 hp
            have hp : AmgPost w1 M gg bR2 bF2 gq bK2 bC2 [nOne, nTwo] (amongP [nOne, nTwo] s.data.toList 2 0 G K) mx e w4 := hp
            rw [hRR] at hp
            obtain ⟨ha, hps, hc⟩ := hp
            obtain ⟨A4, n4, c4, rfl, hl4, hs4, ho4⟩ := ans_form ha
            have HQ4 := bx hps
            have HP4 := bx (HP9.out.keep hc HD2.out)
            have HCH4 := bx (HC9.out.trans (hc.mono (S' := M) (fun k _ e => (HD2.out k e).1)) (fun _ _ e => e))
            have HX4 := bx (Std.rb (HXB.out.ch hc (fun k e => (HD2.out k e).1)))
            have HX5 : Bx (RB w4 w4.heap.size A4 (okl R.1)) := bx (OwL.rl ho4)
            have HL4 := bx hl4.out
            have HS4 : Bx ((n4 : Int) ≤ 140737488355328) := bx (by have := hs4.out; omega)
            have HRD4 : Bx (R.2.1.reads ≤ G.reads + 4) := bx (by rw [← hRR]; exact among_reads 2 0 G K)
            have HQT4 : Bx (Quiet R.2.1 ∧ R.2.1.rows = G.rows) := bx (by rw [← hRR]; obtain ⟨G2, hG2, hG3, hG4⟩ := among_quiet (nms := [nOne, nTwo]) (nm := s.data.toList) (K := K) 2 HLK.out.qt; rw [hG2]; exact ⟨hG4, hG3⟩)
            clear ha hps hc hl4 hs4 ho4 HQ9 HP9 HC9 HXB
            have hkk : (ek != ek) = false := by simp
            rw [HEK0.out]
            go_wp2_with fail
            refine (same_any A3 A4 n3 c3 n4 c4 w4 (okl R.1) (okl R.1) HL3.out HL4.out HS3.out HS4.out HX4.out HX5.out).mono ?_
            rintro e w5 ⟨rfl, hb5⟩
            rw [dec_self10]
            have HLN : Bx (LkS w w5 M gf bR bF gp bK bC gg bR2 bF2 gq bK2 bC2 P.2.1 R.2.1 R.2.2 mx nf (j + 1)) := bx ⟨HCH4.out.trans (Ch.of_below (S := M) hb5) (fun _ _ e => e), HP4.out.below hb5, HQ4.out.below hb5, by rw [HFR.out.1, HQT4.out.2]; exact HLK.out.rows, HQT4.out.1, by have h1 := HLK.out.rdF; have h2 := HRP.out; omega, by have h1 := HLK.out.rdG; have h2 := HRD4.out; omega, HFR.out.2⟩
            clear hb5 HP4 HQ4 HCH4 HX4 HX5 HRD4 HQT4
            go_wp2
            go_roundw
            case rel => exact ⟨j + 1, nf, P.2.1, R.2.1, R.2.2, by omega, by go_num, by first | rfl | go_num, HLN⟩
            case measure => simp [intOf]; omega
          · obtain rfl : nf = 0 := by
              rcases HLK.out.pend with ⟨e, _⟩ | ⟨_, hq⟩
              · exact e
              · exact absurd hq h1
            obtain ⟨P2, hP2⟩ : ∃ P2, amongP [nOne, nTwo] s.data.toList 2 0 P.2.1 P.2.2 = P2 := ⟨_, rfl⟩
            rw [hP2] at h5 h6 h7 h8
            have HFR : Bx (P2.2.1.rows = F.rows ∧ Quiet P2.2.1) := bx ⟨h7, h8⟩
            have HKK := bx h6
            have HAA := bx h5
            have hP20 : P.1 = .err 20 := h2
            have HP20 := bx hP20
            have HRQ : Bx (P2.2.1.reads ≤ P.2.1.reads + 4) := bx (by rw [← hP2]; exact among_reads 2 0 P.2.1 P.2.2)
            have HPW := bx hP2
            clear h1 h2 h3 h4 h5 h6 h7 h8 hP20 hP2
            go_wp2_with fail
            refine HPF.out.mono ?_
            intro e w0 hp
            obtain ⟨ha, hps, hc⟩ := hp
            obtain rfl := ansErr ha HP20.out
            have HP8 := bx hps
            have HQ8 := bx (HLK.out.q.keep hc HD1.out)
            have HC8 := bx (HLK.out.ch.trans (hc.mono (S' := M) (fun k _ e => (HD1.out k e).1)) (fun _ _ e => e))
            clear ha hps hc HPF
            go_wp2_with fail
            have HPF := bx (pfind_any s w0 M gf bR bF gp bK bC [nOne, nTwo] P.2.1 P.2.2 mx HP8.out (by have := HSQ.out; unfold maxLen; omega) (by have h1 := HLK.out.rdF; have h2 := HJ30.out; have h3 := HRP.out; omega))
            rw [show ([nOne, nTwo] : List (List UInt8)).length = 2 from rfl, HPW.out] at HPF
            refine HPF.out.mono ?_
            intro e w1 hp
            obtain ⟨ha, hps, hc⟩ := hp
            obtain ⟨A3, n3, c3, rfl, hl3, hs3, ho3⟩ := ans_form ha
            rw [HAA.out] at hl3 ho3
            rw [HAA.out]
            have HXB : Bx (Std w1 M ⟨A3, n3, c3, okl R.1⟩) := bx (slX_own (ho3.low (by exact Nat.le_refl _)) (fun k hk => by exact HP8.out.pt.all k hk))
            have HL3 := bx hl3.out
            have HS3 : Bx ((n3 : Int) ≤ 140737488355328) := bx (by have := hs3.out; omega)
            have HP9 : Bx (PsM w1 M gf bR bF gp bK bC [nOne, nTwo] P2.2.1 R.2.2 mx) := bx (by rw [← HKK.out]; exact hps)
            have HQ9 := bx (HQ8.out.keep hc HD1.out)
            have HC9 := bx (HC8.out.trans (hc.mono (S' := M) (fun k _ e => (HD1.out k e).1)) (fun _ _ e => e))
            clear ha hps hc hl3 hs3 ho3 HPF HKK HP8 HQ8 HC8
            have hRR := HRR.out
            obtain ⟨ek, hek⟩ : ∃ ek, ecd R.1 = ek := ⟨_, rfl⟩
            have HEK0 := bx hek
            rw [hek]
            clear HRR HPP HAA hek HP20
            go_wp2_with fail
            refine (pfind_any s w1 M gg bR2 bF2 gq bK2 bC2 [nOne, nTwo] G K mx HQ9.out (by have := HSQ.out; unfold maxLen; omega) (by have h1 := HLK.out.rdG; have h2 := HJ30.out; omega)).mono ?_
            intro e w4 hp
            have hp : AmgPost w1 M gg bR2 bF2 gq bK2 bC2 [nOne, nTwo] (amongP [nOne, nTwo] s.data.toList 2 0 G K) mx e w4 := hp
            rw [hRR] at hp
            obtain ⟨ha, hps, hc⟩ := hp
            obtain ⟨A4, n4, c4, rfl, hl4, hs4, ho4⟩ := ans_form ha
            have HQ4 := bx hps
            have HP4 := bx (HP9.out.keep hc HD2.out)
            have HCH4 := bx (HC9.out.trans (hc.mono (S' := M) (fun k _ e => (HD2.out k e).1)) (fun _ _ e => e))
            have HX4 := bx (Std.rb (HXB.out.ch hc (fun k e => (HD2.out k e).1)))
            have HX5 : Bx (RB w4 w4.heap.size A4 (okl R.1)) := bx (OwL.rl ho4)
            have HL4 := bx hl4.out
            have HS4 : Bx ((n4 : Int) ≤ 140737488355328) := bx (by have := hs4.out; omega)
            have HRD4 : Bx (R.2.1.reads ≤ G.reads + 4) := bx (by rw [← hRR]; exact among_reads 2 0 G K)
            have HQT4 : Bx (Quiet R.2.1 ∧ R.2.1.rows = G.rows) := bx (by rw [← hRR]; obtain ⟨G2, hG2, hG3, hG4⟩ := among_quiet (nms := [nOne, nTwo]) (nm := s.data.toList) (K := K) 2 HLK.out.qt; rw [hG2]; exact ⟨hG4, hG3⟩)
            clear ha hps hc hl4 hs4 ho4 HQ9 HP9 HC9 HXB
            have hkk : (ek != ek) = false := by simp
            rw [HEK0.out]
            go_wp2_with fail
            refine (same_any A3 A4 n3 c3 n4 c4 w4 (okl R.1) (okl R.1) HL3.out HL4.out HS3.out HS4.out HX4.out HX5.out).mono ?_
            rintro e w5 ⟨rfl, hb5⟩
            rw [dec_self10]
            have HLN : Bx (LkS w w5 M gf bR bF gp bK bC gg bR2 bF2 gq bK2 bC2 P2.2.1 R.2.1 R.2.2 mx 1 (j + 1)) := bx ⟨HCH4.out.trans (Ch.of_below (S := M) hb5) (fun _ _ e => e), HP4.out.below hb5, HQ4.out.below hb5, by rw [HFR.out.1, HQT4.out.2]; exact HLK.out.rows, HQT4.out.1, by have h1 := HLK.out.rdF; have h2 := HRP.out; have h3 := HRQ.out; omega, by have h1 := HLK.out.rdG; have h2 := HRD4.out; omega, .inr ⟨rfl, HFR.out.2⟩⟩
            clear hb5 HP4 HQ4 HCH4 HX4 HX5 HRD4 HQT4
            go_wp2
            go_roundw
            case rel => exact ⟨j + 1, 1, P2.2.1, R.2.1, R.2.2, by omega, by go_num, by first | rfl | go_num, HLN⟩
            case measure => simp [intOf]; omega
        · obtain rfl : j = n2 := by omega
          have hjI : ¬ (j : Int) < (j : Int) := by omega
          have hnf : (nf : Int) ≤ 1 := by have := HNF.out; omega
          obtain ⟨wL, rfl⟩ : ∃ wL, wL = wr := ⟨_, rfl⟩
          go_wp2_with fail
          refine (pknown_any wL M gf bR bF gp bK bC [nOne, nTwo] F K mx HLK.out.p).mono ?_
          rintro e w1 ⟨v, rfl, ho, hb⟩
          obtain ⟨A3, n3, c3, rfl, hn3, hr3⟩ := OwL.sl ho
          have HR3 := bx hr3
          have HQ3 := bx (HLK.out.q.below hb)
          have HC3 := bx (HLK.out.ch.trans (Ch.of_below (S := M) hb) (fun _ _ e => e))
          have HN3 : Bx ((knP [nOne, nTwo] K 2).length = n3) := bx hn3.out.symm
          clear ho hb hr3 hn3
          go_wp2_with fail
          refine (pknown_any w1 M gg bR2 bF2 gq bK2 bC2 [nOne, nTwo] G K mx HQ3.out).mono ?_
          rintro e w2 ⟨v, rfl, ho, hb⟩
          obtain ⟨A4, n4, c4, rfl, hn4, hr4⟩ := OwL.sl ho
          have HR4 := bx hr4
          have HR5 := bx (HR3.out.step hb)
          have HC4 := bx (HC3.out.trans (Ch.of_below (S := M) hb) (fun _ _ e => e))
          have HN4 : Bx ((knP [nOne, nTwo] K 2).length = n4) := bx hn4.out.symm
          have HLE := bx (knP_len [nOne, nTwo] K 2)
          clear ho hb hr4 hn4 HR3
          go_wp2_with fail
          refine (sameTexts_any A3 A4 n3 n4 c3 c4 (knP [nOne, nTwo] K 2) (knP [nOne, nTwo] K 2) w2 HN3.out HN4.out (by have h1 := HLE.out; have h2 := HN3.out; omega) (by have h1 := HLE.out; have h2 := HN4.out; omega) HR5.out HR4.out).mono ?_
          rintro e w3 ⟨rfl, hb⟩
          rw [dec_self11]
          have HC5 := bx (HC4.out.trans (Ch.of_below (S := M) hb) (fun _ _ e => e))
          clear hb
          go_wp2
          go_ret
          exact ⟨rfl, HC5.out.below (Nat.le_refl _) (fun k hk e => by have := HML2.out k e; omega)⟩
end Go.Proofs.YtlmcpkomjofcgaaDoor
