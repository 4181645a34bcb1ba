/- Contracts of the document's path: Find, First, Known. -/
import Derived.Test.YtlmcpkomjofcgaaGreatDoorQvDpC
import Derived.Test.YtlmcpkomjofcgaaGreatDoorPv16
namespace Go.Proofs.YtlmcpkomjofcgaaGreatDoor
open Go.RowKit
theorem look_reads (nms : List (List UInt8)) (nm : List UInt8) (F : FS) (K : Kn) (i : Nat) : (lookP nms nm F K i).2.2.1.reads ≤ F.reads + 2 := by
  have h1 := (learn_reads nms F K i).2
  obtain ⟨k, F2, K2, hL⟩ : ∃ k F2 K2, learnP nms F K i = (k, F2, K2) := ⟨_, _, _, rfl⟩
  unfold lookP
  rw [hL] at h1 ⊢
  dsimp only at h1 ⊢
  split
  · dsimp only; omega
  · split
    · dsimp only; omega
    · rename_i x _
      dsimp only
      have h2 := (readFS_reads F2 (nms.getD i []) x.2 x.1.packed).2
      unfold takeP
      split
      · rename_i h3; rw [h3] at h2; dsimp only at h2 ⊢; omega
      · rename_i h3; rw [h3] at h2; dsimp only at h2 ⊢; omega
theorem among_look (nms : List (List UInt8)) (nm : List UInt8) (F : FS) (K : Kn) (f i : Nat) {R : Rz (List UInt8)} {q : Bool} {F2 : FS} {K2 : Kn} (h : lookP nms nm F K i = (R, q, F2, K2)) :
    amongP nms nm (f + 1) i F K = (if q = true then (R, F2, K2) else amongP nms nm f (i + 1) F2 K2) ∧ (q = false → R = .err 21) := by
  obtain ⟨k, F3, K3, hL⟩ : ∃ k F3 K3, learnP nms F K i = (k, F3, K3) := ⟨_, _, _, rfl⟩
  unfold lookP at h
  rw [amongP]
  rw [hL] at h ⊢
  dsimp only at h ⊢
  by_cases hk : k ≠ 0
  · rw [if_pos hk] at h ⊢
    injection h with h1 h
    injection h with h2 h
    injection h with h3 h4
    subst h1; subst h2; subst h3; subst h4
    exact ⟨rfl, fun e => by cases e⟩
  · rw [if_neg hk] at h ⊢
    split at h
    · rename_i hr
      rw [hr]
      injection h with h1 h
      injection h with h2 h
      injection h with h3 h4
      subst h1; subst h2; subst h3; subst h4
      exact ⟨rfl, fun _ => rfl⟩
    · rename_i x hr
      rw [hr]
      injection h with h1 h
      injection h with h2 h
      injection h with h3 h4
      subst h1; subst h2; subst h3; subst h4
      exact ⟨rfl, fun e => by cases e⟩
/-- What Find and First leave. -/
def DfdP (w : World) (M N : Nat → Prop) (gq bx bT bD : Nat) (nms : List (List UInt8)) (R : Rz (List UInt8) × FS × Kn) (e : Ending) (w' : World) : Prop :=
  AnsP R.1 w.heap.size e w' ∧ DfM w' M N bx R.2.1 ∧ DpM w' M N gq bx bT bD nms R.2.2 ∧ Ch w w' (LkP bx bT bD)
theorem dp_lists {w : World} {M N : Nat → Prop} {gq bx0 bT bD : Nat} {nms : List (List UInt8)} {K : Kn} (h : DpM w M N gq bx0 bT bD nms K) : ∃ A c, w.cell? ⟨gq, 1, none⟩ = some (.slice A nms.length c) := by
  obtain ⟨A, c, D, h⟩ := h
  exact ⟨A, c, (h.box.cell 1).trans rfl⟩
theorem dp_len {w : World} {M N : Nat → Prop} {gq bx0 bT bD : Nat} {nms : List (List UInt8)} {K : Kn} (h : DpM w M N gq bx0 bT bD nms K) : 1 ≤ nms.length ∧ nms.length ≤ 8 := by
  obtain ⟨A, c, D, h⟩ := h
  exact h.len
set_option maxRecDepth 100000 in
set_option maxHeartbeats 4000000 in
theorem r22find_any (s : ByteArray) (w : World) (M N : Nat → Prop) (gq bx0 bT bD : Nat) (nms : List (List UInt8)) (F : FS) (K : Kn) (hf : DfM w M N bx0 F) (hp : DpM w M N gq bx0 bT bD nms K) (hrd : F.reads + 40 < 1000000) :
    Calls Tryz.prog 17 #[.pointer (some ⟨gq, 0, none⟩), .string s] w (DfdP w M N gq bx0 bT bD nms (amongP nms s.data.toList nms.length 0 F K)) := by
  obtain ⟨n, hn⟩ : ∃ n, nms.length = n := ⟨_, rfl⟩
  have hn8 : n ≤ 8 := by have := dp_len hp; omega
  rw [hn]
  obtain ⟨R, hR⟩ : ∃ R, amongP nms s.data.toList n 0 F K = R := ⟨_, rfl⟩
  rw [hR]
  have HS0 : Bx (DfM w M N bx0 F ∧ DpM w M N gq bx0 bT bD nms K ∧ Ch w w (LkP bx0 bT bD) ∧ amongP nms s.data.toList (n - 0) 0 F K = R ∧ F.reads ≤ F.reads + 2 * 0) := bx ⟨hf, hp, Ch.refl _, hR, Nat.le_refl _⟩
  have HN := bx hn
  have HRD := bx hrd
  clear hf hp hR hn hrd
  go_enter Tryz.func17, Tryz.ntmps17
  go_wp2_with fail
  go_loopw [6] (fun iv wx => ∃ (j : Nat) (F1 : FS) (K1 : Kn), j ≤ n ∧ iv = .int .i64 (j : Int) ∧ Bx (DfM wx M N bx0 F1 ∧ DpM wx M N gq bx0 bT bD nms K1 ∧ Ch w wx (LkP bx0 bT bD) ∧ amongP nms s.data.toList (n - j) j F1 K1 = R ∧ F1.reads ≤ F.reads + 2 * j)) (fun iv _ => n - (intOf iv).toNat)
  case atStart => exact ⟨0, F, K, by omega, rfl, HS0⟩
  case round =>
    clear HS0
    obtain ⟨j, F1, K1, hj, rfl, HST⟩ := hrel
    obtain ⟨A1, c1, hc1⟩ := dp_lists HST.out.2.1
    rw [HN.out] at hc1
    by_cases hjn : j < n
    · have hjI : (j : Int) < (n : Int) := by omega
      have hnj : n - j = (n - (j + 1)) + 1 := by omega
      have hA : amongP nms s.data.toList ((n - (j + 1)) + 1) j F1 K1 = R := by rw [← hnj]; exact HST.out.2.2.2.1
      obtain ⟨R1, q, F2, K2, hL⟩ : ∃ R1 q F2 K2, lookP nms s.data.toList F1 K1 j = (R1, q, F2, K2) := ⟨_, _, _, _, rfl⟩
      have hLR := look_reads nms s.data.toList F1 K1 j
      have HLC := bx (r22look_any j s wr M N gq bx0 bT bD nms F1 K1 HST.out.1 HST.out.2.1 (by rw [HN.out]; exact hjn) (by have h1 := HST.out.2.2.2.2; have h2 := HRD.out; omega))
      obtain ⟨hA1, hA2⟩ := among_look nms s.data.toList F1 K1 (n - (j + 1)) j hL
      rw [hL] at HLC hLR
      rw [hA1] at hA
      dsimp only at hLR
      have HA := bx hA
      have HQ := bx hA2
      have HLR : Bx (F2.reads ≤ F.reads + 2 * (j + 1)) := bx (by have := HST.out.2.2.2.2; omega)
      clear hA hA1 hA2 hLR hL hnj
      go_wp2_with fail
      refine HLC.out.mono ?_
      rintro e w1 ⟨ha, hf1, hp1, hc⟩
      have HF1 : Bx (DfM w1 M N bx0 F2) := bx hf1
      have HP1 : Bx (DpM w1 M N gq bx0 bT bD nms K2) := bx hp1
      have HC1 := bx (HST.out.2.2.1.trans hc (fun _ _ e => e))
      have HZ : Bx (w.heap.size ≤ wr.heap.size) := bx HST.out.2.2.1.size
      clear hf1 hp1 hc HLC HST hc1
      cases R1 with
      | ok l =>
        obtain ⟨v, he, ho, hl⟩ := ha
        subst he
        cases q with
        | false => have := HQ.out rfl; cases this
        | true =>
          have HX : Bx (R = (.ok l, F2, K2)) := bx HA.out.symm
          have HO := bx ho
          have HLN := bx hl
          clear ho hl HA HQ
          go_wp2
          go_ret2
          rw [HX.out]
          exact ⟨⟨v, rfl, OwL.low HO.out HZ.out, HLN.out⟩, HF1.out, HP1.out, HC1.out⟩
      | err k =>
        obtain ⟨he, hk0⟩ := ha
        subst he
        cases q with
        | true =>
          have HX : Bx (R = (.err k, F2, K2)) := bx HA.out.symm
          have HK0 := bx hk0
          clear hk0 HA HQ
          go_wp2
          go_ret2
          rw [HX.out]
          exact ⟨⟨rfl, HK0.out⟩, HF1.out, HP1.out, HC1.out⟩
        | false =>
          have HX : Bx (amongP nms s.data.toList (n - (j + 1)) (j + 1) F2 K2 = R) := bx HA.out
          clear hk0 HA HQ
          go_wp2
          go_roundw
          case rel => first | exact ⟨j + 1, F2, K2, by omega, by go_num, bx ⟨HF1.out, HP1.out, HC1.out, HX.out, HLR.out⟩⟩ | exact ⟨j + 1, by omega, by go_num, F2, K2, bx ⟨HF1.out, HP1.out, HC1.out, HX.out, HLR.out⟩⟩
          case measure => simp [intOf]; omega
    · obtain rfl : j = n := by omega
      have hjI : ¬ (j : Int) < (j : Int) := by omega
      have HX : Bx (R = (.err 21, F1, K1)) := bx (by
        have hA := HST.out.2.2.2.1
        rw [Nat.sub_self, amongP] at hA
        exact hA.symm)
      go_wp2
      go_ret2
      rw [HX.out]
      exact ⟨⟨rfl, by decide⟩, HST.out.1, HST.out.2.1, HST.out.2.2.1⟩
set_option maxRecDepth 100000 in
set_option maxHeartbeats 4000000 in
theorem r22first_any (s : ByteArray) (w : World) (M N : Nat → Prop) (gq bx0 bT bD : Nat) (nms : List (List UInt8)) (F : FS) (K : Kn) (hf : DfM w M N bx0 F) (hp : DpM w M N gq bx0 bT bD nms K) (hrd : F.reads + 40 < 1000000) :
    Calls Tryz.prog 19 #[.pointer (some ⟨gq, 0, none⟩), .string s] w (DfdP w M N gq bx0 bT bD nms (amongP nms s.data.toList 1 0 F K)) := by
  obtain ⟨R1, q, F2, K2, hL⟩ : ∃ R1 q F2 K2, lookP nms s.data.toList F K 0 = (R1, q, F2, K2) := ⟨_, _, _, _, rfl⟩
  have HLC := bx (r22look_any 0 s w M N gq bx0 bT bD nms F K hf hp (by have := dp_len hp; omega) (by omega))
  obtain ⟨hA1, hA2⟩ := among_look nms s.data.toList F K 0 0 hL
  rw [hL] at HLC
  rw [show (1 : Nat) = 0 + 1 from rfl, hA1]
  have hX : (if q = true then (R1, F2, K2) else amongP nms s.data.toList 0 (0 + 1) F2 K2) = (R1, F2, K2) := by
    cases q with
    | true => rfl
    | false => rw [hA2 rfl]; rfl
  rw [hX]
  clear hX hA1 hA2 hL hf hp hrd
  go_enter Tryz.func19, Tryz.ntmps19
  go_wp2_with fail
  refine HLC.out.mono ?_
  rintro e w1 ⟨ha, hf1, hp1, hc⟩
  have HF1 : Bx (DfM w1 M N bx0 F2) := bx hf1
  have HP1 : Bx (DpM w1 M N gq bx0 bT bD nms K2) := bx hp1
  have HC1 := bx hc
  clear hf1 hp1 hc HLC
  cases R1 with
  | ok l =>
    obtain ⟨v, he, ho, hl⟩ := ha
    subst he
    have HO := bx ho
    have HLN := bx hl
    clear ho hl
    go_wp2
    go_ret2
    exact ⟨⟨v, rfl, HO.out, HLN.out⟩, HF1.out, HP1.out, HC1.out⟩
  | err k =>
    obtain ⟨he, hk0⟩ := ha
    subst he
    have HK0 := bx hk0
    clear hk0
    go_wp2
    go_ret2
    exact ⟨⟨rfl, HK0.out⟩, HF1.out, HP1.out, HC1.out⟩
set_option maxRecDepth 100000 in
set_option maxHeartbeats 4000000 in
theorem r22known_any (w : World) (M N : Nat → Prop) (gq bx0 bT bD : Nat) (nms : List (List UInt8)) (K : Kn) (hp : DpM w M N gq bx0 bT bD nms K) :
    Calls Tryz.prog 22 #[.pointer (some ⟨gq, 0, none⟩)] w fun e w' => ∃ v, e = .returned v ∧ OwL strV w' w.heap.size 9 v (knP nms K nms.length) ∧ Below w.heap.size w w' := by
  obtain ⟨A, c, D, hd⟩ := hp
  have HD := bx hd
  obtain ⟨ad, s0, hAd, _⟩ := hd.name (i := 0) (by have := hd.len.1; omega)
  subst hAd
  obtain ⟨nn, hnn⟩ : ∃ nn, nms.length = nn := ⟨_, rfl⟩
  have hn8 : nn ≤ 8 := by have := hd.len.2; omega
  have HN := bx hnn
  have hnc : nn ≤ c := by have := hd.cap.1; omega
  have hcm : (c : Int) ≤ 9223372036854775807 := hd.cap.2
  have hnI : (nn : Int) ≤ 9223372036854775807 := by omega
  have HNM : Bx (∀ i, i < nn → ∃ s : ByteArray, w.cell? (ad.add i) = some (.string s) ∧ s.data.toList = nms.getD i [] ∧ ad.block < w.heap.size) := bx (fun i hi => by
    obtain ⟨ad2, s2, e2, hc2, hs2, hs3, h4, _⟩ := HD.out.name (i := i) (by rw [HN.out]; exact hi)
    injection e2 with e2
    subst e2
    exact ⟨s2, hc2, hs2, h4⟩)
  rw [hnn]
  clear hd hnn
  go_enter Tryz.func22, Tryz.ntmps22
  go_wp2_with fail
  go_loopw [3, 4] (fun v iv wx => ∃ j : Nat, j ≤ nn ∧ iv = .int .i64 (j : Int) ∧ Bx (OwL strV wx w.heap.size 9 v (knP nms K j) ∧ Below w.heap.size w wx)) (fun _ iv _ => nn - (intOf iv).toNat)
  case atStart => exact ⟨0, by omega, rfl, bx ⟨OwL.nil, Below.refl _ _⟩⟩
  case round =>
    obtain ⟨j, hj, rfl, HST⟩ := hrel
    obtain ⟨A2, n2, c2, rfl, hn2, _⟩ := OwL.sl HST.out.1
    have HDr := bx (HD.out.below HST.out.2)
    have hc1 : wr.cell? ⟨gq, 1, none⟩ = some (.slice (some ad) nn c) := (HDr.out.box.cell 1).trans (by rw [HN.out]; rfl)
    have hcT : wr.cell? ⟨gq, 2, none⟩ = some (.slice (some ⟨bT, 0, none⟩) nn nn) := (HDr.out.box.cell 2).trans (by rw [HN.out]; rfl)
    by_cases hjn : j < nn
    · have hjI : (j : Int) < (nn : Int) := by omega
      have hj0 : (0 : Int) ≤ (j : Int) := by omega
      obtain ⟨sj, hsj, hsn, hsa⟩ := HNM.out j hjn
      have hcj : wr.cell? (ad.add j) = some (.string sj) := (cell_same (p := ad.add j) (by rw [blk_add]; exact HST.out.2.block _ hsa)).trans hsj
      have hct := HDr.out.there.cell (i := j) (by rw [HN.out]; exact hjn)
      have HSN := bx hsn
      have HNN : Bx (((knP nms K j).length + [sj.data.toList].length) * 16 ≤ 140737488355328) := bx (by have := knP_len nms K j; simp only [List.length_cons, List.length_nil]; omega)
      have HZ1 := bx HST.out.2.size
      clear hsj hsn hsa
      by_cases hk : (K j).isSome = true
      · rw [hk] at hct
        have HK := bx hk
        clear hk
        go_wp2_with (at_builtin; refine wpList_appL _ strV_one10 rfl (.tmp 21) (.tmp 29) rfl strTy (by decide) w.heap.size _ (knP nms K j) rfl (HST.out.1.alloc _) _ _ 1 1 [sj.data.toList] rfl rfl (RL.news _ _ _ rfl _ _) HNN.out (le_alloc0 HZ1.out _) ?_; intro v3 w3 own3 _ _ hb3; obtain ⟨A3, n3, c3, rfl, hn3, _⟩ := OwL.sl own3; have HO3 := bx own3; have HB3 := bx ((bl_alloc HST.out.2 (Nat.le_refl _) (.cells #[.string sj] 9)).trans hb3); clear own3 hb3 hn3)
        go_roundw
        case rel => exact ⟨j + 1, by omega, by go_num, bx ⟨by rw [knP_yes HK.out, ← HSN.out]; exact HO3.out, HB3.out⟩⟩
        case measure => simp [intOf]; omega
      · have hkf : (K j).isSome = false := by simpa using hk
        rw [hkf] at hct
        have HK := bx hk
        clear hk hkf
        go_wp2_with fail
        go_roundw
        case rel => exact ⟨j + 1, by omega, by go_num, bx ⟨by rw [knP_no HK.out]; exact HST.out.1, HST.out.2⟩⟩
        case measure => simp [intOf]; omega
    · obtain rfl : j = nn := by omega
      have hjI : ¬ (j : Int) < (j : Int) := by omega
      go_wp2
      go_ret
      exact ⟨_, rfl, HST.out.1, HST.out.2⟩
end Go.Proofs.YtlmcpkomjofcgaaGreatDoor
