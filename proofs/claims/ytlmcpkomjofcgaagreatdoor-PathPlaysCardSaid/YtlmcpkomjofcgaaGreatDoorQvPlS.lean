/- The law's two sides together. -/
import Derived.Test.YtlmcpkomjofcgaaGreatDoorQvPlA
import Derived.Test.YtlmcpkomjofcgaaGreatDoorQvDpD
import Derived.Test.YtlmcpkomjofcgaaGreatDoorPv16
namespace Go.Proofs.YtlmcpkomjofcgaaGreatDoor
open Go.RowKit
theorem readFS_nf (F : FS) (nm : List UInt8) (a n : Nat) : (readFS F nm a n).2.nf = F.nf := by
  unfold readFS
  split
  · rfl
  · split
    · rfl
    · split <;> rfl
theorem learn_nf (nms : List (List UInt8)) (F : FS) (K : Kn) (i : Nat) : (learnP nms F K i).2.1.nf = F.nf := by
  unfold learnP
  split
  · rfl
  · split
    · rfl
    · rename_i b _
      have h := readFS_nf F (nms.getD i []) 0 b.length
      split
      · rename_i h1; rw [h1] at h; exact h
      · rename_i h1
        rw [h1] at h
        split <;> exact h
theorem among_nf {nms : List (List UInt8)} {nm : List UInt8} : ∀ (f i : Nat) (F : FS) (K : Kn), (amongP nms nm f i F K).2.1.nf = F.nf
  | 0, _, F, _ => rfl
  | f + 1, i, F, K => by
    have h1 := learn_nf nms F K i
    rw [amongP]
    obtain ⟨k, F1, K1, hL⟩ : ∃ k F1 K1, learnP nms F K i = (k, F1, K1) := ⟨_, _, _, rfl⟩
    rw [hL] at h1 ⊢
    dsimp only at h1 ⊢
    split
    · exact h1
    · cases recOf K1 i nm with
      | none =>
        have := among_nf (nms := nms) (nm := nm) f (i + 1) F1 K1
        dsimp only; rw [this, h1]
      | some x =>
        dsimp only
        have h3 := readFS_nf F1 (nms.getD i []) x.2 x.1.packed
        unfold takeP
        split <;> rename_i h4 <;> rw [h4] at h3 <;> exact h3.trans h1
theorem putFS_rd (F : FS) (nm d : List UInt8) : (putFS F nm d).2.reads = F.reads ∧ (putFS F nm d).2.nf = F.nf := by
  unfold putFS
  split
  · exact ⟨rfl, rfl⟩
  · split
    · exact ⟨rfl, rfl⟩
    · split <;> exact ⟨rfl, rfl⟩
theorem failFS_rd (F : FS) (k : Int) : (failFS F k).2.reads = F.reads ∧ (failFS F k).2.nf ≤ F.nf + 1 := by
  unfold failFS
  split
  · exact ⟨rfl, Nat.le_succ _⟩
  · exact ⟨rfl, Nat.le_refl _⟩
/-- Ahead of a round: the files of both sides are alike. -/
structure PlS (w wx : World) (M N : Nat → Prop) (gf bR bF bx : Nat) (F : FS) (mx : Int) (r q : Nat) : Prop where
  ch : Ch w wx M
  low : ∀ k, M k → w.heap.size ≤ k
  fs : FsM wx M gf bR bF F
  zero : wx.cell? ⟨0, 0, none⟩ = some (.int .i64 mx) ∧ ¬ M 0 ∧ 0 < wx.heap.size
  df : DfM wx M N bx F
  nn : ∀ k, N k → k ≠ gf ∧ k ≠ bR ∧ k ≠ bF
  rd : F.reads ≤ r
  nf : F.nf ≤ q
/-- The paths of both sides are alike. -/
structure PlP (wx : World) (M N : Nat → Prop) (gf bR bF bx : Nat) (F : FS) (gp bK bC gq bT bD : Nat) (nms : List (List UInt8)) (K : Kn) : Prop where
  pt : PtM wx M gp gf bK bC nms K F.reads
  dp : DpM wx M N gq bx bT bD nms K
  n1 : (gf ≠ gp ∧ gf ≠ bK ∧ gf ≠ bC) ∧ (bR ≠ gp ∧ bR ≠ bK ∧ bR ≠ bC) ∧ (bF ≠ gp ∧ bF ≠ bK ∧ bF ≠ bC)
  n2 : ∀ k, N k → k ≠ gp ∧ k ≠ bK ∧ k ≠ bC
  n3 : ∀ k, (k = gq ∨ k = bT ∨ k = bD) → (k ≠ gf ∧ k ≠ bR ∧ k ≠ bF) ∧ k ≠ gp ∧ k ≠ bK ∧ k ≠ bC
def PlQ (wx : World) (M N : Nat → Prop) (gf bR bF bx : Nat) (F : FS) (pv qv : Value) : Prop := (pv = .pointer none ∧ qv = .pointer none) ∨
  ∃ gp bK bC gq bT bD nms K, pv = .pointer (some ⟨gp, 0, none⟩) ∧ qv = .pointer (some ⟨gq, 0, none⟩) ∧ PlP wx M N gf bR bF bx F gp bK bC gq bT bD nms K
section
variable {w wx w1 w2 : World} {M N M' N' S : Nat → Prop} {gf bR bF bx0 : Nat} {F F1 : FS} {mx : Int} {r q r' q' : Nat} {gp bK bC gq bT bD : Nat} {nms : List (List UInt8)} {K K1 : Kn} {pv qv : Value}
theorem DpM.below (h : DpM wx M N gq bx0 bT bD nms K) (hb : Below wx.heap.size wx w1) : DpM w1 M N gq bx0 bT bD nms K := by
  obtain ⟨A, c, D, h⟩ := h
  exact ⟨A, c, D, h.below hb⟩
theorem PlS.below (h : PlS w wx M N gf bR bF bx0 F mx r q) (hb : Below wx.heap.size wx w1) : PlS w w1 M N gf bR bF bx0 F mx r q :=
  ⟨h.ch.trans (Ch.of_below (S := M) hb) (fun _ _ e => e), h.low, h.fs.below hb, zero_ch h.zero (S := fun _ => False) (Ch.of_below hb) (fun _ e => e.elim), h.df.below hb, h.nn, h.rd, h.nf⟩
theorem PlS.up (h : PlS w wx M N gf bR bF bx0 F mx r q) (hr : r ≤ r') (hq : q ≤ q') : PlS w wx M N gf bR bF bx0 F mx r' q' := ⟨h.ch, h.low, h.fs, h.zero, h.df, h.nn, Nat.le_trans h.rd hr, Nat.le_trans h.nf hq⟩
theorem PlS.bl (h : PlS w wx M N gf bR bF bx0 F mx r q) : Below w.heap.size w wx := h.ch.below (Nat.le_refl _) (fun k hk e => by have := h.low k e; omega)
theorem PlP.below (h : PlP wx M N gf bR bF bx0 F gp bK bC gq bT bD nms K) (hb : Below wx.heap.size wx w1) : PlP w1 M N gf bR bF bx0 F gp bK bC gq bT bD nms K := ⟨h.pt.below hb, h.dp.below hb, h.n1, h.n2, h.n3⟩
theorem PlQ.below (h : PlQ wx M N gf bR bF bx0 F pv qv) (hb : Below wx.heap.size wx w1) : PlQ w1 M N gf bR bF bx0 F pv qv := by
  rcases h with h | ⟨gp, bK, bC, gq, bT, bD, nms, K, h1, h2, h3⟩
  · exact .inl h
  · exact .inr ⟨gp, bK, bC, gq, bT, bD, nms, K, h1, h2, h3.below hb⟩
theorem PlP.ps (h : PlS w wx M N gf bR bF bx0 F mx r q) (hp : PlP wx M N gf bR bF bx0 F gp bK bC gq bT bD nms K) : PsM wx M gf bR bF gp bK bC nms F K mx := ⟨h.fs, hp.pt, hp.n1, h.zero⟩
def ThreeK (a b c k : Nat) : Prop := k = a ∨ k = b ∨ k = c
theorem FsM.sub (h : FsM wx M gf bR bF F) (hS : ∀ k, S k → ThreeK gf bR bF k) : ∀ k, S k → M k := fun k e => by
  rcases hS k e with e | e | e <;> rw [e]
  · exact h.own.1
  · exact h.own.2.1
  · exact h.own.2.2
/-- The program's files turned: the document's stand. -/
theorem PlS.files1 (h : PlS w wx M N gf bR bF bx0 F mx r q) (hc : Ch wx w1 S) (hS : ∀ k, S k → ThreeK gf bR bF k) : DfM w1 M N bx0 F :=
  h.df.gr (Gr.of_ch hc (h.fs.sub hS) h.fs.all) (fun k e hk => by
    have h1 := h.nn k hk
    rcases hS k e with e | e | e
    · exact h1.1 e
    · exact h1.2.1 e
    · exact h1.2.2 e)
theorem PlS.files2 (h : PlS w wx M N gf bR bF bx0 F mx r q) (hf1 : FsM w1 M gf bR bF F1) (hc : Ch wx w1 S) (hS : ∀ k, S k → ThreeK gf bR bF k) (hd : ChP w1 M N bx0 F1 w2) (hr : F1.reads = F.reads) (hq : F1.nf ≤ F.nf + 1) :
    ∃ M' N', PlS w w2 M' N' gf bR bF bx0 F1 mx r (q + 1) ∧ (∀ pv qv, PlQ wx M N gf bR bF bx0 F pv qv → PlQ w2 M' N' gf bR bF bx0 F1 pv qv) := by
  obtain ⟨M', N', g, hn1, hn2, hd2⟩ := hd
  have hsub := h.fs.sub hS
  have hz1 := h.ch.size
  have hz2 := hc.size
  have z1 := zero_ch h.zero hc hsub
  have z2 := zero_ch z1 g.ch g.sub
  have hl1 := hf1.lt
  refine ⟨M', N', ⟨((h.ch.mono (S' := M') (fun k _ e => g.up k e)).trans (hc.mono (S' := M') (fun k _ e => g.up k (hsub k e))) (fun _ _ e => e)).trans (g.ch.mono (S' := M') (fun k _ e => g.up k (g.sub k e))) (fun _ _ e => e), fun k e => ?_, hf1.gr g (fun k e => h.nn k e), ⟨z2.1, fun e => ?_, z2.2.2⟩, hd2, fun k e => ?_, by rw [hr]; exact h.rd, by have := h.nf; omega⟩, fun pv qv hpq => ?_⟩
  · rcases g.new k e with e | e
    · exact h.low k e
    · omega
  · rcases g.new 0 e with e | e
    · exact z1.2.1 e
    · have := z1.2.2; omega
  · rcases hn2 k e with e | e
    · exact h.nn k e
    · omega
  · rcases hpq with hpq | ⟨gp, bK, bC, gq, bT, bD, nms, K, h1, h2, hp⟩
    · exact .inl hpq
    · have n1 := hp.n1
      have hpt := hp.pt.gr (Gr.of_ch hc hsub h.fs.all) (fun k e => by
        have e := hS k e
        unfold ThreeK at e
        omega) (rd' := F1.reads) (by omega)
      have hl2 := hpt.lt
      obtain ⟨A, c, D, d⟩ := hp.dp
      have hap := d.apart
      refine .inr ⟨gp, bK, bC, gq, bT, bD, nms, K, h1, h2, hpt.gr g (fun k e => hp.n2 k e) (Nat.le_refl _), ((DpM.gr ⟨A, c, D, d⟩ (Gr.of_ch hc hsub h.fs.all) (fun k e => ?_) (fun _ e => .inl e)).gr g (fun k e => ⟨fun e2 => hap.1 (e2 ▸ e), fun e2 => hap.2.1 (e2 ▸ e), fun e2 => hap.2.2 (e2 ▸ e)⟩) hn2), n1, fun k e => ?_, hp.n3⟩
      · have e := hS k e
        unfold ThreeK at e
        have h3 := hp.n3 k
        omega
      · rcases hn2 k e with e | e
        · exact hp.n2 k e
        · omega
/-- New paths on both sides. -/
theorem PlS.made1 (h : PlS w wx M N gf bR bF bx0 F mx r q) (hb : Below wx.heap.size wx w1) (hM : ∀ k, M' k ↔ M k ∨ k = gp ∨ k = bK ∨ k = bC) (hlo : wx.heap.size ≤ gp ∧ wx.heap.size ≤ bK ∧ wx.heap.size ≤ bC) (hall : ∀ k, M' k → k < w1.heap.size) : DfM w1 M' N bx0 F :=
  h.df.gr (S := fun _ => False) ⟨Ch.of_below hb, fun _ e => e.elim, fun k e => (hM k).2 (.inl e), fun k e => by
    rcases (hM k).1 e with e | e | e | e
    · exact .inl e
    · right; omega
    · right; omega
    · right; omega, hall⟩ (fun _ e => e.elim)
theorem PlS.made2 {M2 : Nat → Prop} (h : PlS w wx M N gf bR bF bx0 F mx r q) (hb : Below wx.heap.size wx w1) (hM : ∀ k, M' k ↔ M k ∨ k = gp ∨ k = bK ∨ k = bC) (hlo : wx.heap.size ≤ gp ∧ wx.heap.size ≤ bK ∧ wx.heap.size ≤ bC)
    (hps : PsM w1 M' gf bR bF gp bK bC nms F K mx) (hb2 : Below w1.heap.size w1 w2) (hM2 : ∀ k, M2 k ↔ M' k ∨ k = gq ∨ k = bT ∨ k = bD) (hlo2 : w1.heap.size ≤ gq ∧ w1.heap.size ≤ bT ∧ w1.heap.size ≤ bD) (hd : DpM w2 M2 N gq bx0 bT bD nms K) :
    PlS w w2 M2 N gf bR bF bx0 F mx r q ∧ PlP w2 M2 N gf bR bF bx0 F gp bK bC gq bT bD nms K := by
  have hd1 := h.made1 hb hM hlo hps.pt.all
  obtain ⟨A, c, D, d⟩ := hd
  have hz0 := h.ch.size
  have hz1 := hb.size
  have hz2 := hb2.size
  have l1 := hps.fs.lt
  have l2 := hps.pt.lt
  have l3 := h.fs.lt
  have hG : Gr w1 w2 M' M2 (fun _ => False) := ⟨Ch.of_below hb2, fun _ e => e.elim, fun k e => (hM2 k).2 (.inl e), fun k e => by
    rcases (hM2 k).1 e with e | e | e | e
    · exact .inl e
    · right; omega
    · right; omega
    · right; omega, d.all⟩
  have hup : ∀ k, M k → M2 k := fun k e => (hM2 k).2 (.inl ((hM k).2 (.inl e)))
  refine ⟨⟨((h.ch.mono (S' := M2) (fun k _ e => hup k e)).trans (Ch.of_below (S := M2) hb) (fun _ _ e => e)).trans (Ch.of_below (S := M2) hb2) (fun _ _ e => e), fun k e => ?_, hps.fs.gr hG (fun _ e => e.elim), ⟨(zero_ch hps.zero (S := fun _ => False) (Ch.of_below hb2) (fun _ e => e.elim)).1, fun e => ?_, Nat.lt_of_lt_of_le hps.zero.2.2 hz2⟩, hd1.gr hG (fun _ e => e.elim), h.nn, h.rd, h.nf⟩, ⟨hps.pt.gr hG (fun _ e => e.elim) (Nat.le_refl _), ⟨A, c, D, d⟩, hps.ne, fun k e => ?_, fun k e => ?_⟩⟩
  · rcases (hM2 k).1 e with e | e | e | e
    · rcases (hM k).1 e with e | e | e | e
      · exact h.low k e
      · omega
      · omega
      · omega
    · omega
    · omega
    · omega
  · rcases (hM2 0).1 e with e | e | e | e
    · exact hps.zero.2.1 e
    all_goals have := hps.zero.2.2; omega
  · have := h.df.all k (h.df.sub k e)
    omega
  · omega
/-- A look on the program's side: the document's stands. -/
theorem PlS.find1 (h : PlS w wx M N gf bR bF bx0 F mx r q) (hp : PlP wx M N gf bR bF bx0 F gp bK bC gq bT bD nms K) (hc : Ch wx w1 (PathS gf bF bK bC)) : DfM w1 M N bx0 F ∧ DpM w1 M N gq bx0 bT bD nms K := by
  have hsub := path_sub (hp.ps h)
  have hG := Gr.of_ch hc hsub h.fs.all
  refine ⟨h.df.gr hG (fun k e hk => ?_), hp.dp.gr hG (fun k e => ?_) (fun _ e => .inl e)⟩
  · have h1 := h.nn k hk
    have h2 := hp.n2 k hk
    unfold PathS at e
    omega
  · have h3 := hp.n3 k
    unfold PathS at e
    omega
theorem PlS.lk (h : PlS w wx M N gf bR bF bx0 F mx r q) (hp : PlP wx M N gf bR bF bx0 F gp bK bC gq bT bD nms K) : ∀ k, LkP bx0 bT bD k → M k := fun k e => by
  obtain ⟨A, c, D, d⟩ := hp.dp
  rcases e with e | e | e <;> rw [e]
  · exact h.df.sub _ h.df.own
  · exact d.own.2.1
  · exact d.own.2.2
theorem PlS.find2 (h : PlS w wx M N gf bR bF bx0 F mx r q) (hp : PlP wx M N gf bR bF bx0 F gp bK bC gq bT bD nms K) (hps : PsM w1 M gf bR bF gp bK bC nms F1 K1 mx) (hc : Ch wx w1 (PathS gf bF bK bC)) (hf2 : DfM w2 M N bx0 F1) (hd2 : DpM w2 M N gq bx0 bT bD nms K1) (hc2 : Ch w1 w2 (LkP bx0 bT bD)) {t : Nat} (hr : F1.reads ≤ F.reads + t) (hn : F1.nf = F.nf) :
    PlS w w2 M N gf bR bF bx0 F1 mx (r + t) q ∧ PlP w2 M N gf bR bF bx0 F1 gp bK bC gq bT bD nms K1 := by
  have hsub := path_sub (hp.ps h)
  have hlk := h.lk hp
  have hG := Gr.of_ch hc2 hlk hps.pt.all
  have hb1 := h.nn bx0 h.df.own
  have hb2 := hp.n2 bx0 h.df.own
  have h3 := hp.n3
  have h3T := h3 bT (.inr (.inl rfl))
  have h3D := h3 bD (.inr (.inr rfl))
  refine ⟨⟨(h.ch.trans (hc.mono (S' := M) (fun k _ e => hsub k e)) (fun _ _ e => e)).trans (hc2.mono (S' := M) (fun k _ e => hlk k e)) (fun _ _ e => e), h.low, hps.fs.gr hG (fun k e => ?_), zero_ch hps.zero hc2 hlk, hf2, h.nn, by have := h.rd; omega, by rw [hn]; exact h.nf⟩, ⟨hps.pt.gr hG (fun k e => ?_) (Nat.le_refl _), hd2, hp.n1, hp.n2, h3⟩⟩
  · rcases e with e | e | e <;> rw [e]
    · exact hb1
    · exact h3T.1
    · exact h3D.1
  · rcases e with e | e | e <;> rw [e]
    · exact hb2
    · exact h3T.2
    · exact h3D.2
/-- What Reads meets. -/
theorem PlS.cnt (h : PlS w wx M N gf bR bF bx0 F mx r q) : wx.cell? ⟨bx0, 1, none⟩ = some (.int .i64 (F.reads : Int)) ∧ bx0 < wx.heap.size := by
  obtain ⟨vL, vF, L, fl, d⟩ := h.df
  exact ⟨(d.box.cell 1).trans rfl, d.box.lt⟩
end
end Go.Proofs.YtlmcpkomjofcgaaGreatDoor
