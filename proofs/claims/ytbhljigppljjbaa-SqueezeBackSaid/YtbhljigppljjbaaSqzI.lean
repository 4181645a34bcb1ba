/- What squeezing keeps while it goes; its greedy choice, step by step. -/
import Derived.Test.YtbhljigppljjbaaSqzF
namespace Go.Proofs.Ytbhljigppljjbaa
open Go.RowKit

structure SqS (w wr : World) (b : List UInt8) (Av : Nat → Prop) (g mb g1 g2 lo1 lo2 : Nat) (S : Pt) (i : Nat) : Prop where
  wt : WrS Av wr g (.pointer (some ⟨g1, 0, none⟩)) (.pointer (some ⟨g2, 0, none⟩)) S
  c1 : PCd wr lo1 g1 fixLit
  c2 : PCd wr lo2 g2 fixDist
  a1 : InAv Av lo1 g1
  a2 : InAv Av lo2 g2
  am : Av mb
  mp : ∃ n, n ≤ i ∧ MapT triV wr Try.prog 76 mb n (lastG b i)
  lo : w.heap.size ≤ mb
  base : ∀ k, k < w.heap.size → Av k
  bl : Below w.heap.size w wr
section
variable {w wr w' : World} {b : List UInt8} {Av : Nat → Prop} {g mb g1 g2 lo1 lo2 : Nat} {S S' : Pt} {i : Nat}
theorem SqS.kp (h : SqS w wr b Av g mb g1 g2 lo1 lo2 S i) (hw : WrS Av w' g (.pointer (some ⟨g1, 0, none⟩)) (.pointer (some ⟨g2, 0, none⟩)) S') (hk : Kp Av wr w') : SqS w w' b Av g mb g1 g2 lo1 lo2 S' i := by
  obtain ⟨n, hn, hm⟩ := h.mp
  exact ⟨hw, h.c1.kp hk h.a1, h.c2.kp hk h.a2, h.a1, h.a2, h.am, ⟨n, hn, hm.same (hk.same _ h.am)⟩, h.lo, h.base,
    h.bl.trans ⟨hk.os, hk.tape, hk.output, hk.size, fun k hkk => hk.same k (h.base k hkk)⟩⟩
theorem SqS.below (h : SqS w wr b Av g mb g1 g2 lo1 lo2 S i) (hb : Below wr.heap.size wr w') : SqS w w' b Av g mb g1 g2 lo1 lo2 S i := by
  obtain ⟨n, hn, hm⟩ := h.mp
  exact ⟨h.wt.step hb, h.c1.below hb h.c1.lt.2, h.c2.below hb h.c2.lt.2, h.a1, h.a2, h.am, ⟨n, hn, hm.below hb hm.lt⟩, h.lo, h.base, h.bl.trans (hb.mono h.bl.size)⟩
theorem WrS.grown {Av : Nat → Prop} {w w' : World} {g mb : Nat} {C D : Value} {S : Pt} (h : WrS Av w g C D S) (hg : w.grownBy w' (some mb)) (ha : Av mb) : WrS Av w' g C D S := by
  obtain ⟨v, h1, h2, h3, h4, h5, h6⟩ := h
  refine ⟨v, h1.grown hg (fun e => ?_), h2.kept hg ?_, h3, h4, fun k hk => Nat.lt_of_lt_of_le (h5 k hk) hg.size, h6⟩
  · injection e with e; subst e; exact h4 ha
  · cases hv : v.ownBlock with
    | none => exact .inl rfl
    | some k => exact .inr (fun e => by injection e with e; subst e; exact h3 _ hv ha)
theorem PCd.map {w w' : World} {lo g mb : Nat} {l : List Nat} (h : PCd w lo g l) (hg : w.grownBy w' (some mb)) (hm : ¬ (lo ≤ mb ∧ mb ≤ g)) : PCd w' lo g l :=
  h.grown hg (fun k e => by injection e with e; subst e; omega)
theorem SqS.grown (h : SqS w wr b Av g mb g1 g2 lo1 lo2 S i) (hg : wr.grownBy w' (some mb)) (h1 : g1 < mb) (h2 : g2 < mb) {j n : Nat} (hn : n ≤ j) (hm : MapT triV w' Try.prog 76 mb n (lastG b j)) : SqS w w' b Av g mb g1 g2 lo1 lo2 S j :=
  ⟨h.wt.grown hg h.am, h.c1.map hg (by omega), h.c2.map hg (by omega), h.a1, h.a2, h.am, ⟨n, hn, hm⟩, h.lo, h.base, h.bl.grown hg h.bl.size (fun k e => by injection e with e; subst e; exact h.lo)⟩
theorem SqS.late (h : SqS w wr b Av g mb g1 g2 lo1 lo2 S i) (hl : ¬ i + 3 ≤ b.length) : SqS w wr b Av g mb g1 g2 lo1 lo2 S (i + 1) := by
  obtain ⟨n, hn, hm⟩ := h.mp
  exact ⟨h.wt, h.c1, h.c2, h.a1, h.a2, h.am, ⟨n, by omega, hm.ext (fun x => lastG_late hl x)⟩, h.lo, h.base, h.bl⟩
theorem SqS.drewN (h : SqS w wr b Av g mb g1 g2 lo1 lo2 S i) (q : Nat) : SqS w (wr.drewN q) b Av g mb g1 g2 lo1 lo2 S i := h.below (below_drewN (Below.refl _ _) q)
end
/-- How far bytes are alike, one by one. -/
theorem mat_step {b : List UInt8} {i a n : Nat} (h1 : n < 258) (h2 : i + n < b.length) (h3 : b.getD (i + n) 0 = b.getD (a + n) 0) : matF b i a (258 - n) n = matF b i a (258 - (n + 1)) (n + 1) := by
  obtain ⟨f, hf⟩ : ∃ f, 258 - n = f + 1 := ⟨258 - n - 1, by omega⟩
  rw [hf, matF, if_pos ⟨h2, h3⟩, show f = 258 - (n + 1) by omega]
theorem mat_stop {b : List UInt8} {i a n : Nat} (h : ¬ (n < 258 ∧ i + n < b.length ∧ b.getD (i + n) 0 = b.getD (a + n) 0)) : matF b i a (258 - n) n = n := by
  by_cases h1 : n < 258
  · obtain ⟨f, hf⟩ : ∃ f, 258 - n = f + 1 := ⟨258 - n - 1, by omega⟩
    rw [hf, matF, if_neg (fun hh => h ⟨h1, hh⟩)]
  · rw [show 258 - n = 0 by omega, matF]
theorem tokAt_none {b : List UInt8} {i : Nat} (h : i + 3 ≤ b.length) (hl : lastK b i (keyB b i) = none) : pick b i 0 0 = tokAt b i := by
  unfold tokAt; rw [if_pos h, hl]; rfl
theorem tokAt_some {b : List UInt8} {i a : Nat} (h : i + 3 ≤ b.length) (hl : lastK b i (keyB b i) = some a) : pick b i (matB b i a) (i - a) = tokAt b i := by
  unfold tokAt; rw [if_pos h, hl]
theorem tokAt_late {b : List UInt8} {i : Nat} (h : ¬ i + 3 ≤ b.length) : pick b i 0 0 = tokAt b i := by
  unfold tokAt; rw [if_neg h]; rfl
theorem pick_lit {b : List UInt8} {i n far : Nat} (h : n < 3 ∨ (n = 3 ∧ 4096 < far)) : pick b i n far = .lit (b.getD i 0) := by unfold pick; rw [if_pos h]
theorem pick_cpy {b : List UInt8} {i n far : Nat} (h : ¬ (n < 3 ∨ (n = 3 ∧ 4096 < far))) : pick b i n far = .cpy n far := by unfold pick; rw [if_neg h]
/-- What a step does to all that is still to come. -/
theorem rest_step {b : List UInt8} {i : Nat} {S R : Pt} (h : i < b.length) (hR : R = putAll S (toksF b (b.length - i) i)) :
    R = putAll (putTok S (tokAt b i)) (toksF b (b.length - (i + (tokAt b i).wide)) (i + (tokAt b i).wide)) := by
  rw [hR, toksF_step h]; rfl
/-- Three bytes of a row, as an array. -/
theorem run_tri {P : Program} (w : World) (a : Addr) (T e : TypeId) (c : Nat) (ht : P.underlying T = some (.array 3 e)) : (Instr.arrayAt T (.slice (some a) 3 c)).run P w = .ok (.pointer (some a)) w := by
  simp [Instr.arrayAt, run_underlying ht]
theorem tri_cells {b : List UInt8} {w : World} {B : Nat} {ad : Addr} {i : Nat} (h : RB w B (some ad) b) (hi : i + 3 ≤ b.length) : ∀ j v, [bV (triB b i).1, bV (triB b i).2.1, bV (triB b i).2.2][j]? = some v → w.cell? ((ad.add i).add j) = some v := by
  intro j v hv
  have key : ∀ k, k < b.length → w.cell? (ad.add k) = some (bV (b.getD k 0)) := fun k hk => by
    obtain ⟨ad', x, hA, _, hx, hc⟩ := RL.atl h hk
    injection hA with hA
    subst hA
    rw [hc, List.getD_eq_getElem?_getD, hx.out]; rfl
  rw [addadd]
  unfold triB at hv
  match j, hv with
  | 0, hv => simp at hv; subst hv; exact key i (by omega)
  | 1, hv => simp at hv; subst hv; rw [← List.getD_eq_getElem?_getD]; exact key (i + 1) (by omega)
  | 2, hv => simp at hv; subst hv; rw [← List.getD_eq_getElem?_getD]; exact key (i + 2) (by omega)
theorem tri_three {b : List UInt8} {w : World} {B : Nat} {ad : Addr} {i : Nat} (h : RB w B (some ad) b) (hi : i + 3 ≤ b.length) {x y z : Int} (hx : ((triB b i).1.toNat : Int) = x) (hy : ((triB b i).2.1.toNat : Int) = y) (hz : ((triB b i).2.2.toNat : Int) = z) :
    w.cell? (ad.add i) = some (.int .u8 x) ∧ w.cell? ⟨(ad.add i).block, (ad.add i).off + 1, none⟩ = some (.int .u8 y) ∧ w.cell? ⟨(ad.add i).block, (ad.add i).off + 2, none⟩ = some (.int .u8 z) := by
  subst hx hy hz
  have h0 := tri_cells h hi 0 _ rfl
  have h1 := tri_cells h hi 1 _ rfl
  have h2 := tri_cells h hi 2 _ rfl
  rw [addadd] at h0
  rw [add_pos] at h1 h2
  exact ⟨h0, h1, h2⟩
end Go.Proofs.Ytbhljigppljjbaa
