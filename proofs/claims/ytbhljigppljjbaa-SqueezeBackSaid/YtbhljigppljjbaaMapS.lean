/- A map's entry opened and stored into, told by keys of a type of one's own; the two as steps of a region that draws its order. Nothing here speaks of the program. -/
import Derived.Test.YtbhljigppljjbaaMapE
namespace Go.Proofs.Ytbhljigppljjbaa
open Go.RowKit

/-- Block b is a map told by G in which the entry of key y stands open under the stamp st. -/
def OpenT {κ : Type} (f : κ → Value) (w : World) (P : Program) (k : TypeId) (b n : Nat) (G : κ → Option Value) (y : κ) (st : Nat) : Prop :=
  ∃ F kl, OpenF w P k b n F kl st ∧ keyOf P k (f y) = some kl ∧ ∀ x ql, keyOf P k (f x) = some ql → F ql = G x
section
variable {κ : Type} {f : κ → Value} {P : Program} {k : TypeId} {w w' : World} {b n st : Nat} {G : κ → Option Value} {y : κ}
theorem OpenT.lt (h : OpenT f w P k b n G y st) : b < w.heap.size := by obtain ⟨F, kl, h, _⟩ := h; exact h.lt
theorem OpenT.grown (h : OpenT f w P k b n G y st) {row : Option Nat} (hg : w.grownBy w' row) (hne : some b ≠ row) : OpenT f w' P k b n G y st := by
  have hl := h.lt
  obtain ⟨F, kl, h, r⟩ := h
  exact ⟨F, kl, h.same (hg.block b hl hne), r⟩
theorem MapT.entry {t e : TypeId} {z : Value} (h : MapT f w P k b n G) (K : Maps.Keyed P k) (ht : P.underlying t = some (.map k e)) (hz : (zeroValue e).run P w = .ok z w) (hn : n < maxLen) {kl : Lit} (hkey : keyOf P k (f y) = some kl) :
    ∃ (v : Value) (st : Nat) (w1 : World), (Instr.mapEntry t (.map (some b)) (f y)).run P w = .ok (.tuple #[v, .int .i64 (st : Int)]) w1 ∧ w.grownBy w1 (some b) ∧ OpenT f w1 P k b (n + 1) G y st := by
  obtain ⟨F, h, r⟩ := h
  obtain ⟨v, st, w1, h1, h2, h3⟩ := h.entry K ht hz hn hkey
  exact ⟨v, st, w1, h1, h2, F, kl, h3, hkey, r⟩
theorem OpenT.store [DecidableEq κ] {t : TypeId} (h : OpenT f w P k b n G y st) (K : Maps.Keyed P k) (hinj : ∀ x y, f x = f y → x = y) (val : Value) : ∃ w', (Instr.entryStore t (.map (some b)) (.int .i64 (st : Int)) val).run P w = .ok () w' ∧ w.grownBy w' (some b) ∧ MapT f w' P k b n (fun q => if q = y then some val else G q) := by
  obtain ⟨F, kl, h, hkey, r⟩ := h
  obtain ⟨w1, h1, h2, h3⟩ := h.store (t := t) val
  refine ⟨w1, h1, h2, _, h3, fun q ql hq => ?_⟩
  dsimp only
  by_cases hqy : q = y
  · subst hqy
    rw [hkey] at hq
    injection hq with hq
    subst hq
    rw [if_pos (WideAt.sameKey_self (K.key hkey)), if_pos rfl]
  · have hne : ¬ ql.sameKey kl = true := fun hs => by
      have := WideAt.sameKey_eq hs
      subst this
      exact hqy (hinj _ _ (K.inj hq hkey))
    rw [if_neg hne, if_neg hqy]
    exact r q ql hq
theorem step_entryT {ops : Array Oper} {o : Oper} {a : Act} {K' : Act → World → Prop} {Q : Exit → Act → World → Prop} {E : Prop} (hgd : o.guard = none) (m x : Operand) (t : TypeId) (hop : o.op = Op.mapEntry t m x)
    (e : TypeId) (K : Maps.Keyed P k) (ht : P.underlying t = some (.map k e)) (z : Value) (hz : (zeroValue e).run P w = .ok z w) (hm : a.eval m = .map (some b)) (hown : MapT f w P k b n G) (hn : n < maxLen) (y : κ) (kl : Lit)
    (hx : a.eval x = f y) (hkey : keyOf P k (f y) = some kl)
    (h : ∀ (v : Value) (st : Nat) (w' : World), OpenT f w' P k b (n + 1) G y st → w.grownBy w' (some b) → K' (a.put o.dst (.tuple #[v, .int .i64 (st : Int)])) w') :
    if Region.wanted o (yielded ops a.tmps) = true then Oper.wp P o a w K' Q else E := by
  have hw : Region.wanted o (yielded ops a.tmps) = true := by simp [Region.wanted, hgd]
  rw [if_pos hw]
  obtain ⟨v, st, w1, hrun, h1, h2⟩ := hown.entry K ht hz hn hkey
  unfold Oper.wp
  simp [execOp, hop, hm, hx, hrun, Result.andThen]
  exact h v st w1 h2 h1
theorem step_entryStoreT [DecidableEq κ] {ops : Array Oper} {o : Oper} {a : Act} {K' : Act → World → Prop} {Q : Exit → Act → World → Prop} {E : Prop} (hgd : o.guard = none) (m s v : Operand) (t : TypeId) (hop : o.op = Op.entryStore t m s v)
    (K : Maps.Keyed P k) (hinj : ∀ x y, f x = f y → x = y) (hm : a.eval m = .map (some b)) (h : OpenT f w P k b n G y st) (hs : a.eval s = .int .i64 (st : Int)) (val : Value) (hv : a.eval v = val)
    (hK : ∀ w', MapT f w' P k b n (fun q => if q = y then some val else G q) → w.grownBy w' (some b) → K' (a.put o.dst undef) w') :
    if Region.wanted o (yielded ops a.tmps) = true then Oper.wp P o a w K' Q else E := by
  have hw : Region.wanted o (yielded ops a.tmps) = true := by simp [Region.wanted, hgd]
  rw [if_pos hw]
  obtain ⟨w1, hrun, h1, h2⟩ := h.store (t := t) K hinj val
  unfold Oper.wp
  simp [execOp, hop, hm, hs, hv, hrun, Result.andThen]
  exact hK w1 h2 h1
end
end Go.Proofs.Ytbhljigppljjbaa
