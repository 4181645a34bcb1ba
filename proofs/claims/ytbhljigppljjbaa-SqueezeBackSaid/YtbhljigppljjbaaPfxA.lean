/- Words as keys; a prefix code in memory. -/
import Derived.Test.YtbhljigppljjbaaBitC
import Derived.Test.YtbhljigppljjbaaMapE
import Derived.DeepKeys4
namespace Go.Proofs.Ytbhljigppljjbaa
open Go.RowKit

/-- A code word: how many bits, which. -/
def wordV (x : Nat × Nat) : Value := .agg #[.int .u8 (x.1 : Int), .int .u16 (x.2 : Int)]
theorem word_inj (x y : Nat × Nat) (h : wordV x = wordV y) : x = y := by
  unfold wordV at h
  simp only [Value.agg.injEq, Array.mk.injEq, List.cons.injEq, Value.int.injEq, and_true, true_and] at h
  exact Prod.ext (by omega) (by omega)
theorem wordLaw : WideMaps.KeyLaw Try.prog 99 := deep_law_laid laidOut (m := 2) (by omega) (of_decide_eq_true (by kernel_rfl)) (by kernel_rfl) (by rw [Try.underlying99])
theorem wordK : Maps.Keyed Try.prog 99 := Maps.Keyed.of_law wordLaw
theorem word_key {x : Nat × Nat} (h1 : x.1 < 256) (h2 : x.2 < 65536) : ∃ kl, keyOf Try.prog 99 (wordV x) = some kl := by
  have hk : Try.prog.keyType 99 = true := by kernel_rfl
  have hc : Try.prog.cellsOf 99 = 2 := by kernel_rfl
  have hc1 : Try.prog.cellsOf 5 = 1 := by kernel_rfl
  have hc2 : Try.prog.cellsOf 29 = 1 := by kernel_rfl
  have hpos : 0 < Try.prog.types.size := of_decide_eq_true (by kernel_rfl)
  obtain ⟨m, hm⟩ : ∃ m, Try.prog.types.size = m + 1 := ⟨Try.prog.types.size - 1, by omega⟩
  have w1 : (Lit.int .u8 (x.1 : Int)).wf = true := by simp [Lit.wf, show IntKind.u8.min = 0 from rfl, show IntKind.u8.max = 255 from rfl]; omega
  have w2 : (Lit.int .u16 (x.2 : Int)).wf = true := by simp [Lit.wf, show IntKind.u16.min = 0 from rfl, show IntKind.u16.max = 65535 from rfl]; omega
  have hcl : (Value.agg #[.int .u8 (x.1 : Int), .int .u16 (x.2 : Int)]).cells.toList = [.int .u8 (x.1 : Int), .int .u16 (x.2 : Int)] := rfl
  unfold keyOf wordV
  rw [hcl, Try.underlying99]
  simp [hk, hcl, Value.formed, Try.underlying99, hc, hm, Program.keyLits, hc1, hc2, Try.underlying5, Try.underlying29, w1, w2]
/-- What the code's maps hold of the first k lengths: a word's symbol; a symbol's word. -/
def symG (l : List Nat) (k : Nat) (x : Nat × Nat) : Option Value := (symK l k x.1 x.2).map fun s => .int .i64 (s : Int)
def wordOf (l : List Nat) (s : Nat) : Option (Nat × Nat) := if l.getD s 0 = 0 then none else some (l.getD s 0, firstP l (l.getD s 0) + (symsP l s (l.getD s 0)).length)
def wrdG (l : List Nat) (k : Nat) (s : Int) : Option Value := if 0 ≤ s ∧ s < k then (wordOf l s.toNat).map wordV else none
/-- A prefix code in block g, all of it from block lo on. -/
def PCd (w : World) (lo g : Nat) (l : List Nat) : Prop :=
  ∃ ms mw n1 n2, Bk w g 96 #[.map (some ms), .map (some mw), .int .u8 (mostP l : Int)] ∧ MapT wordV w Try.prog 99 ms n1 (symG l l.length) ∧
    MapT iV w Try.prog 3 mw n2 (wrdG l l.length) ∧ (lo ≤ ms ∧ ms ≤ g) ∧ (lo ≤ mw ∧ mw ≤ g) ∧ mostP l ≤ 15 ∧ kraftTo l 15 ≤ 32768
theorem PCd.lt {w : World} {lo g : Nat} {l : List Nat} (h : PCd w lo g l) : lo ≤ g ∧ g < w.heap.size := by obtain ⟨_, _, _, _, h1, _, _, h2, _⟩ := h; exact ⟨by omega, h1.lt⟩
theorem MapT.same {κ : Type} {f : κ → Value} {w w' : World} {P : Program} {k : TypeId} {b n : Nat} {G : κ → Option Value} (h : MapT f w P k b n G) (hb : w'.heap[b]? = w.heap[b]?) : MapT f w' P k b n G := by
  obtain ⟨F, h1, h2⟩ := h
  exact ⟨F, h1.same hb, h2⟩
theorem PCd.keep {w w' : World} {lo g : Nat} {l : List Nat} (h : PCd w lo g l) (hk : ∀ i, lo ≤ i → i ≤ g → w'.heap[i]? = w.heap[i]?) : PCd w' lo g l := by
  have hl := h.lt
  obtain ⟨ms, mw, n1, n2, h1, h2, h3, h4, h5, r⟩ := h
  exact ⟨ms, mw, n1, n2, (hk g hl.1 (Nat.le_refl _)).trans h1, h2.same (hk _ h4.1 h4.2), h3.same (hk _ h5.1 h5.2), h4, h5, r⟩
theorem PCd.grown {w w' : World} {lo g : Nat} {l : List Nat} {row : Option Nat} (h : PCd w lo g l) (hb : w.grownBy w' row) (hr : ∀ k, row = some k → k < lo ∨ g < k) : PCd w' lo g l :=
  h.keep fun i h1 h2 => hb.block i (by have := h.lt; omega) (fun e => by have := hr i e.symm; omega)
theorem PCd.below {w w' : World} {lo g B : Nat} {l : List Nat} (h : PCd w lo g l) (hb : Below B w w') (hB : g < B) : PCd w' lo g l := h.keep fun i _ h2 => hb.block i (by omega)
end Go.Proofs.Ytbhljigppljjbaa
