/- Class files in memory: what lies beside a growing row of attributes or members. Nothing here speaks of the program. -/
import Derived.Test.YtdioijhmmmnbgaaQiImM
import Derived.Test.YtdioijhmmmnbgaaPi2
namespace Go.Proofs.Ytdioijhmmmnbgaa
open Go.RowKit
/-- A row of attributes in blocks that X allows. -/
def RAX (w : World) (X : Nat → Prop) (A : Option Addr) (L : List AtE) : Prop := Rx w X A (L.flatMap attC) ∧ ∀ x ∈ L, SlX w X x.s
/-- A member's rows in blocks that X allows. -/
def MmX (w : World) (X : Nat → Prop) (x : MmE) : Prop := x.L.length = x.n ∧ x.n ≤ x.c ∧ (x.c : Int) ≤ 9223372036854775807 ∧ RAX w X x.A x.L
/-- Blocks from B on that stand, but for the row's own. -/
def Bel (B : Nat) (w : World) (v : Value) (k : Nat) : Prop := B ≤ k ∧ k < w.heap.size ∧ v.ownBlock ≠ some k
def SubsA (B : Nat) (w : World) (v : Value) (L : List AtE) : Prop := ∀ x ∈ L, SlX w (Bel B w v) x.s
def SubsM (B : Nat) (w : World) (v : Value) (L : List MmE) : Prop := ∀ x ∈ L, MmX w (Bel B w v) x
section
variable {w w' : World} {X Y : Nat → Prop} {A : Option Addr} {L N : List AtE} {M K : List MmE} {x : MmE} {v v' : Value} {B : Nat} {e : TypeId}
theorem RAX.step (h : RAX w X A L) (hs : ∀ k, X k → w'.heap[k]? = w.heap[k]?) (hY : ∀ k, X k → Y k) : RAX w' Y A L := ⟨h.1.step hs hY, fun x hx => (h.2 x hx).step hs hY⟩
theorem MmX.step (h : MmX w X x) (hs : ∀ k, X k → w'.heap[k]? = w.heap[k]?) (hY : ∀ k, X k → Y k) : MmX w' Y x := ⟨h.1, h.2.1, h.2.2.1, h.2.2.2.step hs hY⟩
theorem RAX.ra (h : RAX w X A L) (hX : ∀ k, X k → k < B) : RA w B A L := ⟨fun hn => by
  obtain ⟨ad, e, hx, hc⟩ := h.1 hn
  exact ⟨ad, e, hX _ hx, hc⟩, fun x hx => (h.2 x hx).slB hX⟩
theorem MmX.mmB (h : MmX w X x) (hX : ∀ k, X k → k < B) : MmB w B x := ⟨h.1, h.2.1, h.2.2.1, h.2.2.2.ra hX⟩
/-- What turns is the row's own block, or lies below B, or is new. -/
theorem bel_own (hg : w.grownBy w' v.ownBlock) : ∀ k, Bel B w v k → w'.heap[k]? = w.heap[k]? := fun k hk => hg.block k hk.2.1 (fun e => hk.2.2 e.symm)
theorem bel_next (hg : w.grownBy w' v.ownBlock) (hv : v'.ownBlock = v.ownBlock ∨ v'.ownBlock = some w.heap.size) : ∀ k, Bel B w v k → Bel B w' v' k := fun k hk => ⟨hk.1, Nat.lt_of_lt_of_le hk.2.1 hg.size, by
  rcases hv with e | e
  · rw [e]; exact hk.2.2
  · rw [e]; intro e2; injection e2 with e2; have := hk.2.1; omega⟩
theorem bel_ch {S : Nat → Prop} (c : Ch w w' S) (hS : ∀ k, S k → k < B) : (∀ k, Bel B w v k → w'.heap[k]? = w.heap[k]?) ∧ ∀ k, Bel B w v k → Bel B w' v k :=
  ⟨fun k hk => c.same k hk.2.1 (fun h => Nat.lt_irrefl _ (Nat.lt_of_lt_of_le (hS k h) hk.1)), fun _ hk => ⟨hk.1, Nat.lt_of_lt_of_le hk.2.1 c.size, hk.2.2⟩⟩
theorem SubsA.nil : SubsA B w v [] := fun _ h => by cases h
theorem SubsM.nil : SubsM B w v [] := fun _ h => by cases h
theorem SubsA.ch {S : Nat → Prop} (h : SubsA B w v L) (c : Ch w w' S) (hS : ∀ k, S k → k < B) : SubsA B w' v L := fun x hx => (h x hx).step (bel_ch c hS).1 (bel_ch c hS).2
theorem SubsM.ch {S : Nat → Prop} (h : SubsM B w v M) (c : Ch w w' S) (hS : ∀ k, S k → k < B) : SubsM B w' v M := fun x hx => (h x hx).step (bel_ch c hS).1 (bel_ch c hS).2
theorem SubsA.below (h : SubsA B w v L) (hb : Below w.heap.size w w') : SubsA B w' v L := h.ch (Ch.of_below (S := fun _ => False) hb) (fun _ h => h.elim)
theorem SubsM.below (h : SubsM B w v M) (hb : Below w.heap.size w w') : SubsM B w' v M := h.ch (Ch.of_below (S := fun _ => False) hb) (fun _ h => h.elim)
theorem SubsA.app (h : SubsA B w v L) (hn : SubsA B w v N) (hg : w.grownBy w' v.ownBlock) (hv : v'.ownBlock = v.ownBlock ∨ v'.ownBlock = some w.heap.size) : SubsA B w' v' (L ++ N) := fun x hx => by
  have h0 : SlX w (Bel B w v) x.s := by
    rcases List.mem_append.1 hx with e | e
    · exact h x e
    · exact hn x e
  exact h0.step (bel_own hg) (bel_next hg hv)
theorem SubsM.app (h : SubsM B w v M) (hn : SubsM B w v K) (hg : w.grownBy w' v.ownBlock) (hv : v'.ownBlock = v.ownBlock ∨ v'.ownBlock = some w.heap.size) : SubsM B w' v' (M ++ K) := fun x hx => by
  have h0 : MmX w (Bel B w v) x := by
    rcases List.mem_append.1 hx with e | e
    · exact h x e
    · exact hn x e
  exact h0.step (bel_own hg) (bel_next hg hv)
theorem SubsA.one {x : AtE} (h : SlX w (Bel B w v) x.s) : SubsA B w v [x] := fun y hy => by
  rcases List.mem_cons.1 hy with e | e
  · rw [e]; exact h
  · cases e
theorem SubsM.one (h : MmX w (Bel B w v) x) : SubsM B w v [x] := fun y hy => by
  rcases List.mem_cons.1 hy with e | e
  · rw [e]; exact h
  · cases e
/-- A new row of bytes. -/
theorem SlX.fresh {y : Sl} (h : SlB w w.heap.size y) {S : Nat} (hS : B ≤ S) (hA : ∀ q, y.A = some q → S ≤ q.block) (hv : ∀ k, v.ownBlock = some k → k < S) : SlX w (Bel B w v) y := ⟨h.1, h.2.1, h.2.2.1, fun hn => by
  obtain ⟨ad, e, hx, hc⟩ := h.2.2.2 hn
  exact ⟨ad, e, ⟨Nat.le_trans hS (hA _ e), hx, fun e2 => by have := hv _ e2; have := hA _ e; omega⟩, hc⟩⟩
/-- A new row of attributes as a member's. -/
theorem MmX.fresh {S : Nat} {V : Value} (ho : OwS attC 2 w S e V L) (hs : SubsA S w V L) {n c : Nat} (hV : V = .slice A n c) (hS : B ≤ S) (hv : ∀ k, v.ownBlock = some k → k < S) {a b d : Int} : MmX w (Bel B w v) ⟨a, b, d, A, n, c, L⟩ := by
  subst hV
  have hn : L.length = n := by have := OwS.len ho; omega
  refine ⟨hn, ?_, ?_, fun hne => ?_, fun x hx => (hs x hx).step (fun _ _ => rfl) (fun k hk => ⟨Nat.le_trans hS hk.1, hk.2.1, fun e => by have := hv k e; have := hk.1; omega⟩)⟩
  · rcases ho.2 with ⟨e, h0⟩ | ⟨g, cap, cur, e, _, _, hc, hm, _⟩
    · injection e with _ e1 e2; show n ≤ c; omega
    · injection e with _ e1 e2; show n ≤ c; omega
  · rcases ho.2 with ⟨e, h0⟩ | ⟨g, cap, cur, e, _, _, hc, hm, _⟩
    · injection e with _ e1 e2; show (c : Int) ≤ _; omega
    · injection e with _ e1 e2; show (c : Int) ≤ _; unfold maxLen at hm; omega
  · obtain ⟨A', c', e, hr, _⟩ := OwS.rd ho
    injection e with e1 _ _
    subst e1
    obtain ⟨ad, e2, hx, hc⟩ := hr hne
    subst e2
    rcases ho.2 with ⟨e, h0⟩ | ⟨g, cap, cur, e, hb, _⟩
    · injection e with e _ _; cases e
    · injection e with e _ _
      injection e with e
      subst e
      exact ⟨_, rfl, ⟨Nat.le_trans hS hb, hx, fun e => by have := hv g e; omega⟩, hc⟩
end
end Go.Proofs.Ytdioijhmmmnbgaa
