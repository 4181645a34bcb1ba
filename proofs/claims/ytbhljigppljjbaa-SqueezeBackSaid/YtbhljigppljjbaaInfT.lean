/- What has been unpacked, in memory; what a step answers. -/
import Derived.Test.YtbhljigppljjbaaInfA
import Derived.Test.YtbhljigppljjbaaInfB
import Derived.Test.YtbhljigppljjbaaPfxB
import Derived.Test.YtbhljigppljjbaaInfQ
import Derived.Deep.RegionLaw
namespace Go.Proofs.Ytbhljigppljjbaa
open Go.RowKit

/-- The state in block gs, its reader in block gr, what is unpacked in a block below B. -/
def ISt (w : World) (gs gr B : Nat) (b : List UInt8) (p lim : Nat) (out : List UInt8) : Prop :=
  ∃ v, Bk w gs 44 #[.pointer (some ⟨gr, 0, none⟩), v, .int .i64 (lim : Int)] ∧ BRd w gr b p ∧ OwB w (gs + 1) 5 v out ∧ (∀ k, v.ownBlock = some k → k < B) ∧ gr < gs ∧ out.length ≤ lim ∧ lim ≤ 32768
theorem OwL.keptAt {α : Type} {f : α → Value} {w w' : World} {base : Nat} {e : TypeId} {v : Value} {l : List α} (h : OwL f w base e v l) {g : Nat} (hg : w.grownBy w' (some g)) (hb : g < base) : OwL f w' base e v l :=
  h.kept hg (by
    rcases hv : v.ownBlock with _ | k
    · exact .inl rfl
    · refine .inr fun e => ?_
      injection e with e
      have := World.ownsRow.lt h k hv
      omega)
/-- The reader has gone on, and there is new memory. -/
theorem ISt.next {w w' : World} {gs gr B p q lim : Nat} {b out : List UInt8} (h : ISt w gs gr B b p lim out) (hg : w.grownBy w' (some gr)) (hR : BRd w' gr b q) : ISt w' gs gr B b q lim out := by
  obtain ⟨v, h1, h2, h3, h4, h5, h6⟩ := h
  exact ⟨v, h1.grown hg (fun e => by injection e; omega), hR, h3.keptAt hg (by omega), h4, h5, h6⟩
theorem ISt.step {w w' : World} {gs gr B p lim : Nat} {b out : List UInt8} (h : ISt w gs gr B b p lim out) (hb : Below w.heap.size w w') : ISt w' gs gr B b p lim out := by
  obtain ⟨v, h1, h2, h3, h4, h5, h6⟩ := h
  exact ⟨v, h1.below hb h1.lt, h2.step hb, h3.below hb, h4, h5, h6⟩
theorem ISt.drewN {w : World} {gs gr B p lim : Nat} {b out : List UInt8} (h : ISt w gs gr B b p lim out) (n : Nat) : ISt (w.drewN n) gs gr B b p lim out := h
theorem ISt.more {w : World} {gs gr B B' p lim : Nat} {b out : List UInt8} (h : ISt w gs gr B b p lim out) (hB : B ≤ B') : ISt w gs gr B' b p lim out := by
  obtain ⟨v, h1, h2, h3, h4, h5⟩ := h
  exact ⟨v, h1, h2, h3, fun k hk => Nat.lt_of_lt_of_le (h4 k hk) hB, h5⟩
theorem ISt.lt {w : World} {gs gr B p lim : Nat} {b out : List UInt8} (h : ISt w gs gr B b p lim out) : gr < gs ∧ gs < w.heap.size := by
  obtain ⟨v, h1, _, _, _, h5, _⟩ := h
  exact ⟨h5, h1.lt⟩
theorem gb_under {w w' : World} {g : Nat} (h : w.grownBy w' (some g)) (hg : g < w.heap.size) : Below g w w' := gb_low h (Nat.le_refl _) hg
/-- What a block's unpacking answers. -/
def IPost (R : Rz (List UInt8 × Nat)) (w : World) (gs gr : Nat) (b : List UInt8) (lim : Nat) (e : Ending) (w' : World) : Prop :=
  Below gr w w' ∧ match R with
    | .ok x => e = .returned (.int .i64 0) ∧ ISt w' gs gr w'.heap.size b x.2 lim x.1
    | .err k => e = .returned (.int .i64 k) ∧ k ≠ 0
theorem iPost_ok {R : Rz (List UInt8 × Nat)} {w w' : World} {gs gr : Nat} {b out : List UInt8} {lim p : Nat} (h : R = .ok (out, p)) (hb : Below gr w w') (hS : ISt w' gs gr w'.heap.size b p lim out) : IPost R w gs gr b lim (.returned (.int .i64 0)) w' := by
  subst h; exact ⟨hb, rfl, hS⟩
theorem iPost_err {R : Rz (List UInt8 × Nat)} {w w' : World} {gs gr : Nat} {b : List UInt8} {lim : Nat} {k : Int} (h : R = .err k) (hb : Below gr w w') (hk : k ≠ 0 := by decide) : IPost R w gs gr b lim (.returned (.int .i64 k)) w' := by
  subst h; exact ⟨hb, rfl, hk⟩
theorem nextF_errs {l : List Nat} {b : List UInt8} : ∀ {f n c p k}, nextF l b f n c p = .err k → k = 2 ∨ k = 6 := by
  intro f
  induction f with
  | zero => intro n c p k h; rw [nextF] at h; injection h with h; exact .inr h.symm
  | succ f ih =>
    intro n c p k h
    rw [nextF] at h
    split at h
    · split at h
      · cases h
      · exact ih h
    · injection h with h; exact .inl h.symm
theorem nextP_errs {l : List Nat} {b : List UInt8} {p : Nat} {k : Int} (h : nextP l b p = .err k) : k = 2 ∨ k = 6 := nextF_errs h
end Go.Proofs.Ytbhljigppljjbaa
