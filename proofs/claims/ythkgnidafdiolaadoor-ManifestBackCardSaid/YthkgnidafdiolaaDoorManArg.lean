/- Arguments: rows of attributes. -/
import Derived.Test.YthkgnidafdiolaaDoorArgs
import Derived.Test.YthkgnidafdiolaaDoorManT
namespace Go.Proofs.YthkgnidafdiolaaDoor
open Go.ChangeShapes Go.WideShapes Go.ChangeAt Go.RowKit

section
variable {H : Type} {enc : TypeId × Value → H} {w : World} {base : Nat} {spare : Nat → Bool} {held : Bool}
def pairQ (x : Attr) (y : DataW H) : Prop := y = .agg [.lit (.string x.1), .lit (.string x.2)]
theorem pair_el (n : Nat) (cs : List Value) (y : DataW H × List MemPlace) (hl : cs.length = 2)
    (h : DataW.trod enc Tryd.prog w base spare held n 37 cs = some y) : ∃ x : Attr, cs = pairC x ∧ pairQ x y.1 := by
  obtain ⟨ys, n', hy, hyl, _, hf⟩ := open_fields Tryd.underlying37 (by kernel_rfl) (by kernel_rfl) h
  obtain ⟨v0, z0, hc0, hz0, h0⟩ := hf 0 _ rfl
  obtain ⟨v1, z1, hc1, hz1, h1⟩ := hf 1 _ rfl
  obtain ⟨s0, hs0, hw0, _⟩ := DataW.trod_string Tryd.underlying9 h0
  obtain ⟨s1, hs1, hw1, _⟩ := DataW.trod_string Tryd.underlying9 h1
  simp at hs0 hs1
  subst hs0
  subst hs1
  have hyl2 : ys.length = 2 := hyl
  match cs, hl, ys, hyl2 with
  | [c0, c1], _, [y0, y1], _ =>
    simp at hc0 hc1 hz0 hz1
    subst hc0
    subst hc1
    subst hz0
    subst hz1
    refine ⟨(s0.data.toList, s1.data.toList), rfl, ?_⟩
    unfold pairQ
    rw [hy, List.map_cons, List.map_cons, hw0, hw1]; rfl
theorem dall_of {α : Type} {Q : α → DataW H → Prop} {d : DataW H} {l : List α} {n : Nat}
    (h : (d = .nil ∧ l = []) ∨ ∃ es sp, d = .slice es sp ∧ es.length = n ∧ ∀ (i : Nat) (x : α) (y : DataW H), l[i]? = some x → es[i]? = some y → Q x y) (hn : l.length = n) : DAll Q d l := by
  rcases h with h | ⟨es, sp, h1, h2, h3⟩
  · exact .inl h
  · exact .inr ⟨es, sp, h1, by rw [h2, hn], h3⟩
theorem sized_pairs {ts : List TypeId} {ds : List (DataW H)} {l : List Attr} {d : DataW H} (h : (DataW.weightsEach Tryd.prog ts ds).all (· ≤ reachBytes) = true) {j : Nat} {t : TypeId} (ht : ts[j]? = some t) (hd : ds[j]? = some d) (hu : Tryd.prog.underlying t = some (.slice 37))
    (hl : DAll pairQ d l) : ∀ p ∈ l, p.1.length ≤ 140737488351232 ∧ p.2.length ≤ 140737488351232 := by
  intro p hp
  obtain ⟨y, hy, hw⟩ := sized_elem h ht hd hu hl hp
  unfold pairQ at hy
  subst hy
  have h1 := hw p.1.length (by simp [DataW.weights, Tryd.underlying37, DataW.weightsEach])
  have h2 := hw p.2.length (by simp [DataW.weights, Tryd.underlying37, DataW.weightsEach])
  simp only [reachBytes] at h1 h2
  exact ⟨h1, h2⟩
end
end Go.Proofs.YthkgnidafdiolaaDoor
