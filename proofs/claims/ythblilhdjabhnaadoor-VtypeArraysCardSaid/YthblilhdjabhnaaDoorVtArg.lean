/- Arguments: rows of headers, types of the check. -/
import Derived.Test.YthblilhdjabhnaaDoorArgs
import Derived.Test.YthblilhdjabhnaaDoorVtP
import Derived.Lib.SmallJoins
namespace Go.Proofs.YthblilhdjabhnaaDoor
open Go.ChangeShapes Go.WideShapes Go.ChangeAt Go.RowKit

/-- A header's four cells. -/
def hdrC (h : Hdr) : List Value := [.string ⟨h.1.toArray⟩, .string ⟨h.2.1.toArray⟩, .int .i64 h.2.2.1, .slice h.2.2.2.1 h.2.2.2.2.1 h.2.2.2.2.2]
section
variable {H : Type} {enc : TypeId × Value → H} {w : World} {base : Nat} {spare : Nat → Bool} {held : Bool} {r : Reach} {b0 : Nat}
theorem hdr_el (n : Nat) (cs : List Value) (y : DataW H × List MemPlace) (hl : cs.length = 4)
    (h : DataW.trod enc Tryd.prog w base spare held n 39 cs = some y) : ∃ x : Hdr, cs = hdrC x ∧ (x.1.length ≤ maxLen ∧ x.2.1.length ≤ maxLen) := by
  obtain ⟨ys, n', _, _, _, hf⟩ := open_fields Tryd.underlying39 (by kernel_rfl) (by kernel_rfl) h
  obtain ⟨v0, z0, hc0, _, h0⟩ := hf 0 _ rfl
  obtain ⟨v1, z1, hc1, _, h1⟩ := hf 1 _ rfl
  obtain ⟨v2, z2, hc2, _, h2⟩ := hf 2 _ rfl
  obtain ⟨s0, hs0, _, hw0⟩ := DataW.trod_string Tryd.underlying9 h0
  obtain ⟨s1, hs1, _, hw1⟩ := DataW.trod_string Tryd.underlying9 h1
  obtain ⟨a, ha, _, _⟩ := DataW.trod_int Tryd.underlying3 h2
  obtain ⟨v3, z3, hc3, _, h3⟩ := hf 3 _ rfl
  have hv3 : ∃ (A : Option Addr) (p q : Nat), v3 = .slice A p q := by
    rcases DataW.trod_slice Tryd.underlying37 h3 with ⟨h, _⟩ | ⟨A, p, q, _, _, _, _, h, _⟩
    · exact ⟨none, 0, 0, by injection h⟩
    · exact ⟨some A, p, q, by injection h⟩
  obtain ⟨A, p, q, rfl⟩ := hv3
  simp at hs0 hs1 ha
  subst hs0
  subst hs1
  subst ha
  match cs, hl with
  | [c0, c1, c2, c3], _ =>
    simp at hc0 hc1 hc2 hc3
    subst hc0
    subst hc1
    subst hc2
    subst hc3
    exact ⟨(s0.data.toList, s1.data.toList, a, A, p, q), rfl, hw0, hw1⟩
theorem dall_of {α : Type} {Q : α → DataW H → Prop} {d : DataW H} {l : List α} {n : Nat}
    (h : (d = .nil ∧ l = []) ∨ ∃ es sp, d = .slice es sp ∧ es.length = n ∧ ∀ (i : Nat) (x : α) (y : DataW H), l[i]? = some x → es[i]? = some y → Q x y) (hn : l.length = n) : DAll Q d l := by
  rcases h with h | ⟨es, sp, h1, h2, h3⟩
  · exact .inl h
  · exact .inr ⟨es, sp, h1, by rw [h2, hn], h3⟩
theorem dall_all {α : Type} {Q : α → Prop} {d : DataW H} {l : List α} (h : DAll (fun x _ => Q x) d l) : ∀ x ∈ l, Q x := by
  intro x hx
  rcases h with ⟨_, rfl⟩ | ⟨es, sp, _, h2, h3⟩
  · cases hx
  · obtain ⟨i, hi⟩ := List.getElem?_of_mem hx
    have hil := (List.getElem?_eq_some_iff.1 hi).1
    exact h3 i x _ hi (List.getElem?_eq_getElem (by omega))
/-- A type of the check, opened. -/
theorem open_vtype {ts : List TypeId} {ds : List (DataW H)} {v : Value} {d : DataW H} {ps : List MemPlace} (hv : Value.okWide Tryd.prog w r b0 23 v) (h : DataW.Trod enc Tryd.prog w base spare held 23 v d ps) {j : Nat}
    (ht : ts[j]? = some 23) (hd : ds[j]? = some d) (hsz : (DataW.weightsEach Tryd.prog ts ds).all (· ≤ reachBytes) = true) :
    ∃ (a : Int) (s : ByteArray) (b : Int), v = .agg #[.int .i64 a, .string s, .int .i64 b] ∧ s.size ≤ 140737488351232 := by
  obtain ⟨c0, c1, c2, y0, y1, y2, n, rfl, rfl, _, h0, h1, h2⟩ := Go.Joins.open_agg3 Tryd.underlying23 (by kernel_rfl) (by kernel_rfl) hv h
  obtain ⟨a, ha, _, _⟩ := DataW.trod_int Tryd.underlying3 h0
  obtain ⟨s, hs, hy, _⟩ := DataW.trod_string Tryd.underlying9 h1
  obtain ⟨b, hb, _, _⟩ := DataW.trod_int Tryd.underlying3 h2
  simp at ha hs hb
  subst ha
  subst hs
  subst hb
  refine ⟨a, s, b, rfl, ?_⟩
  have hm : s.data.toList.length ∈ DataW.weights Tryd.prog 23 (.agg [y0.1, y1.1, y2.1] : DataW H) := by
    rw [hy]
    simp [DataW.weights, Tryd.underlying23, DataW.weightsAll, DataW.weightsEach]
  have h9 : s.data.toList.length ≤ reachBytes := by simpa using List.all_eq_true.1 hsz _ (DataW.weights_mem_each ht hd _ hm)
  have : s.data.toList.length = s.size := rfl
  simp only [reachBytes] at h9
  omega
end
end Go.Proofs.YthblilhdjabhnaaDoor
