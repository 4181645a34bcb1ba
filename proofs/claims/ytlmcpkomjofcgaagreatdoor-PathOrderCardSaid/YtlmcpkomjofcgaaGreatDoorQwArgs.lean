/- Arguments of more kinds opened: rows of one-cell elements, of 16-bit numbers, of texts. What a row that lists variables wants of its witness. -/
import Derived.Test.YtlmcpkomjofcgaaGreatDoorPw4
import Derived.Test.YtlmcpkomjofcgaaGreatDoorPw1
namespace Go.Proofs.YtlmcpkomjofcgaaGreatDoor
open Go.ChangeShapes Go.WideShapes Go.ChangeAt Go.RowKit

section
variable {H : Type} {enc : TypeId × Value → H} {P : Program} {w : World} {base : Nat} {spare : Nat → Bool} {held : Bool} {r : Reach} {b0 : Nat}
/-- What the datum of a slice says of the elements. -/
def DAll {α : Type} (Q : α → DataW H → Prop) (d : DataW H) (l : List α) : Prop :=
  (d = .nil ∧ l = []) ∨ ∃ es sp, d = .slice es sp ∧ es.length = l.length ∧ ∀ (i : Nat) (x : α) (y : DataW H), l[i]? = some x → es[i]? = some y → Q x y
theorem flat_one {α : Type} (f : α → Value) (l : List α) : l.flatMap (fun x => [f x]) = l.map f := by
  induction l with
  | nil => rfl
  | cons x r ih => rw [List.flatMap_cons, ih]; rfl
theorem open_one {α : Type} [Inhabited α] {t e : TypeId} {v : Value} {d : DataW H} {ps : List MemPlace} (f : α → Value) (Q : α → DataW H → Prop) (ht : P.underlying t = some (.slice e)) (hC : P.cellsOf e = 1)
    (hel : ∀ (n : Nat) (v0 : Value) (y : DataW H × List MemPlace), DataW.trod enc P w base spare held n e [v0] = some y → ∃ x, v0 = f x ∧ Q x y.1)
    (hv : Value.okWide P w r b0 t v) (h : DataW.Trod enc P w base spare held t v d ps) :
    ∃ (A : Option Addr) (n c : Nat) (l : List α), v = .slice A n c ∧ l.length = n ∧ n ≤ c ∧ (c : Int) ≤ 9223372036854775807 ∧ RL f w w.heap.size A l ∧ DAll Q d l := by
  obtain ⟨A, n, c, l, hv, hl, hc, hm, hr, hd⟩ := open_rows 1 (fun x => [f x]) Q ht hC (by decide) (fun _ => rfl) (by
    intro n cs y hcs hy
    match cs, hcs with
    | [v0], _ =>
      obtain ⟨x, rfl, hq⟩ := hel n v0 y hy
      exact ⟨x, rfl, hq⟩) hv h
  refine ⟨A, n, c, l, hv, hl, hc, hm, by unfold RL; rw [← flat_one]; exact hr, ?_⟩
  rcases hd with h | ⟨es, sp, h1, h2, h3⟩
  · exact .inl h
  · exact .inr ⟨es, sp, h1, by rw [h2, hl], h3⟩
theorem open_words {t e : TypeId} {v : Value} {d : DataW H} {ps : List MemPlace} (ht : P.underlying t = some (.slice e)) (he : P.underlying e = some (.int .u16)) (hC : P.cellsOf e = 1)
    (hv : Value.okWide P w r b0 t v) (h : DataW.Trod enc P w base spare held t v d ps) :
    ∃ (A : Option Addr) (n c : Nat) (l : List UInt16), v = .slice A n c ∧ l.length = n ∧ n ≤ c ∧ (c : Int) ≤ 9223372036854775807 ∧ RL (fun x : UInt16 => Value.int .u16 (x.toNat : Int)) w w.heap.size A l ∧ DAll (fun _ _ => True) d l :=
  open_one _ _ ht hC (fun n v0 y hy => by
    obtain ⟨a, ha, _, wa⟩ := DataW.trod_int he hy
    have hb := bounds_u16 wa
    injection ha with ha
    refine ⟨UInt16.ofNat a.toNat, ?_, trivial⟩
    rw [ha]
    congr 1
    rw [UInt16.toNat_ofNat']
    omega) hv h
theorem open_texts {t e : TypeId} {v : Value} {d : DataW H} {ps : List MemPlace} (ht : P.underlying t = some (.slice e)) (he : P.underlying e = some .string) (hC : P.cellsOf e = 1)
    (hv : Value.okWide P w r b0 t v) (h : DataW.Trod enc P w base spare held t v d ps) :
    ∃ (A : Option Addr) (n c : Nat) (l : List (List UInt8)), v = .slice A n c ∧ l.length = n ∧ n ≤ c ∧ (c : Int) ≤ 9223372036854775807 ∧ RL (fun x : List UInt8 => Value.string ⟨x.toArray⟩) w w.heap.size A l ∧ DAll (fun x y => y = .lit (.string x)) d l :=
  open_one _ _ ht hC (fun n v0 y hy => by
    obtain ⟨s, hs, hy, _⟩ := DataW.trod_string he hy
    injection hs with hs
    exact ⟨s.data.toList, hs, by rw [hy]⟩) hv h
end
section
variable {H : Type} {P : Program} {ts : List TypeId} {ds : List (DataW H)}
theorem mem_weightsAll {e : TypeId} : ∀ {l : List (DataW H)} {d : DataW H}, d ∈ l → ∀ n ∈ d.weights P e, n ∈ DataW.weightsAll P e l
  | x :: r, d, hd, n, hn => by
    simp only [DataW.weightsAll, List.mem_append]
    rcases List.mem_cons.1 hd with h | h
    · subst h; exact .inl hn
    · exact .inr (mem_weightsAll h n hn)
/-- The length of a slice, whatever its elements. -/
theorem sized_row {α : Type} {Q : α → DataW H → Prop} {l : List α} {d : DataW H} (h : (DataW.weightsEach P ts ds).all (· ≤ reachBytes) = true) {j : Nat} {t e : TypeId} (ht : ts[j]? = some t) (hd : ds[j]? = some d) (hu : P.underlying t = some (.slice e))
    (hb : 1 ≤ P.bytesOf e) (hl : DAll Q d l) : l.length ≤ 140737488351232 := by
  rcases hl with ⟨_, rfl⟩ | ⟨es, sp, rfl, hn, _⟩
  · simp
  · have h1 := sized_slice h ht hd hu
    have h2 : (es.length + sp.length) * 1 ≤ (es.length + sp.length) * P.bytesOf e := Nat.mul_le_mul (Nat.le_refl _) hb
    simp only [reachBytes] at h1
    omega
/-- What an element weighs. -/
theorem sized_elem {α : Type} {Q : α → DataW H → Prop} {l : List α} {d : DataW H} (h : (DataW.weightsEach P ts ds).all (· ≤ reachBytes) = true) {j : Nat} {t e : TypeId} (ht : ts[j]? = some t) (hd : ds[j]? = some d) (hu : P.underlying t = some (.slice e))
    (hl : DAll Q d l) {x : α} (hx : x ∈ l) : ∃ y, Q x y ∧ ∀ n ∈ DataW.weights P e y, n ≤ reachBytes := by
  rcases hl with ⟨_, rfl⟩ | ⟨es, sp, rfl, hn, hq⟩
  · cases hx
  · obtain ⟨i, hi⟩ := List.getElem?_of_mem hx
    have hil := (List.getElem?_eq_some_iff.1 hi).1
    have hei : es[i]? = some es[i] := List.getElem?_eq_getElem (by omega)
    refine ⟨es[i], hq i x _ hi hei, fun n hn => ?_⟩
    have hm : n ∈ DataW.weights P t (.slice es sp : DataW H) := by
      simp only [DataW.weights, hu, List.mem_cons, List.mem_append]
      exact .inr (.inl (mem_weightsAll (List.mem_of_getElem? hei) _ hn))
    simpa using List.all_eq_true.1 h _ (DataW.weights_mem_each ht hd _ hm)
theorem sized_texts {l : List (List UInt8)} {d : DataW H} (h : (DataW.weightsEach P ts ds).all (· ≤ reachBytes) = true) {j : Nat} {t e : TypeId} (ht : ts[j]? = some t) (hd : ds[j]? = some d) (hu : P.underlying t = some (.slice e))
    (hl : DAll (fun x y => y = .lit (.string x)) d l) : ∀ p ∈ l, p.length ≤ 140737488351232 := by
  intro p hp
  rcases hl with ⟨_, rfl⟩ | ⟨es, sp, rfl, hn, hq⟩
  · cases hp
  · obtain ⟨i, hi⟩ := List.getElem?_of_mem hp
    have hil := (List.getElem?_eq_some_iff.1 hi).1
    have hei : es[i]? = some es[i] := List.getElem?_eq_getElem (by omega)
    have hy := hq i p _ hi hei
    have hm : p.length ∈ DataW.weights P t (.slice es sp : DataW H) := by
      simp only [DataW.weights, hu, List.mem_cons, List.mem_append]
      refine .inr (.inl (mem_weightsAll (List.mem_of_getElem? hei) _ ?_))
      rw [hy]; simp [DataW.weights]
    have h9 : p.length ≤ reachBytes := by simpa using List.all_eq_true.1 h _ (DataW.weights_mem_each ht hd _ hm)
    simp only [reachBytes] at h9
    omega
end
/-- The cells that a datum of numbers lays, at most two aggregates deep. -/
def flat2 (d : DataW Unit) : List Value := match d with
  | .agg ps => ps.flatMap fun p => match p with
    | .lit (.int k n) => [.int k n]
    | .agg qs => qs.flatMap fun q => match q with
      | .lit (.int k n) => [.int k n]
      | _ => []
    | _ => []
  | .lit (.int k n) => [.int k n]
  | _ => []
/-- Block g holds the cells cs instead. -/
def layAt (h : Array Obj) (g : Nat) (cs : List Value) : Array Obj := h.modify g fun o => match o with
  | .cells _ t fr => .cells cs.toArray t fr
  | o => o
end Go.Proofs.YtlmcpkomjofcgaaGreatDoor
