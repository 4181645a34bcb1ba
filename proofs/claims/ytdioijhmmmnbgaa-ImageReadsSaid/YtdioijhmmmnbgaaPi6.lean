/- Arguments opened to what the walks are told of them; what the bound on the bulk gives. Arguments of more kinds opened: rows of one-cell elements, of 16-bit numbers, of texts. What a row that lists variables wants of its witness. Contract: samovarref02.Same (for the seats behind the first). Contract: samovarref02.Same, in a region that draws: it reads alone. Arguments that are rows of rows of bytes, opened. A slice within another datum, opened. Nothing here speaks of the program. -/
import Derived.Test.YtdioijhmmmnbgaaRows
import Derived.Test.YtdioijhmmmnbgaaBase
import Derived.ProofKit
import Derived.OpenShut
import Derived.ShutString
import Derived.ChangeOld
import Derived.Below
import Derived.SizedLaws
import Derived.Deep.CondSized
import Derived.JoinedCond
import Derived.Deep.Slices
import Derived.Deep.Fields
import Derived.Test.YtdioijhmmmnbgaaPi2
namespace Go.Proofs.Ytdioijhmmmnbgaa
open Go.ChangeShapes Go.WideShapes Go.ChangeAt Go.RowKit
open Go.ChangeMaps (open_string shut_string)
open Go.Deep (open_slice choose_lt hone_of oneCellFields)

theorem own : ownKnob Try.prog.godebug = none := by kernel_rfl
theorem laidOut : laidOutB Try.prog = true := by kernel_rfl

section
variable {H : Type} {enc : TypeId × Value → H} {P : Program} {w : World} {base : Nat} {spare : Nat → Bool} {held : Bool} {r : Reach} {b0 : Nat}
/-- What the datum of a slice says of its length. -/
def DLen (d : DataW H) (n : Nat) : Prop := (d = .nil ∧ n = 0) ∨ ∃ es sp, d = .slice es sp ∧ es.length = n

theorem open_bytes {t e : TypeId} {v : Value} {d : DataW H} {ps : List MemPlace} (ht : P.underlying t = some (.slice e)) (he : P.underlying e = some (.int .u8)) (hc : P.cellsOf e = 1)
    (hv : Value.okWide P w r b0 t v) (h : DataW.Trod enc P w base spare held t v d ps) :
    ∃ (A : Option Addr) (n c : Nat) (l : List UInt8), v = .slice A n c ∧ l.length = n ∧ n ≤ c ∧ (c : Int) ≤ 9223372036854775807 ∧ RB w w.heap.size A l ∧ DLen d n := by
  obtain ⟨A, n, c, rfl⟩ := okWide_slice ht hv
  obtain ⟨fuel, hf⟩ := h
  rcases open_ints ht he hc hf with ⟨hcs, hx⟩ | ⟨x, l, c', zs, hcs, _, hl, hm, hz, hx, hcell, hwz⟩
  · simp [Value.cells] at hcs
    obtain ⟨rfl, rfl, rfl⟩ := hcs
    simp only [Prod.mk.injEq] at hx
    exact ⟨none, 0, 0, [], rfl, rfl, Nat.le_refl _, by omega, Rd.nil, .inl ⟨hx.1, rfl⟩⟩
  · simp [Value.cells] at hcs
    obtain ⟨rfl, rfl, rfl⟩ := hcs
    simp only [Prod.mk.injEq] at hx
    have hzl : n ≤ zs.length := by rw [hz]; split <;> omega
    have hlen : (zs.take n).length = n := by simp; omega
    refine ⟨some x, n, c, (zs.take n).map fun q => UInt8.ofNat q.toNat, rfl, by simp; omega, hl, by unfold maxLen at hm; omega, fun hne => ?_, .inr ⟨_, _, hx.1, by simp [lits]; omega⟩⟩
    have key : ∀ i u, (((zs.take n).map fun q => UInt8.ofNat q.toNat).map bV)[i]? = some u → w.cell? (x.add i) = some u := by
      intro i u hu
      have hi : i < n := by
        have := (List.getElem?_eq_some_iff.1 hu).1
        simp at this; omega
      have hiz : i < zs.length := by omega
      rw [hcell i hiz]
      have hw := hwz zs[i] (List.getElem_mem hiz)
      have hb := bounds_u8 hw
      rw [← hu]
      simp only [List.getElem?_map, List.getElem?_take_of_lt hi, List.getElem?_eq_getElem hiz, Option.map_some, List.getD, Option.getD_some, bV, UInt8.toNat_ofNat']
      congr 2
      omega
    refine ⟨x, rfl, ?_, key⟩
    obtain ⟨u, us, hq⟩ := List.exists_cons_of_ne_nil hne
    have := World.block_lt_of_cell? _ _ (key 0 u (by rw [hq]; rfl))
    rwa [blk_add] at this

/-- A slice of whatever elements: F lays an element's cells, Q says what its datum says of it. -/
theorem open_rows {α : Type} [Inhabited α] {t e : TypeId} {v : Value} {d : DataW H} {ps : List MemPlace} (size : Nat) (F : α → List Value) (Q : α → DataW H → Prop) (ht : P.underlying t = some (.slice e)) (hC : P.cellsOf e = size) (hpos : 0 < size)
    (hF : ∀ x, (F x).length = size)
    (hel : ∀ (n : Nat) (cs : List Value) (y : DataW H × List MemPlace), cs.length = size → DataW.trod enc P w base spare held n e cs = some y → ∃ x, cs = F x ∧ Q x y.1)
    (hv : Value.okWide P w r b0 t v) (h : DataW.Trod enc P w base spare held t v d ps) :
    ∃ (A : Option Addr) (n c : Nat) (l : List α), v = .slice A n c ∧ l.length = n ∧ n ≤ c ∧ (c : Int) ≤ 9223372036854775807 ∧ Rd w w.heap.size A (l.flatMap F) ∧
      ((d = .nil ∧ l = []) ∨ ∃ es sp, d = .slice es sp ∧ es.length = n ∧ ∀ (i : Nat) (x : α) (y : DataW H), l[i]? = some x → es[i]? = some y → Q x y) := by
  obtain ⟨A, n, c, rfl⟩ := okWide_slice ht hv
  obtain ⟨fuel, hf⟩ := h
  rcases open_slice ht hf with ⟨hcs, hx⟩ | ⟨a, len, cap, m, n', D, Pl, hcs, _, hl, hm, hmm, hx, hi⟩
  · simp [Value.cells] at hcs
    obtain ⟨rfl, rfl, rfl⟩ := hcs
    simp only [Prod.mk.injEq] at hx
    exact ⟨none, 0, 0, [], rfl, rfl, Nat.le_refl _, by omega, Rd.nil, .inl ⟨hx.1, rfl⟩⟩
  · simp [Value.cells] at hcs
    obtain ⟨rfl, rfl, rfl⟩ := hcs
    simp only [Prod.mk.injEq] at hx
    rw [hC] at hi
    have hlm : n ≤ m := by rw [hmm]; split <;> omega
    obtain ⟨X, hX⟩ := choose_lt (n := n) (α := α) (p := fun i x => (∃ cs', w.cells? base (a.add (i * size)) size = some cs' ∧ cs' = F x) ∧ Q x (D i)) (fun i hin => by
      obtain ⟨cs', h1, h2⟩ := hi i (by omega)
      obtain ⟨_, hlen, _⟩ := World.cells?_some h1
      obtain ⟨x, hx1, hx2⟩ := hel _ _ _ hlen h2
      exact ⟨x, ⟨cs', h1, hx1⟩, hx2⟩)
    have hcell : ∀ i j, i < n → j < size → w.cell? (a.add (i * size + j)) = (F (X i))[j]? := by
      intro i j hin hj
      obtain ⟨⟨cs', h1, h2⟩, _⟩ := hX i hin
      obtain ⟨_, hlen, hat⟩ := World.cells?_some h1
      have := hat j hj
      rw [← Go.Deep.add_add, this, h2]
    have hget : ∀ (k : Nat) (l : List α) (i j : Nat), l.length = k → i < k → j < size → (l.flatMap F)[i * size + j]? = (l[i]?).bind fun x => (F x)[j]? := by
      intro k
      induction k with
      | zero => intro l i j _ h; omega
      | succ k ih =>
        intro l i j hlk hik hj
        match l, hlk with
        | x :: r, hlk =>
          cases i with
          | zero =>
            simp only [List.flatMap_cons, Nat.zero_mul, Nat.zero_add, List.getElem?_cons_zero, Option.bind_some]
            rw [List.getElem?_append_left (by rw [hF]; exact hj)]
          | succ i =>
            simp only [List.flatMap_cons, List.getElem?_cons_succ]
            rw [List.getElem?_append_right (by rw [hF, Nat.add_mul]; omega), hF, show (i + 1) * size + j - size = i * size + j by rw [Nat.add_mul]; omega]
            exact ih r i j (by simpa using hlk) (by omega) hj
    have hll : ((List.range n).map X).length = n := by simp
    have hflen : ∀ l : List α, (l.flatMap F).length = l.length * size := by
      intro l
      induction l with
      | nil => simp
      | cons x r ih => simp only [List.flatMap_cons, List.length_append, ih, hF, List.length_cons, Nat.add_mul]; omega
    have key : ∀ q u, (((List.range n).map X).flatMap F)[q]? = some u → w.cell? (a.add q) = some u := by
      intro q u hu
      have hq : q < n * size := by
        have := (List.getElem?_eq_some_iff.1 hu).1
        rw [hflen, hll] at this; exact this
      have hq1 : q / size < n := Nat.div_lt_of_lt_mul (by rw [Nat.mul_comm]; exact hq)
      have hq2 : q % size < size := Nat.mod_lt _ hpos
      have hqe : q / size * size + q % size = q := by rw [Nat.mul_comm]; exact Nat.div_add_mod q size
      have h1 := hget n _ (q / size) (q % size) hll hq1 hq2
      rw [hqe, hu] at h1
      have h2 := hcell (q / size) (q % size) hq1 hq2
      rw [hqe] at h2
      rw [h2, h1]
      simp [hq1]
    refine ⟨some a, n, c, (List.range n).map X, rfl, hll, hl, by unfold maxLen at hm; omega, fun hne => ⟨a, rfl, ?_, key⟩, .inr ⟨_, _, hx.1, by simp, ?_⟩⟩
    · obtain ⟨u, us, hq⟩ := List.exists_cons_of_ne_nil hne
      have := World.block_lt_of_cell? _ _ (key 0 u (by rw [hq]; rfl))
      rwa [blk_add] at this
    · intro i x y hx1 hy1
      simp only [List.getElem?_map] at hx1 hy1
      obtain ⟨i1, hi1, rfl⟩ := Option.map_eq_some_iff.1 hx1
      obtain ⟨i2, hi2, rfl⟩ := Option.map_eq_some_iff.1 hy1
      have e1 := List.getElem?_eq_some_iff.1 hi1
      have e2 := List.getElem?_eq_some_iff.1 hi2
      obtain ⟨h1, rfl⟩ := e1
      obtain ⟨h2, rfl⟩ := e2
      simp only [List.getElem_range]
      exact (hX i (by simpa using h1)).2
/-- The fields of a struct of one-cell fields. -/
theorem open_fields {e : TypeId} {fs : Array Field} {n : Nat} {cs : List Value} {y : DataW H × List MemPlace} (he : P.underlying e = some (.struct fs)) (hone : oneCellFields P fs = true) (hC : P.cellsOf e = fs.size)
    (h : DataW.trod enc P w base spare held n e cs = some y) :
    ∃ (ys : List (DataW H × List MemPlace)) (n' : Nat), y.1 = .agg (ys.map (·.1)) ∧ ys.length = fs.size ∧ cs.length = fs.size ∧
      ∀ (j : Nat) (f : Field), fs[j]? = some f → ∃ (v : Value) (z : DataW H × List MemPlace), cs[j]? = some v ∧ ys[j]? = some z ∧ DataW.trod enc P w base spare held n' f.type [v] = some z := by
  obtain ⟨ys, n', _, hy, hlen, hyl, hf⟩ := DataW.trod_struct he h
  refine ⟨ys, n', by rw [hy], hyl, hlen.trans hC, fun j f hj => ?_⟩
  obtain ⟨ho, hk⟩ := hone_of hone j f hj
  have hjl : j < fs.size := (Array.getElem?_eq_some_iff.1 hj).1
  have hcl : j < cs.length := by rw [hlen, hC]; exact hjl
  have h1 := hf j f hj
  rw [ho, hk, List.drop_eq_getElem_cons hcl] at h1
  have hys : ys[j]? = some (ys[j]'(by omega)) := List.getElem?_eq_getElem (by omega)
  exact ⟨cs[j], _, List.getElem?_eq_getElem hcl, hys, h1.trans hys⟩
end

section
variable {H : Type}
theorem bulk_one (d : DataW H) : 1 ≤ Rows.uptoBulk d := by
  cases d with
  | lit l => cases l <;> simp [Rows.uptoBulk]
  | nil => simp [Rows.uptoBulk]
  | ptr d => simp [Rows.uptoBulk]
  | slice elems spare => simp [Rows.uptoBulk]
  | agg parts => simp [Rows.uptoBulk]
  | iface t d => simp [Rows.uptoBulk]
  | map entries => simp [Rows.uptoBulk]
  | held h => simp [Rows.uptoBulk]
theorem bulk_len (l : List (DataW H)) : l.length ≤ Rows.uptoBulkAll l := by
  induction l with
  | nil => simp [Rows.uptoBulkAll]
  | cons x r ih => have := bulk_one x; simp only [Rows.uptoBulkAll, List.length_cons]; omega
theorem bulk_slice {d : DataW H} {n : Nat} (h : DLen d n) : n ≤ Rows.uptoBulk d := by
  rcases h with ⟨rfl, rfl⟩ | ⟨es, sp, rfl, rfl⟩
  · omega
  · have := bulk_len es; simp only [Rows.uptoBulk]; omega
end
end Go.Proofs.Ytdioijhmmmnbgaa
namespace Go.Proofs.Ytdioijhmmmnbgaa
open Go.ChangeShapes Go.WideShapes Go.ChangeAt Go.RowKit

section
variable {H : Type} {enc : TypeId × Value → H} {P : Program} {w : World} {base : Nat} {spare : Nat → Bool} {held : Bool} {r : Reach} {b0 : Nat}
/-- What the datum of a slice says of the elements. -/
def DAll {α : Type} (Q : α → DataW H → Prop) (d : DataW H) (l : List α) : Prop :=
  (d = .nil ∧ l = []) ∨ ∃ es sp, d = .slice es sp ∧ es.length = l.length ∧ ∀ (i : Nat) (x : α) (y : DataW H), l[i]? = some x → es[i]? = some y → Q x y
theorem flat_one {α : Type} (f : α → Value) (l : List α) : l.flatMap (fun x => [f x]) = l.map f := by
  induction l with
  | nil => rfl
  | cons x r ih => rw [List.flatMap_cons, ih]; rfl
theorem open_one {α : Type} [Inhabited α] {t e : TypeId} {v : Value} {d : DataW H} {ps : List MemPlace} (f : α → Value) (Q : α → DataW H → Prop) (ht : P.underlying t = some (.slice e)) (hC : P.cellsOf e = 1)
    (hel : ∀ (n : Nat) (v0 : Value) (y : DataW H × List MemPlace), DataW.trod enc P w base spare held n e [v0] = some y → ∃ x, v0 = f x ∧ Q x y.1)
    (hv : Value.okWide P w r b0 t v) (h : DataW.Trod enc P w base spare held t v d ps) :
    ∃ (A : Option Addr) (n c : Nat) (l : List α), v = .slice A n c ∧ l.length = n ∧ n ≤ c ∧ (c : Int) ≤ 9223372036854775807 ∧ RL f w w.heap.size A l ∧ DAll Q d l := by
  obtain ⟨A, n, c, l, hv, hl, hc, hm, hr, hd⟩ := open_rows 1 (fun x => [f x]) Q ht hC (by decide) (fun _ => rfl) (by
    intro n cs y hcs hy
    match cs, hcs with
    | [v0], _ =>
      obtain ⟨x, rfl, hq⟩ := hel n v0 y hy
      exact ⟨x, rfl, hq⟩) hv h
  refine ⟨A, n, c, l, hv, hl, hc, hm, by unfold RL; rw [← flat_one]; exact hr, ?_⟩
  rcases hd with h | ⟨es, sp, h1, h2, h3⟩
  · exact .inl h
  · exact .inr ⟨es, sp, h1, by rw [h2, hl], h3⟩
theorem open_words {t e : TypeId} {v : Value} {d : DataW H} {ps : List MemPlace} (ht : P.underlying t = some (.slice e)) (he : P.underlying e = some (.int .u16)) (hC : P.cellsOf e = 1)
    (hv : Value.okWide P w r b0 t v) (h : DataW.Trod enc P w base spare held t v d ps) :
    ∃ (A : Option Addr) (n c : Nat) (l : List UInt16), v = .slice A n c ∧ l.length = n ∧ n ≤ c ∧ (c : Int) ≤ 9223372036854775807 ∧ RL (fun x : UInt16 => Value.int .u16 (x.toNat : Int)) w w.heap.size A l ∧ DAll (fun _ _ => True) d l :=
  open_one _ _ ht hC (fun n v0 y hy => by
    obtain ⟨a, ha, _, wa⟩ := DataW.trod_int he hy
    have hb := bounds_u16 wa
    injection ha with ha
    refine ⟨UInt16.ofNat a.toNat, ?_, trivial⟩
    rw [ha]
    congr 1
    rw [UInt16.toNat_ofNat']
    omega) hv h
theorem open_texts {t e : TypeId} {v : Value} {d : DataW H} {ps : List MemPlace} (ht : P.underlying t = some (.slice e)) (he : P.underlying e = some .string) (hC : P.cellsOf e = 1)
    (hv : Value.okWide P w r b0 t v) (h : DataW.Trod enc P w base spare held t v d ps) :
    ∃ (A : Option Addr) (n c : Nat) (l : List (List UInt8)), v = .slice A n c ∧ l.length = n ∧ n ≤ c ∧ (c : Int) ≤ 9223372036854775807 ∧ RL (fun x : List UInt8 => Value.string ⟨x.toArray⟩) w w.heap.size A l ∧ DAll (fun x y => y = .lit (.string x)) d l :=
  open_one _ _ ht hC (fun n v0 y hy => by
    obtain ⟨s, hs, hy, _⟩ := DataW.trod_string he hy
    injection hs with hs
    exact ⟨s.data.toList, hs, by rw [hy]⟩) hv h
end
section
variable {H : Type} {P : Program} {ts : List TypeId} {ds : List (DataW H)}
theorem mem_weightsAll {e : TypeId} : ∀ {l : List (DataW H)} {d : DataW H}, d ∈ l → ∀ n ∈ d.weights P e, n ∈ DataW.weightsAll P e l
  | x :: r, d, hd, n, hn => by
    simp only [DataW.weightsAll, List.mem_append]
    rcases List.mem_cons.1 hd with h | h
    · subst h; exact .inl hn
    · exact .inr (mem_weightsAll h n hn)
/-- The length of a slice, whatever its elements. -/
theorem sized_row {α : Type} {Q : α → DataW H → Prop} {l : List α} {d : DataW H} (h : (DataW.weightsEach P ts ds).all (· ≤ reachBytes) = true) {j : Nat} {t e : TypeId} (ht : ts[j]? = some t) (hd : ds[j]? = some d) (hu : P.underlying t = some (.slice e))
    (hb : 1 ≤ P.bytesOf e) (hl : DAll Q d l) : l.length ≤ 140737488351232 := by
  rcases hl with ⟨_, rfl⟩ | ⟨es, sp, rfl, hn, _⟩
  · simp
  · have h1 := sized_slice h ht hd hu
    have h2 : (es.length + sp.length) * 1 ≤ (es.length + sp.length) * P.bytesOf e := Nat.mul_le_mul (Nat.le_refl _) hb
    simp only [reachBytes] at h1
    omega
/-- What an element weighs. -/
theorem sized_elem {α : Type} {Q : α → DataW H → Prop} {l : List α} {d : DataW H} (h : (DataW.weightsEach P ts ds).all (· ≤ reachBytes) = true) {j : Nat} {t e : TypeId} (ht : ts[j]? = some t) (hd : ds[j]? = some d) (hu : P.underlying t = some (.slice e))
    (hl : DAll Q d l) {x : α} (hx : x ∈ l) : ∃ y, Q x y ∧ ∀ n ∈ DataW.weights P e y, n ≤ reachBytes := by
  rcases hl with ⟨_, rfl⟩ | ⟨es, sp, rfl, hn, hq⟩
  · cases hx
  · obtain ⟨i, hi⟩ := List.getElem?_of_mem hx
    have hil := (List.getElem?_eq_some_iff.1 hi).1
    have hei : es[i]? = some es[i] := List.getElem?_eq_getElem (by omega)
    refine ⟨es[i], hq i x _ hi hei, fun n hn => ?_⟩
    have hm : n ∈ DataW.weights P t (.slice es sp : DataW H) := by
      simp only [DataW.weights, hu, List.mem_cons, List.mem_append]
      exact .inr (.inl (mem_weightsAll (List.mem_of_getElem? hei) _ hn))
    simpa using List.all_eq_true.1 h _ (DataW.weights_mem_each ht hd _ hm)
theorem sized_texts {l : List (List UInt8)} {d : DataW H} (h : (DataW.weightsEach P ts ds).all (· ≤ reachBytes) = true) {j : Nat} {t e : TypeId} (ht : ts[j]? = some t) (hd : ds[j]? = some d) (hu : P.underlying t = some (.slice e))
    (hl : DAll (fun x y => y = .lit (.string x)) d l) : ∀ p ∈ l, p.length ≤ 140737488351232 := by
  intro p hp
  rcases hl with ⟨_, rfl⟩ | ⟨es, sp, rfl, hn, hq⟩
  · cases hp
  · obtain ⟨i, hi⟩ := List.getElem?_of_mem hp
    have hil := (List.getElem?_eq_some_iff.1 hi).1
    have hei : es[i]? = some es[i] := List.getElem?_eq_getElem (by omega)
    have hy := hq i p _ hi hei
    have hm : p.length ∈ DataW.weights P t (.slice es sp : DataW H) := by
      simp only [DataW.weights, hu, List.mem_cons, List.mem_append]
      refine .inr (.inl (mem_weightsAll (List.mem_of_getElem? hei) _ ?_))
      rw [hy]; simp [DataW.weights]
    have h9 : p.length ≤ reachBytes := by simpa using List.all_eq_true.1 h _ (DataW.weights_mem_each ht hd _ hm)
    simp only [reachBytes] at h9
    omega
end
/-- The cells that a datum of numbers lays, at most two aggregates deep. -/
def flat2 (d : DataW Unit) : List Value := match d with
  | .agg ps => ps.flatMap fun p => match p with
    | .lit (.int k n) => [.int k n]
    | .agg qs => qs.flatMap fun q => match q with
      | .lit (.int k n) => [.int k n]
      | _ => []
    | _ => []
  | .lit (.int k n) => [.int k n]
  | _ => []
/-- Block g holds the cells cs instead. -/
def layAt (h : Array Obj) (g : Nat) (cs : List Value) : Array Obj := h.modify g fun o => match o with
  | .cells _ t fr => .cells cs.toArray t fr
  | o => o
end Go.Proofs.Ytdioijhmmmnbgaa
namespace Go.Proofs.Ytdioijhmmmnbgaa
open Go.RowKit

theorem take_snocS {α : Type} {l : List α} {k : Nat} {x : α} (h : l[k]? = some x) : l.take (k + 1) = l.take k ++ [x] := by
  rw [List.take_add_one, h]; rfl
set_option maxHeartbeats 400000 in
theorem same_any (A C : Option Addr) (n c m d : Nat) (w : World) (l r : List UInt8) (hn : l.length = n) (hm : r.length = m) (hl : (n : Int) ≤ 140737488355328) (hr : (m : Int) ≤ 140737488355328)
    (ha : RB w w.heap.size A l) (hc : RB w w.heap.size C r) :
    Calls Try.prog 13 #[.slice A n c, .slice C m d] w fun e w' => e = .returned (.bool (decide (l = r))) ∧ Below w.heap.size w w' := by
  subst hn
  subst hm
  by_cases he : l.length = r.length
  · go_enter Try.func13, Try.ntmps13
    have he1 : ((l.length : Int) != (r.length : Int)) = false := by simp [he]
    have HE := Lib.hid he
    clear he
    go_wp2
    go_loopw [5] (fun i wr => ∃ k m : Nat, k ≤ l.length ∧ i = .int .i64 (k : Int) ∧ l.take k = r.take k ∧ wr = w.drewN m) (fun i _ => l.length - (intOf i).toNat)
    case atStart => exact ⟨0, 0, by omega, rfl, rfl, rfl⟩
    case round =>
      obtain ⟨k, m, hk, rfl, heq, rfl⟩ := hrel
      have HQ := Lib.hid heq
      clear heq
      by_cases hk0 : k < l.length
      · have hk1 : k < r.length := by have := HE.out; omega
        obtain ⟨ad, x, rfl, _, hx, hcx⟩ := ha.byte hk0
        obtain ⟨bd, y, rfl, _, hy, hcy⟩ := hc.byte hk1
        by_cases hxy : x = y
        · subst hxy
          have hb1 : ((x.toNat : Int) != (x.toNat : Int)) = false := by simp
          go_wp2
          go_quiet (fail)
          go_wp2
          go_roundw
          case rel => exact ⟨k + 1, _, by omega, by go_num, by rw [take_snocS hx.out, take_snocS hy.out, HQ.out], rfl⟩
          case measure => simp [intOf]; omega
        · have hb1 : ((x.toNat : Int) != (y.toNat : Int)) = true := by
            simp only [bne_iff_ne, ne_eq, Int.natCast_inj]
            exact fun e => hxy (UInt8.toNat_inj.1 e)
          have HN : Hid (decide (l = r) = false) := by
            unfold Hid
            simp only [decide_eq_false_iff_not]
            rintro rfl
            have := hx.out.symm.trans hy.out
            exact hxy (by injection this)
          clear hxy
          go_wp2
          go_quiet (fail)
          go_wp2
          go_ret
          exact ⟨by rw [HN.out]; rfl, below_drewN (below_drewN (Below.refl _ _) _) _⟩
      · obtain rfl : k = l.length := by omega
        have HN : Hid (decide (l = r) = true) := by
          have h1 := HQ.out
          rw [List.take_length, List.take_of_length_le (by have := HE.out; omega)] at h1
          unfold Hid; simp [h1]
        go_wp2
        go_ret
        exact ⟨by rw [HN.out]; rfl, below_drewN (Below.refl _ _) _⟩
  · have he1 : ((l.length : Int) != (r.length : Int)) = true := by simp; omega
    have hne : decide (l = r) = false := by simp; rintro rfl; exact he rfl
    rw [hne]
    go_enter Try.func13, Try.ntmps13
    go_wp2
    go_ret
    exact ⟨rfl, Below.refl _ _⟩
end Go.Proofs.Ytdioijhmmmnbgaa
namespace Go.Proofs.Ytdioijhmmmnbgaa
open Go.RowKit

set_option maxHeartbeats 400000 in
theorem same_quiet (A C : Option Addr) (n c m d : Nat) (w : World) (l r : List UInt8) (hn : l.length = n) (hm : r.length = m) (hl : (n : Int) ≤ 140737488355328) (hr : (m : Int) ≤ 140737488355328)
    (ha : RB w w.heap.size A l) (hc : RB w w.heap.size C r) :
    Calls Try.prog 13 #[.slice A n c, .slice C m d] w fun e w' => e = .returned (.bool (decide (l = r))) ∧ ∃ q, w' = w.drewN q := by
  subst hn
  subst hm
  by_cases he : l.length = r.length
  · go_enter Try.func13, Try.ntmps13
    have he1 : ((l.length : Int) != (r.length : Int)) = false := by simp [he]
    have HE := Lib.hid he
    clear he
    go_wp2
    go_loopw [5] (fun i wr => ∃ k m : Nat, k ≤ l.length ∧ i = .int .i64 (k : Int) ∧ l.take k = r.take k ∧ wr = w.drewN m) (fun i _ => l.length - (intOf i).toNat)
    case atStart => exact ⟨0, 0, by omega, rfl, rfl, rfl⟩
    case round =>
      obtain ⟨k, m, hk, rfl, heq, rfl⟩ := hrel
      have HQ := Lib.hid heq
      clear heq
      by_cases hk0 : k < l.length
      · have hk1 : k < r.length := by have := HE.out; omega
        obtain ⟨ad, x, rfl, _, hx, hcx⟩ := ha.byte hk0
        obtain ⟨bd, y, rfl, _, hy, hcy⟩ := hc.byte hk1
        by_cases hxy : x = y
        · subst hxy
          have hb1 : ((x.toNat : Int) != (x.toNat : Int)) = false := by simp
          go_wp2
          go_quiet (fail)
          go_wp2
          go_roundw
          case rel => exact ⟨k + 1, _, by omega, by go_num, by rw [take_snocS hx.out, take_snocS hy.out, HQ.out], rfl⟩
          case measure => simp [intOf]; omega
        · have hb1 : ((x.toNat : Int) != (y.toNat : Int)) = true := by
            simp only [bne_iff_ne, ne_eq, Int.natCast_inj]
            exact fun e => hxy (UInt8.toNat_inj.1 e)
          have HN : Hid (decide (l = r) = false) := by
            unfold Hid
            simp only [decide_eq_false_iff_not]
            rintro rfl
            have := hx.out.symm.trans hy.out
            exact hxy (by injection this)
          clear hxy
          go_wp2
          go_quiet (fail)
          go_wp2
          go_ret
          exact ⟨by rw [HN.out]; rfl, _, World.drewN_drewN _ _ _⟩
      · obtain rfl : k = l.length := by omega
        have HN : Hid (decide (l = r) = true) := by
          have h1 := HQ.out
          rw [List.take_length, List.take_of_length_le (by have := HE.out; omega)] at h1
          unfold Hid; simp [h1]
        go_wp2
        go_ret
        exact ⟨by rw [HN.out]; rfl, _, rfl⟩
  · have he1 : ((l.length : Int) != (r.length : Int)) = true := by simp; omega
    have hne : decide (l = r) = false := by simp; rintro rfl; exact he rfl
    rw [hne]
    go_enter Try.func13, Try.ntmps13
    go_wp2
    go_ret
    exact ⟨rfl, 0, rfl⟩
end Go.Proofs.Ytdioijhmmmnbgaa
namespace Go.Proofs.Ytdioijhmmmnbgaa
open Go.ChangeShapes Go.WideShapes Go.ChangeAt Go.RowKit

def SlOk (w : World) (x : Sl) : Prop := x.l.length = x.n ∧ x.n ≤ x.c ∧ (x.c : Int) ≤ 9223372036854775807 ∧ RB w w.heap.size x.A x.l
section
variable {H : Type} {enc : TypeId × Value → H} {P : Program} {w : World} {base : Nat} {spare : Nat → Bool} {held : Bool}
theorem bytes_el {t e : TypeId} {v : Value} {n : Nat} {y : DataW H × List MemPlace} (ht : P.underlying t = some (.slice e)) (he : P.underlying e = some (.int .u8)) (hc : P.cellsOf e = 1)
    (hf : DataW.trod enc P w base spare held n t [v] = some y) : ∃ x, v = slV x ∧ SlOk w x := by
  rcases open_ints ht he hc hf with ⟨hcs, hx⟩ | ⟨x, l, c', zs, hcs, _, hl, hm, hz, hx, hcell, hwz⟩
  · simp at hcs
    subst hcs
    exact ⟨⟨none, 0, 0, []⟩, rfl, rfl, Nat.le_refl _, by show ((0 : Nat) : Int) ≤ _; omega, Rd.nil⟩
  · simp at hcs
    subst hcs
    have hzl : l ≤ zs.length := by rw [hz]; split <;> omega
    refine ⟨⟨some x, l, c', (zs.take l).map fun q => UInt8.ofNat q.toNat⟩, rfl, by simp; omega, hl, by unfold maxLen at hm; show (c' : Int) ≤ _; omega, fun hne => ?_⟩
    have key : ∀ i u, (((zs.take l).map fun q => UInt8.ofNat q.toNat).map bV)[i]? = some u → w.cell? (x.add i) = some u := by
      intro i u hu
      have hi : i < l := by
        have := (List.getElem?_eq_some_iff.1 hu).1
        simp at this; omega
      have hiz : i < zs.length := by omega
      rw [hcell i hiz]
      have hw := hwz zs[i] (List.getElem_mem hiz)
      have hb := bounds_u8 hw
      rw [← hu]
      simp only [List.getElem?_map, List.getElem?_take_of_lt hi, List.getElem?_eq_getElem hiz, Option.map_some, List.getD, Option.getD_some, bV, UInt8.toNat_ofNat']
      congr 2
      omega
    refine ⟨x, rfl, ?_, key⟩
    obtain ⟨u, us, hq⟩ := List.exists_cons_of_ne_nil hne
    have := World.block_lt_of_cell? _ _ (key 0 u (by rw [hq]; rfl))
    rwa [blk_add] at this
theorem open_rowsl {r : Reach} {b0 : Nat} {t e q : TypeId} {v : Value} {d : DataW H} {ps : List MemPlace} (ht : P.underlying t = some (.slice e)) (he : P.underlying e = some (.slice q)) (hq : P.underlying q = some (.int .u8)) (hC : P.cellsOf e = 1) (hCq : P.cellsOf q = 1)
    (hv : Value.okWide P w r b0 t v) (h : DataW.Trod enc P w base spare held t v d ps) :
    ∃ (A : Option Addr) (n c : Nat) (l : List Sl), v = .slice A n c ∧ l.length = n ∧ n ≤ c ∧ (c : Int) ≤ 9223372036854775807 ∧ RL slV w w.heap.size A l ∧ DAll (fun x _ => SlOk w x) d l :=
  open_one slV (fun x _ => SlOk w x) ht hC (fun _ _ _ hy => bytes_el he hq hCq hy) hv h
theorem dall_each {α : Type} {Q : α → Prop} {d : DataW H} {l : List α} (h : DAll (fun x _ => Q x) d l) : ∀ x ∈ l, Q x := by
  intro x hx
  rcases h with ⟨_, rfl⟩ | ⟨es, sp, _, he, hq⟩
  · cases hx
  · obtain ⟨i, hi⟩ := List.getElem?_of_mem hx
    have hil : i < es.length := by have := (List.getElem?_eq_some_iff.1 hi).1; omega
    exact hq i x _ hi (List.getElem?_eq_getElem hil)
end
end Go.Proofs.Ytdioijhmmmnbgaa
namespace Go.Proofs.Ytdioijhmmmnbgaa
open Go.ChangeShapes Go.WideShapes Go.ChangeAt Go.RowKit
open Go.Deep (open_slice choose_lt hone_of oneCellFields)
section
variable {H : Type} {enc : TypeId × Value → H} {P : Program} {w : World} {base : Nat} {spare : Nat → Bool} {held : Bool}
/-- A slice of whatever elements: F lays an element's cells, Q says what its datum says of it. -/
theorem rows_el {α : Type} [Inhabited α] {t e : TypeId} {v : Value} (size : Nat) (F : α → List Value) (Q : α → DataW H → Prop) (ht : P.underlying t = some (.slice e)) (hC : P.cellsOf e = size) (hpos : 0 < size)
    (hF : ∀ x, (F x).length = size)
    (hel : ∀ (n : Nat) (cs : List Value) (y : DataW H × List MemPlace), cs.length = size → DataW.trod enc P w base spare held n e cs = some y → ∃ x, cs = F x ∧ Q x y.1)
    {m0 : Nat} {y0 : DataW H × List MemPlace} (hf : DataW.trod enc P w base spare held m0 t [v] = some y0) :
    ∃ (A : Option Addr) (n c : Nat) (l : List α), v = .slice A n c ∧ l.length = n ∧ n ≤ c ∧ (c : Int) ≤ 9223372036854775807 ∧ Rd w w.heap.size A (l.flatMap F) ∧
      ((y0.1 = .nil ∧ l = []) ∨ ∃ es sp, y0.1 = .slice es sp ∧ es.length = n ∧ ∀ (i : Nat) (x : α) (y : DataW H), l[i]? = some x → es[i]? = some y → Q x y) := by
  rcases open_slice ht hf with ⟨hcs, hx⟩ | ⟨a, len, cap, m, n', D, Pl, hcs, _, hl, hm, hmm, hx, hi⟩
  · simp at hcs
    subst hcs
    subst hx
    exact ⟨none, 0, 0, [], rfl, rfl, Nat.le_refl _, by omega, Rd.nil, .inl ⟨rfl, rfl⟩⟩
  · simp at hcs
    subst hcs
    subst hx
    rw [hC] at hi
    have hlm : len ≤ m := by rw [hmm]; split <;> omega
    obtain ⟨X, hX⟩ := choose_lt (n := len) (α := α) (p := fun i x => (∃ cs', w.cells? base (a.add (i * size)) size = some cs' ∧ cs' = F x) ∧ Q x (D i)) (fun i hin => by
      obtain ⟨cs', h1, h2⟩ := hi i (by omega)
      obtain ⟨_, hlen, _⟩ := World.cells?_some h1
      obtain ⟨x, hx1, hx2⟩ := hel _ _ _ hlen h2
      exact ⟨x, ⟨cs', h1, hx1⟩, hx2⟩)
    have hcell : ∀ i j, i < len → j < size → w.cell? (a.add (i * size + j)) = (F (X i))[j]? := by
      intro i j hin hj
      obtain ⟨⟨cs', h1, h2⟩, _⟩ := hX i hin
      obtain ⟨_, hlen, hat⟩ := World.cells?_some h1
      have := hat j hj
      rw [← Go.Deep.add_add, this, h2]
    have hget : ∀ (k : Nat) (l : List α) (i j : Nat), l.length = k → i < k → j < size → (l.flatMap F)[i * size + j]? = (l[i]?).bind fun x => (F x)[j]? := by
      intro k
      induction k with
      | zero => intro l i j _ h; omega
      | succ k ih =>
        intro l i j hlk hik hj
        match l, hlk with
        | x :: r, hlk =>
          cases i with
          | zero =>
            simp only [List.flatMap_cons, Nat.zero_mul, Nat.zero_add, List.getElem?_cons_zero, Option.bind_some]
            rw [List.getElem?_append_left (by rw [hF]; exact hj)]
          | succ i =>
            simp only [List.flatMap_cons, List.getElem?_cons_succ]
            rw [List.getElem?_append_right (by rw [hF, Nat.add_mul]; omega), hF, show (i + 1) * size + j - size = i * size + j by rw [Nat.add_mul]; omega]
            exact ih r i j (by simpa using hlk) (by omega) hj
    have hll : ((List.range len).map X).length = len := by simp
    have hflen : ∀ l : List α, (l.flatMap F).length = l.length * size := by
      intro l
      induction l with
      | nil => simp
      | cons x r ih => simp only [List.flatMap_cons, List.length_append, ih, hF, List.length_cons, Nat.add_mul]; omega
    have key : ∀ q u, (((List.range len).map X).flatMap F)[q]? = some u → w.cell? (a.add q) = some u := by
      intro q u hu
      have hq : q < len * size := by
        have := (List.getElem?_eq_some_iff.1 hu).1
        rw [hflen, hll] at this; exact this
      have hq1 : q / size < len := Nat.div_lt_of_lt_mul (by rw [Nat.mul_comm]; exact hq)
      have hq2 : q % size < size := Nat.mod_lt _ hpos
      have hqe : q / size * size + q % size = q := by rw [Nat.mul_comm]; exact Nat.div_add_mod q size
      have h1 := hget len _ (q / size) (q % size) hll hq1 hq2
      rw [hqe, hu] at h1
      have h2 := hcell (q / size) (q % size) hq1 hq2
      rw [hqe] at h2
      rw [h2, h1]
      simp [hq1]
    refine ⟨some a, len, cap, (List.range len).map X, rfl, hll, hl, by unfold maxLen at hm; omega, fun hne => ⟨a, rfl, ?_, key⟩, .inr ⟨_, _, rfl, by simp, ?_⟩⟩
    · obtain ⟨u, us, hq⟩ := List.exists_cons_of_ne_nil hne
      have := World.block_lt_of_cell? _ _ (key 0 u (by rw [hq]; rfl))
      rwa [blk_add] at this
    · intro i x y hx1 hy1
      simp only [List.getElem?_map] at hx1 hy1
      obtain ⟨i1, hi1, rfl⟩ := Option.map_eq_some_iff.1 hx1
      obtain ⟨i2, hi2, rfl⟩ := Option.map_eq_some_iff.1 hy1
      have e1 := List.getElem?_eq_some_iff.1 hi1
      have e2 := List.getElem?_eq_some_iff.1 hi2
      obtain ⟨h1, rfl⟩ := e1
      obtain ⟨h2, rfl⟩ := e2
      simp only [List.getElem_range]
      exact (hX i (by simpa using h1)).2
end
end Go.Proofs.Ytdioijhmmmnbgaa
