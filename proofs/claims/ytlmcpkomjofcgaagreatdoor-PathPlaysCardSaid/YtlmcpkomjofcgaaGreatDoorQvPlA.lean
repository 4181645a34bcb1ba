/- Rows of acts: in memory, opened. -/
import Derived.Test.YtlmcpkomjofcgaaGreatDoorPv13
import Derived.Test.YtlmcpkomjofcgaaGreatDoorPv7
namespace Go.Proofs.YtlmcpkomjofcgaaGreatDoor
open Go.ChangeShapes Go.WideShapes Go.ChangeAt Go.RowKit
/-- A row of texts in memory. -/
structure Tx where
  A : Option Addr
  n : Nat
  c : Nat
  l : List (List UInt8)
def txV (x : Tx) : Value := .slice x.A x.n x.c
/-- An act. -/
structure Ac where
  kind : Nat
  name : List UInt8
  s : Sl
  t : Tx
  n : Int
instance : Inhabited Ac := ⟨⟨0, [], ⟨none, 0, 0, []⟩, ⟨none, 0, 0, []⟩, 0⟩⟩
def acC (x : Ac) : List Value := [.int .u8 (x.kind : Int), strV x.name, slV x.s, txV x.t, .int .i64 x.n]
theorem acCels : Cels acC 5 := ⟨fun _ => rfl, fun x u hu => by
  simp only [acC, List.mem_cons, List.not_mem_nil, or_false] at hu
  rcases hu with rfl | rfl | rfl | rfl | rfl <;> rfl, by decide⟩
def TxOk (w : World) (x : Tx) : Prop := x.l.length = x.n ∧ x.n ≤ x.c ∧ (x.c : Int) ≤ 9223372036854775807 ∧ RL strV w w.heap.size x.A x.l
structure AcOk (w : World) (x : Ac) : Prop where
  s : SlOk w x.s
  t : TxOk w x.t
  kind : x.kind ≤ 255
  n : -9223372036854775808 ≤ x.n ∧ x.n ≤ 9223372036854775807
section
variable {H : Type} {enc : TypeId × Value → H} {w : World} {base : Nat} {spare : Nat → Bool} {held : Bool}
theorem texts_el {v : Value} {n : Nat} {y : DataW H × List MemPlace} (hf : DataW.trod enc Tryz.prog w base spare held n 31 [v] = some y) : ∃ x : Tx, v = txV x ∧ TxOk w x ∧ DAll (fun p z => z = .lit (.string p)) y.1 x.l := by
  obtain ⟨A, n, c, l, h1, h2, h3, h4, h5, h6⟩ := rows_el 1 (fun x : List UInt8 => [strV x]) (fun p z => z = .lit (.string p)) Tryz.underlying31 (by kernel_rfl) (by decide) (fun _ => rfl) (fun n cs y hl h => by
    match cs, hl with
    | [c0], _ =>
      obtain ⟨s, hs, hy, _⟩ := DataW.trod_string Tryz.underlying9 h
      injection hs with hs
      exact ⟨s.data.toList, by rw [hs]; rfl, by rw [hy]⟩) hf
  refine ⟨⟨A, n, c, l⟩, h1, ⟨h2, h3, h4, by unfold RL; rw [← flat_one]; exact h5⟩, ?_⟩
  rcases h6 with ⟨e1, e2⟩ | ⟨es, sp, e1, e2, e3⟩
  · exact .inl ⟨e1, e2⟩
  · exact .inr ⟨es, sp, e1, by rw [e2, h2], e3⟩
def AcQ (w : World) (x : Ac) (y : DataW H) : Prop := AcOk w x ∧ ∃ y0 y2 y3 y4, y = .agg [y0, .lit (.string x.name), y2, y3, y4] ∧ DLen y2 x.s.n ∧ DAll (fun p z => z = .lit (.string p)) y3 x.t.l
theorem act_el (n : Nat) (cs : List Value) (y : DataW H × List MemPlace) (hl : cs.length = 5)
    (h : DataW.trod enc Tryz.prog w base spare held n 46 cs = some y) : ∃ x : Ac, cs = acC x ∧ AcQ w x y.1 := by
  obtain ⟨ys, n', hy, hyl, _, hf⟩ := open_fields Tryz.underlying46 (by kernel_rfl) (by kernel_rfl) h
  obtain ⟨v0, z0, hc0, hz0, h0⟩ := hf 0 _ rfl
  obtain ⟨v1, z1, hc1, hz1, h1⟩ := hf 1 _ rfl
  obtain ⟨v2, z2, hc2, hz2, h2⟩ := hf 2 _ rfl
  obtain ⟨v3, z3, hc3, hz3, h3⟩ := hf 3 _ rfl
  obtain ⟨v4, z4, hc4, hz4, h4⟩ := hf 4 _ rfl
  obtain ⟨a0, ha0, _, w0⟩ := DataW.trod_int Tryz.underlying5 h0
  obtain ⟨s1, hs1, hd1, _⟩ := DataW.trod_string Tryz.underlying9 h1
  obtain ⟨x2, hx2, ho2, hd2⟩ := bytes_elD Tryz.underlying22 Tryz.underlying5 (by kernel_rfl) h2
  obtain ⟨x3, hx3, ho3, hd3⟩ := texts_el h3
  obtain ⟨a4, ha4, _, w4⟩ := DataW.trod_int Tryz.underlying3 h4
  have b0 := bounds_u8 w0
  have b4 := bounds_i64 w4
  simp at ha0 hs1 ha4
  subst ha0; subst hs1; subst hx2; subst hx3; subst ha4
  match cs, hl with
  | [c0, c1, c2, c3, c4], _ =>
    simp at hc0 hc1 hc2 hc3 hc4
    subst hc0; subst hc1; subst hc2; subst hc3; subst hc4
    refine ⟨⟨a0.toNat, s1.data.toList, x2, x3, a4⟩, by unfold acC; rw [Int.toNat_of_nonneg b0.1]; rfl, ⟨ho2, ho3, by show a0.toNat ≤ 255; omega, b4⟩, z0.1, z2.1, z3.1, z4.1, ?_, hd2, hd3⟩
    have hys : ys = [z0, z1, z2, z3, z4] := by
      match ys, hyl with
      | [d0, d1, d2, d3, d4], _ => simp at hz0 hz1 hz2 hz3 hz4; rw [hz0, hz1, hz2, hz3, hz4]
    rw [hy, hys, hd1]
    rfl
theorem sized_acts {ts : List TypeId} {ds : List (DataW H)} {l : List Ac} {d : DataW H} (h : (DataW.weightsEach Tryz.prog ts ds).all (· ≤ reachBytes) = true) {j : Nat} (ht : ts[j]? = some 37) (hd : ds[j]? = some d)
    (hl : DAll (AcQ w) d l) : ∀ x ∈ l, AcOk w x ∧ x.name.length ≤ 140737488351232 ∧ x.s.n ≤ 140737488351232 ∧ x.t.n ≤ 140737488351232 ∧ ∀ p ∈ x.t.l, p.length ≤ 140737488351232 := by
  intro x hx
  obtain ⟨y, ⟨hok, y0, y2, y3, y4, rfl, hn2, hn3⟩, hw⟩ := sized_elem h ht hd Tryz.underlying37 hl hx
  have hb : Tryz.prog.bytesOf 5 = 1 := by kernel_rfl
  have hb16 : Tryz.prog.bytesOf 9 = 16 := by kernel_rfl
  have hu := Tryz.underlying46
  have e1 : x.name.length ≤ reachBytes := hw _ (by simp [DataW.weights, hu, DataW.weightsEach])
  refine ⟨hok, by simpa [reachBytes] using e1, ?_, ?_, ?_⟩
  · rcases hn2 with ⟨_, h0⟩ | ⟨es, sp, rfl, h0⟩
    · rw [h0]; exact Nat.zero_le _
    · have e2 : (es.length + sp.length) * 1 ≤ reachBytes := hw _ (by simp [DataW.weights, hu, Tryz.underlying22, DataW.weightsEach, hb])
      simp only [reachBytes] at e2
      omega
  · have hxn := hok.t.1
    rcases hn3 with ⟨_, h0⟩ | ⟨es, sp, rfl, h0, _⟩
    · rw [h0] at hxn; simp at hxn; omega
    · have e2 : (es.length + sp.length) * 16 ≤ reachBytes := hw _ (by simp [DataW.weights, hu, Tryz.underlying31, DataW.weightsEach, hb16])
      simp only [reachBytes] at e2
      omega
  · intro p hp
    rcases hn3 with ⟨_, h0⟩ | ⟨es, sp, rfl, h0, hq⟩
    · rw [h0] at hp; cases hp
    · obtain ⟨i, hi⟩ := List.getElem?_of_mem hp
      have hil := (List.getElem?_eq_some_iff.1 hi).1
      have hei : es[i]? = some es[i] := List.getElem?_eq_getElem (by omega)
      have hz := hq i p _ hi hei
      have hm : p.length ∈ DataW.weightsAll Tryz.prog 9 es := mem_weightsAll (List.mem_of_getElem? hei) _ (by rw [hz]; simp [DataW.weights])
      have e2 : p.length ≤ reachBytes := hw _ (by simp [DataW.weights, hu, Tryz.underlying31, DataW.weightsEach, hm])
      simpa [reachBytes] using e2
end
/-- An act's cells, zero. -/
def z5 : Array Value := #[.int .u8 0, .string ⟨#[]⟩, .slice none 0 0, .slice none 0 0, .int .i64 0]
theorem z5_eq : (#[.int .u8 0, .string ⟨#[]⟩, .slice none 0 0, .slice none 0 0, .int .i64 0] : Array Value) = z5 := rfl
theorem info_act : (Tryz.prog.info? 46).map (·.size) = some 5 := by kernel_rfl
def acA (x : Ac) : Array Value := #[.int .u8 (x.kind : Int), strV x.name, slV x.s, txV x.t, .int .i64 x.n]
section
variable {w w' : World} {x : Ac}
theorem SlOk.step (h : SlOk w x.s) (hb : Below w.heap.size w w') : SlOk w' x.s := ⟨h.1, h.2.1, h.2.2.1, h.2.2.2.step hb⟩
theorem TxOk.step (h : TxOk w x.t) (hb : Below w.heap.size w w') : TxOk w' x.t := ⟨h.1, h.2.1, h.2.2.1, (h.2.2.2.below hb (Nat.le_refl _)).more hb.size⟩
theorem AcOk.step (h : AcOk w x) (hb : Below w.heap.size w w') : AcOk w' x := ⟨h.s.step hb, h.t.step hb, h.kind, h.n⟩
end
/-- What few answers. -/
def Few (l : List Ac) : Prop := l.length ≤ 61 ∧ ∀ x ∈ l, x.s.n ≤ 20000 ∧ x.t.n ≤ 20
def FewP (l : List Ac) (w : World) (e : Ending) (w' : World) : Prop := ∃ b : Bool, e = .returned (.bool b) ∧ (b = true → Few l) ∧ Below w.heap.size w w'
end Go.Proofs.YtlmcpkomjofcgaaGreatDoor
