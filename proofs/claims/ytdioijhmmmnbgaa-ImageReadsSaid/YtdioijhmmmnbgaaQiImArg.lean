/- Arguments: an image by value, opened. -/
import Derived.Test.YtdioijhmmmnbgaaPi6
import Derived.Test.YtdioijhmmmnbgaaPi7
import Derived.Test.YtdioijhmmmnbgaaPi1
import Derived.Lib.SmallJoins
namespace Go.Proofs.Ytdioijhmmmnbgaa
open Go.ChangeShapes Go.WideShapes Go.ChangeAt Go.RowKit
instance : Inhabited AtE := ⟨⟨0, ⟨none, 0, 0, []⟩⟩⟩
instance : Inhabited MmE := ⟨⟨0, 0, 0, none, 0, 0, []⟩⟩

section
variable {H : Type} {enc : TypeId × Value → H} {w : World} {base : Nat} {spare : Nat → Bool} {held : Bool} {r : Reach} {b0 : Nat}
theorem array10 {α : Type} {cs : Array α} (h : cs.size = 10) : ∃ c0 c1 c2 c3 c4 c5 c6 c7 c8 c9, cs = #[c0, c1, c2, c3, c4, c5, c6, c7, c8, c9] := by
  obtain ⟨l⟩ := cs
  match l, h with
  | [a, b, c, d, e, f, g, x, y, z], _ => exact ⟨a, b, c, d, e, f, g, x, y, z, rfl⟩
theorem i64_im {x : Int} (h : (Lit.int .i64 x).wf = true) : -9223372036854775808 ≤ x ∧ x ≤ 9223372036854775807 := bounds_i64 h
theorem bulk_mem {d : DataW H} {l : List (DataW H)} (h : d ∈ l) : Rows.uptoBulk d ≤ Rows.uptoBulkAll l := by
  induction l with
  | nil => cases h
  | cons x r ih =>
    simp only [Rows.uptoBulkAll]
    rcases List.mem_cons.1 h with e | e
    · subst e; omega
    · have := ih e; omega
theorem bulk_part {d : DataW H} {ys : List (DataW H × List MemPlace)} {j : Nat} {z : DataW H × List MemPlace} (hd : d = .agg (ys.map (·.1))) (hz : ys[j]? = some z) : Rows.uptoBulk z.1 ≤ Rows.uptoBulk d := by
  subst hd
  have := bulk_mem (d := z.1) (l := ys.map (·.1)) (List.mem_map_of_mem (List.mem_of_getElem? hz))
  simp only [Rows.uptoBulk]; omega
theorem ints_el {v : Value} {n : Nat} {y : DataW H × List MemPlace} (hf : DataW.trod enc Try.prog w base spare held n 25 [v] = some y) : ∃ (A : Option Addr) (n c : Nat) (l : List Int), v = .slice A n c ∧ l.length = n ∧ n ≤ c ∧ (c : Int) ≤ 9223372036854775807 ∧ RL iV w w.heap.size A l := by
  obtain ⟨A, n, c, l, h1, h2, h3, h4, h5, _⟩ := rows_el 1 (fun x : Int => [iV x]) (fun _ _ => True) Try.underlying25 (by kernel_rfl) (by decide) (fun _ => rfl) (fun n cs y hl h => by
    match cs, hl with
    | [c0], _ =>
      obtain ⟨a, ha, _, _⟩ := DataW.trod_int Try.underlying3 h
      injection ha with ha
      exact ⟨a, by rw [ha]; rfl, trivial⟩) hf
  exact ⟨A, n, c, l, h1, h2, h3, h4, by unfold RL; rw [← flat_one]; exact h5⟩
theorem att_el (n : Nat) (cs : List Value) (y : DataW H × List MemPlace) (hl : cs.length = 2) (h : DataW.trod enc Try.prog w base spare held n 71 cs = some y) : ∃ x : AtE, cs = attC x ∧ SlOk w x.s := by
  obtain ⟨ys, n', _, _, _, hf⟩ := open_fields Try.underlying71 (by kernel_rfl) (by kernel_rfl) h
  obtain ⟨v0, z0, hc0, _, h0⟩ := hf 0 _ rfl
  obtain ⟨v1, z1, hc1, _, h1⟩ := hf 1 _ rfl
  obtain ⟨a, ha, _, _⟩ := DataW.trod_int Try.underlying3 h0
  obtain ⟨x1, hx1, ho1⟩ := bytes_el Try.underlying22 Try.underlying5 (by kernel_rfl) h1
  simp at ha
  subst ha
  subst hx1
  match cs, hl with
  | [c0, c1], _ =>
    simp at hc0 hc1
    subst hc0
    subst hc1
    exact ⟨⟨a, x1⟩, rfl, ho1⟩
theorem atts_el {v : Value} {n : Nat} {y : DataW H × List MemPlace} (hf : DataW.trod enc Try.prog w base spare held n 27 [v] = some y) : ∃ (A : Option Addr) (n c : Nat) (l : List AtE), v = .slice A n c ∧ l.length = n ∧ n ≤ c ∧ (c : Int) ≤ 9223372036854775807 ∧ RA w w.heap.size A l := by
  obtain ⟨A, n, c, l, h1, h2, h3, h4, h5, h6⟩ := rows_el 2 attC (fun x _ => SlOk w x.s) Try.underlying27 (by kernel_rfl) (by decide) (fun _ => rfl) att_el hf
  refine ⟨A, n, c, l, h1, h2, h3, h4, h5, fun x hx => ?_⟩
  rcases h6 with ⟨_, rfl⟩ | ⟨es, sp, _, he, hq⟩
  · cases hx
  · obtain ⟨i, hi⟩ := List.getElem?_of_mem hx
    have hil := (List.getElem?_eq_some_iff.1 hi).1
    exact hq i x _ hi (List.getElem?_eq_getElem (by omega))
theorem mem_el (n : Nat) (cs : List Value) (y : DataW H × List MemPlace) (hl : cs.length = 4) (h : DataW.trod enc Try.prog w base spare held n 69 cs = some y) : ∃ x : MmE, cs = memC x ∧ MmB w w.heap.size x := by
  obtain ⟨ys, n', _, _, _, hf⟩ := open_fields Try.underlying69 (by kernel_rfl) (by kernel_rfl) h
  obtain ⟨v0, z0, hc0, _, h0⟩ := hf 0 _ rfl
  obtain ⟨v1, z1, hc1, _, h1⟩ := hf 1 _ rfl
  obtain ⟨v2, z2, hc2, _, h2⟩ := hf 2 _ rfl
  obtain ⟨v3, z3, hc3, _, h3⟩ := hf 3 _ rfl
  obtain ⟨a0, ha0, _, _⟩ := DataW.trod_int Try.underlying3 h0
  obtain ⟨a1, ha1, _, _⟩ := DataW.trod_int Try.underlying3 h1
  obtain ⟨a2, ha2, _, _⟩ := DataW.trod_int Try.underlying3 h2
  obtain ⟨A, m, c, l, hv, k1, k2, k3, k4⟩ := atts_el h3
  simp at ha0 ha1 ha2
  subst ha0; subst ha1; subst ha2; subst hv
  match cs, hl with
  | [c0, c1, c2, c3], _ =>
    simp at hc0 hc1 hc2 hc3
    subst hc0; subst hc1; subst hc2; subst hc3
    exact ⟨⟨a0, a1, a2, A, m, c, l⟩, rfl, k1, k2, k3, k4⟩
theorem mems_el {v : Value} {n : Nat} {y : DataW H × List MemPlace} (hf : DataW.trod enc Try.prog w base spare held n 26 [v] = some y) : ∃ (A : Option Addr) (n c : Nat) (l : List MmE), v = .slice A n c ∧ l.length = n ∧ n ≤ c ∧ (c : Int) ≤ 9223372036854775807 ∧ RM w w.heap.size A l := by
  obtain ⟨A, n, c, l, h1, h2, h3, h4, h5, h6⟩ := rows_el 4 memC (fun x _ => MmB w w.heap.size x) Try.underlying26 (by kernel_rfl) (by decide) (fun _ => rfl) mem_el hf
  refine ⟨A, n, c, l, h1, h2, h3, h4, h5, fun x hx => ?_⟩
  rcases h6 with ⟨_, rfl⟩ | ⟨es, sp, _, he, hq⟩
  · cases hx
  · obtain ⟨i, hi⟩ := List.getElem?_of_mem hx
    have hil := (List.getElem?_eq_some_iff.1 hi).1
    exact hq i x _ hi (List.getElem?_eq_getElem (by omega))
/-- What is asked of a constant's parts. -/
def CstN (x : Cst) : Prop := (-9223372036854775808 ≤ x.num ∧ x.num ≤ 9223372036854775807) ∧ (-9223372036854775808 ≤ x.tag ∧ x.tag ≤ 9223372036854775807) ∧ x.text.length ≤ maxLen
theorem cst_el (n : Nat) (cs : List Value) (y : DataW H × List MemPlace) (hl : cs.length = 5) (h : DataW.trod enc Try.prog w base spare held n 53 cs = some y) : ∃ x : Cst, cs = cstC x ∧ CstN x ∧ x.text.length ≤ Rows.uptoBulk y.1 := by
  obtain ⟨ys, n', hy, _, _, hf⟩ := open_fields Try.underlying53 (by kernel_rfl) (by kernel_rfl) h
  obtain ⟨v0, z0, hc0, _, h0⟩ := hf 0 _ rfl
  obtain ⟨v1, z1, hc1, _, h1⟩ := hf 1 _ rfl
  obtain ⟨v2, z2, hc2, _, h2⟩ := hf 2 _ rfl
  obtain ⟨v3, z3, hc3, _, h3⟩ := hf 3 _ rfl
  obtain ⟨v4, z4, hc4, hz4, h4⟩ := hf 4 _ rfl
  obtain ⟨a0, ha0, _, w0⟩ := DataW.trod_int Try.underlying3 h0
  obtain ⟨a1, ha1, _, _⟩ := DataW.trod_int Try.underlying3 h1
  obtain ⟨a2, ha2, _, _⟩ := DataW.trod_int Try.underlying3 h2
  obtain ⟨a3, ha3, _, w3⟩ := DataW.trod_int Try.underlying2 h3
  obtain ⟨s, hs, hd, hw⟩ := DataW.trod_string Try.underlying9 h4
  have hb := bulk_part hy hz4
  rw [hd] at hb
  simp at ha0 ha1 ha2 ha3 hs
  subst ha0; subst ha1; subst ha2; subst ha3; subst hs
  match cs, hl with
  | [c0, c1, c2, c3, c4], _ =>
    simp at hc0 hc1 hc2 hc3 hc4
    subst hc0; subst hc1; subst hc2; subst hc3; subst hc4
    exact ⟨⟨a0, a1, a2, a3, s.data.toList⟩, rfl, ⟨i64_im w3, i64_im w0, hw⟩, by simp only [Rows.uptoBulk] at hb; exact Nat.le_of_succ_le hb⟩
theorem csts_el {v : Value} {n : Nat} {y : DataW H × List MemPlace} (hf : DataW.trod enc Try.prog w base spare held n 24 [v] = some y) : ∃ (A : Option Addr) (n c : Nat) (l : List Cst), v = .slice A n c ∧ l.length = n ∧ n ≤ c ∧ (c : Int) ≤ 9223372036854775807 ∧ RS cstC w w.heap.size A l ∧ ∀ x ∈ l, CstN x ∧ x.text.length ≤ Rows.uptoBulk y.1 := by
  obtain ⟨A, n, c, l, h1, h2, h3, h4, h5, h6⟩ := rows_el 5 cstC (fun x d => CstN x ∧ x.text.length ≤ Rows.uptoBulk d) Try.underlying24 (by kernel_rfl) (by decide) (fun _ => rfl) cst_el hf
  refine ⟨A, n, c, l, h1, h2, h3, h4, h5, fun x hx => ?_⟩
  rcases h6 with ⟨_, rfl⟩ | ⟨es, sp, hd, he, hq⟩
  · cases hx
  · obtain ⟨i, hi⟩ := List.getElem?_of_mem hx
    have hil := (List.getElem?_eq_some_iff.1 hi).1
    have hei := List.getElem?_eq_getElem (l := es) (i := i) (by omega)
    obtain ⟨q1, q2⟩ := hq i x _ hi hei
    refine ⟨q1, Nat.le_trans q2 ?_⟩
    rw [hd]
    have := bulk_mem (List.mem_of_getElem? hei)
    simp only [Rows.uptoBulk]; omega
/-- What is asked of an image's constants. -/
def ImNum (x : ImE) (k : Nat) : Prop := ∀ c ∈ x.pool, CstN c ∧ c.text.length ≤ k
theorem ImNum.texts {x : ImE} {k : Nat} (h : ImNum x k) (hk : k ≤ 2000000) : ∀ c ∈ x.pool, (-9223372036854775808 ≤ c.tag ∧ c.tag ≤ 9223372036854775807) ∧ c.text.length ≤ 2000000 := fun c hc => ⟨(h c hc).1.2.1, Nat.le_trans (h c hc).2 hk⟩
theorem ImNum.nums {x : ImE} {k : Nat} (h : ImNum x k) : ∀ c ∈ x.pool, -9223372036854775808 ≤ c.num ∧ c.num ≤ 9223372036854775807 := fun c hc => (h c hc).1.1
set_option maxRecDepth 20000 in
theorem open_image {v : Value} {d : DataW H} {ps : List MemPlace} (hv : Value.okWide Try.prog w r b0 29 v) (h : DataW.Trod enc Try.prog w base spare held 29 v d ps) :
    ∃ x : ImE, v = .agg (imC x) ∧ RIm w w.heap.size x ∧ ImNum x (Rows.uptoBulk d) := by
  obtain ⟨cs, rfl, hsz⟩ := okWide_struct Try.underlying29 hv
  have hC : Try.prog.cellsOf 29 = 10 := by kernel_rfl
  rw [hC] at hsz
  obtain ⟨c0, c1, c2, c3, c4, c5, c6, c7, c8, c9, rfl⟩ := array10 hsz
  obtain ⟨fuel, hf⟩ := h
  obtain ⟨ys, n', hy, _, _, hf⟩ := open_fields Try.underlying29 (by kernel_rfl) (by kernel_rfl) hf
  obtain ⟨v0, z0, hc0, _, h0⟩ := hf 0 _ rfl
  obtain ⟨v1, z1, hc1, _, h1⟩ := hf 1 _ rfl
  obtain ⟨v2, z2, hc2, hz2, h2⟩ := hf 2 _ rfl
  obtain ⟨v3, z3, hc3, _, h3⟩ := hf 3 _ rfl
  obtain ⟨v4, z4, hc4, _, h4⟩ := hf 4 _ rfl
  obtain ⟨v5, z5, hc5, _, h5⟩ := hf 5 _ rfl
  obtain ⟨v6, z6, hc6, _, h6⟩ := hf 6 _ rfl
  obtain ⟨v7, z7, hc7, _, h7⟩ := hf 7 _ rfl
  obtain ⟨v8, z8, hc8, _, h8⟩ := hf 8 _ rfl
  obtain ⟨v9, z9, hc9, _, h9⟩ := hf 9 _ rfl
  obtain ⟨a0, ha0, _, _⟩ := DataW.trod_int Try.underlying3 h0
  obtain ⟨a1, ha1, _, _⟩ := DataW.trod_int Try.underlying3 h1
  obtain ⟨pA, pn, pc, pl, hp, p1, p2, p3, p4, p5⟩ := csts_el h2
  obtain ⟨a3, ha3, _, _⟩ := DataW.trod_int Try.underlying3 h3
  obtain ⟨a4, ha4, _, _⟩ := DataW.trod_int Try.underlying3 h4
  obtain ⟨a5, ha5, _, _⟩ := DataW.trod_int Try.underlying3 h5
  obtain ⟨iA, i_n, ic, il, hi, i1, i2, i3, i4⟩ := ints_el h6
  obtain ⟨fA, fn, fc, fl, hff, f1, f2, f3, f4⟩ := mems_el h7
  obtain ⟨mA, mn, mc, ml, hmm, m1, m2, m3, m4⟩ := mems_el h8
  obtain ⟨aA, an, ac, al, haa, k1, k2, k3, k4⟩ := atts_el h9
  simp [Value.cells] at ha0 ha1 ha3 ha4 ha5 hc0 hc1 hc2 hc3 hc4 hc5 hc6 hc7 hc8 hc9
  subst ha0; subst ha1; subst ha3; subst ha4; subst ha5; subst hp; subst hi; subst hff; subst hmm; subst haa
  subst hc0; subst hc1; subst hc2; subst hc3; subst hc4; subst hc5; subst hc6; subst hc7; subst hc8; subst hc9
  exact ⟨⟨a0, a1, pA, pn, pc, pl, a3, a4, a5, iA, i_n, ic, il, fA, fn, fc, fl, mA, mn, mc, ml, aA, an, ac, al⟩, rfl, ⟨p4, ⟨p1, p2, p3⟩, i4, ⟨i1, i2, i3⟩, f4, ⟨f1, f2, f3⟩, m4, ⟨m1, m2, m3⟩, k4, ⟨k1, k2, k3⟩⟩, fun c hc => ⟨(p5 c hc).1, Nat.le_trans (p5 c hc).2 (bulk_part hy hz2)⟩⟩
end
end Go.Proofs.Ytdioijhmmmnbgaa
