/- Contract of the document's files: Put. -/
import Derived.Test.YtlmcpkomjofcgaaGreatDoorQvDfA
namespace Go.Proofs.YtlmcpkomjofcgaaGreatDoor
open Go.RowKit
theorem fiTy : ETy Tryz.prog 40 76 (.agg #[.string ⟨#[]⟩, .slice none 0 0]) 2 40 := ⟨Tryz.underlying40, info_parts (by kernel_rfl), rfl, by decide⟩
theorem OwS.low10 {α : Type} {fC : α → List Value} {sz : Nat} {w : World} {base base' : Nat} {e : TypeId} {v : Value} {l : List α} (h : OwS fC sz w base e v l) (hB : base' ≤ base) : OwS fC sz w base' e v l := by
  refine ⟨h.1, ?_⟩
  rcases h.2 with hn | ⟨g, cap, cur, rfl, hb, rest⟩
  · exact .inl hn
  · exact .inr ⟨g, cap, cur, rfl, by omega, rest⟩
/-- What a change of the document's files leaves. -/
def ChP (w : World) (M N : Nat → Prop) (bx : Nat) (F' : FS) (w' : World) : Prop :=
  ∃ M' N', Gr w w' M M' N ∧ (∀ k, N k → N' k) ∧ (∀ k, N' k → N k ∨ w.heap.size ≤ k) ∧ DfM w' M' N' bx F'
theorem find_ins {L : List FEl} {t : Nat} {e : FEl} (hn : L.find? (fun x => decide (x.1 = e.1)) = none) (nm : List UInt8) : (L.take t ++ e :: L.drop t).find? (fun x => decide (x.1 = nm)) = if nm = e.1 then some e else L.find? (fun x => decide (x.1 = nm)) := by
  by_cases h : nm = e.1
  · rw [if_pos h]
    subst h
    have h1 : (L.take t).find? (fun x => decide (x.1 = e.1)) = none := by
      rw [List.find?_eq_none] at hn ⊢
      exact fun x hx => hn x (List.mem_of_mem_take hx)
    rw [List.find?_append, h1]
    simp
  · rw [if_neg h, List.find?_append, List.find?_cons_of_neg (by simpa using fun e2 => h e2.symm)]
    rw [← List.find?_append, List.take_append_drop]
theorem find_put {L : List FEl} {k : Nat} {x e : FEl} (hx : L[k]? = some x) (he : e.1 = x.1) (hfirst : ∀ j (y : FEl), j < k → L[j]? = some y → y.1 ≠ x.1) (nm : List UInt8) : (L.set k e).find? (fun y => decide (y.1 = nm)) = if nm = x.1 then some e else L.find? (fun y => decide (y.1 = nm)) := by
  obtain ⟨hk, hg⟩ := List.getElem?_eq_some_iff.1 hx
  have hs : L = L.take k ++ x :: L.drop (k + 1) := by
    rw [← hg, ← List.drop_eq_getElem_cons hk, List.take_append_drop]
  have hs2 : L.set k e = L.take k ++ e :: L.drop (k + 1) := by
    rw [List.set_eq_take_append_cons_drop, if_pos hk]
  have h1 : (L.take k).find? (fun y => decide (y.1 = x.1)) = none := by
    rw [List.find?_eq_none]
    intro y hy
    obtain ⟨j, hj⟩ := List.mem_iff_getElem?.1 hy
    rw [List.getElem?_take] at hj
    split at hj
    · rename_i hjk
      simpa using hfirst j y hjk hj
    · cases hj
  rw [hs2]
  by_cases h : nm = x.1
  · subst h
    rw [if_pos rfl, List.find?_append, h1]
    simp [he]
  · rw [if_neg h]
    conv => rhs; rw [hs]
    rw [List.find?_append, List.find?_append, List.find?_cons_of_neg (by rw [he]; simpa using fun e2 => h e2.symm), List.find?_cons_of_neg (by simpa using fun e2 => h e2.symm)]
theorem fpos_first {L : List FEl} {nm : List UInt8} {k : Nat} (h : fpos L nm = some k) : ∀ j (y : FEl), j < k → L[j]? = some y → y.1 ≠ nm := by
  unfold fpos at h
  rw [List.findIdx?_eq_some_iff_getElem] at h
  obtain ⟨hk, _, hj⟩ := h
  intro j y hjk hy
  obtain ⟨hj2, hg⟩ := List.getElem?_eq_some_iff.1 hy
  have := hj j hjk
  rw [hg] at this
  simpa using this
section
variable {w w1 w' : World} {M N : Nat → Prop} {bx : Nat} {F : FS} {vL vF : Value} {L : List FEl} {fl : List Nat}
/-- A file's bytes are replaced. -/
theorem DfB.replaced (h : DfB w M N bx F vL vF L fl) (hb : Below w.heap.size w w1) {nm b : List UInt8} {k : Nat} (hp : fpos L nm = some k) {A : Option Addr} {n c g n2 c2 : Nat} (hv : vL = .slice (some ⟨g, 0, none⟩) n2 c2) (ho : OwB w1 w.heap.size 5 (.slice A n c) b) (hl : b.length ≤ 65536) :
    ChP w M N bx { F with rows := fun q => if q = nm then some b else F.rows q, cnt := if (F.rows nm).isSome = true then F.cnt else F.cnt + 1 } (w1.setCell ⟨g, k * 2 + 1, none⟩ (.slice A n c)) := by
  subst hv
  obtain ⟨x, hx, he, hf⟩ := fpos_of hp
  have hrw : F.rows nm = some x.2.l := by rw [← h.rows nm, hf]; rfl
  have hlen : b.length = n := by
    obtain ⟨_, _, _, e, hn, _⟩ := OwL.sl ho
    injection e with _ e2 _
    rw [e2, hn.out]
  have hgN := h.nL g rfl
  have h1 := h.below hb
  have hch : Ch w (w1.setCell ⟨g, k * 2 + 1, none⟩ (.slice A n c)) N := (Ch.of_below hb).setCell (fun _ => hgN.1) _
  have hG : Gr w (w1.setCell ⟨g, k * 2 + 1, none⟩ (.slice A n c)) M M N := Gr.of_ch hch h.sub h.all
  have hsame : ∀ q, q ≠ g → (w1.setCell ⟨g, k * 2 + 1, none⟩ (.slice A n c)).heap[q]? = w1.heap[q]? := fun q hq => Below.heap_setCell w1 ⟨g, k * 2 + 1, none⟩ _ q hq
  refine ⟨M, N, hG, fun _ e => e, fun _ e => .inl e, .slice (some ⟨g, 0, none⟩) n2 c2, vF, L.set k (x.1, ⟨A, n, c, b⟩), fl, ?_⟩
  refine ⟨(hsame bx (fun e => hgN.2 e.symm)).trans h1.box, h1.lst.set fiCels hx (x' := (x.1, ⟨A, n, c, b⟩)) (by decide) rfl, h1.fls.own_same (fun q hq => hsame q (fun e => h.ne g rfl (by rw [← e]; exact hq))), h.nL, h.nF, h.ne, ?_, h.nf, fun q => ?_, fun y hy => ?_, h.fails, h.own, h.sub, hG.all, ?_⟩
  · rw [List.length_set, h.cnt]; show _ = if (F.rows nm).isSome = true then _ else _; rw [hrw]; rfl
  · rw [find_put (e := (x.1, ⟨A, n, c, b⟩)) hx rfl (by rw [he]; exact fpos_first hp) q]
    rw [he]
    dsimp only
    split
    · rfl
    · exact h.rows q
  · rcases List.mem_or_eq_of_mem_set hy with hy | rfl
    · exact ⟨hG.std (h.std y hy).1, (h.std y hy).2⟩
    · refine ⟨?_, by show n ≤ 65536; omega⟩
      have h2 := slX_own ho h.all
      exact h2.step (fun q hq => hsame q (fun e => hq.2 (by rw [e]; exact h.sub g hgN.1))) (fun q hq => ⟨Nat.lt_of_lt_of_le hq.1 (by simp), hq.2⟩)
  · refine ⟨?_, h.small.2⟩
    show (if (F.rows nm).isSome = true then _ else _) ≤ 16
    rw [hrw]; exact h.small.1
/-- A file more. -/
theorem DfB.inserted (h : DfB w M N bx F vL vF L fl) (hb : Below w.heap.size w w1) {nm b : List UInt8} (hp : fpos L nm = none) {A : Option Addr} {n c : Nat} (ho : OwB w1 w.heap.size 5 (.slice A n c) b) (hl : b.length ≤ 65536) (hc : F.cnt < 16) (hb2 : Below w1.heap.size w1 w') {v : Value} {t : Nat} (hv : OwS fiC 2 w' w1.heap.size 76 v (L.take t ++ (nm, ⟨A, n, c, b⟩) :: L.drop t)) :
    ChP w M N bx { F with rows := fun q => if q = nm then some b else F.rows q, cnt := if (F.rows nm).isSome = true then F.cnt else F.cnt + 1 } (w'.setCell ⟨bx, 0, none⟩ v) := by
  have hrw := h.rows_none hp
  have hlen : b.length = n := by
    obtain ⟨_, _, _, e, hn, _⟩ := OwL.sl ho
    injection e with _ e2 _
    rw [e2, hn.out]
  have hb3 : Below w.heap.size w w' := hb.trans (hb2.mono hb.size)
  have h1 := h.below hb3
  have hsame : ∀ q, q ≠ bx → (w'.setCell ⟨bx, 0, none⟩ v).heap[q]? = w'.heap[q]? := fun q hq => Below.heap_setCell w' ⟨bx, 0, none⟩ _ q hq
  have hch : Ch w (w'.setCell ⟨bx, 0, none⟩ v) N := (Ch.of_below hb3).setCell (fun _ => h.own) _
  have hvb : ∀ k, v.ownBlock = some k → w1.heap.size ≤ k ∧ k < w'.heap.size := fun k hk => hv.blk hk
  have hw1 := hb.size
  have hG : Gr w (w'.setCell ⟨bx, 0, none⟩ v) M (fun k => M k ∨ v.ownBlock = some k) N := ⟨hch, h.sub, fun _ e => .inl e, fun k e => by
    rcases e with e | e
    · exact .inl e
    · right; have := (hvb k e).1; omega, fun k e => by
    rcases e with e | e
    · exact Nat.lt_of_lt_of_le (h.all k e) hch.size
    · have := (hvb k e).2; simpa using this⟩
  have hbxl : bx < w.heap.size := h.lt
  have hqs : ∀ q, q < w1.heap.size → q < (w'.setCell ⟨bx, 0, none⟩ v).heap.size := fun q hq => by
    have h8 := hb2.size
    have h9 : w'.heap.size ≤ (w'.setCell ⟨bx, 0, none⟩ v).heap.size := by simp
    omega
  refine ⟨_, fun k => N k ∨ v.ownBlock = some k, hG, fun _ e => .inl e, fun k e => by
    rcases e with e | e
    · exact .inl e
    · right; have := (hvb k e).1; omega, v, vF, L.take t ++ (nm, ⟨A, n, c, b⟩) :: L.drop t, fl, ?_⟩
  refine ⟨by have := h1.box.set 0 v; simpa using this, (hv.low10 (Nat.zero_le _)).same10 (fun k hk => hsame k (by have := (hvb k hk).1; omega)), h1.fls.own_same (fun q hq => hsame q (h.nF q hq).2), fun k hk => ⟨.inr hk, by have := (hvb k hk).1; omega⟩, fun k hk => ⟨.inl (h.nF k hk).1, (h.nF k hk).2⟩, fun k hk e => by
    have h2 := (hvb k hk).1
    have h3 := h.all k (h.sub k (h.nF k e).1)
    omega, ?_, h.nf, fun q => ?_, fun y hy => ?_, h.fails, .inl h.own, fun k e => by
    rcases e with e | e
    · exact .inl (h.sub k e)
    · exact .inr e, hG.all, ?_⟩
  · show _ = if (F.rows nm).isSome = true then _ else _
    rw [hrw, if_neg (by decide)]
    have hL : (L.take t ++ L.drop t).length = L.length := by rw [List.take_append_drop]
    rw [List.length_append] at hL
    rw [List.length_append, List.length_cons, ← h.cnt]
    omega
  · rw [find_ins (by exact fpos_no hp) q]
    dsimp only
    split
    · rfl
    · exact h.rows q
  · have hy2 : y ∈ L ∨ y = (nm, ⟨A, n, c, b⟩) := by
      rcases List.mem_append.1 hy with hy | hy
      · exact .inl (List.mem_of_mem_take hy)
      · rcases List.mem_cons.1 hy with hy | hy
        · exact .inr hy
        · exact .inl (List.mem_of_mem_drop hy)
    rcases hy2 with hy | rfl
    · exact ⟨hG.std (h.std y hy).1, (h.std y hy).2⟩
    · refine ⟨?_, by show n ≤ 65536; omega⟩
      have h2 := slX_own ho h.all
      exact h2.step (fun q hq => (hsame q (fun e => hq.2 (by rw [e]; exact h.sub bx h.own))).trans (hb2.block q hq.1)) (fun q hq => ⟨hqs q hq.1, fun e => by
        rcases e with e | e
        · exact hq.2 e
        · have := (hvb q e).1; have := hq.1; omega⟩)
  · refine ⟨?_, h.small.2⟩
    show (if (F.rows nm).isSome = true then _ else _) ≤ 16
    rw [hrw, if_neg (by decide)]; omega
end
end Go.Proofs.YtlmcpkomjofcgaaGreatDoor
