/- The document's files and paths in memory. -/
import Derived.Test.YtlmcpkomjofcgaaGreatDoorPv16
namespace Go.Proofs.YtlmcpkomjofcgaaGreatDoor
open Go.RowKit
/-- What turned, and the blocks that turn grew by new ones. -/
structure Gr (w w' : World) (M M' S : Nat → Prop) : Prop where
  ch : Ch w w' S
  sub : ∀ k, S k → M k
  up : ∀ k, M k → M' k
  new : ∀ k, M' k → M k ∨ w.heap.size ≤ k
  all : ∀ k, M' k → k < w'.heap.size
section
variable {w w' : World} {M M' S : Nat → Prop}
theorem Gr.of_ch (c : Ch w w' S) (hS : ∀ k, S k → M k) (ha : ∀ k, M k → k < w.heap.size) : Gr w w' M M S := ⟨c, hS, fun _ e => e, fun _ e => .inl e, fun k e => Nat.lt_of_lt_of_le (ha k e) c.size⟩
theorem Gr.std (g : Gr w w' M M' S) {x : Sl} (h : SlX w (fun k => k < w.heap.size ∧ ¬ M k) x) : SlX w' (fun k => k < w'.heap.size ∧ ¬ M' k) x :=
  h.step (fun k hk => g.ch.same k hk.1 (fun e => hk.2 (g.sub k e))) (fun k hk => ⟨Nat.lt_of_lt_of_le hk.1 g.ch.size, fun e => by
    rcases g.new k e with e | e
    · exact hk.2 e
    · have := hk.1; omega⟩)
theorem Gr.rx (g : Gr w w' M M' S) {A : Option Addr} {xs : List Value} (h : Rx w (fun k => k < w.heap.size ∧ ¬ M k) A xs) : Rx w' (fun k => k < w'.heap.size ∧ ¬ M' k) A xs :=
  h.step (fun k hk => g.ch.same k hk.1 (fun e => hk.2 (g.sub k e))) (fun k hk => ⟨Nat.lt_of_lt_of_le hk.1 g.ch.size, fun e => by
    rcases g.new k e with e | e
    · exact hk.2 e
    · have := hk.1; omega⟩)
theorem FsM.gr {gf bR bF : Nat} {F : FS} (h : FsM w M gf bR bF F) (g : Gr w w' M M' S) (hS : ∀ k, S k → k ≠ gf ∧ k ≠ bR ∧ k ≠ bF) : FsM w' M' gf bR bF F := by
  have hl := h.lt
  have hs : ∀ k, k < w.heap.size → (k = gf ∨ k = bR ∨ k = bF) → w'.heap[k]? = w.heap[k]? := fun k hk hc => g.ch.same k hk (fun e => by
    have := hS k e
    rcases hc with e | e | e
    · exact this.1 e
    · exact this.2.1 e
    · exact this.2.2 e)
  obtain ⟨R, hR, hd, hsl⟩ := h.rows
  obtain ⟨n, hn, hF⟩ := h.fails
  exact ⟨(hs gf hl.1 (.inl rfl)).trans h.box, ⟨R, hR.same (hs bR hl.2.1 (.inr (.inl rfl))), hd, fun nm s hs' => ⟨g.std (hsl nm s hs').1, (hsl nm s hs').2⟩⟩, ⟨n, hn, hF.same (hs bF hl.2.2 (.inr (.inr rfl)))⟩, ⟨g.up _ h.own.1, g.up _ h.own.2.1, g.up _ h.own.2.2⟩, h.ne, h.small, g.all⟩
theorem PtM.gr {gp gf bK bC rd rd' : Nat} {nms : List (List UInt8)} {K : Kn} (h : PtM w M gp gf bK bC nms K rd) (g : Gr w w' M M' S) (hS : ∀ k, S k → k ≠ gp ∧ k ≠ bK ∧ k ≠ bC) (hr : rd ≤ rd') : PtM w' M' gp gf bK bC nms K rd' := by
  have hl := h.lt
  have hs : ∀ k, k < w.heap.size → (k = gp ∨ k = bK ∨ k = bC) → w'.heap[k]? = w.heap[k]? := fun k hk hc => g.ch.same k hk (fun e => by
    have := hS k e
    rcases hc with e | e | e
    · exact this.1 e
    · exact this.2.1 e
    · exact this.2.2 e)
  obtain ⟨A, c', hB, h1, h2, h3⟩ := h.box
  obtain ⟨n, hn, hK⟩ := h.known
  obtain ⟨n2, hn2, hC⟩ := h.recs
  exact ⟨⟨A, c', (hs gp hl.1 (.inl rfl)).trans hB, h1, h2, g.rx h3⟩, ⟨n, by omega, hK.same (hs bK hl.2.1 (.inr (.inl rfl)))⟩, ⟨n2, by omega, hC.same (hs bC hl.2.2 (.inr (.inr rfl)))⟩, ⟨g.up _ h.own.1, g.up _ h.own.2.1, g.up _ h.own.2.2⟩, h.ne, h.good, h.len, h.short, g.all⟩
end
/-- A file of the document's. -/
abbrev FEl := List UInt8 × Sl
def fiC (x : FEl) : List Value := [strV x.1, slV x.2]
theorem fiCels : Cels fiC 2 := ⟨fun _ => rfl, fun x u hu => by
  simp only [fiC, List.mem_cons, List.not_mem_nil, or_false] at hu
  rcases hu with rfl | rfl <;> rfl, by decide⟩
/-- The document's files in block bx, its rows in blocks of N. -/
structure DfB (w : World) (M N : Nat → Prop) (bx : Nat) (F : FS) (vL vF : Value) (L : List FEl) (fl : List Nat) : Prop where
  box : Bk w bx 43 #[vL, .int .i64 (F.reads : Int), vF]
  lst : OwS fiC 2 w 0 76 vL L
  fls : OwL intN w 0 3 vF fl
  nL : ∀ k, vL.ownBlock = some k → N k ∧ k ≠ bx
  nF : ∀ k, vF.ownBlock = some k → N k ∧ k ≠ bx
  ne : ∀ k, vL.ownBlock = some k → vF.ownBlock ≠ some k
  cnt : L.length = F.cnt
  nf : fl.length = F.nf
  rows : ∀ nm, (L.find? fun x => decide (x.1 = nm)).map (·.2.l) = F.rows nm
  std : ∀ x ∈ L, SlX w (fun k => k < w.heap.size ∧ ¬ M k) x.2 ∧ x.2.n ≤ 65536
  fails : ∀ q, F.fails q = decide (q ∈ fl)
  own : N bx
  sub : ∀ k, N k → M k
  all : ∀ k, M k → k < w.heap.size
  small : F.cnt ≤ 16 ∧ F.reads ≤ 1000000 ∧ F.nf ≤ 1000000
def DfM (w : World) (M N : Nat → Prop) (bx : Nat) (F : FS) : Prop := ∃ vL vF L fl, DfB w M N bx F vL vF L fl
section
variable {w w' : World} {M M' N S : Nat → Prop} {bx : Nat} {F F' : FS} {vL vF : Value} {L : List FEl} {fl : List Nat}
theorem DfB.lt (h : DfB w M N bx F vL vF L fl) : bx < w.heap.size := h.box.lt
theorem OwS.same10 {α : Type} {fC : α → List Value} {sz : Nat} {base : Nat} {e : TypeId} {v : Value} {l : List α} (h : OwS fC sz w base e v l) (hs : ∀ k, v.ownBlock = some k → w'.heap[k]? = w.heap[k]?) : OwS fC sz w' base e v l := by
  refine ⟨h.1, ?_⟩
  rcases h.2 with hn | ⟨g, cap, cur, rfl, hb, hgg, rest⟩
  · exact .inl hn
  · exact .inr ⟨g, cap, cur, rfl, hb, (hs g rfl).trans hgg, rest⟩
/-- What turned elsewhere. -/
theorem DfB.gr (h : DfB w M N bx F vL vF L fl) (g : Gr w w' M M' S) (hS : ∀ k, S k → ¬ N k) : DfB w' M' N bx F vL vF L fl := by
  have hs : ∀ k, N k → w'.heap[k]? = w.heap[k]? := fun k hk => g.ch.same k (h.all k (h.sub k hk)) (fun e => hS k e hk)
  exact ⟨(hs bx h.own).trans h.box, h.lst.same10 (fun k hk => hs k (h.nL k hk).1), h.fls.own_same (fun k hk => hs k (h.nF k hk).1), h.nL, h.nF, h.ne, h.cnt, h.nf, h.rows, fun x hx => ⟨g.std (h.std x hx).1, (h.std x hx).2⟩, h.fails, h.own, fun k hk => g.up k (h.sub k hk), g.all, h.small⟩
theorem DfM.gr (h : DfM w M N bx F) (g : Gr w w' M M' S) (hS : ∀ k, S k → ¬ N k) : DfM w' M' N bx F := by
  obtain ⟨vL, vF, L, fl, h⟩ := h
  exact ⟨vL, vF, L, fl, h.gr g hS⟩
theorem DfM.all (h : DfM w M N bx F) : ∀ k, M k → k < w.heap.size := by obtain ⟨_, _, _, _, h⟩ := h; exact h.all
theorem DfM.sub (h : DfM w M N bx F) : ∀ k, N k → M k := by obtain ⟨_, _, _, _, h⟩ := h; exact h.sub
theorem DfM.own (h : DfM w M N bx F) : N bx := by obtain ⟨_, _, _, _, h⟩ := h; exact h.own
theorem DfM.below (h : DfM w M N bx F) (hb : Below w.heap.size w w') : DfM w' M N bx F := h.gr (S := fun _ => False) (Gr.of_ch (Ch.of_below hb) (fun _ e => e.elim) h.all) (fun _ e => e.elim)
theorem DfB.below (h : DfB w M N bx F vL vF L fl) (hb : Below w.heap.size w w') : DfB w' M N bx F vL vF L fl := h.gr (S := fun _ => False) (Gr.of_ch (Ch.of_below hb) (fun _ e => e.elim) h.all) (fun _ e => e.elim)
end
/-- A path of the document's in block gq over the files in bx; what is known of each file in blocks bT and bD. -/
structure DpB (w : World) (M N : Nat → Prop) (gq bx bT bD : Nat) (nms : List (List UInt8)) (K : Kn) (A : Option Addr) (c : Nat) (D : Nat → Value) : Prop where
  box : Bk w gq 80 #[.pointer (some ⟨bx, 0, none⟩), .slice A nms.length c, .slice (some ⟨bT, 0, none⟩) nms.length nms.length, .slice (some ⟨bD, 0, none⟩) nms.length nms.length]
  cap : nms.length ≤ c ∧ (c : Int) ≤ 9223372036854775807
  names : Rx w (fun k => k < w.heap.size ∧ ¬ M k) A (nms.map strV)
  there : Rw w bT 4 nms.length (fun i => .bool (K i).isSome)
  dirs : Rw w bD 67 nms.length D
  dir : ∀ i l, K i = some l → ∃ A c, D i = .slice A l.length c ∧ Rx w (fun k => k < w.heap.size ∧ ¬ M k) A (l.flatMap recL)
  own : M gq ∧ M bT ∧ M bD
  apart : ¬ N gq ∧ ¬ N bT ∧ ¬ N bD
  ne : gq ≠ bT ∧ gq ≠ bD ∧ bT ≠ bD
  good : ∀ i l, K i = some l → ∃ b, dirA b = .ok l
  len : 1 ≤ nms.length ∧ nms.length ≤ 8
  short : ∀ n ∈ nms, n.length ≤ maxLen
  all : ∀ k, M k → k < w.heap.size
def DpM (w : World) (M N : Nat → Prop) (gq bx bT bD : Nat) (nms : List (List UInt8)) (K : Kn) : Prop := ∃ A c D, DpB w M N gq bx bT bD nms K A c D
section
variable {w w' : World} {M M' N N' S : Nat → Prop} {gq bx bT bD : Nat} {nms : List (List UInt8)} {K : Kn} {A : Option Addr} {c : Nat} {D : Nat → Value}
theorem DpB.gr (h : DpB w M N gq bx bT bD nms K A c D) (g : Gr w w' M M' S) (hS : ∀ k, S k → k ≠ gq ∧ k ≠ bT ∧ k ≠ bD) (hN : ∀ k, N' k → N k ∨ w.heap.size ≤ k) : DpB w' M' N' gq bx bT bD nms K A c D := by
  have hl : gq < w.heap.size ∧ bT < w.heap.size ∧ bD < w.heap.size := ⟨h.all _ h.own.1, h.all _ h.own.2.1, h.all _ h.own.2.2⟩
  have hs : ∀ k, k < w.heap.size → (k = gq ∨ k = bT ∨ k = bD) → w'.heap[k]? = w.heap[k]? := fun k hk hc => g.ch.same k hk (fun e => by
    have := hS k e
    rcases hc with e | e | e
    · exact this.1 e
    · exact this.2.1 e
    · exact this.2.2 e)
  have hn : ∀ k, k < w.heap.size → ¬ N k → ¬ N' k := fun k hk hk2 e => by
    rcases hN k e with e | e
    · exact hk2 e
    · omega
  exact ⟨(hs gq hl.1 (.inl rfl)).trans h.box, h.cap, g.rx h.names, h.there.keep (hs bT hl.2.1 (.inr (.inl rfl))), h.dirs.keep (hs bD hl.2.2 (.inr (.inr rfl))), fun i l hi => by
    obtain ⟨A2, c2, e, hr⟩ := h.dir i l hi
    exact ⟨A2, c2, e, g.rx hr⟩, ⟨g.up _ h.own.1, g.up _ h.own.2.1, g.up _ h.own.2.2⟩, ⟨hn _ hl.1 h.apart.1, hn _ hl.2.1 h.apart.2.1, hn _ hl.2.2 h.apart.2.2⟩, h.ne, h.good, h.len, h.short, g.all⟩
theorem DpB.below (h : DpB w M N gq bx bT bD nms K A c D) (hb : Below w.heap.size w w') : DpB w' M N gq bx bT bD nms K A c D :=
  h.gr (S := fun _ => False) (Gr.of_ch (Ch.of_below hb) (fun _ e => e.elim) h.all) (fun _ e => e.elim) (fun _ e => .inl e)
theorem DpM.gr (h : DpM w M N gq bx bT bD nms K) (g : Gr w w' M M' S) (hS : ∀ k, S k → k ≠ gq ∧ k ≠ bT ∧ k ≠ bD) (hN : ∀ k, N' k → N k ∨ w.heap.size ≤ k) : DpM w' M' N' gq bx bT bD nms K := by
  obtain ⟨A, c, D, h⟩ := h
  exact ⟨A, c, D, h.gr g hS hN⟩
theorem DpB.name (h : DpB w M N gq bx bT bD nms K A c D) {i : Nat} (hi : i < nms.length) : ∃ ad s, A = some ad ∧ w.cell? (ad.add i) = some (.string s) ∧ s.data.toList = nms.getD i [] ∧ s.size ≤ maxLen ∧ ad.block < w.heap.size ∧ ¬ M ad.block := by
  have hne : nms.map strV ≠ [] := fun e => by
    have := congrArg List.length e
    simp at this
    subst this; cases hi
  obtain ⟨ad, rfl, hbl, hc⟩ := h.names hne
  have hx : nms[i]? = some nms[i] := List.getElem?_eq_getElem hi
  have hsz := h.short _ (List.getElem_mem hi)
  refine ⟨ad, ⟨nms[i].toArray⟩, rfl, hc i (strV nms[i]) (by rw [List.getElem?_map, hx]; rfl), ?_, by show nms[i].toArray.size ≤ _; simpa using hsz, hbl.1, hbl.2⟩
  rw [List.getD_eq_getElem?_getD, hx]; rfl
end
end Go.Proofs.YtlmcpkomjofcgaaGreatDoor
