/- The document's path: what a look leaves. -/
import Derived.Test.YtlmcpkomjofcgaaGreatDoorQvDpA
namespace Go.Proofs.YtlmcpkomjofcgaaGreatDoor
open Go.RowKit
theorem Rx.rd10 {w : World} {X : Nat → Prop} {B : Nat} {A : Option Addr} {xs : List Value} (h : Rx w X A xs) (hX : ∀ k, X k → k < B) : Rd w B A xs := fun hn => by
  obtain ⟨ad, e, hx, hc⟩ := h hn
  exact ⟨ad, e, hX _ hx, hc⟩
/-- A look in the i-th file: what it answers, whether that is to be told, and what is left. -/
def lookP (nms : List (List UInt8)) (nm : List UInt8) (F : FS) (K : Kn) (i : Nat) : Rz (List UInt8) × Bool × FS × Kn :=
  match learnP nms F K i with
  | (k, F', K') => if k ≠ 0 then (.err k, true, F', K') else match recOf K' i nm with
    | none => (.err 21, false, F', K')
    | some x => ((takeP nms F' i x).1, true, (takeP nms F' i x).2, K')
def LkP (bx bT bD k : Nat) : Prop := k = bx ∨ k = bT ∨ k = bD
def LkA (R : Rz (List UInt8)) (q : Bool) (B : Nat) (e : Ending) (w' : World) : Prop := match R with
  | .ok l => ∃ v, e = .returned (.tuple #[v, .int .i64 0, .bool q]) ∧ OwB w' B 5 v l ∧ l.length ≤ 32768
  | .err k => e = .returned (.tuple #[.slice none 0 0, .int .i64 k, .bool q]) ∧ k ≠ 0
def LookP (w : World) (M N : Nat → Prop) (gq bx bT bD : Nat) (nms : List (List UInt8)) (R : Rz (List UInt8) × Bool × FS × Kn) (e : Ending) (w' : World) : Prop :=
  LkA R.1 R.2.1 w.heap.size e w' ∧ DfM w' M N bx R.2.2.1 ∧ DpM w' M N gq bx bT bD nms R.2.2.2 ∧ Ch w w' (LkP bx bT bD)
theorem LkA.bad {R : Rz (List UInt8)} {q : Bool} {B : Nat} {w' : World} {k : Int} (h : R = .err k) (hk : k ≠ 0) : LkA R q B (.returned (.tuple #[.slice none 0 0, .int .i64 k, .bool q])) w' := by subst h; exact ⟨rfl, hk⟩
theorem LkA.unp {R : Rz (List UInt8)} {B : Nat} {w w' : World} {v : Value} {k : Int} (h : UnpPost R w (.returned (.tuple #[v, .int .i64 k])) w') (hB : B ≤ w.heap.size) : LkA R true B (.returned (.tuple #[v, .int .i64 k, .bool true])) w' := by
  cases R with
  | err j =>
    obtain ⟨_, he, hk⟩ := h
    injection he with he
    simp only [Value.tuple.injEq, Array.mk.injEq, List.cons.injEq, Value.int.injEq, and_true, true_and] at he
    obtain ⟨rfl, rfl⟩ := he
    exact ⟨rfl, hk⟩
  | ok l =>
    obtain ⟨_, u, he, ho, hl⟩ := h
    injection he with he
    simp only [Value.tuple.injEq, Array.mk.injEq, List.cons.injEq, Value.int.injEq, and_true, true_and] at he
    obtain ⟨rfl, rfl⟩ := he
    exact ⟨v, rfl, OwL.low ho hB, hl⟩
theorem find_no {l : List (Rec × Nat)} {nm : List UInt8} {t : Nat} {x : Rec × Nat} (h : (l.take t).find? (fun y => decide (y.1.name = nm)) = none) (hx : l[t]? = some x) (hn : ¬ x.1.name = nm) : (l.take (t + 1)).find? (fun y => decide (y.1.name = nm)) = none := by
  rw [List.take_add_one, hx, List.find?_append, h]
  simp [hn]
theorem find_yes {l : List (Rec × Nat)} {nm : List UInt8} {t : Nat} {x : Rec × Nat} (h : (l.take t).find? (fun y => decide (y.1.name = nm)) = none) (hx : l[t]? = some x) (hn : x.1.name = nm) : l.find? (fun y => decide (y.1.name = nm)) = some x := by
  obtain ⟨h1, h2⟩ := List.getElem?_eq_some_iff.1 hx
  have hs : l = l.take t ++ x :: l.drop (t + 1) := by rw [← h2, ← List.drop_eq_getElem_cons h1, List.take_append_drop]
  rw [hs, List.find?_append, h]
  simp [hn]
section
variable {w w' : World} {M N : Nat → Prop} {gq bx0 bT bD : Nat} {nms : List (List UInt8)} {K : Kn} {A : Option Addr} {c : Nat} {D : Nat → Value} {F F' : FS}
/-- The files turned. -/
theorem DpB.file (h : DpB w M N gq bx0 bT bD nms K A c D) (hN : N bx0) (hs : ∀ k, N k → M k) (cc : Ch w w' (OneK bx0)) : DpB w' M N gq bx0 bT bD nms K A c D :=
  h.gr (Gr.of_ch cc (fun k e => by rw [show k = bx0 from e]; exact hs _ hN) h.all) (fun k e => by
    rw [show k = bx0 from e]
    exact ⟨fun e => h.apart.1 (e ▸ hN), fun e => h.apart.2.1 (e ▸ hN), fun e => h.apart.2.2 (e ▸ hN)⟩) (fun _ e => .inl e)
/-- A directory is learned. -/
theorem DpB.learned (h : DpB w M N gq bx0 bT bD nms K A c D) (hf : DfM w M N bx0 F) {i : Nat} (hi : i < nms.length) {l : List (Rec × Nat)} {A2 : Option Addr} {n2 c2 : Nat} (hn : l.length = n2) (hr : Rx w (fun k => k < w.heap.size ∧ ¬ M k) A2 (l.flatMap recL)) (hg : ∃ b, dirA b = .ok l) :
    DpB ((w.setCell ⟨bT, i, none⟩ (.bool true)).setCell ⟨bD, i, none⟩ (.slice A2 n2 c2)) M N gq bx0 bT bD nms (K.set i l) A c (fun q => if q = i then .slice A2 n2 c2 else D q) ∧ DfM ((w.setCell ⟨bT, i, none⟩ (.bool true)).setCell ⟨bD, i, none⟩ (.slice A2 n2 c2)) M N bx0 F ∧ Ch w ((w.setCell ⟨bT, i, none⟩ (.bool true)).setCell ⟨bD, i, none⟩ (.slice A2 n2 c2)) (TwoK bT bD) := by
  have cc : Ch w ((w.setCell ⟨bT, i, none⟩ (.bool true)).setCell ⟨bD, i, none⟩ (.slice A2 n2 c2)) (TwoK bT bD) := (Ch.setCell (S := TwoK bT bD) (p := ⟨bT, i, none⟩) (Ch.refl w) (fun _ => .inl rfl) _).setCell (p := ⟨bD, i, none⟩) (fun _ => .inr rfl) _
  have hG : Gr w ((w.setCell ⟨bT, i, none⟩ (.bool true)).setCell ⟨bD, i, none⟩ (.slice A2 n2 c2)) M M (TwoK bT bD) := Gr.of_ch cc (fun k e => by rcases e with e | e <;> rw [e]; exact h.own.2.1; exact h.own.2.2) h.all
  have h1 := (h.there.set i (.bool true)).far (p := ⟨bD, i, none⟩) h.ne.2.2 (.slice A2 n2 c2)
  have h2 := (h.dirs.far (p := ⟨bT, i, none⟩) (fun e => h.ne.2.2 e.symm) (.bool true)).set i (.slice A2 n2 c2)
  refine ⟨⟨h.box.ch cc (fun e => by rcases e with e | e; exact h.ne.1 e; exact h.ne.2.1 e), h.cap, hG.rx h.names, h1.ext (fun q _ => ?_), h2.ext (fun q _ => rfl), fun q l2 hq => ?_, h.own, h.apart, h.ne, fun q l2 hq => ?_, h.len, h.short, hG.all⟩, hf.gr hG (fun k e hk => by rcases e with e | e <;> rw [e] at hk; exact h.apart.2.1 hk; exact h.apart.2.2 hk), cc⟩
  · by_cases e : q = i
    · subst e; rw [if_pos rfl, set_same]; rfl
    · rw [if_neg e, set_other e]
  · by_cases e : q = i
    · subst e
      rw [set_same] at hq
      injection hq with hq
      subst hq
      exact ⟨A2, c2, by rw [if_pos rfl, hn], hG.rx hr⟩
    · rw [set_other e] at hq
      obtain ⟨A3, c3, e3, hr3⟩ := h.dir q l2 hq
      exact ⟨A3, c3, by rw [if_neg e, e3], hG.rx hr3⟩
  · by_cases e : q = i
    · subst e
      rw [set_same] at hq
      injection hq with hq
      subst hq
      exact hg
    · rw [set_other e] at hq
      exact h.good q l2 hq
/-- A row of records of the call's own stands. -/
theorem rx_own {B : Nat} {e : TypeId} {v : Value} {l : List (Rec × Nat)} (h : OwS recL 7 w B e v l) (hM : ∀ k, M k → k < B) : ∃ A c, v = .slice A l.length c ∧ l.length ≤ c ∧ Rx w (fun k => k < w.heap.size ∧ ¬ M k) A (l.flatMap recL) := by
  obtain ⟨A, c, rfl, hr, hc⟩ := h.rd
  refine ⟨A, c, rfl, hc, fun hn => ?_⟩
  obtain ⟨ad, e7, hb, hcl⟩ := hr hn
  subst e7
  have h3 := (World.ownsRow.lt h ad.block rfl).1
  exact ⟨ad, rfl, ⟨hb, fun e => by have := hM _ e; omega⟩, hcl⟩
end
end Go.Proofs.YtlmcpkomjofcgaaGreatDoor
