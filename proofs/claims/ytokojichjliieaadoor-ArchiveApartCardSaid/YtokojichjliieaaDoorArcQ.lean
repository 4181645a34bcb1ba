/- What a directory that is accepted is like; entries that lie on one another, by their order. -/
import Derived.Test.YtokojichjliieaaDoorArcP
namespace Go.Proofs.YtokojichjliieaaDoor

theorem overA_comm (x y : Rec × Nat) : overA x y = overA y x := by unfold overA; exact decide_eq_decide.2 And.comm
theorem anyOver_iff (l : List (Rec × Nat)) : anyOver l = false ↔ l.Pairwise (fun x y => overA x y = false) := by
  induction l with
  | nil => simp [anyOver]
  | cons x r ih =>
    rw [anyOver, Bool.or_eq_false_iff, List.pairwise_cons, ih, List.any_eq_false]
    simp
/-- Do neighbours lie on one another? -/
def adjA : List (Rec × Nat) → Bool
  | x :: y :: r => decide (y.1.head < x.2 + x.1.packed) || adjA (y :: r)
  | _ => false
theorem adjA_pair {s : List (Rec × Nat)} (hs : s.Pairwise (fun x y => x.1.head ≤ y.1.head)) (hw : ∀ x ∈ s, x.1.head < x.2 + x.1.packed) : adjA s = false ↔ s.Pairwise (fun x y => overA x y = false) := by
  induction s with
  | nil => simp [adjA]
  | cons x r ih =>
    cases r with
    | nil => simp [adjA]
    | cons y r =>
      rw [List.pairwise_cons] at hs
      have ih := ih hs.2 (fun z hz => hw z (List.mem_cons_of_mem _ hz))
      rw [adjA, Bool.or_eq_false_iff, ih, List.pairwise_cons (a := x)]
      have hxy := hs.1 y List.mem_cons_self
      have hwy := hw y (List.mem_cons_of_mem _ List.mem_cons_self)
      constructor
      · rintro ⟨h1, h2⟩
        refine ⟨fun z hz => ?_, h2⟩
        have h1 := of_decide_eq_false h1
        unfold overA
        rw [decide_eq_false_iff_not]
        have hyz : y.1.head ≤ z.1.head := by
          rcases List.mem_cons.1 hz with e | e
          · rw [e]; exact Nat.le_refl _
          · exact (List.pairwise_cons.1 hs.2).1 z e
        omega
      · rintro ⟨h1, h2⟩
        refine ⟨?_, h2⟩
        have := h1 y List.mem_cons_self
        unfold overA at this
        rw [decide_eq_false_iff_not] at this ⊢
        omega
theorem over_sorted {l s : List (Rec × Nat)} (hp : s.Perm l) (hs : s.Pairwise (fun x y => x.1.head ≤ y.1.head)) (hw : ∀ x ∈ l, x.1.head < x.2 + x.1.packed) : adjA s = anyOver l := by
  have h1 := adjA_pair hs (fun x hx => hw x (hp.mem_iff.1 hx))
  have h2 := anyOver_iff l
  have h3 : s.Pairwise (fun x y => overA x y = false) ↔ l.Pairwise (fun x y => overA x y = false) := hp.pairwise_iff (fun {x y} h => by rw [overA_comm]; exact h)
  cases ha : adjA s with
  | false => rw [h2.2 (h3.1 (h1.1 ha))]
  | true =>
    cases hb : anyOver l with
    | true => rfl
    | false => rw [h1.2 (h3.2 (h2.1 hb))] at ha; cases ha
theorem recA_ok {b : List UInt8} {p border q : Nat} {seen : List (List UInt8)} {r : Rec} (h : recA b p border seen = .ok (r, q)) :
    p + 46 ≤ q ∧ q ≤ border ∧ nameA r.name = true ∧ r.name ∉ seen ∧ (r.method = 0 ∨ r.method = 8) := by
  unfold recA at h
  split at h
  · cases h
  · rename_i h1
    split at h
    · cases h
    · rename_i h2
      split at h
      · cases h
      · rename_i h3
        split at h
        · cases h
        · rename_i h4
          split at h
          · cases h
          · rename_i h5
            injection h with h
            injection h with h6 h7
            subst h6
            refine ⟨by omega, by omega, by simpa using h4, h5, ?_⟩
            show numA b (p + 10) 2 = 0 ∨ numA b (p + 10) 2 = 8
            omega
structure CenOk (border : Nat) (p : Nat) (l : List (Rec × Nat)) : Prop where
  names : (l.map (·.1.name)).Nodup
  good : ∀ x ∈ l, nameA x.1.name = true ∧ (x.1.method = 0 ∨ x.1.method = 8) ∧ p ≤ x.2 ∧ x.2 + 46 ≤ border
theorem centA_ok {b : List UInt8} {border p0 : Nat} : ∀ n p acc l q, p0 ≤ p → CenOk border p0 acc → centA b border n p acc = .ok (l, q) → CenOk border p0 l ∧ l.length = acc.length + n ∧ p ≤ q ∧ (∃ t, l = acc ++ t) := by
  intro n
  induction n with
  | zero =>
    intro p acc l q _ hacc h
    rw [centA] at h
    injection h with h
    injection h with h1 h2
    subst h1
    exact ⟨hacc, rfl, by omega, [], by simp⟩
  | succ n ih =>
    intro p acc l q hp hacc h
    rw [centA] at h
    cases hr : recA b p border (acc.map (·.1.name)) with
    | err e => rw [hr] at h; cases h
    | ok x =>
      rw [hr] at h
      obtain ⟨r, q1⟩ := x
      have h : centA b border n q1 (acc ++ [(r, p)]) = .ok (l, q) := h
      obtain ⟨a1, a2, a3, a4, a5⟩ := recA_ok hr
      obtain ⟨h1, h2, h3, t, h4⟩ := ih q1 (acc ++ [(r, p)]) l q (by omega) ⟨by
        rw [List.map_append, List.nodup_append]
        refine ⟨hacc.names, by simp, ?_⟩
        intro x hx y hy e
        simp at hy
        subst e
        subst hy
        exact a4 hx, fun x hx => by
          rcases List.mem_append.1 hx with h | h
          · exact hacc.good x h
          · simp at h; subst h; exact ⟨a3, a5, hp, by show p + 46 ≤ border; omega⟩⟩ h
      refine ⟨h1, by rw [h2, List.length_append]; simp; omega, by omega, (r, p) :: t, by rw [h4]; simp⟩
theorem localA_ok {b : List UInt8} {dir a : Nat} {x : Rec × Nat} (h : localA b dir x = some a) : x.1.head + 30 + x.1.name.length ≤ a ∧ a + x.1.packed ≤ dir ∧ (b.drop (x.1.head + 30)).take x.1.name.length = x.1.name := by
  unfold localA at h
  split at h
  · cases h
  · split at h
    · cases h
    · rename_i h2
      injection h with h
      refine ⟨by omega, by omega, ?_⟩
      exact Decidable.byContradiction fun hn => h2 (.inr (.inr hn))
theorem localsA_ok {b : List UInt8} {dir : Nat} : ∀ (l r : List (Rec × Nat)), localsA b dir l = some r → r.map (·.1) = l.map (·.1) ∧ ∀ x ∈ r, x.1.head + 30 + x.1.name.length ≤ x.2 ∧ x.2 + x.1.packed ≤ dir ∧ (b.drop (x.1.head + 30)).take x.1.name.length = x.1.name := by
  intro l
  induction l with
  | nil => intro r h; injection h with h; subst h; simp
  | cons y l ih =>
    intro r h
    rw [localsA] at h
    cases h1 : localA b dir y with
    | none => rw [h1] at h; cases h
    | some a =>
      cases h2 : localsA b dir l with
      | none => rw [h1, h2] at h; cases h
      | some t =>
        rw [h1, h2] at h
        injection h with h
        subst h
        obtain ⟨i1, i2⟩ := ih t h2
        refine ⟨by simp [i1], fun x hx => ?_⟩
        rcases List.mem_cons.1 hx with e | e
        · subst e; exact localA_ok (x := y) h1
        · exact i2 x e
theorem endP_some {b : List UInt8} {p : Nat} (h : endP b = some p) : p + 22 ≤ b.length ∧ endA b p = true ∧ ∀ q, q + 22 ≤ b.length → endA b q = true → q = p := by
  unfold endP at h
  cases he : endsA b with
  | nil => rw [he] at h; cases h
  | cons x r =>
    cases r with
    | cons y r => rw [he] at h; cases h
    | nil =>
      rw [he] at h
      injection h with h
      subst h
      have hm : ∀ q, q ∈ endsA b ↔ q + 22 ≤ b.length ∧ endA b q = true := fun q => by
        unfold endsA
        rw [List.mem_filter, List.mem_range]
        constructor
        · rintro ⟨h1, h2⟩; exact ⟨by omega, h2⟩
        · rintro ⟨h1, h2⟩; exact ⟨by omega, h2⟩
      have h0 := (hm x).1 (by rw [he]; simp)
      refine ⟨h0.1, h0.2, fun q h1 h2 => ?_⟩
      have := (hm q).2 ⟨h1, h2⟩
      rw [he] at this
      simpa using this
/-- What is known of a directory that is accepted. -/
structure DirOk (b : List UInt8) (p dir : Nat) (l : List (Rec × Nat)) : Prop where
  fin : endP b = some p
  len : l.length ≤ 64
  nums : numA b (p + 4) 4 = 0 ∧ numA b (p + 10) 2 = numA b (p + 8) 2 ∧ numA b (p + 8) 2 = l.length ∧ numA b (p + 16) 4 = dir ∧ dir + numA b (p + 12) 4 = p
  book : bookA b dir p l.length = .ok l
  names : (l.map (·.1.name)).Nodup
  good : ∀ x ∈ l, nameA x.1.name = true ∧ (x.1.method = 0 ∨ x.1.method = 8) ∧ x.1.head + 30 + x.1.name.length ≤ x.2 ∧ x.2 + x.1.packed ≤ dir ∧ (b.drop (x.1.head + 30)).take x.1.name.length = x.1.name
  apart : anyOver l = false
theorem bookA_ok {b : List UInt8} {dir p n : Nat} {l : List (Rec × Nat)} (h : bookA b dir p n = .ok l) : l.length = n ∧ (l.map (·.1.name)).Nodup ∧
    (∀ x ∈ l, nameA x.1.name = true ∧ (x.1.method = 0 ∨ x.1.method = 8) ∧ x.1.head + 30 + x.1.name.length ≤ x.2 ∧ x.2 + x.1.packed ≤ dir ∧ (b.drop (x.1.head + 30)).take x.1.name.length = x.1.name) ∧ anyOver l = false := by
  unfold bookA at h
  cases hc : centA b p n dir [] with
  | err e => rw [hc] at h; cases h
  | ok x =>
    rw [hc] at h
    obtain ⟨t, q⟩ := x
    have h : (if q ≠ p then Rz.err 11 else match localsA b dir t with
      | none => .err 15
      | some l => if anyOver l = true then .err 16 else .ok l) = .ok l := h
    obtain ⟨c1, c2, c3, _⟩ := centA_ok (p0 := dir) n dir [] t q (Nat.le_refl _) ⟨by simp, by simp⟩ hc
    split at h
    · cases h
    · cases hl : localsA b dir t with
      | none => rw [hl] at h; cases h
      | some r =>
        rw [hl] at h
        have h : (if anyOver r = true then Rz.err 16 else .ok r) = .ok l := h
        split at h
        · cases h
        · rename_i ho
          injection h with h
          subst h
          obtain ⟨l1, l2⟩ := localsA_ok t r hl
          have hlen : r.length = t.length := by have := congrArg List.length l1; simpa using this
          have hnm : r.map (·.1.name) = t.map (·.1.name) := by
            have := congrArg (List.map Rec.name) l1
            rw [List.map_map, List.map_map] at this
            exact this
          refine ⟨by rw [hlen, c2]; simp, by rw [hnm]; exact c1.names, fun x hx => ?_, by simpa using ho⟩
          have hx1 : x.1 ∈ t.map (·.1) := by rw [← l1]; exact List.mem_map_of_mem hx
          obtain ⟨y, hy, e⟩ := List.mem_map.1 hx1
          have hg := c1.good y hy
          rw [e] at hg
          exact ⟨hg.1, hg.2.1, l2 x hx⟩
theorem dirA_ok {b : List UInt8} {l : List (Rec × Nat)} (h : dirA b = .ok l) : b.length ≤ 65536 ∧ ∃ p dir, DirOk b p dir l := by
  unfold dirA at h
  split at h
  · cases h
  · rename_i h64
    cases he : endP b with
    | none => rw [he] at h; cases h
    | some p =>
      rw [he] at h
      have h : (if numA b (p + 4) 4 ≠ 0 ∨ numA b (p + 10) 2 ≠ numA b (p + 8) 2 ∨ 64 < numA b (p + 8) 2 ∨ numA b (p + 16) 4 + numA b (p + 12) 4 ≠ p then Rz.err 10
        else bookA b (numA b (p + 16) 4) p (numA b (p + 8) 2)) = .ok l := h
      split at h
      · cases h
      · rename_i hn
        obtain ⟨b1, b2, b3, b4⟩ := bookA_ok h
        exact ⟨by omega, p, numA b (p + 16) 4, ⟨he, by omega, ⟨by omega, by omega, b1.symm, rfl, by omega⟩, by rw [b1]; exact h, b2, b3, b4⟩⟩
theorem endA_eq {b c : List UInt8} {k p : Nat} (hlen : b.length = c.length) (h : ∀ i, k ≤ i → b[i]? = c[i]?) (hp : k ≤ p) : endA b p = endA c p := by
  unfold endA
  rw [signA_eq (b := b) (c := c) (fun i h1 _ => h i (by omega)), getD_numA (b := b) (c := c) (p := p + 20) (fun i h1 _ => h i (by omega)), hlen]
/-- A byte ahead of all entries that is another one. -/
theorem dirA_turn {b c : List UInt8} {k : Nat} (hlen : b.length = c.length) (h : ∀ i, k ≤ i → b[i]? = c[i]?) {l : List (Rec × Nat)} (hb : dirA b = .ok l) (hk : ∀ x ∈ l, k ≤ x.1.head) (hne : l ≠ []) :
    (endP c = none → dirA c = .err 9) ∧ (∀ p, endP c = some p → dirA c = .ok l) := by
  obtain ⟨h64, p, dir, D⟩ := dirA_ok hb
  obtain ⟨x0, hx0⟩ := List.exists_mem_of_ne_nil l hne
  have hg := D.good x0 hx0
  have hk0 := hk x0 hx0
  obtain ⟨n1, n2, n3, n4, n5⟩ := D.nums
  obtain ⟨e1, e2, e3⟩ := endP_some D.fin
  refine ⟨fun hn => by unfold dirA; rw [if_neg (by omega), hn], fun q hq => ?_⟩
  obtain ⟨f1, f2, f3⟩ := endP_some hq
  have hqp : p = q := f3 p (by omega) (by rw [← endA_eq hlen h (by omega)]; exact e2)
  subst hqp
  have nm : ∀ j m, numA c (p + j) m = numA b (p + j) m := fun j m => (getD_numA fun i h1 _ => h i (by omega)).symm
  have key : bookA c dir p l.length = bookA b dir p l.length := by
    have hbk := D.book
    unfold bookA at hbk ⊢
    rw [← centA_eq (b := b) (c := c) (border := p) h l.length dir [] (by omega)]
    cases hc : centA b p l.length dir [] with
    | err e => rfl
    | ok x =>
      obtain ⟨t, qq⟩ := x
      rw [hc] at hbk
      show (if qq ≠ p then Rz.err 11 else _) = (if qq ≠ p then Rz.err 11 else _)
      have hbk : (if qq ≠ p then Rz.err 11 else match localsA b dir t with
        | none => .err 15
        | some l => if anyOver l = true then .err 16 else .ok l) = .ok l := hbk
      have hloc : localsA c dir t = localsA b dir t := by
        obtain ⟨c1, _, _, _⟩ := centA_ok (p0 := dir) l.length dir [] t qq (Nat.le_refl _) ⟨by simp, by simp⟩ hc
        split at hbk
        · cases hbk
        · cases hl : localsA b dir t with
          | none => rw [hl] at hbk; cases hbk
          | some r =>
            rw [hl] at hbk
            have hbk : (if anyOver r = true then Rz.err 16 else .ok r) = .ok l := hbk
            split at hbk
            · cases hbk
            · injection hbk with hbk
              subst hbk
              rw [← hl]
              have hheads : ∀ y ∈ t, k ≤ y.1.head := fun y hy => by
                have l1 := (localsA_ok t r hl).1
                have : y.1 ∈ r.map (·.1) := by rw [l1]; exact List.mem_map_of_mem hy
                obtain ⟨z, hz, e⟩ := List.mem_map.1 this
                rw [← e]; exact hk z hz
              have hpl : ∀ y ∈ t, k ≤ y.2 := fun y hy => by have := (c1.good y hy).2.2.1; omega
              clear hl hbk c1 hc hk hne hb hx0 hg hk0
              have hgen : ∀ t : List (Rec × Nat), (∀ y ∈ t, k ≤ y.1.head) → (∀ y ∈ t, k ≤ y.2) → localsA c dir t = localsA b dir t := by
               intro t
               induction t with
               | nil => intro _ _; rfl
               | cons y t ih =>
                intro hh hp
                rw [localsA, localsA, ← localA_eq h (hh y List.mem_cons_self) (hp y List.mem_cons_self), ih (fun z hz => hh z (List.mem_cons_of_mem _ hz)) (fun z hz => hp z (List.mem_cons_of_mem _ hz))]
              exact hgen t hheads hpl
      rw [hloc]
  unfold dirA
  rw [if_neg (by omega), hq]
  show (if _ then _ else bookA c (numA c (p + 16) 4) p (numA c (p + 8) 2)) = _
  have hl64 := D.len
  rw [nm, nm, nm, nm, nm, if_neg (by omega), n4, n3, key]
  exact D.book
end Go.Proofs.YtokojichjliieaaDoor
