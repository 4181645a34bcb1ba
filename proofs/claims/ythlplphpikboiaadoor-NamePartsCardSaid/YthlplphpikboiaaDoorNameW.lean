/- Plain facts: a unit's bytes are the bytes that it is read from. -/
import Derived.Test.YthlplphpikboiaaDoorNameV
namespace Go.Proofs.YthlplphpikboiaaDoor

theorem unit3_inv {a : Nat} {b c : Option UInt8} {v m : Nat} (h : unit3 a b c = some (v, m)) :
    (m = 1 ∧ v = a ∧ 0 < a ∧ a < 128) ∨ (m = 2 ∧ ∃ x, b = some x ∧ v = two a x.toNat ∧ a / 32 = 6 ∧ x.toNat / 64 = 2 ∧ ¬ (0 < v ∧ v < 128)) ∨ (m = 3 ∧ ∃ x y, b = some x ∧ c = some y ∧ v = three a x.toNat y.toNat ∧ a / 16 = 14 ∧ x.toNat / 64 = 2 ∧ y.toNat / 64 = 2 ∧ 2048 ≤ v) := by
  unfold unit3 at h
  split at h
  · simp at h; obtain ⟨rfl, rfl⟩ := h; exact .inl ⟨rfl, rfl, by omega, by omega⟩
  · split at h
    · split at h
      · split at h
        · simp at h; obtain ⟨rfl, rfl⟩ := h; exact .inr (.inl ⟨rfl, _, rfl, rfl, by omega, by omega, by omega⟩)
        · cases h
      · cases h
    · split at h
      · split at h
        · split at h
          · simp at h; obtain ⟨rfl, rfl⟩ := h; exact .inr (.inr ⟨rfl, _, _, rfl, rfl, rfl, by omega, by omega, by omega, by omega⟩)
          · cases h
        · cases h
      · cases h
theorem u8_of_eq {n : Nat} {a : UInt8} (hn : n < 256) : UInt8.ofNat n = a ↔ n = a.toNat := by
  rw [← UInt8.toNat_inj, UInt8.toNat_ofNat']; omega
theorem hit1 (a : UInt8) (b c : Option UInt8) : unitB (UInt16.ofNat a.toNat) = [a] ↔ unit3 a.toNat b c = some (a.toNat, 1) := by
  have ha := a.toNat_lt
  have hx : (UInt16.ofNat a.toNat).toNat = a.toNat := uVnat (by omega)
  constructor
  · intro h
    unfold unitB at h
    rw [hx] at h
    split at h
    · exact unit3_one (by omega) (by omega)
    · split at h <;> simp at h
  · intro h
    rcases unit3_inv h with ⟨_, _, h1, h2⟩ | ⟨h1, _⟩ | ⟨h1, _⟩
    · unfold unitB; rw [hx, if_pos ⟨h1, h2⟩]; simp
    · omega
    · omega
theorem hit2 (a b : UInt8) (c : Option UInt8) : unitB (UInt16.ofNat (two a.toNat b.toNat)) = [a, b] ↔ unit3 a.toNat (some b) c = some (two a.toNat b.toNat, 2) := by
  have ha := a.toNat_lt
  have hb := b.toNat_lt
  have hv := two_lt a.toNat b.toNat
  have hx : (UInt16.ofNat (two a.toNat b.toNat)).toNat = two a.toNat b.toNat := uVnat (by omega)
  constructor
  · intro h
    unfold unitB at h
    rw [hx] at h
    split at h
    · simp at h
    · simp only [List.cons.injEq, and_true] at h
      rw [u8_of_eq (by omega), u8_of_eq (by omega)] at h
      refine unit3_two ?_ rfl ?_ (by omega) <;> unfold two at h <;> omega
  · intro h
    rcases unit3_inv h with ⟨h1, _⟩ | ⟨_, x, hx1, _, h2, h3, h4⟩ | ⟨h1, _⟩
    · omega
    · injection hx1 with hx1; subst hx1
      unfold unitB; rw [hx, if_neg h4, if_pos hv]
      simp only [List.cons.injEq, and_true]
      rw [u8_of_eq (by omega), u8_of_eq (by omega)]
      unfold two; omega
    · omega
theorem hit3 (a b c : UInt8) : unitB (UInt16.ofNat (three a.toNat b.toNat c.toNat)) = [a, b, c] ↔ unit3 a.toNat (some b) (some c) = some (three a.toNat b.toNat c.toNat, 3) := by
  have ha := a.toNat_lt
  have hb := b.toNat_lt
  have hc := c.toNat_lt
  have hv := three_lt a.toNat b.toNat c.toNat
  have hx : (UInt16.ofNat (three a.toNat b.toNat c.toNat)).toNat = three a.toNat b.toNat c.toNat := uVnat (by omega)
  constructor
  · intro h
    unfold unitB at h
    rw [hx] at h
    split at h
    · simp at h
    · split at h
      · simp at h
      · simp only [List.cons.injEq, and_true] at h
        rw [u8_of_eq (by omega), u8_of_eq (by omega), u8_of_eq (by omega)] at h
        refine unit3_three ?_ rfl rfl ?_ ?_ (by omega) <;> unfold three at h <;> omega
  · intro h
    rcases unit3_inv h with ⟨h1, _⟩ | ⟨h1, _⟩ | ⟨_, x, y, hx1, hy1, _, h2, h3, h4, h5⟩
    · omega
    · omega
    · injection hx1 with hx1; subst hx1
      injection hy1 with hy1; subst hy1
      unfold unitB; rw [hx, if_neg (by omega), if_neg (by omega)]
      simp only [List.cons.injEq, and_true]
      rw [u8_of_eq (by omega), u8_of_eq (by omega), u8_of_eq (by omega)]
      unfold three; omega

/-- How far the search at one place has come: what is found, the units then. -/
def Found (l : List UInt8) (k : Nat) (us : List UInt16) (n fo : Nat) (us' : List UInt16) : Prop :=
  (fo = 0 ∧ us' = us ∧ ∀ a v m, l[k]? = some a → unit3 a.toNat l[k + 1]? l[k + 2]? = some (v, m) → n ≤ m) ∨
  (0 < fo ∧ fo < n ∧ ∃ a v, l[k]? = some a ∧ us' = us ++ [UInt16.ofNat v] ∧ unit3 a.toNat l[k + 1]? l[k + 2]? = some (v, fo))
theorem found_start (l : List UInt8) (k : Nat) (us : List UInt16) : Found l k us 1 0 us := .inl ⟨rfl, rfl, fun a v m _ h => by rcases unit3_inv h with ⟨h1, _⟩ | ⟨h1, _⟩ | ⟨h1, _⟩ <;> omega⟩
theorem Found.stay {l : List UInt8} {k n fo : Nat} {us us' : List UInt16} (h : Found l k us n fo us') (h0 : 0 < fo) : Found l k us (n + 1) fo us' := by
  rcases h with ⟨h1, _⟩ | ⟨h1, h2, h3⟩
  · omega
  · exact .inr ⟨h1, by omega, h3⟩
theorem Found.same {l : List UInt8} {k n : Nat} {us us' : List UInt16} (h : Found l k us n 0 us') : us' = us := by
  rcases h with ⟨_, h1, _⟩ | ⟨h1, _⟩
  · exact h1
  · omega
theorem Found.hit {l : List UInt8} {k n v : Nat} {us us' : List UInt16} {a : UInt8} (h : Found l k us n 0 us') (h0 : 0 < n) (ha : l[k]? = some a) (h3 : unit3 a.toNat l[k + 1]? l[k + 2]? = some (v, n)) : Found l k us (n + 1) n (us' ++ [UInt16.ofNat v]) :=
  .inr ⟨h0, by omega, a, v, ha, by rw [h.same], h3⟩
theorem Found.miss {l : List UInt8} {k n : Nat} {us us' : List UInt16} {a : UInt8} (h : Found l k us n 0 us') (ha : l[k]? = some a) (h3 : ∀ v, ¬ unit3 a.toNat l[k + 1]? l[k + 2]? = some (v, n)) : Found l k us (n + 1) 0 us' := by
  rcases h with ⟨_, h1, h2⟩ | ⟨h1, _⟩
  · refine .inl ⟨rfl, h1, fun b v m hb hv => ?_⟩
    have := h2 b v m hb hv
    rw [ha] at hb; injection hb with hb; subst hb
    rcases Nat.lt_or_ge n m with h4 | h4
    · omega
    · obtain rfl : n = m := by omega
      exact absurd hv (h3 v)
  · omega
/-- Nothing found: there is no unit there. -/
theorem Found.none {l : List UInt8} {k n : Nat} {us us' : List UInt16} {a : UInt8} (h : Found l k us n 0 us') (ha : l[k]? = some a) (hn : 3 < n ∨ l.length < k + n) : unit3 a.toNat l[k + 1]? l[k + 2]? = Option.none := by
  rcases h with ⟨_, _, h2⟩ | ⟨h1, _⟩
  · cases h3 : unit3 a.toNat l[k + 1]? l[k + 2]? with
    | none => rfl
    | some p =>
      obtain ⟨v, m⟩ := p
      have h4 := h2 a v m ha h3
      have hk := (List.getElem?_eq_some_iff.1 ha).1
      rcases unit3_inv h3 with ⟨h5, _⟩ | ⟨h5, x, hx, _⟩ | ⟨h5, x, y, hx, hy, _⟩
      · omega
      · have := (List.getElem?_eq_some_iff.1 hx).1; omega
      · have := (List.getElem?_eq_some_iff.1 hy).1; omega
  · omega
theorem Found.yes {l : List UInt8} {k n fo f : Nat} {us us' : List UInt16} (h : Found l k us n fo us') (h0 : 0 < fo) (hf : 0 < f) : unitsGo f us (l.drop k) = unitsGo (f - 1) us' (l.drop (k + fo)) := by
  rcases h with ⟨h1, _⟩ | ⟨_, _, a, v, ha, hu, h3⟩
  · omega
  · rw [unitsGo_yes ha hf h3, hu]
theorem textB_one (x : UInt16) : textB [x] = unitB x := by simp [textB]
end Go.Proofs.YthlplphpikboiaaDoor
