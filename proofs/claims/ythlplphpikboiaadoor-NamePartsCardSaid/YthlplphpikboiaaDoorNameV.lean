/- Plain facts: bytes as units. -/
import Derived.Test.YthlplphpikboiaaDoorNameU
namespace Go.Proofs.YthlplphpikboiaaDoor

def two (a b : Nat) : Nat := a % 32 * 64 + b % 64
def three (a b c : Nat) : Nat := a % 16 * 4096 + b % 64 * 64 + c % 64
/-- The unit with which bytes begin, and how many bytes it takes: the first of them, the second and the third, if there are any. -/
def unit3 (a : Nat) (b c : Option UInt8) : Option (Nat × Nat) :=
  if 0 < a ∧ a < 128 then some (a, 1)
  else if a / 32 = 6 then match b with
    | some b => if b.toNat / 64 = 2 ∧ ¬ (0 < two a b.toNat ∧ two a b.toNat < 128) then some (two a b.toNat, 2) else none
    | none => none
  else if a / 16 = 14 then match b, c with
    | some b, some c => if b.toNat / 64 = 2 ∧ c.toNat / 64 = 2 ∧ 2048 ≤ three a b.toNat c.toNat then some (three a b.toNat c.toNat, 3) else none
    | _, _ => none
  else none
def unitsGo : Nat → List UInt16 → List UInt8 → Option (List UInt16)
  | _, us, [] => some us
  | 0, _, _ :: _ => none
  | f + 1, us, a :: r => match unit3 a.toNat r[0]? r[1]? with
    | none => none
    | some (v, n) => unitsGo f (us ++ [UInt16.ofNat v]) ((a :: r).drop n)
def unitsB (l : List UInt8) : Option (List UInt16) := unitsGo l.length [] l
def unitsV (l : List UInt8) : List UInt16 × Int := match unitsB l with
  | none => ([], 23)
  | some us => (us, 0)
theorem unitsV_no {l : List UInt8} (h : unitsB l = none) : unitsV l = ([], 23) := by unfold unitsV; rw [h]
theorem unitsV_yes {l : List UInt8} {us : List UInt16} (h : unitsB l = some us) : unitsV l = (us, 0) := by unfold unitsV; rw [h]
theorem unitsGo_nil (f : Nat) (us : List UInt16) : unitsGo f us [] = some us := by cases f <;> rfl
theorem unitsGo_drop {l : List UInt8} {i f : Nat} {us : List UInt16} {a : UInt8} (h : l[i]? = some a) :
    unitsGo (f + 1) us (l.drop i) = match unit3 a.toNat l[i + 1]? l[i + 2]? with
      | none => none
      | some (v, n) => unitsGo f (us ++ [UInt16.ofNat v]) (l.drop (i + n)) := by
  obtain ⟨hl, he⟩ := List.getElem?_eq_some_iff.1 h
  have hd : l.drop i = a :: l.drop (i + 1) := by rw [List.drop_eq_getElem_cons hl, he]
  have e1 : (l.drop (i + 1))[0]? = l[i + 1]? := by rw [List.getElem?_drop]
  have e2 : (l.drop (i + 1))[1]? = l[i + 2]? := by rw [List.getElem?_drop]
  rw [hd]
  show (match unit3 a.toNat (l.drop (i + 1))[0]? (l.drop (i + 1))[1]? with
      | none => none
      | some (v, n) => unitsGo f (us ++ [UInt16.ofNat v]) ((a :: l.drop (i + 1)).drop n)) = _
  rw [e1, e2, ← hd]
  simp only [List.drop_drop]
theorem unitsGo_no {l : List UInt8} {i f : Nat} {us : List UInt16} {a : UInt8} (h : l[i]? = some a) (h3 : unit3 a.toNat l[i + 1]? l[i + 2]? = none) : unitsGo f us (l.drop i) = none := by
  cases f with
  | zero =>
    obtain ⟨hl, he⟩ := List.getElem?_eq_some_iff.1 h
    rw [List.drop_eq_getElem_cons hl]; rfl
  | succ f => rw [unitsGo_drop h, h3]
theorem unitsGo_yes {l : List UInt8} {i f n : Nat} {v : Nat} {us : List UInt16} {a : UInt8} (h : l[i]? = some a) (hf : 0 < f) (h3 : unit3 a.toNat l[i + 1]? l[i + 2]? = some (v, n)) : unitsGo f us (l.drop i) = unitsGo (f - 1) (us ++ [UInt16.ofNat v]) (l.drop (i + n)) := by
  obtain ⟨g, rfl⟩ : ∃ g, f = g + 1 := ⟨f - 1, by omega⟩
  rw [unitsGo_drop h, h3]; rfl
theorem u16_and31 {v : Int} (h0 : 0 ≤ v) (h1 : v < 65536) : bits .and .u16 v 31 = v % 32 := bits_mask .u16 16 (by decide) wraps_u16 5 (by decide) v h0 h1
theorem u16_and15 {v : Int} (h0 : 0 ≤ v) (h1 : v < 65536) : bits .and .u16 v 15 = v % 16 := bits_mask .u16 16 (by decide) wraps_u16 4 (by decide) v h0 h1
theorem u16_or6 {x y : Int} (h0 : 0 ≤ x) (h1 : x < 65536) (hx : x % 64 = 0) (h2 : 0 ≤ y) (h3 : y < 64) : bits .or .u16 x y = x + y :=
  bits_join .u16 16 (by decide) wraps_u16 6 x y h0 hx h1 h2 h3 (by omega)
theorem u16_or12 {x y : Int} (h0 : 0 ≤ x) (h1 : x < 65536) (hx : x % 4096 = 0) (h2 : 0 ≤ y) (h3 : y < 4096) : bits .or .u16 x y = x + y :=
  bits_join .u16 16 (by decide) wraps_u16 12 x y h0 hx h1 h2 h3 (by omega)
theorem uVnat {v : Nat} (h : v < 65536) : (UInt16.ofNat v).toNat = v := by rw [UInt16.toNat_ofNat']; omega
theorem wrap_u16 (n : Int) : IntKind.u16.wrap n = n % 65536 := by simp [IntKind.wrap, IntKind.bits, IntKind.signed]
theorem two_bits {a b : Nat} (ha : a < 256) : bits .or .u16 (IntKind.u16.wrap (bits .and .u16 (a : Int) 31 * 64)) ((b : Int) % 64) = (two a b : Int) := by
  rw [u16_and31 (by omega) (by omega), wrap_u16, u16_or6 (by omega) (by omega) (by omega) (by omega) (by omega)]
  unfold two; omega
theorem three_bits {a b c : Nat} (ha : a < 256) : bits .or .u16 (bits .or .u16 (IntKind.u16.wrap (bits .and .u16 (a : Int) 15 * 4096)) ((b : Int) % 64 * 64)) ((c : Int) % 64) = (three a b c : Int) := by
  rw [u16_and15 (by omega) (by omega), wrap_u16, u16_or12 (x := (a : Int) % 16 * 4096 % 65536) (y := (b : Int) % 64 * 64) (by omega) (by omega) (by omega) (by omega) (by omega), u16_or6 (by omega) (by omega) (by omega) (by omega) (by omega)]
  unfold three; omega
theorem two_lt (a b : Nat) : two a b < 2048 := by unfold two; omega
theorem three_lt (a b c : Nat) : three a b c < 65536 := by unfold three; omega
section
variable {a : Nat} {b c : Option UInt8}
theorem unit3_one (h1 : 0 < a) (h2 : a < 128) : unit3 a b c = some (a, 1) := by unfold unit3; rw [if_pos ⟨h1, h2⟩]
theorem unit3_two {x : UInt8} (ha : a / 32 = 6) (hb : b = some x) (h : x.toNat / 64 = 2) (hv : ¬ (0 < two a x.toNat ∧ two a x.toNat < 128)) : unit3 a b c = some (two a x.toNat, 2) := by
  subst hb; unfold unit3; rw [if_neg (by omega), if_pos ha]; simp only; rw [if_pos ⟨h, hv⟩]
theorem unit3_two_no (ha : a / 32 = 6) (hb : ∀ x, b = some x → ¬ (x.toNat / 64 = 2 ∧ ¬ (0 < two a x.toNat ∧ two a x.toNat < 128))) : unit3 a b c = none := by
  unfold unit3; rw [if_neg (by omega), if_pos ha]
  cases b with
  | none => rfl
  | some x => simp only; rw [if_neg (hb x rfl)]
theorem unit3_three {x y : UInt8} (ha : a / 16 = 14) (hb : b = some x) (hc : c = some y) (h : x.toNat / 64 = 2) (h' : y.toNat / 64 = 2) (hv : 2048 ≤ three a x.toNat y.toNat) : unit3 a b c = some (three a x.toNat y.toNat, 3) := by
  subst hb; subst hc; unfold unit3; rw [if_neg (by omega), if_neg (by omega), if_pos ha]; simp only; rw [if_pos ⟨h, h', hv⟩]
theorem unit3_three_no (ha : a / 16 = 14) (hb : ∀ x y, b = some x → c = some y → ¬ (x.toNat / 64 = 2 ∧ y.toNat / 64 = 2 ∧ 2048 ≤ three a x.toNat y.toNat)) : unit3 a b c = none := by
  unfold unit3; rw [if_neg (by omega), if_neg (by omega), if_pos ha]
  cases b with
  | none => rfl
  | some x => cases c with
    | none => rfl
    | some y => simp only; rw [if_neg (hb x y rfl rfl)]
theorem unit3_other (h1 : ¬ (0 < a ∧ a < 128)) (h2 : ¬ a / 32 = 6) (h3 : ¬ a / 16 = 14) : unit3 a b c = none := by
  unfold unit3; rw [if_neg h1, if_neg h2, if_neg h3]
end
end Go.Proofs.YthlplphpikboiaaDoor
