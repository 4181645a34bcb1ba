/- The directory of an archive, in plain numbers. -/
import Derived.Test.YtokojichjliieaaDoorOctP
import Derived.Test.YtokojichjliieaaDoorInfP
import Derived.Test.YtokojichjliieaaDoorManS
namespace Go.Proofs.YtokojichjliieaaDoor

def numA (b : List UInt8) (p n : Nat) : Nat := leN ((b.drop p).take n)
def signA (b : List UInt8) (p : Nat) (x y : UInt8) : Bool := decide (b.getD p 0 = 80 ∧ b.getD (p + 1) 0 = 75 ∧ b.getD (p + 2) 0 = x ∧ b.getD (p + 3) 0 = y)
/-- Does the end record stand at p? -/
def endA (b : List UInt8) (p : Nat) : Bool := signA b p 5 6 && decide (numA b (p + 20) 2 = b.length - p - 22)
def endsA (b : List UInt8) : List Nat := (List.range (b.length - 21)).filter (endA b)
def endP (b : List UInt8) : Option Nat := match endsA b with
  | [p] => some p
  | _ => none
/-- Names: cut at the slashes. -/
def partOk (p : List UInt8) : Bool := !(p == [46]) && !(p == [46, 46])
def partsOk : List (List UInt8) → Bool
  | [] => true
  | [p] => partOk p
  | p :: r => partOk p && !p.isEmpty && partsOk r
def nameA (s : List UInt8) : Bool := !s.isEmpty && decide (s.length ≤ 64) && !s.contains 0 && !s.contains 92 && (match cutL 47 s with
  | [] => false
  | p :: r => !p.isEmpty && partsOk (p :: r))
structure Rec where
  name : List UInt8
  method : Nat
  packed : Nat
  size : Nat
  sum : Nat
  head : Nat
deriving DecidableEq
/-- What of the flags is not left aside. -/
def flagsA (v : Nat) : Nat := v - 2 * (v / 2 % 2) - 4 * (v / 4 % 2) - 2048 * (v / 2048 % 2)
/-- One central record, and the place behind it. -/
def recA (b : List UInt8) (p border : Nat) (seen : List (List UInt8)) : Rz (Rec × Nat) :=
  if border < p + 46 ∨ signA b p 1 2 = false then .err 11
  else if border < p + 46 + numA b (p + 28) 2 + numA b (p + 30) 2 + numA b (p + 32) 2 ∨ numA b (p + 34) 2 ≠ 0 then .err 11
  else if 20 < numA b (p + 6) 2 ∨ flagsA (numA b (p + 8) 2) ≠ 0 ∨ (numA b (p + 10) 2 ≠ 0 ∧ numA b (p + 10) 2 ≠ 8) then .err 12
  else if nameA ((b.drop (p + 46)).take (numA b (p + 28) 2)) = false then .err 13
  else if ((b.drop (p + 46)).take (numA b (p + 28) 2)) ∈ seen then .err 14
  else .ok (⟨(b.drop (p + 46)).take (numA b (p + 28) 2), numA b (p + 10) 2, numA b (p + 20) 4, numA b (p + 24) 4, numA b (p + 16) 4, numA b (p + 42) 4⟩, p + 46 + numA b (p + 28) 2 + numA b (p + 30) 2 + numA b (p + 32) 2)
/-- The records behind those that were read. -/
def centA (b : List UInt8) (border : Nat) : Nat → Nat → List (Rec × Nat) → Rz (List (Rec × Nat) × Nat)
  | 0, p, acc => .ok (acc, p)
  | n + 1, p, acc => (recA b p border (acc.map (·.1.name))).bind fun x => centA b border n x.2 (acc ++ [(x.1, p)])
/-- Where the packed bytes begin. -/
def localA (b : List UInt8) (dir : Nat) (x : Rec × Nat) : Option Nat :=
  if dir < x.1.head + 30 ∨ signA b x.1.head 3 4 = false ∨ (b.drop (x.1.head + 4)).take 24 ≠ (b.drop (x.2 + 6)).take 24 then none
  else if dir < x.1.head + 30 + x.1.name.length + numA b (x.1.head + 28) 2 ∨ dir < x.1.head + 30 + x.1.name.length + numA b (x.1.head + 28) 2 + x.1.packed ∨ (b.drop (x.1.head + 30)).take x.1.name.length ≠ x.1.name then none
  else some (x.1.head + 30 + x.1.name.length + numA b (x.1.head + 28) 2)
def localsA (b : List UInt8) (dir : Nat) : List (Rec × Nat) → Option (List (Rec × Nat))
  | [] => some []
  | x :: r => match localA b dir x, localsA b dir r with
    | some a, some l => some ((x.1, a) :: l)
    | _, _ => none
/-- Do two entries lie on one another? -/
def overA (x y : Rec × Nat) : Bool := decide (x.1.head < y.2 + y.1.packed ∧ y.1.head < x.2 + x.1.packed)
def anyOver : List (Rec × Nat) → Bool
  | [] => false
  | x :: r => r.any (overA x) || anyOver r
/-- All entries, each with the place of its bytes; n entries, the directory from dir to p. -/
def bookA (b : List UInt8) (dir p n : Nat) : Rz (List (Rec × Nat)) :=
  (centA b p n dir []).bind fun x => if x.2 ≠ p then .err 11 else match localsA b dir x.1 with
    | none => .err 15
    | some l => if anyOver l = true then .err 16 else .ok l
def dirA (b : List UInt8) : Rz (List (Rec × Nat)) :=
  if 65536 < b.length then .err 8
  else match endP b with
    | none => .err 9
    | some p => if numA b (p + 4) 4 ≠ 0 ∨ numA b (p + 10) 2 ≠ numA b (p + 8) 2 ∨ 64 < numA b (p + 8) 2 ∨ numA b (p + 16) 4 + numA b (p + 12) 4 ≠ p then .err 10
      else bookA b (numA b (p + 16) 4) p (numA b (p + 8) 2)
theorem getD_numA {b c : List UInt8} {p n : Nat} (h : ∀ i, p ≤ i → i < p + n → b[i]? = c[i]?) : numA b p n = numA c p n := by
  unfold numA
  congr 1
  apply List.ext_getElem?
  intro i
  rw [List.getElem?_take, List.getElem?_take]
  split
  · rw [List.getElem?_drop, List.getElem?_drop]; exact h _ (by omega) (by omega)
  · rfl
theorem piece_eq {b c : List UInt8} {p n : Nat} (h : ∀ i, p ≤ i → i < p + n → b[i]? = c[i]?) : (b.drop p).take n = (c.drop p).take n := by
  apply List.ext_getElem?
  intro i
  rw [List.getElem?_take, List.getElem?_take]
  split
  · rw [List.getElem?_drop, List.getElem?_drop]; exact h _ (by omega) (by omega)
  · rfl
theorem getD_eq {b c : List UInt8} {p : Nat} (h : b[p]? = c[p]?) : b.getD p 0 = c.getD p 0 := by rw [List.getD_eq_getElem?_getD, List.getD_eq_getElem?_getD, h]
theorem signA_eq {b c : List UInt8} {p : Nat} {x y : UInt8} (h : ∀ i, p ≤ i → i < p + 4 → b[i]? = c[i]?) : signA b p x y = signA c p x y := by
  unfold signA
  rw [getD_eq (h p (by omega) (by omega)), getD_eq (h (p + 1) (by omega) (by omega)), getD_eq (h (p + 2) (by omega) (by omega)), getD_eq (h (p + 3) (by omega) (by omega))]
section
variable {b c : List UInt8} {k border : Nat}
/-- What is read hangs on the bytes from k on. -/
theorem recA_eq (h : ∀ i, k ≤ i → b[i]? = c[i]?) {p : Nat} (hp : k ≤ p) (seen : List (List UInt8)) : recA b p border seen = recA c p border seen := by
  have hn : ∀ j n, numA b (p + j) n = numA c (p + j) n := fun j n => getD_numA fun i h1 _ => h i (by omega)
  have hs : signA b p 1 2 = signA c p 1 2 := signA_eq fun i h1 _ => h i (by omega)
  have hd : ∀ n, (b.drop (p + 46)).take n = (c.drop (p + 46)).take n := fun n => piece_eq fun i h1 _ => h i (by omega)
  unfold recA
  simp only [hn, hs, hd]
theorem centA_eq (h : ∀ i, k ≤ i → b[i]? = c[i]?) : ∀ n p acc, k ≤ p → centA b border n p acc = centA c border n p acc := by
  intro n
  induction n with
  | zero => intro p acc _; rfl
  | succ n ih =>
    intro p acc hp
    rw [centA, centA, recA_eq h hp]
    cases hr : recA c p border (acc.map (·.1.name)) with
    | err e => rfl
    | ok x =>
      show centA b border n x.2 _ = centA c border n x.2 _
      have : p ≤ x.2 := by
        unfold recA at hr
        split at hr
        · cases hr
        · split at hr
          · cases hr
          · split at hr
            · cases hr
            · split at hr
              · cases hr
              · split at hr
                · cases hr
                · injection hr with hr
                  rw [← hr]; show p ≤ p + 46 + _ + _ + _; omega
      exact ih _ _ (by omega)
theorem localA_eq (h : ∀ i, k ≤ i → b[i]? = c[i]?) {dir : Nat} {x : Rec × Nat} (hh : k ≤ x.1.head) (hp : k ≤ x.2) : localA b dir x = localA c dir x := by
  have h1 : signA b x.1.head 3 4 = signA c x.1.head 3 4 := signA_eq fun i h1 _ => h i (by omega)
  have h2 : (b.drop (x.1.head + 4)).take 24 = (c.drop (x.1.head + 4)).take 24 := piece_eq fun i h1 _ => h i (by omega)
  have h3 : (b.drop (x.2 + 6)).take 24 = (c.drop (x.2 + 6)).take 24 := piece_eq fun i h1 _ => h i (by omega)
  have h4 : numA b (x.1.head + 28) 2 = numA c (x.1.head + 28) 2 := getD_numA fun i h1 _ => h i (by omega)
  have h5 : (b.drop (x.1.head + 30)).take x.1.name.length = (c.drop (x.1.head + 30)).take x.1.name.length := piece_eq fun i h1 _ => h i (by omega)
  unfold localA
  rw [h1, h2, h3, h4, h5]
end
end Go.Proofs.YtokojichjliieaaDoor
