/- Plain facts on numbers as bytes: nothing of the program. -/
import Derived.Test.YtokojichjliieaaDoorBase
import Derived.Laws.BitsAllLaws
namespace Go.Proofs.YtokojichjliieaaDoor
open Go.RowKit

def leN : List UInt8 → Nat
  | [] => 0
  | x :: r => x.toNat + 256 * leN r
def beN (l : List UInt8) : Nat := l.foldl (fun v x => v * 256 + x.toNat) 0
def num64 (l : List UInt8) : Int := l.foldl (fun v x => wrap64 (wrap64 (v * 256) + (x.toNat : Int))) 0

theorem u8lt (x : UInt8) : x.toNat < 256 := x.toNat_lt
theorem leN_lt (l : List UInt8) : leN l < 256 ^ l.length := by
  induction l with
  | nil => simp [leN]
  | cons x r ih =>
    have := u8lt x
    simp only [leN, List.length_cons, Nat.pow_succ]
    omega
theorem leN_drop {l : List UInt8} {k : Nat} {x : UInt8} (h : l[k]? = some x) : leN (l.drop k) = x.toNat + 256 * leN (l.drop (k + 1)) := by
  obtain ⟨hk, rfl⟩ := List.getElem?_eq_some_iff.1 h
  rw [List.drop_eq_getElem_cons hk]; rfl
theorem pow_mono {a b : Nat} (h : a ≤ b) : 256 ^ a ≤ 256 ^ b := Nat.pow_le_pow_right (by omega) h
theorem leN_lt_of (l : List UInt8) {k : Nat} (h : l.length ≤ k) : leN l < 256 ^ k := Nat.lt_of_lt_of_le (leN_lt l) (pow_mono h)
theorem foldl_be (l : List UInt8) : ∀ v : Nat, l.foldl (fun v x => v * 256 + x.toNat) v = v * 256 ^ l.length + leN l.reverse ∧ True := by
  suffices h : ∀ (l : List UInt8) (v : Nat), l.foldl (fun v x => v * 256 + x.toNat) v = v * 256 ^ l.length + beN l by
    have hs : ∀ l : List UInt8, beN l = leN l.reverse := by
      intro l
      have key : ∀ r : List UInt8, beN r.reverse = leN r := by
        intro r
        induction r with
        | nil => rfl
        | cons x r ih => unfold beN at ih ⊢; simp only [List.reverse_cons, List.foldl_append, List.foldl_cons, List.foldl_nil, ih, leN]; omega
      have := key l.reverse
      rwa [List.reverse_reverse] at this
    intro v; exact ⟨by rw [h, hs], trivial⟩
  intro l
  induction l with
  | nil => intro v; simp [beN]
  | cons x r ih =>
    intro v
    unfold beN
    simp only [List.foldl_cons, List.length_cons, Nat.pow_succ]
    rw [ih, ih]
    simp only [Nat.zero_mul, Nat.zero_add, Nat.add_mul, Nat.mul_assoc]
    rw [Nat.mul_comm 256]
    omega
theorem beN_eq (l : List UInt8) : beN l = leN l.reverse := by
  have := (foldl_be l 0).1; simpa [beN] using this
theorem beN_lt (l : List UInt8) : beN l < 256 ^ l.length := by rw [beN_eq]; have := leN_lt l.reverse; simpa using this
theorem beN_lt_of (l : List UInt8) {k : Nat} (h : l.length ≤ k) : beN l < 256 ^ k := Nat.lt_of_lt_of_le (beN_lt l) (pow_mono h)
theorem take_snoc' {α : Type} {l : List α} {k : Nat} {x : α} (h : l[k]? = some x) : l.take (k + 1) = l.take k ++ [x] := by
  obtain ⟨hk, rfl⟩ := List.getElem?_eq_some_iff.1 h
  rw [List.take_succ_eq_append_getElem hk]
theorem beN_snoc (l : List UInt8) (x : UInt8) : beN (l ++ [x]) = beN l * 256 + x.toNat := by simp [beN]
theorem num64_snoc (l : List UInt8) (x : UInt8) : num64 (l ++ [x]) = wrap64 (wrap64 (num64 l * 256) + (x.toNat : Int)) := by simp [num64]
theorem num64_eq (l : List UInt8) : num64 l = wrap64 (beN l : Int) := by
  suffices h : ∀ r : List UInt8, num64 r.reverse = wrap64 (leN r : Int) by
    have := h l.reverse
    rwa [List.reverse_reverse, ← beN_eq] at this
  intro r
  induction r with
  | nil => simp [num64, leN, wrap64]
  | cons x r ih =>
    rw [List.reverse_cons, num64_snoc, ih]
    simp only [leN, wrap64]
    omega
theorem num64_bd (l : List UInt8) : -9223372036854775808 ≤ num64 l ∧ num64 l ≤ 9223372036854775807 := by
  rw [num64_eq]; unfold wrap64; omega
theorem or_byte (y x : Nat) (hx : x < 256) (hy : y < 72057594037927936) : bits .or .u64 ((y : Int) * 256) (x : Int) = ((y * 256 + x : Nat) : Int) := by
  have h := u64_or_nat (y * 256) x (by omega) (by omega)
  rw [nat_join 8 (y * 256) x (by omega) (by omega)] at h
  rw [← h]; simp
theorem pow8 : 256 ^ 8 = 18446744073709551616 := by decide
theorem pow7 : 256 ^ 7 = 72057594037927936 := by decide
end Go.Proofs.YtokojichjliieaaDoor
