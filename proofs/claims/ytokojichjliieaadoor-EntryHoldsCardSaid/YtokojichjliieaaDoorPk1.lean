/- The sum of bytes, in plain numbers; up to four neighbouring bytes that are others make another sum. The program's own numbers for the sum: xor, complement and mask of 32 bits, the table. Plain facts on bits of bytes, the lowest first. Plain facts on canonical prefix codes. Plain facts on unpacking: what squeezed bytes are unpacked to. What one entry's bytes unpack to, in plain words. Words for memory that all walks of this claim share: a slice that reads as cells, as bytes, as numbers; append onto a row of the call's own from any source. Nothing here speaks of the program. Texts as lists of bytes: equations in the walk's spelling. Arguments opened to what the walks are told of them; what the bound on the bulk gives. Rows of elements of several cells each: read, owned, appended, a field stored. Nothing here speaks of the program. Contracts: bits.New, (*bits.Reader).At. Contract: (*bits.Reader).Take. Contracts: (*bits.Reader).Take where bits lack; (*bits.Reader).Bytes. A map of the call's own, whatever its elements are: what it holds at a key, told by a function. Nothing here speaks of the program. A map's entry opened and stored into, apart (two maps stored into by one statement). Nothing here speaks of the program. Words as keys; a prefix code in memory. Plain facts on making a prefix code of lengths. A block that is a row of so many cells, each told by its place. Nothing here speaks of the program. A map's entry opened and stored into, told by keys of a type of one's own; the two as steps of a region that draws its order. Nothing here speaks of the program. -/
import Derived.Laws.BitsLemmas
import Derived.WalkKit
import Derived.WalkSpells
import Derived.WalkLawsBesides
import Derived.Lib.Hide
import Derived.Deep.QuietTactic
import Derived.BigQuiet
import Derived.Deep.AppendLies
import Derived.Laws.OwnMore
import Derived.Laws.Rows
import Derived.Deep.LoopGhost
import Derived.Lib.Strings
import Derived.Test.YtokojichjliieaaDoorRows
import Derived.ProofKit
import Derived.OpenShut
import Derived.ShutString
import Derived.ChangeOld
import Derived.Below
import Derived.SizedLaws
import Derived.Deep.CondSized
import Derived.JoinedCond
import Derived.Deep.Slices
import Derived.Deep.Fields
import Derived.Deep.RegionLaw
import Derived.StillTailTactics
import Derived.Test.YtokojichjliieaaDoorProg
import Derived.Deep.RegionHeld3
import Derived.Maps.OwnSet
import Derived.Maps.Views
import Derived.DeepKeys4
namespace Go.Proofs.YtokojichjliieaaDoor

def crcP : Nat := 3988292384
def bitS (r : Nat) : Nat := if r % 2 = 1 then (r / 2) ^^^ crcP else r / 2
def bitsS : Nat → Nat → Nat
  | 0, r => r
  | n + 1, r => bitsS n (bitS r)
def byteS (r c : Nat) : Nat := bitsS 8 (r ^^^ c)
def crcF (r : Nat) (l : List UInt8) : Nat := l.foldl (fun r c => byteS r c.toNat) r
/-- The sum of l behind bytes that have the sum s. -/
def crcA (s : Nat) (l : List UInt8) : Nat := 4294967295 - crcF (4294967295 - s) l
theorem xor_half (a b : Nat) : (a ^^^ b) / 2 = (a / 2) ^^^ (b / 2) := by
  have := Nat.shiftRight_xor_distrib (a := a) (b := b) (i := 1)
  simpa [Nat.shiftRight_eq_div_pow] using this
theorem xor_low (a b : Nat) : (a ^^^ b) % 2 = (a % 2 + b % 2) % 2 := by
  have h := Nat.xor_mod_two_eq_one (a := a) (b := b)
  omega
theorem bitS_xor (a b : Nat) : bitS (a ^^^ b) = bitS a ^^^ bitS b := by
  unfold bitS
  rw [xor_low, xor_half]
  have ha : a % 2 = 0 ∨ a % 2 = 1 := by omega
  have hb : b % 2 = 0 ∨ b % 2 = 1 := by omega
  rcases ha with ha | ha <;> rcases hb with hb | hb <;> rw [ha, hb]
  · rfl
  · show ((a / 2) ^^^ (b / 2)) ^^^ crcP = (a / 2) ^^^ ((b / 2) ^^^ crcP)
    rw [Nat.xor_assoc]
  · show ((a / 2) ^^^ (b / 2)) ^^^ crcP = ((a / 2) ^^^ crcP) ^^^ (b / 2)
    rw [Nat.xor_assoc, Nat.xor_assoc, Nat.xor_comm (b / 2)]
  · show (a / 2) ^^^ (b / 2) = ((a / 2) ^^^ crcP) ^^^ ((b / 2) ^^^ crcP)
    rw [Nat.xor_assoc, ← Nat.xor_assoc crcP, Nat.xor_comm crcP, Nat.xor_assoc (b / 2), Nat.xor_self, Nat.xor_zero]
theorem bitsS_xor : ∀ n a b, bitsS n (a ^^^ b) = bitsS n a ^^^ bitsS n b := by
  intro n
  induction n with
  | zero => intro a b; rfl
  | succ n ih => intro a b; rw [bitsS, bitsS, bitsS, bitS_xor, ih]
theorem bitS_lt {r : Nat} (h : r < 4294967296) : bitS r < 4294967296 := by
  unfold bitS
  split
  · exact Nat.xor_lt_two_pow (n := 32) (by omega) (by decide)
  · omega
theorem bitsS_lt : ∀ n {r : Nat}, r < 4294967296 → bitsS n r < 4294967296 := by
  intro n
  induction n with
  | zero => intro r h; exact h
  | succ n ih => intro r h; exact ih (bitS_lt h)
theorem bitS_zero {r : Nat} (h : r < 4294967296) (h0 : bitS r = 0) : r = 0 := by
  unfold bitS at h0
  split at h0
  · have e : r / 2 = crcP := by
      have := congrArg (· ^^^ crcP) h0
      simp only [Nat.xor_assoc, Nat.xor_self, Nat.xor_zero, Nat.zero_xor] at this
      exact this
    have : r / 2 < 2147483648 := by omega
    rw [e] at this
    exact absurd this (by decide)
  · omega
theorem bitsS_zero : ∀ n {r : Nat}, r < 4294967296 → bitsS n r = 0 → r = 0 := by
  intro n
  induction n with
  | zero => intro r _ h; exact h
  | succ n ih => intro r h h0; exact bitS_zero h (ih (bitS_lt h) h0)
theorem bitsS_nil : ∀ n, bitsS n 0 = 0 := by
  intro n
  induction n with
  | zero => rfl
  | succ n ih => rw [bitsS]; exact ih
theorem bitsS_shift : ∀ n x, bitsS n (x * 2 ^ n) = x := by
  intro n
  induction n with
  | zero => intro x; rw [Nat.pow_zero, Nat.mul_one]; rfl
  | succ n ih =>
    intro x
    have e : bitS (x * 2 ^ (n + 1)) = x * 2 ^ n := by
      unfold bitS
      rw [Nat.pow_succ, ← Nat.mul_assoc, if_neg (by omega)]; omega
    rw [bitsS, e, ih]
theorem bitsS_add : ∀ m n r, bitsS (m + n) r = bitsS n (bitsS m r) := by
  intro m
  induction m with
  | zero => intro n r; rw [Nat.zero_add]; rfl
  | succ m ih => intro n r; rw [Nat.add_right_comm, bitsS, ih]; rfl
/-- What tells two registers apart, behind one byte. -/
theorem byteS_xor (a b c d : Nat) : byteS a c ^^^ byteS b d = bitsS 8 ((a ^^^ b) ^^^ (c ^^^ d)) := by
  unfold byteS
  rw [← bitsS_xor]
  congr 1
  rw [Nat.xor_assoc, Nat.xor_assoc, ← Nat.xor_assoc c, Nat.xor_comm c b, Nat.xor_assoc b]
/-- What is known of a byte's step. -/
structure Lin (T : Nat → Nat) : Prop where
  zero : T 0 = 0
  lt : ∀ r, r < 4294967296 → T r < 4294967296
  inj : ∀ r, r < 4294967296 → T r = 0 → r = 0
  xor : ∀ a b, T (a ^^^ b) = T a ^^^ T b
  shift : ∀ x, T (x * 256) = x
theorem lin_eight : Lin (bitsS 8) := ⟨bitsS_nil 8, fun _ h => bitsS_lt 8 h, fun _ h h0 => bitsS_zero 8 h h0, bitsS_xor 8, bitsS_shift 8⟩
/-- How two rows of as many bytes tell registers apart. -/
def difF (T : Nat → Nat) : Nat → List (UInt8 × UInt8) → Nat
  | D, [] => D
  | D, x :: r => difF T (T (D ^^^ (x.1.toNat ^^^ x.2.toNat))) r
theorem xor_byte (x y : UInt8) : x.toNat ^^^ y.toNat < 256 := Nat.xor_lt_two_pow (n := 8) x.toNat_lt y.toNat_lt
theorem xor_eq_zero {a b : Nat} (h : a ^^^ b = 0) : a = b := by
  have := congrArg (· ^^^ b) h
  simp only [Nat.xor_assoc, Nat.xor_self, Nat.xor_zero, Nat.zero_xor] at this
  exact this
theorem add_xor (a x : Nat) (h : a < 256) : a + 256 * x = a ^^^ (x * 256) := by
  rw [Nat.xor_comm, show x * 256 = 2 ^ 8 * x by omega, Nat.add_comm, show 256 * x = 2 ^ 8 * x by omega, Nat.two_pow_add_eq_or_of_lt (by omega) x]
  apply Nat.eq_of_testBit_eq
  intro i
  rw [Nat.testBit_or, Nat.testBit_xor]
  by_cases hi : i < 8
  · have e : (2 ^ 8 * x).testBit i = false := by
      rw [Nat.testBit_two_pow_mul]; simp; omega
    rw [e]; simp
  · have e : a.testBit i = false := Nat.testBit_lt_two_pow (Nat.lt_of_lt_of_le h (by
      have : (2 : Nat) ^ 8 ≤ 2 ^ i := Nat.pow_le_pow_right (by decide) (by omega)
      omega))
    rw [e]; simp
/-- Some bytes as one number, the least first. -/
def worthF : List (UInt8 × UInt8) → Nat
  | [] => 0
  | x :: r => (x.1.toNat ^^^ x.2.toNat) + 256 * worthF r
theorem worth_lt : ∀ (z : List (UInt8 × UInt8)), worthF z < 256 ^ z.length := by
  intro z
  induction z with
  | nil => decide
  | cons x r ih =>
    have := xor_byte x.1 x.2
    rw [worthF, List.length_cons, Nat.pow_succ]; omega
theorem worth_zero : ∀ (z : List (UInt8 × UInt8)), worthF z = 0 → ∀ x ∈ z, x.1 = x.2 := by
  intro z
  induction z with
  | nil => intro _ x hx; cases hx
  | cons y r ih =>
    intro h x hx
    rw [worthF] at h
    rcases List.mem_cons.1 hx with e | e
    · subst e; exact UInt8.toNat_inj.1 (xor_eq_zero (by omega))
    · exact ih (by omega) x e
def iterT (T : Nat → Nat) : Nat → Nat → Nat
  | 0, r => r
  | n + 1, r => iterT T n (T r)
section
variable {T : Nat → Nat} (L : Lin T)
include L
theorem iter_lt : ∀ n {r : Nat}, r < 4294967296 → iterT T n r < 4294967296 := by
  intro n
  induction n with
  | zero => intro r h; exact h
  | succ n ih => intro r h; exact ih (L.lt r h)
theorem iter_zero : ∀ n {r : Nat}, r < 4294967296 → iterT T n r = 0 → r = 0 := by
  intro n
  induction n with
  | zero => intro r _ h; exact h
  | succ n ih => intro r h h0; exact L.inj r h (ih (L.lt r h) h0)
/-- The same bytes leave what was apart apart. -/
theorem dif_same : ∀ (z : List (UInt8 × UInt8)) D, D < 4294967296 → (∀ x ∈ z, x.1 = x.2) → difF T D z = 0 → D = 0 := by
  intro z
  induction z with
  | nil => intro D _ _ h; exact h
  | cons x r ih =>
    intro D hD hs h
    rw [difF, hs x List.mem_cons_self, Nat.xor_self, Nat.xor_zero] at h
    exact L.inj D hD (ih _ (L.lt D hD) (fun y hy => hs y (List.mem_cons_of_mem _ hy)) h)
theorem dif_none : ∀ (z : List (UInt8 × UInt8)), (∀ x ∈ z, x.1 = x.2) → ∀ r, difF T 0 (z ++ r) = difF T 0 r := by
  intro z
  induction z with
  | nil => intro _ r; rfl
  | cons x z ih =>
    intro hs r
    rw [List.cons_append, difF, hs x List.mem_cons_self, Nat.xor_self, Nat.xor_zero, L.zero]
    exact ih (fun y hy => hs y (List.mem_cons_of_mem _ hy)) r
theorem dif_worth : ∀ (z : List (UInt8 × UInt8)) D, difF T D z = iterT T z.length (D ^^^ worthF z) := by
  intro z
  induction z with
  | nil => intro D; rw [worthF, Nat.xor_zero]; rfl
  | cons x r ih =>
    intro D
    rw [difF, ih, worthF, add_xor _ _ (xor_byte _ _), List.length_cons, iterT, (Nat.xor_assoc D (x.1.toNat ^^^ x.2.toNat) (worthF r * 256)).symm, L.xor (D ^^^ (x.1.toNat ^^^ x.2.toNat)), L.shift]
omit L in
theorem dif_app (q : List (UInt8 × UInt8)) : ∀ (m : List (UInt8 × UInt8)) D, difF T D (m ++ q) = difF T (difF T D m) q := by
  intro m
  induction m with
  | nil => intro D; rfl
  | cons x m ih => intro D; rw [List.cons_append, difF, difF, ih]
/-- Up to four neighbouring bytes that are others, and the sum is another one. -/
theorem dif_burst {p m q : List (UInt8 × UInt8)} (hp : ∀ x ∈ p, x.1 = x.2) (hq : ∀ x ∈ q, x.1 = x.2) (hm : m.length ≤ 4) (h : difF T 0 (p ++ (m ++ q)) = 0) : ∀ x ∈ m, x.1 = x.2 := by
  rw [dif_none L p hp, dif_app, dif_worth L m, Nat.zero_xor] at h
  have h32 : worthF m < 4294967296 := Nat.lt_of_lt_of_le (worth_lt m) (by
    have : (256 : Nat) ^ m.length ≤ 256 ^ 4 := Nat.pow_le_pow_right (by decide) hm
    exact Nat.le_trans this (by decide))
  exact worth_zero m (iter_zero L _ h32 (dif_same L q _ (iter_lt L _ h32) hq h))
end
theorem crc_dif : ∀ (z : List (UInt8 × UInt8)) a b, crcF a (z.map (·.1)) ^^^ crcF b (z.map (·.2)) = difF (bitsS 8) (a ^^^ b) z := by
  intro z
  induction z with
  | nil => intro a b; rfl
  | cons x r ih =>
    intro a b
    show crcF (byteS a x.1.toNat) (r.map (·.1)) ^^^ crcF (byteS b x.2.toNat) (r.map (·.2)) = difF (bitsS 8) (bitsS 8 ((a ^^^ b) ^^^ (x.1.toNat ^^^ x.2.toNat))) r
    rw [ih, byteS_xor]
theorem crcF_lt : ∀ (l : List UInt8) r, r < 4294967296 → crcF r l < 4294967296 := by
  intro l
  induction l with
  | nil => intro r h; exact h
  | cons c l ih =>
    intro r h
    have hc := c.toNat_lt
    exact ih _ (bitsS_lt 8 (Nat.xor_lt_two_pow (n := 32) h (by omega)))
end Go.Proofs.YtokojichjliieaaDoor
namespace Go.Proofs.YtokojichjliieaaDoor
theorem wraps_u32S (n : Int) (h₀ : 0 ≤ n) (h₁ : n < 2 ^ 32) : IntKind.u32.wrap n = n := by rw [IntKind.wrap_u32]; omega
theorem xor32 (a b : Nat) (ha : a < 4294967296) (hb : b < 4294967296) : bits .xor .u32 (a : Int) (b : Int) = ((a ^^^ b : Nat) : Int) := by
  have ha' : a % 2 ^ 32 = a := Nat.mod_eq_of_lt ha
  have hb' : b % 2 ^ 32 = b := Nat.mod_eq_of_lt hb
  have hx : a ^^^ b < 4294967296 := Nat.xor_lt_two_pow (n := 32) ha hb
  simp only [bits, BitVec.ofInt_natCast, BitVec.toNat_xor, BitVec.toNat_ofNat, show IntKind.u32.bits = 32 from rfl, ha', hb']
  exact wraps_u32S _ (Int.natCast_nonneg _) (by omega)
theorem and32 (a b : Nat) (ha : a < 4294967296) (hb : b < 4294967296) : bits .and .u32 (a : Int) (b : Int) = ((a &&& b : Nat) : Int) :=
  (bits_nat .u32 32 (by decide) wraps_u32S a b ha hb).1
theorem flip_nat (r : Nat) (h : r < 4294967296) : 4294967295 ^^^ r = 4294967295 - r := by
  apply Nat.eq_of_testBit_eq
  intro i
  have e : 4294967295 - r = 2 ^ 32 - (r + 1) := by omega
  rw [e, Nat.testBit_two_pow_sub_succ h, Nat.testBit_xor, show (4294967295 : Nat) = 2 ^ 32 - 1 from rfl, Nat.testBit_two_pow_sub_one]
  by_cases hi : i < 32
  · simp [hi]
  · have : r.testBit i = false := Nat.testBit_lt_two_pow (Nat.lt_of_lt_of_le h (by
      have : (2 : Nat) ^ 32 ≤ 2 ^ i := Nat.pow_le_pow_right (by decide) (by omega)
      omega))
    simp [hi, this]
theorem flip32 (r : Nat) (h : r < 4294967296) : bits .xor .u32 4294967295 (r : Int) = ((4294967295 - r : Nat) : Int) := by
  have := xor32 4294967295 r (by decide) h
  rw [flip_nat r h] at this
  exact this
theorem low32 (r : Nat) (h : r < 4294967296) : bits .and .u32 (r : Int) 1 = ((r % 2 : Nat) : Int) := by
  have := and32 r 1 h (by decide)
  rw [Nat.and_one_is_mod] at this
  exact this
/-- The program's branch-free step is the document's. -/
theorem maskStep (r : Nat) (h : r < 4294967296) : bits .xor .u32 ((r / 2 : Nat) : Int) (bits .and .u32 3988292384 (IntKind.u32.wrap (-((r % 2 : Nat) : Int)))) = (bitS r : Int) := by
  have hp : crcP = 3988292384 := rfl
  rcases (by omega : r % 2 = 0 ∨ r % 2 = 1) with e | e
  · rw [e, show IntKind.u32.wrap (-((0 : Nat) : Int)) = ((0 : Nat) : Int) from by decide, show (3988292384 : Int) = ((3988292384 : Nat) : Int) from rfl, and32 _ _ (by decide) (by decide), Nat.and_zero, xor32 _ _ (by omega) (by decide), Nat.xor_zero]
    rw [bitS, if_neg (by omega)]
  · rw [e, show IntKind.u32.wrap (-((1 : Nat) : Int)) = ((4294967295 : Nat) : Int) from by decide, show (3988292384 : Int) = ((3988292384 : Nat) : Int) from rfl, and32 _ _ (by decide) (by decide), show 3988292384 &&& 4294967295 = crcP from by decide, xor32 _ _ (by omega) (by decide)]
    rw [bitS, if_pos e]
/-- The table's entry, and a byte's step by it. -/
def tabS (k : Nat) : Nat := bitsS 8 k
theorem tabS_lt {k : Nat} (h : k < 256) : tabS k < 4294967296 := bitsS_lt 8 (by omega)
theorem xor_mod (r c : Nat) (hc : c < 256) : (r ^^^ c) % 256 = (r % 256) ^^^ c := by
  have := Nat.xor_mod_two_pow (a := r) (b := c) (n := 8)
  rw [show (2 : Nat) ^ 8 = 256 from rfl, Nat.mod_eq_of_lt hc] at this
  exact this
theorem split_xor (r : Nat) : r = (r % 256) ^^^ (r / 256 * 256) := by
  have := add_xor (r % 256) (r / 256) (Nat.mod_lt _ (by decide))
  omega
theorem byteS_tab (r c : Nat) : byteS r c = tabS ((r % 256) ^^^ c) ^^^ (r / 256) := by
  unfold byteS tabS
  rw [show bitsS 8 (r ^^^ c) = bitsS 8 (((r % 256) ^^^ c) ^^^ (r / 256 * 256)) by
    congr 1
    conv => lhs; rw [split_xor r]
    rw [Nat.xor_assoc, Nat.xor_comm (r / 256 * 256), ← Nat.xor_assoc], bitsS_xor]
  congr 1
  exact bitsS_shift 8 (r / 256)
theorem byteS_lt {r c : Nat} (hr : r < 4294967296) (hc : c < 256) : byteS r c < 4294967296 := bitsS_lt 8 (Nat.xor_lt_two_pow (n := 32) hr (by omega))
theorem crcF_snoc (r : Nat) (l : List UInt8) (x : UInt8) : crcF r (l ++ [x]) = byteS (crcF r l) x.toNat := by
  unfold crcF; rw [List.foldl_append]; rfl
end Go.Proofs.YtokojichjliieaaDoor
namespace Go.Proofs.YtokojichjliieaaDoor

/-- The bit i of bytes. -/
def bitAt (l : List UInt8) (i : Nat) : Nat := (l.getD (i / 8) 0).toNat / 2 ^ (i % 8) % 2
/-- The number of the n bits from a on. -/
def takeN (l : List UInt8) (a : Nat) : Nat → Nat
  | 0 => 0
  | n + 1 => takeN l a n + 2 ^ n * bitAt l (a + n)
theorem bitAt_lt (l : List UInt8) (i : Nat) : bitAt l i < 2 := Nat.mod_lt _ (by decide)
theorem takeN_lt (l : List UInt8) (a n : Nat) : takeN l a n < 2 ^ n := by
  induction n with
  | zero => simp [takeN]
  | succ n ih =>
    unfold takeN
    have h := bitAt_lt l (a + n)
    have h2 : 2 ^ n * bitAt l (a + n) ≤ 2 ^ n * 1 := Nat.mul_le_mul (Nat.le_refl _) (by omega)
    rw [Nat.pow_succ]; omega
/-- Three bytes as a number, the least first. -/
def acc3 (l : List UInt8) (k : Nat) : Nat := (l.getD k 0).toNat + 256 * (l.getD (k + 1) 0).toNat + 65536 * (l.getD (k + 2) 0).toNat
theorem acc3_lt (l : List UInt8) (k : Nat) : acc3 l k < 16777216 := by
  have h0 := (l.getD k 0).toNat_lt
  have h1 := (l.getD (k + 1) 0).toNat_lt
  have h2 := (l.getD (k + 2) 0).toNat_lt
  unfold acc3; omega
theorem acc3_bit (l : List UInt8) (k j : Nat) (hj : j < 24) : acc3 l k / 2 ^ j % 2 = bitAt l (8 * k + j) := by
  have h0 := (l.getD k 0).toNat_lt
  have h1 := (l.getD (k + 1) 0).toNat_lt
  have h2 := (l.getD (k + 2) 0).toNat_lt
  unfold bitAt acc3
  rw [show (8 * k + j) / 8 = k + j / 8 by omega, show (8 * k + j) % 8 = j % 8 by omega]
  generalize e0 : (l.getD k 0).toNat = b0 at *
  generalize e1 : (l.getD (k + 1) 0).toNat = b1 at *
  generalize e2 : (l.getD (k + 2) 0).toNat = b2 at *
  have hs : j = 0 ∨ j = 1 ∨ j = 2 ∨ j = 3 ∨ j = 4 ∨ j = 5 ∨ j = 6 ∨ j = 7 ∨ j = 8 ∨ j = 9 ∨ j = 10 ∨ j = 11 ∨ j = 12 ∨ j = 13 ∨ j = 14 ∨ j = 15 ∨ j = 16 ∨ j = 17 ∨ j = 18 ∨ j = 19 ∨ j = 20 ∨ j = 21 ∨ j = 22 ∨ j = 23 := by omega
  rcases hs with rfl | rfl | rfl | rfl | rfl | rfl | rfl | rfl | rfl | rfl | rfl | rfl | rfl | rfl | rfl | rfl | rfl | rfl | rfl | rfl | rfl | rfl | rfl | rfl
  all_goals
    simp only [Nat.reducePow, Nat.reduceDiv, Nat.reduceMod, Nat.add_zero]
    first
      | (rw [e0]; omega)
      | (rw [e1]; omega)
      | (rw [e2]; omega)
/-- The number of bits, out of three bytes. -/
theorem acc3_take (l : List UInt8) (a n : Nat) (hn : n ≤ 16) : acc3 l (a / 8) / 2 ^ (a % 8) % 2 ^ n = takeN l a n := by
  induction n with
  | zero => simp [takeN]; omega
  | succ n ih =>
    unfold takeN
    rw [← ih (by omega)]
    have hb := acc3_bit l (a / 8) (a % 8 + n) (by omega)
    rw [show 8 * (a / 8) + (a % 8 + n) = a + n by omega] at hb
    rw [← hb, Nat.pow_succ, Nat.mod_mul, Nat.div_div_eq_div_mul, ← Nat.pow_add]
/-- Bits of which none is read beyond an end hang on what stands before it alone. -/
theorem bitAt_app (l m : List UInt8) (i : Nat) (h : i < 8 * l.length) : bitAt (l ++ m) i = bitAt l i := by
  unfold bitAt
  rw [List.getD_eq_getElem?_getD, List.getD_eq_getElem?_getD, List.getElem?_append_left (by omega)]
theorem takeN_app (l m : List UInt8) (a n : Nat) (h : a + n ≤ 8 * l.length) : takeN (l ++ m) a n = takeN l a n := by
  induction n with
  | zero => rfl
  | succ n ih => unfold takeN; rw [ih (by omega), bitAt_app _ _ _ (by omega)]
end Go.Proofs.YtokojichjliieaaDoor
namespace Go.Proofs.YtokojichjliieaaDoor

/-- How many symbols have words of n bits; the first word of n bits; the symbols that have n bits, rising. -/
def cntP (l : List Nat) (n : Nat) : Nat := if n = 0 then 0 else l.count n
def firstP (l : List Nat) : Nat → Nat
  | 0 => 0
  | n + 1 => 2 * (firstP l n + cntP l n)
def symsP (l : List Nat) (k n : Nat) : List Nat := (List.range k).filter fun s => l[s]? == some n
def kraftTo (l : List Nat) : Nat → Nat
  | 0 => 0
  | n + 1 => 2 * kraftTo l n + cntP l (n + 1)
def usedP (l : List Nat) : Nat := (l.filter fun n => n != 0).length
/-- Do lengths make a code? -/
def codeB (l : List Nat) (lone : Bool) : Bool := decide (kraftTo l 15 = 32768) || (lone && (decide (usedP l = 0) || (decide (usedP l = 1) && decide (l.count 1 = 1))))
theorem kraft_first (l : List Nat) (n : Nat) : firstP l n + cntP l n = kraftTo l n := by
  induction n with
  | zero => rfl
  | succ n ih => simp only [firstP, kraftTo, ih]
theorem kraft_mono (l : List Nat) (n d : Nat) : kraftTo l n * 2 ^ d ≤ kraftTo l (n + d) := by
  induction d with
  | zero => simp
  | succ d ih =>
    rw [← Nat.add_assoc]
    simp only [kraftTo]
    rw [Nat.pow_succ, ← Nat.mul_assoc]; omega
/-- A word of n bits has no more than n bits. -/
theorem first_bound {l : List Nat} (h : kraftTo l 15 ≤ 32768) {n : Nat} (hn : n ≤ 15) : firstP l n + cntP l n ≤ 2 ^ n := by
  rw [kraft_first]
  have h1 := kraft_mono l n (15 - n)
  rw [show n + (15 - n) = 15 by omega] at h1
  have h2 : (2 : Nat) ^ 15 = 2 ^ n * 2 ^ (15 - n) := by rw [← Nat.pow_add]; congr 1; omega
  have h3 : 0 < 2 ^ (15 - n) := Nat.two_pow_pos _
  have h4 : kraftTo l n * 2 ^ (15 - n) ≤ 2 ^ n * 2 ^ (15 - n) := by rw [← h2]; omega
  exact Nat.le_of_mul_le_mul_right h4 h3
theorem symsP_succ (l : List Nat) (k n : Nat) : symsP l (k + 1) n = symsP l k n ++ (if l[k]? = some n then [k] else []) := by
  unfold symsP
  rw [List.range_succ, List.filter_append]
  congr 1
  by_cases h : l[k]? = some n <;> simp [h]
theorem count_take (l : List Nat) (k n : Nat) (hk : k ≤ l.length) : (symsP l k n).length = (l.take k).count n := by
  induction k with
  | zero => simp [symsP]
  | succ k ih =>
    rw [symsP_succ, List.length_append, ih (by omega), List.take_add_one, List.getElem?_eq_getElem (show k < l.length by omega)]
    simp only [Option.toList_some, List.count_append, Option.some.injEq]
    by_cases h : l[k] = n <;> simp [h]
theorem symsP_len (l : List Nat) (n : Nat) : (symsP l l.length n).length = l.count n := by
  rw [count_take _ _ _ (Nat.le_refl _), List.take_length]
/-- The symbol of a word of n bits, among the first k symbols. -/
def symK (l : List Nat) (k : Nat) (n c : Nat) : Option Nat := if n = 0 then none else if firstP l n ≤ c then (symsP l k n)[c - firstP l n]? else none
def symAt (l : List Nat) (n c : Nat) : Option Nat := symK l l.length n c
theorem symK_zero (l : List Nat) (n c : Nat) : symK l 0 n c = none := by
  unfold symK symsP
  split
  · rfl
  · split <;> simp
theorem symK_same {l : List Nat} {k m : Nat} (hk : l[k]? = some m) (hm : m ≠ 0) : symK l (k + 1) m (firstP l m + (symsP l k m).length) = some k := by
  unfold symK
  rw [if_neg hm, if_pos (by omega), symsP_succ, if_pos hk]
  rw [show firstP l m + (symsP l k m).length - firstP l m = (symsP l k m).length by omega]
  simp
theorem symK_other {l : List Nat} {k m n c : Nat} (hk : l[k]? = some m) (h : ¬ (n = m ∧ c = firstP l m + (symsP l k m).length)) : symK l (k + 1) n c = symK l k n c := by
  unfold symK
  split
  · rfl
  · split
    · rename_i h1
      rw [symsP_succ]
      by_cases hn : n = m
      · subst hn
        rw [if_pos hk]
        rcases Nat.lt_or_ge (c - firstP l n) (symsP l k n).length with h2 | h2
        · rw [List.getElem?_append_left h2]
        · rw [List.getElem?_append_right h2, List.getElem?_eq_none h2]
          have h3 : c - firstP l n - (symsP l k n).length ≠ 0 := fun e => h ⟨rfl, by omega⟩
          obtain ⟨q, hq⟩ : ∃ q, c - firstP l n - (symsP l k n).length = q + 1 := ⟨c - firstP l n - (symsP l k n).length - 1, by omega⟩
          rw [hq]; simp
      · rw [if_neg (by rw [hk]; intro e; injection e with e; exact hn e.symm)]; simp
    · rfl
theorem symK_skip {l : List Nat} {k n c : Nat} (hk : l[k]? = some 0) : symK l (k + 1) n c = symK l k n c := by
  by_cases hn : n = 0
  · unfold symK; rw [if_pos hn, if_pos hn]
  · exact symK_other hk (fun e => hn e.1)
def mostP (l : List Nat) : Nat := l.foldl max 0
end Go.Proofs.YtokojichjliieaaDoor
namespace Go.Proofs.YtokojichjliieaaDoor

/-- An answer, or an error's number. -/
inductive Rz (α : Type) where
  | ok (a : α) : Rz α
  | err (e : Int) : Rz α
def Rz.bind {α β : Type} : Rz α → (α → Rz β) → Rz β
  | .ok a, f => f a
  | .err e, _ => .err e
/-- The next n bits at p. -/
def tk (b : List UInt8) (p n : Nat) : Rz (Nat × Nat) := if p + n ≤ 8 * b.length then .ok (takeN b p n, p + n) else .err 2
/-- The next symbol. -/
def nextF (l : List Nat) (b : List UInt8) : Nat → Nat → Nat → Nat → Rz (Nat × Nat)
  | 0, _, _, _ => .err 6
  | f + 1, n, c, p => if p + 1 ≤ 8 * b.length then (match symAt l (n + 1) (2 * c + bitAt b p) with
      | some s => .ok (s, p + 1)
      | none => nextF l b f (n + 1) (2 * c + bitAt b p) (p + 1)) else .err 2
def nextP (l : List Nat) (b : List UInt8) (p : Nat) : Rz (Nat × Nat) := nextF l b (mostP l) 0 0 p
/-- Lengths and distances. -/
def spreadP (c per : Nat) : Nat × Nat := if c < 2 * per then (c, 0) else ((per + c % per) * 2 ^ (c / per - 1), c / per - 1)
def lenP (s : Nat) : Nat × Nat := if s = 285 then (258, 0) else ((spreadP (s - 257) 4).1 + 3, (spreadP (s - 257) 4).2)
def dstP (t : Nat) : Nat × Nat := ((spreadP t 2).1 + 1, (spreadP t 2).2)
def copyN (far : Nat) : Nat → List UInt8 → List UInt8
  | 0, out => out
  | n + 1, out => copyN far n (out ++ [out.getD (out.length - far) 0])
/-- A block's symbols. -/
def symF (lit dist : List Nat) (b : List UInt8) (lim : Nat) : Nat → Nat → List UInt8 → Rz (List UInt8 × Nat)
  | 0, _, _ => .err 0
  | f + 1, p, out => (nextP lit b p).bind fun x =>
      if x.1 = 256 then .ok (out, x.2)
      else if x.1 < 256 then (if lim ≤ out.length then .err 8 else symF lit dist b lim f x.2 (out ++ [UInt8.ofNat x.1]))
      else if 285 < x.1 then .err 6
      else (tk b x.2 (lenP x.1).2).bind fun y => (nextP dist b y.2).bind fun z =>
        if 29 < z.1 then .err 6
        else (tk b z.2 (dstP z.1).2).bind fun u =>
          if out.length < (dstP z.1).1 + u.1 then .err 7
          else if lim < out.length + ((lenP x.1).1 + y.1) then .err 8
          else symF lit dist b lim f u.2 (copyN ((dstP z.1).1 + u.1) ((lenP x.1).1 + y.1) out)
/-- The lengths that a block tells. -/
def ordL : List Nat := [16, 17, 18, 0, 8, 7, 9, 6, 10, 5, 11, 4, 12, 3, 13, 2, 14, 1, 15]
def lensF (b : List UInt8) : List Nat → List Nat → Nat → Rz (List Nat × Nat)
  | [], l, p => .ok (l, p)
  | k :: r, l, p => (tk b p 3).bind fun x => lensF b r (l.set k x.1) x.2
def runP (s : Nat) (all : List Nat) : Nat × Nat × Nat :=
  if s = 16 then (all.getLastD 0, 3, 2) else if s = 17 then (0, 3, 3) else if s = 18 then (0, 11, 7) else (s, 1, 0)
def allF (lens : List Nat) (b : List UInt8) (total : Nat) : Nat → Nat → List Nat → Rz (List Nat × Nat)
  | 0, _, _ => .err 0
  | f + 1, p, all => if total ≤ all.length then .ok (all, p) else (nextP lens b p).bind fun x =>
      if x.1 = 16 ∧ all = [] then .err 6
      else (tk b x.2 (runP x.1 all).2.2).bind fun y =>
        if total < all.length + ((runP x.1 all).2.1 + y.1) then .err 6
        else allF lens b total f y.2 (all ++ List.replicate ((runP x.1 all).2.1 + y.1) (runP x.1 all).1)
def allP0 (lens : List Nat) (total : Nat) (b : List UInt8) (p : Nat) : Rz (List Nat × Nat) := allF lens b total (8 * b.length + 1) p []
def toldP (b : List UInt8) (p : Nat) : Rz ((List Nat × List Nat) × Nat) :=
  (tk b p 5).bind fun x => (tk b x.2 5).bind fun y => (tk b y.2 4).bind fun z =>
    if 286 < x.1 + 257 ∨ 30 < y.1 + 1 then .err 5
    else (lensF b (ordL.take (z.1 + 4)) (List.replicate 19 0) z.2).bind fun u =>
      if codeB u.1 false = false then .err 5
      else (allP0 u.1 (x.1 + 257 + (y.1 + 1)) b u.2).bind fun v =>
        if v.1.getD 256 0 = 0 then .err 5 else .ok ((v.1.take (x.1 + 257), v.1.drop (x.1 + 257)), v.2)
def fixLit : List Nat := List.replicate 144 8 ++ List.replicate 112 9 ++ List.replicate 24 7 ++ List.replicate 8 8
def fixDist : List Nat := List.replicate 32 5
/-- A stored block. -/
def byteN (b : List UInt8) (k : Nat) : Nat := (b.getD k 0).toNat
def storedP (b : List UInt8) (lim p : Nat) (out : List UInt8) : Rz (List UInt8 × Nat) :=
  if b.length < (p + 7) / 8 + 4 then .err 2
  else if byteN b ((p + 7) / 8) + 256 * byteN b ((p + 7) / 8 + 1) + (byteN b ((p + 7) / 8 + 2) + 256 * byteN b ((p + 7) / 8 + 3)) ≠ 65535 then .err 4
  else if lim < out.length + (byteN b ((p + 7) / 8) + 256 * byteN b ((p + 7) / 8 + 1)) then .err 8
  else if b.length < (p + 7) / 8 + 4 + (byteN b ((p + 7) / 8) + 256 * byteN b ((p + 7) / 8 + 1)) then .err 2
  else .ok (out ++ (b.drop ((p + 7) / 8 + 4)).take (byteN b ((p + 7) / 8) + 256 * byteN b ((p + 7) / 8 + 1)), 8 * ((p + 7) / 8 + 4 + (byteN b ((p + 7) / 8) + 256 * byteN b ((p + 7) / 8 + 1))))
def symP (lit dist : List Nat) (lim : Nat) (out : List UInt8) (b : List UInt8) (p : Nat) : Rz (List UInt8 × Nat) := symF lit dist b lim (8 * b.length + 1) p out
def codedP (lim : Nat) (out : List UInt8) (lit dist : List Nat) (b : List UInt8) (p : Nat) : Rz (List UInt8 × Nat) :=
  if codeB lit false = false then .err 5 else if codeB dist true = false then .err 5 else symP lit dist lim out b p
/-- What stands in one block, of the kind k. -/
def bodyP (lim : Nat) (out : List UInt8) (k : Nat) (b : List UInt8) (p : Nat) : Rz (List UInt8 × Nat) :=
  if k = 0 then storedP b lim p out else if k = 3 then .err 3
  else if k = 2 then (toldP b p).bind fun u => codedP lim out u.1.1 u.1.2 b u.2
  else codedP lim out fixLit fixDist b p
/-- One block: is it the last? -/
def blkP (lim : Nat) (out : List UInt8) (b : List UInt8) (p : Nat) : Rz ((Bool × List UInt8) × Nat) :=
  (tk b p 1).bind fun x => (tk b x.2 2).bind fun y => (bodyP lim out y.1 b y.2).bind fun z => .ok ((decide (x.1 = 1), z.1), z.2)
def allB (lim : Nat) (b : List UInt8) : Nat → Nat → List UInt8 → Rz (List UInt8 × Nat)
  | 0, _, _ => .err 0
  | f + 1, p, out => (blkP lim out b p).bind fun x => if x.1.1 = true then .ok (x.1.2, x.2) else allB lim b f x.2 x.1.2
/-- All blocks, and the bits that they take. -/
def allP (lim : Nat) (b : List UInt8) (p : Nat) : Rz (List UInt8 × Nat) := allB lim b (8 * b.length + 1) p []
/-- All that bytes begin with. -/
def inflP (b : List UInt8) (lim : Int) : Rz (List UInt8 × Nat) := if lim < 0 ∨ 32768 < lim then .err 1 else (allP lim.toNat b 0).bind fun x => .ok (x.1, (x.2 + 7) / 8)
end Go.Proofs.YtokojichjliieaaDoor
namespace Go.Proofs.YtokojichjliieaaDoor
def outA (me pk si : Int) (b : List UInt8) : Rz (List UInt8) :=
  if me = 8 then (inflP b si).bind fun x => if x.2 < b.length then .err 18 else .ok x.1
  else if pk ≠ si then .err 18 else .ok b
def endA' (si su : Int) (o : List UInt8) : Rz (List UInt8) := if (o.length : Int) ≠ si then .err 18 else if (crcA 0 o : Int) ≠ su then .err 19 else .ok o
/-- A record's method, packed length, size and sum, and the packed bytes. -/
def unpA (me pk si su : Int) (b : List UInt8) : Rz (List UInt8) :=
  if (b.length : Int) ≠ pk ∨ (me ≠ 0 ∧ me ≠ 8) ∨ si < 0 then .err 1
  else if 32768 < si then .err 17
  else (outA me pk si b).bind (endA' si su)
end Go.Proofs.YtokojichjliieaaDoor
namespace Go.Proofs.YtokojichjliieaaDoor
open Go.RowKit

theorem blk_add (a : Addr) (n : Nat) : (a.add n).block = a.block := by unfold Addr.add; split <;> rfl
theorem addadd (a : Addr) (i j : Nat) : (a.add i).add j = a.add (i + j) := by
  unfold Addr.add
  by_cases hi : i = 0 <;> by_cases hj : j = 0 <;> simp [hi, hj, Nat.add_assoc]

theorem add_pos (a : Addr) (n : Nat) : a.add (n + 1) = ⟨a.block, a.off + (n + 1), none⟩ := by unfold Addr.add; simp

/-- The cells xs stand from the address A on, all in a block below B. Nothing is asked of A where xs is empty. -/
def Rd (w : World) (B : Nat) (A : Option Addr) (xs : List Value) : Prop :=
  xs ≠ [] → ∃ ad, A = some ad ∧ ad.block < B ∧ ∀ i u, xs[i]? = some u → w.cell? (ad.add i) = some u

theorem Rd.nil {w : World} {B : Nat} {A : Option Addr} : Rd w B A [] := fun h => absurd rfl h
theorem Rd.keep {w w' : World} {B : Nat} {A : Option Addr} {xs : List Value} (h : Rd w B A xs) (hk : ∀ p : Addr, p.block < B → w'.cell? p = w.cell? p) : Rd w' B A xs := fun hn => by
  obtain ⟨ad, e, hb, hc⟩ := h hn
  exact ⟨ad, e, hb, fun i u hu => (hk _ (by rw [blk_add]; exact hb)).trans (hc i u hu)⟩
theorem Rd.more {w : World} {B B' : Nat} {A : Option Addr} {xs : List Value} (h : Rd w B A xs) (hB : B ≤ B') : Rd w B' A xs := fun hn => by
  obtain ⟨ad, e, hb, hc⟩ := h hn
  exact ⟨ad, e, by omega, hc⟩
theorem Rd.below {w w' : World} {B B' : Nat} {A : Option Addr} {xs : List Value} (h : Rd w B A xs) (hb : Below B' w w') (hB : B ≤ B') : Rd w' B A xs :=
  h.keep fun _ hp => hb.cell (by omega)
/-- The bound by what there is. -/
theorem Rd.top {w : World} {B : Nat} {A : Option Addr} {xs : List Value} (h : Rd w B A xs) : Rd w w.heap.size A xs := fun hn => by
  obtain ⟨ad, e, _, hc⟩ := h hn
  refine ⟨ad, e, ?_, hc⟩
  match xs, hn with
  | u :: _, _ => have := World.block_lt_of_cell? _ _ (hc 0 u rfl); rwa [blk_add] at this
theorem Rd.step {w w' : World} {B : Nat} {A : Option Addr} {xs : List Value} (h : Rd w B A xs) (hb : Below w.heap.size w w') : Rd w' w'.heap.size A xs :=
  ((h.top).below hb (Nat.le_refl _)).top
theorem Rd.drew {w : World} {B : Nat} {A : Option Addr} {xs : List Value} (h : Rd w B A xs) : Rd w.drew B A xs := h
theorem Rd.drewN {w : World} {B : Nat} {A : Option Addr} {xs : List Value} (h : Rd w B A xs) (k : Nat) : Rd (w.drewN k) B A xs := h
theorem Rd.alloc {w : World} {B : Nat} {A : Option Addr} {xs : List Value} (h : Rd w B A xs) (hB : B ≤ w.heap.size) (o : Obj) : Rd (w.alloc o) B A xs :=
  h.keep fun p hp => World.cell?_alloc_lt w o p (by omega)
theorem Rd.setCell {w : World} {B : Nat} {A : Option Addr} {xs : List Value} (h : Rd w B A xs) {p : Addr} (hB : B ≤ p.block) (u : Value) : Rd (w.setCell p u) B A xs :=
  h.keep fun q hq => World.cell?_setCell_other w p q u (fun e => by subst e; omega)
theorem Rd.grown {w w' : World} {B : Nat} {A : Option Addr} {xs : List Value} {row : Option Nat} (h : Rd w B A xs) (hg : w.grownBy w' row) (hB : B ≤ w.heap.size) (hr : ∀ g, row = some g → B ≤ g) : Rd w' B A xs :=
  h.keep fun p hp => World.cell?_of_block (hg.block p.block (by omega) (fun e => by have := hr _ e.symm; omega))
theorem Rd.drop {w : World} {B : Nat} {A : Option Addr} {xs : List Value} (h : Rd w B A xs) (k : Nat) : Rd w B (A.map (·.add k)) (xs.drop k) := fun hn => by
  obtain ⟨ad, rfl, hb, hc⟩ := h (fun e => hn (by simp [e]))
  refine ⟨ad.add k, rfl, by rw [blk_add]; exact hb, fun i u hu => ?_⟩
  rw [addadd]
  exact hc _ u (by rw [← hu, List.getElem?_drop])
theorem Rd.take {w : World} {B : Nat} {A : Option Addr} {xs : List Value} (h : Rd w B A xs) (k : Nat) : Rd w B A (xs.take k) := fun hn => by
  obtain ⟨ad, e, hb, hc⟩ := h (fun e => hn (by simp [e]))
  refine ⟨ad, e, hb, fun i u hu => hc i u ?_⟩
  rw [List.getElem?_take] at hu
  split at hu
  · exact hu
  · cases hu
/-- What the model writes for the address of s[k:..]: at the capacity's end the old address stays. -/
theorem Rd.cut {w : World} {B : Nat} {A : Option Addr} {xs : List Value} (h : Rd w B A xs) {k cap : Nat} (hc : xs.length ≤ cap) : Rd w B (if cap = k then A else A.map (·.add k)) (xs.drop k) := by
  by_cases e : cap = k
  · have : xs.drop k = [] := List.drop_eq_nil_of_le (by omega)
    rw [this]; exact Rd.nil
  · rw [if_neg e]; exact h.drop k
theorem Rd.at_ {w : World} {B : Nat} {A : Option Addr} {xs : List Value} (h : Rd w B A xs) {k : Nat} (hk : k < xs.length) : ∃ ad u, A = some ad ∧ ad.block < B ∧ xs[k]? = some u ∧ w.cell? (ad.add k) = some u := by
  obtain ⟨ad, e, hb, hc⟩ := h (fun e => by simp [e] at hk)
  exact ⟨ad, xs[k], e, hb, List.getElem?_eq_getElem hk, hc k _ (List.getElem?_eq_getElem hk)⟩
theorem Rd.own {w : World} {base : Nat} {e : TypeId} {size : Nat} {A : Option Addr} {n c : Nat} {xs : List Value} (h : w.ownsRow base e size (.slice A n c) n xs) : Rd w w.heap.size A xs := fun hn => by
  have h0 : 0 < n := by
    rcases Nat.eq_zero_or_pos n with h0 | h0
    · exact absurd (List.eq_nil_of_length_eq_zero (by rw [h.1, h0]; simp)) hn
    · exact h0
  obtain ⟨g, cap, hv, _, hlt⟩ := h.form h0
  have hA : A = some ⟨g, 0, none⟩ := by injection hv
  subst hA
  exact ⟨_, rfl, hlt, h.cells (g := g) rfl⟩

/-- A byte's cell, a number's cell. -/
def bV (x : UInt8) : Value := .int .u8 (x.toNat : Int)
def iV (x : Int) : Value := .int .i64 x
/-- The elements l stand from A on, one cell each. -/
def RL {α : Type} (f : α → Value) (w : World) (B : Nat) (A : Option Addr) (l : List α) : Prop := Rd w B A (l.map f)
/-- A slice of the call's own that holds the elements l. -/
def OwL {α : Type} (f : α → Value) (w : World) (base : Nat) (e : TypeId) (v : Value) (l : List α) : Prop := w.ownsRow base e 1 v l.length (l.map f)
abbrev RB := RL bV
abbrev RI := RL iV
abbrev OwB := OwL bV
abbrev OwI := OwL iV

section
variable {α : Type} {f : α → Value} {w w' : World} {B B' : Nat} {A : Option Addr} {l : List α} {base : Nat} {e : TypeId} {v : Value}
theorem RL.nil : RL f w B A [] := Rd.nil
theorem RL.atl (h : RL f w B A l) {k : Nat} (hk : k < l.length) : ∃ ad x, A = some ad ∧ ad.block < B ∧ Hid (l[k]? = some x) ∧ w.cell? (ad.add k) = some (f x) := by
  obtain ⟨ad, u, e, hb, hu, hc⟩ := Rd.at_ h (k := k) (by simpa using hk)
  refine ⟨ad, l[k], e, hb, List.getElem?_eq_getElem hk, ?_⟩
  rw [hc, ← hu]; simp [hk]
theorem RL.byte {l : List UInt8} (h : RB w B A l) {k : Nat} (hk : k < l.length) :
    ∃ ad x, A = some ad ∧ ad.block < B ∧ Hid (l[k]? = some x) ∧ w.cell? (ad.add k) = some (.int .u8 (x.toNat : Int)) := RL.atl h hk
theorem RL.num {l : List Int} (h : RI w B A l) {k : Nat} (hk : k < l.length) :
    ∃ ad x, A = some ad ∧ ad.block < B ∧ Hid (l[k]? = some x) ∧ w.cell? (ad.add k) = some (.int .i64 x) := RL.atl h hk
theorem RL.drop (h : RL f w B A l) (k : Nat) : RL f w B (A.map (·.add k)) (l.drop k) := by
  unfold RL; rw [List.map_drop]; exact Rd.drop h k
theorem RL.take (h : RL f w B A l) (k : Nat) : RL f w B A (l.take k) := by
  unfold RL; rw [List.map_take]; exact Rd.take h k
theorem RL.cut (h : RL f w B A l) {k cap : Nat} (hc : l.length ≤ cap) : RL f w B (if cap = k then A else A.map (·.add k)) (l.drop k) := by
  unfold RL; rw [List.map_drop]; exact Rd.cut h (by simpa using hc)
theorem RL.below (h : RL f w B A l) (hb : Below B' w w') (hB : B ≤ B') : RL f w' B A l := Rd.below h hb hB
theorem RL.more (h : RL f w B A l) (hB : B ≤ B') : RL f w B' A l := Rd.more h hB
theorem RL.top (h : RL f w B A l) : RL f w w.heap.size A l := Rd.top h
theorem RL.step (h : RL f w B A l) (hb : Below w.heap.size w w') : RL f w' w'.heap.size A l := Rd.step h hb
theorem RL.drew (h : RL f w B A l) : RL f w.drew B A l := h
theorem OwL.drew (h : OwL f w base e v l) : OwL f w.drew base e v l := h
theorem OwL.drewN (h : OwL f w base e v l) (k : Nat) : OwL f (w.drewN k) base e v l := h
theorem RL.drewN (h : RL f w B A l) (k : Nat) : RL f (w.drewN k) B A l := h
theorem RL.alloc (h : RL f w B A l) (hB : B ≤ w.heap.size) (o : Obj) : RL f (w.alloc o) B A l := Rd.alloc h hB o
theorem RL.setCell (h : RL f w B A l) {p : Addr} (hB : B ≤ p.block) (u : Value) : RL f (w.setCell p u) B A l := Rd.setCell h hB u
theorem RL.grown {row : Option Nat} (h : RL f w B A l) (hg : w.grownBy w' row) (hB : B ≤ w.heap.size) (hr : ∀ g, row = some g → B ≤ g) : RL f w' B A l := Rd.grown h hg hB hr
/-- The bound out of one world, the cells out of another. -/
theorem RL.low {B' : Nat} (h : RL f w B A l) (h' : RL f w' B' A l) : RL f w' B A l := fun hn => by
  obtain ⟨ad, e, hb, _⟩ := h hn
  obtain ⟨ad', e', _, hc⟩ := h' hn
  rw [e] at e'
  injection e' with e'
  subst e'
  exact ⟨ad, e, hb, hc⟩
theorem RL.fresh (w : World) (x : α) (e : TypeId) : RL f (w.alloc (.cells #[f x] e)) (w.heap.size + 1) (some ⟨w.heap.size, 0, none⟩) [x] :=
  fun _ => ⟨_, rfl, Nat.lt_succ_self _, cell_one_new _ _ _⟩
theorem RL.freshe (w : World) (x : α) {u : Value} (h : u = f x) (e : TypeId) : RL f (w.alloc (.cells #[u] e)) (w.heap.size + 1) (some ⟨w.heap.size, 0, none⟩) [x] := by
  subst h; exact RL.fresh w x e
theorem OwL.nil : OwL f w base e (.slice none 0 0) [] := World.ownsRow_nil _ _ _ _
theorem OwL.lit0 (w : World) (hB : base ≤ w.heap.size) : OwL f (w.alloc (.cells #[] e)) base e (.slice (some ⟨w.heap.size, 0, none⟩) 0 0) [] :=
  World.ownsRow_made w #[] 0 hB (by unfold maxLen; omega) (by simp)
theorem OwL.alloc (h : OwL f w base e v l) (o : Obj) : OwL f (w.alloc o) base e v l := World.ownsRow.alloc h o
theorem OwL.rd (h : OwL f w base e v l) : ∃ A c, v = .slice A l.length c ∧ RL f w w.heap.size A l ∧ l.length ≤ c ∧ (c : Int) ≤ 9223372036854775807 := by
  rcases h.2 with ⟨rfl, h0⟩ | ⟨g, cap, cur, rfl, hb, hh, hc, hm, r⟩
  · have : l = [] := List.eq_nil_of_length_eq_zero h0
    subst this
    exact ⟨none, 0, rfl, Rd.nil, Nat.le_refl _, by omega⟩
  · exact ⟨_, cap, rfl, Rd.own (size := 1) (h : w.ownsRow base e 1 _ l.length (l.map f)), hc, by unfold maxLen at hm; omega⟩
theorem OwL.rl {n c : Nat} (h : OwL f w base e (.slice A n c) l) : RL f w w.heap.size A l := by
  obtain ⟨A', c', hv, hr, _⟩ := h.rd
  injection hv with h1 _ _
  subst h1
  exact hr
theorem OwL.below (h : OwL f w base e v l) (hb : Below w.heap.size w w') : OwL f w' base e v l :=
  World.ownsRow.kept (row := none) h ⟨hb.os, hb.tape, hb.output, hb.size, fun k hk _ => hb.block k hk⟩ (by cases hv : v.ownBlock <;> simp)
/-- What a row of the call's own says hangs on the blocks from its base on alone. -/
theorem OwL.agree (h : OwL f w base e v l) (ha : ∀ k, base ≤ k → k < w.heap.size → w'.heap[k]? = w.heap[k]?) : OwL f w' base e v l := by
  refine ⟨h.1, ?_⟩
  rcases h.2 with hn | ⟨g, cap, cur, rfl, hb, hgg, rest⟩
  · exact .inl hn
  · exact .inr ⟨g, cap, cur, rfl, hb, (ha g hb (Array.getElem?_eq_some_iff.1 hgg).1).trans hgg, rest⟩
theorem OwL.kept {row : Option Nat} (h : OwL f w base e v l) (hg : w.grownBy w' row) (hne : v.ownBlock = none ∨ v.ownBlock ≠ row) : OwL f w' base e v l := World.ownsRow.kept h hg hne
theorem OwL.low {base' : Nat} (h : OwL f w base e v l) (hB : base' ≤ base) : OwL f w base' e v l := by
  refine ⟨h.1, ?_⟩
  rcases h.2 with h0 | ⟨g, cap, cur, hv, hb, r⟩
  · exact .inl h0
  · exact .inr ⟨g, cap, cur, hv, Nat.le_trans hB hb, r⟩
theorem OwL.len {g n c : Nat} (h : OwL f w base e (.slice (some ⟨g, 0, none⟩) n c) l) : n = l.length := by
  rcases h.2 with ⟨h', _⟩ | ⟨g', cap', cur, h', _⟩
  · simp at h'
  · simp only [Value.slice.injEq] at h'; exact h'.2.1
theorem OwL.cell {g n c : Nat} (h : OwL f w base e (.slice (some ⟨g, 0, none⟩) n c) l) {k : Nat} {x : α} (hx : l[k]? = some x) : w.cell? ⟨g, k, none⟩ = some (f x) := by
  have := World.ownsRow.cells h (g := g) rfl k (f x) (by simp [hx])
  rwa [Addr.add_lit, Nat.zero_add] at this
theorem OwL.frz {g n c : Nat} (h : OwL f w base e (.slice (some ⟨g, 0, none⟩) n c) l) (j : Nat) : w.frozen? ⟨g, j, none⟩ = false := by
  have hn := h.len
  subst hn
  exact World.ownsRow.frozenAt h j
theorem OwL.set {g n c : Nat} (h : OwL f w base e (.slice (some ⟨g, 0, none⟩) n c) l) (k : Nat) (x : α) :
    OwL f (w.setCell ⟨g, k, none⟩ (f x)) base e (.slice (some ⟨g, 0, none⟩) n c) (l.set k x) := by
  have hn := h.len
  subst hn
  have := (World.ownsRow.stored h k (f x)).1
  unfold OwL
  rw [List.map_set, List.length_set]
  exact this
theorem OwL.blk {g n c : Nat} (h : OwL f w base e (.slice (some ⟨g, 0, none⟩) n c) l) : base ≤ g ∧ g < w.heap.size := World.ownsRow.lt h g rfl
theorem OwL.made {z : α} {n g c : Nat} (h : w.ownsRow base e 1 (.slice (some ⟨g, 0, none⟩) n c) n (madeCells #[f z] n).toList) : OwL f w base e (.slice (some ⟨g, 0, none⟩) n c) (List.replicate n z) := by
  unfold OwL
  rw [List.length_replicate, List.map_replicate]
  rwa [toList_madeCells_one] at h
theorem map_cells (hf : ∀ x, (f x).oneCell' = true) (l : List α) : ∀ u ∈ l.map f, u.oneCell' = true := by
  intro u hu
  obtain ⟨x, _, rfl⟩ := List.mem_map.1 hu
  exact hf x
end

/-- The row of the table for slice type t with elements of type e: zero value, cells, bytes. -/
structure ETy (P : Program) (t e : TypeId) (z : Value) (size bytes : Nat) : Prop where
  sl : P.underlying t = some (.slice e)
  info : ∃ i, P.info? e = some i ∧ i.zero = some z ∧ i.size = size ∧ i.bytes = bytes
  cells : z.cells.size = size
  pos : 0 < size

section
variable {P : Program} (w : World)
theorem run_append_nothing (base : Nat) (t ty e : TypeId) (i : TypeInfo) (size : Nat) (ht : P.underlying t = some (.slice e)) (hi : P.info? e = some i)
    (v : Value) (n : Nat) (xs : List Value) (hown : w.ownsRow base e size v n xs) (c : Nat) : (Builtin.append_ #[t, t] ty #[v, .slice none 0 c]).run P w = .ok v w := by
  rcases hown.2 with ⟨rfl, rfl⟩ | ⟨g, cap, cur, rfl, _, _, hnc, _⟩
  · simp [Builtin.append_, run_underlying ht, sizeOf, typeInfo, hi, Builtin.lenOf, Builtin.firstCells]
  · simp [Builtin.append_, run_underlying ht, sizeOf, typeInfo, hi, Builtin.lenOf, Builtin.firstCells, hnc, storeCells]

/-- append(v, s...) onto a row of the call's own, whatever s is (nil, empty or not). -/
theorem run_append_rd (base : Nat) (t ty e : TypeId) (i : TypeInfo) (z : Value) (size bytes : Nat) (ht : P.underlying t = some (.slice e)) (hi : P.info? e = some i) (hz : i.zero = some z)
    (hsize : i.size = size) (hby : i.bytes = bytes) (hzs : z.cells.size = size) (hsz : 0 < size)
    (v : Value) (n : Nat) (xs : List Value) (hown : w.ownsRow base e size v n xs)
    (B : Nat) (A : Option Addr) (m c : Nat) (news : List Value) (hl : news.length = m * size) (hr : Rd w B A news) (h1 : ∀ u ∈ news, u.oneCell' = true)
    (h63 : n + m ≤ maxLen) (hbytes : (n + m) * bytes ≤ 140737488355328) (hbase : base ≤ w.heap.size) :
    ∃ v' w', (Builtin.append_ #[t, t] ty #[v, .slice A m c]).run P w = .ok v' w' ∧ w'.ownsRow base e size v' (n + m) (xs ++ news) ∧ w.grownBy w' v.ownBlock ∧
      (v'.ownBlock = v.ownBlock ∨ v'.ownBlock = some w.heap.size) := by
  rcases A with _ | ad
  · have hn : news = [] := by
      rcases Decidable.em (news = []) with h0 | h0
      · exact h0
      · obtain ⟨ad, h, _⟩ := hr h0; cases h
    subst hn
    have hm : m = 0 := by
      rcases Nat.eq_zero_or_pos m with h0 | h0
      · exact h0
      · have := Nat.mul_pos h0 hsz; simp at hl; omega
    subst hm
    exact ⟨v, w, run_append_nothing w base t ty e i size ht hi v n xs hown c, by simpa using hown, World.grownBy.refl w _, .inl rfl⟩
  · have hcells : ∀ j u, news[j]? = some u → w.cell? (ad.add j) = some u := by
      intro j u hu
      obtain ⟨ad', h, _, hc⟩ := hr (fun e => by simp [e] at hu)
      injection h with h
      subst h
      exact hc j u hu
    obtain ⟨v', w', hrun, h2, h3, _, h5⟩ := run_append_own_at (P := P) w base t ty e i z size bytes ht hi hz hsize hby hzs hsz v n xs hown ad m c news hl hcells h1 h63 hbytes hbase
    exact ⟨v', w', hrun, h2, h3, h5⟩

/-- The same at a plain region's list of operations. What is left behind it: the new value, the new world, that it owns the whole, what has grown, and that nothing older than 'base' has turned. -/
theorem wpList_app {ops : Array Oper} {rest : List Oper} {o : Oper} {a : Act} {Q : Exit → Act → World → Prop} (hgd : o.guard = none) (s x : Operand) (t : TypeId)
    (ho : o.op = .call { callee := .builtin .append, args := #[s, x], argTypes := #[t, t] })
    (base : Nat) (e : TypeId) {i : TypeInfo} {z : Value} {size bytes : Nat} (ht : P.underlying t = some (.slice e)) (hi : P.info? e = some i) (hz : i.zero = some z)
    (hsize : i.size = size) (hby : i.bytes = bytes) (hzs : z.cells.size = size) (hsz : 0 < size)
    (v : Value) (n : Nat) (xs : List Value) (hs : a.eval s = v) (hown : w.ownsRow base e size v n xs)
    (B : Nat) (A : Option Addr) (m c : Nat) (news : List Value) (hx : a.eval x = .slice A m c) (hl : news.length = m * size) (hr : Rd w B A news) (h1 : ∀ u ∈ news, u.oneCell' = true)
    (h63 : n + m ≤ maxLen) (hbytes : (n + m) * bytes ≤ 140737488355328) (hbase : base ≤ w.heap.size)
    (h : ∀ v' w', w'.ownsRow base e size v' (n + m) (xs ++ news) → w.grownBy w' v.ownBlock → (v'.ownBlock = v.ownBlock ∨ v'.ownBlock = some w.heap.size) → Below base w w' → wpList P ops Q rest (a.put o.dst v') w') : wpList P ops Q (o :: rest) a w :=
  wpList_plain hgd fun K hK => by
    obtain ⟨v', w', hrun, h2, h3, h4⟩ := run_append_rd (P := P) w base t o.type e i z size bytes ht hi hz hsize hby hzs hsz v n xs hown B A m c news hl hr h1 h63 hbytes hbase
    unfold Oper.wp execOp
    simp only [ho, resolve, invoke, builtin, Sem.run_bind, Sem.run_pure, Result.andThen_ok, List.map_toArray, List.map_cons, List.map_nil, hs, hx, hrun]
    exact hK _ _ (h v' w' h2 h3 h4 ((Below.refl _ _).grown h3 hbase fun k hk => (hown.lt k hk).1))

theorem wpList_appL {α : Type} {f : α → Value} (hf : ∀ x, (f x).oneCell' = true) {ops : Array Oper} {rest : List Oper} {o : Oper} {a : Act} {Q : Exit → Act → World → Prop} (hgd : o.guard = none) (s x : Operand) {t e : TypeId} {z : Value} {bytes : Nat}
    (ho : o.op = .call { callee := .builtin .append, args := #[s, x], argTypes := #[t, t] }) (hE : ETy P t e z 1 bytes) (hby : 0 < bytes)
    (base : Nat) (v : Value) (l : List α) (hs : a.eval s = v) (hown : OwL f w base e v l)
    (B : Nat) (A : Option Addr) (m c : Nat) (news : List α) (hx : a.eval x = .slice A m c) (hl : news.length = m) (hr : RL f w B A news)
    (hn : (l.length + news.length) * bytes ≤ 140737488355328) (hbase : base ≤ w.heap.size)
    (h : ∀ v' w', OwL f w' base e v' (l ++ news) → w.grownBy w' v.ownBlock → (v'.ownBlock = v.ownBlock ∨ v'.ownBlock = some w.heap.size) → Below base w w' → wpList P ops Q rest (a.put o.dst v') w') : wpList P ops Q (o :: rest) a w := by
  obtain ⟨i, hi, hz, hsz, hb⟩ := hE.info
  subst hl
  have hm : (l.length + news.length) * 1 ≤ (l.length + news.length) * bytes := Nat.mul_le_mul (Nat.le_refl _) hby
  refine wpList_app w hgd s x t ho base e hE.sl hi hz hsz hb hE.cells hE.pos v l.length (l.map f) hs hown B A news.length c (news.map f) hx (by simp) hr (map_cells hf _) (by unfold maxLen; omega) hn hbase ?_
  intro v' w' h1 h2 h3 h4
  exact h v' w' (by unfold OwL; rw [List.length_append, List.map_append]; exact h1) h2 h3 h4
/-- The same at a step of a region that draws its order. -/
theorem step_appL {α : Type} {f : α → Value} (hf : ∀ x, (f x).oneCell' = true) {ops : Array Oper} {o : Oper} {a : Act} {K : Act → World → Prop} {Q : Exit → Act → World → Prop} {E : Prop} (hgd : o.guard = none) (s x : Operand) {t e : TypeId} {z : Value} {bytes : Nat}
    (ho : o.op = .call { callee := .builtin .append, args := #[s, x], argTypes := #[t, t] }) (hE : ETy P t e z 1 bytes) (hby : 0 < bytes)
    (base : Nat) (v : Value) (l : List α) (hs : a.eval s = v) (hown : OwL f w base e v l)
    (B : Nat) (A : Option Addr) (m c : Nat) (news : List α) (hx : a.eval x = .slice A m c) (hl : news.length = m) (hr : RL f w B A news)
    (hn : (l.length + news.length) * bytes ≤ 140737488355328) (hbase : base ≤ w.heap.size)
    (h : ∀ v' w', OwL f w' base e v' (l ++ news) → w.grownBy w' v.ownBlock → (v'.ownBlock = v.ownBlock ∨ v'.ownBlock = some w.heap.size) → Below base w w' → K (a.put o.dst v') w') :
    if Region.wanted o (yielded ops a.tmps) = true then Oper.wp P o a w K Q else E := by
  have hw : Region.wanted o (yielded ops a.tmps) = true := by simp [Region.wanted, hgd]
  rw [if_pos hw]
  obtain ⟨i, hi, hz, hsz, hb⟩ := hE.info
  subst hl
  have hm : (l.length + news.length) * 1 ≤ (l.length + news.length) * bytes := Nat.mul_le_mul (Nat.le_refl _) hby
  obtain ⟨v', w', hrun, h2, h3, h4⟩ := run_append_rd (P := P) w base t o.type e i z 1 bytes hE.sl hi hz hsz hb hE.cells hE.pos v l.length (l.map f) hown B A news.length c (news.map f) (by simp) hr (map_cells hf _) (by unfold maxLen; omega) hn hbase
  unfold Oper.wp execOp
  simp only [ho, resolve, invoke, builtin, Sem.run_bind, Sem.run_pure, Result.andThen_ok, List.map_toArray, List.map_cons, List.map_nil, hs, hx, hrun]
  exact h v' w' (by unfold OwL; rw [List.length_append, List.map_append]; exact h2) h3 h4 ((Below.refl _ _).grown h3 hbase fun k hk => (World.ownsRow.lt hown k hk).1)
theorem bV_one (x : UInt8) : (bV x).oneCell' = true := rfl
theorem iV_one (x : Int) : (iV x).oneCell' = true := rfl
end
/-- The one new cell that append(v, x) lays ahead. -/
theorem Rd.one {w : World} {g : Nat} {u : Value} (h : w.cell? ⟨g, 0, none⟩ = some u) : Rd w (g + 1) (some ⟨g, 0, none⟩) [u] := fun _ =>
  ⟨_, rfl, Nat.lt_succ_self _, fun i v hv => by
    match i, hv with
    | 0, hv => simp at hv; subst hv; simpa [Addr.add] using h⟩
theorem Rd.fresh (w : World) (u : Value) (e : TypeId) : Rd (w.alloc (.cells #[u] e)) (w.heap.size + 1) (some ⟨w.heap.size, 0, none⟩) [u] :=
  fun _ => ⟨_, rfl, Nat.lt_succ_self _, cell_one_new _ _ _⟩
/-- Block g is just the cells cs of type t, none of them frozen. -/
def Bk (w : World) (g : Nat) (t : TypeId) (cs : Array Value) : Prop := w.heap[g]? = some (.cells cs t (0, 0))
section
variable {w w' : World} {g : Nat} {t : TypeId} {cs : Array Value}
theorem Bk.lt (h : Bk w g t cs) : g < w.heap.size := by
  rcases Nat.lt_or_ge g w.heap.size with hlt | hge
  · exact hlt
  · unfold Bk at h; rw [Array.getElem?_eq_none hge] at h; cases h
theorem Bk.cell (h : Bk w g t cs) (i : Nat) : w.cell? ⟨g, i, none⟩ = cs[i]? := cell_of_row w g i cs t (0, 0) h
theorem Bk.frz (h : Bk w g t cs) (i : Nat) : w.frozen? ⟨g, i, none⟩ = false := by
  unfold Bk at h
  simp [World.frozen?, h]
theorem Bk.new (w : World) (t : TypeId) (cs : Array Value) : Bk (w.alloc (.cells cs t)) w.heap.size t cs := heap_alloc_new w _
theorem Bk.newAt {g : Nat} (w : World) (t : TypeId) (cs : Array Value) (hg : w.heap.size = g) : Bk (w.alloc (.cells cs t)) g t cs := by subst hg; exact Bk.new w t cs
theorem Bk.drewN (h : Bk w g t cs) (n : Nat) : Bk (w.drewN n) g t cs := h
theorem Bk.alloc (h : Bk w g t cs) (o : Obj) : Bk (w.alloc o) g t cs := (Below.heap_alloc w o g h.lt).trans h
theorem Bk.set (h : Bk w g t cs) (i : Nat) (u : Value) : Bk (w.setCell ⟨g, i, none⟩ u) g t (cs.setIfInBounds i u) := by
  unfold Bk at h ⊢
  simp [World.setCell, Array.getElem?_modify, h]
theorem Bk.far (h : Bk w g t cs) {p : Addr} (hp : g ≠ p.block) (u : Value) : Bk (w.setCell p u) g t cs := (Below.heap_setCell w p u g hp).trans h
theorem Bk.below {B : Nat} (h : Bk w g t cs) (hb : Below B w w') (hg : g < B) : Bk w' g t cs := (hb.block g hg).trans h
theorem Bk.grown {row : Option Nat} (h : Bk w g t cs) (hb : w.grownBy w' row) (hg : some g ≠ row) : Bk w' g t cs := (hb.block g h.lt hg).trans h
end
/-- What has turned is block 'row' alone, and what is new. -/
theorem gb_drewN {a w : World} {row : Option Nat} (h : a.grownBy w row) (n : Nat) : a.grownBy (w.drewN n) row := ⟨h.os, h.tape, h.output, h.size, h.block⟩
theorem gb_alloc {a w : World} {row : Option Nat} (h : a.grownBy w row) (o : Obj) : a.grownBy (w.alloc o) row :=
  ⟨h.os, h.tape, h.output, Nat.le_trans h.size (by simp), fun i hi hne => (Below.heap_alloc w o i (Nat.lt_of_lt_of_le hi h.size)).trans (h.block i hi hne)⟩
theorem gb_set {a w : World} {g : Nat} (h : a.grownBy w (some g)) (o : Nat) (u : Value) : a.grownBy (w.setCell ⟨g, o, none⟩ u) (some g) :=
  ⟨h.os, h.tape, h.output, by simpa [World.setCell] using h.size, fun i hi hne => (Below.heap_setCell w ⟨g, o, none⟩ u i (fun e => hne (by rw [e]))).trans (h.block i hi hne)⟩
theorem gb_new {a w : World} {row : Option Nat} (h : a.grownBy w row) {p : Addr} (hp : a.heap.size ≤ p.block) (u : Value) : a.grownBy (w.setCell p u) row :=
  ⟨h.os, h.tape, h.output, by simpa [World.setCell] using h.size, fun i hi hne => (Below.heap_setCell w p u i (by omega)).trans (h.block i hi hne)⟩
theorem gb_below {a w : World} (h : Below a.heap.size a w) (row : Option Nat) : a.grownBy w row := ⟨h.os, h.tape, h.output, h.size, fun i hi _ => h.block i hi⟩
theorem gb_trans {a b c : World} {row : Option Nat} (h : a.grownBy b row) (k : b.grownBy c row) : a.grownBy c row :=
  ⟨k.os.trans h.os, k.tape.trans h.tape, k.output.trans h.output, Nat.le_trans h.size k.size, fun i hi hne => (k.block i (Nat.lt_of_lt_of_le hi h.size) hne).trans (h.block i hi hne)⟩
theorem gb_then {a b c : World} {row : Option Nat} (h : a.grownBy b row) (k : Below b.heap.size b c) : a.grownBy c row := gb_trans h (gb_below k row)
theorem gb_low {a b : World} {g B : Nat} (h : a.grownBy b (some g)) (hB : B ≤ g) (hs : g < a.heap.size) : Below B a b :=
  ⟨h.os, h.tape, h.output, h.size, fun i hi => h.block i (by omega) (fun e => by injection e; omega)⟩
theorem quiet_eq {P : Program} {f : FuncId} {args : Array Value} {w : World} {n : Nat} {v : Value}
    (h : Calls P f args (w.drewN n) fun e w' => e = .returned v ∧ w.drewN n = w') : Calls P f args (w.drewN n) fun e w'' => e = .returned v ∧ ∃ m, w'' = w.drewN m :=
  h.mono fun _ _ ⟨he, hm⟩ => ⟨he, n, hm.symm⟩
theorem ret_v {v v' : Value} (h : v = v') : Ending.returned v = Ending.returned v' := by rw [h]
theorem bcell {W w1 : World} {B : Nat} (hb : Below B W w1) : (∀ b o, b < B → w1.cell? ⟨b, o, none⟩ = W.cell? ⟨b, o, none⟩) ∧ (∀ b o, b < B → w1.frozen? ⟨b, o, none⟩ = W.frozen? ⟨b, o, none⟩) :=
  ⟨fun b o h => hb.cell (p := ⟨b, o, none⟩) h, fun b o h => hb.frozen (p := ⟨b, o, none⟩) h⟩
/-- A new block, and B is no more than what there was at first. -/
theorem bl_alloc {B : Nat} {a w : World} (h : Below B a w) (hB : B ≤ a.heap.size) (o : Obj) : Below B a (w.alloc o) := h.alloc (Nat.le_trans hB h.size) o
theorem below_drewN {B : Nat} {a w : World} (h : Below B a w) (n : Nat) : Below B a (w.drewN n) := ⟨h.os, h.tape, h.output, h.size, h.block⟩
theorem RL.news {α : Type} {f : α → Value} (w : World) (l : List α) (cs : Array Value) (h : cs.toList = l.map f) (e : TypeId) (fr : Nat × Nat) : RL f (w.alloc (.cells cs e fr)) (w.heap.size + 1) (some ⟨w.heap.size, 0, none⟩) l := fun _ =>
  ⟨_, rfl, Nat.lt_succ_self _, fun i u hu => by
    have e : (⟨w.heap.size, 0, none⟩ : Addr).add i = ⟨w.heap.size, i, none⟩ := by unfold Addr.add; split <;> simp_all
    rw [e, World.cell?_alloc_mark, ← Array.getElem?_toList, h]; exact hu⟩
end Go.Proofs.YtokojichjliieaaDoor
namespace Go.Proofs.YtokojichjliieaaDoor
theorem ba_eq {s t : ByteArray} (h : s.data.toList = t.data.toList) : s = t := ByteArray.ext (Array.toList_inj.1 h)
theorem size_len (s : ByteArray) : s.data.toList.length = s.size := rfl
theorem byte_at {s : ByteArray} {k : Nat} (h : k < s.size) : s.data.toList[k]? = some s[k] := by
  rw [List.getElem?_eq_getElem (by exact h)]; rfl
theorem head_at {s : ByteArray} (h : 0 < s.size) : s.data.toList.head? = some s[0] := by
  rw [List.head?_eq_getElem?]; exact byte_at h
theorem tl_ne {s : ByteArray} {l : List UInt8} (h : ¬ s.data.toList = l) : (s.toList == l) = false := by
  rw [Lib.toList_data]; simpa using h
theorem tl_eq {s : ByteArray} {l : List UInt8} (h : s.data.toList = l) : (s.toList == l) = true := by
  rw [Lib.toList_data]; simpa using h
theorem tl_some {s : ByteArray} (h : ¬ s.data.toList = []) : s.toList.isEmpty = false := by
  rw [Lib.toList_data]; simpa using h
theorem tl_none {s : ByteArray} (h : s.data.toList = []) : s.toList.isEmpty = true := by
  rw [Lib.toList_data]; simpa using h
theorem size_zero {s : ByteArray} (h : s.data.toList = []) : s.size = 0 := by rw [← size_len, h]; rfl
theorem size_pos {s : ByteArray} (h : ¬ s.data.toList = []) : 0 < s.size := by rw [← size_len]; exact List.length_pos_iff.2 h
theorem mk_toList (l : List UInt8) : (⟨l.toArray⟩ : ByteArray).data.toList = l := rfl
theorem ret_bool {b b' : Bool} (h : b = b') : Ending.returned (.bool b) = Ending.returned (.bool b') := by rw [h]
theorem u8_ne {x y : UInt8} (h : ¬ x = y) : ¬ (x.toNat : Int) = (y.toNat : Int) := fun e => h (UInt8.toNat_inj.1 (by omega))
end Go.Proofs.YtokojichjliieaaDoor
namespace Go.Proofs.YtokojichjliieaaDoor
open Go.ChangeShapes Go.WideShapes Go.ChangeAt Go.RowKit
open Go.ChangeMaps (open_string shut_string)
open Go.Deep (open_slice choose_lt hone_of oneCellFields)

theorem own : ownKnob Tryd.prog.godebug = none := by kernel_rfl
theorem laidOut : laidOutB Tryd.prog = true := by kernel_rfl

section
variable {H : Type} {enc : TypeId × Value → H} {P : Program} {w : World} {base : Nat} {spare : Nat → Bool} {held : Bool} {r : Reach} {b0 : Nat}
/-- What the datum of a slice says of its length. -/
def DLen (d : DataW H) (n : Nat) : Prop := (d = .nil ∧ n = 0) ∨ ∃ es sp, d = .slice es sp ∧ es.length = n

theorem open_bytes {t e : TypeId} {v : Value} {d : DataW H} {ps : List MemPlace} (ht : P.underlying t = some (.slice e)) (he : P.underlying e = some (.int .u8)) (hc : P.cellsOf e = 1)
    (hv : Value.okWide P w r b0 t v) (h : DataW.Trod enc P w base spare held t v d ps) :
    ∃ (A : Option Addr) (n c : Nat) (l : List UInt8), v = .slice A n c ∧ l.length = n ∧ n ≤ c ∧ (c : Int) ≤ 9223372036854775807 ∧ RB w w.heap.size A l ∧ DLen d n := by
  obtain ⟨A, n, c, rfl⟩ := okWide_slice ht hv
  obtain ⟨fuel, hf⟩ := h
  rcases open_ints ht he hc hf with ⟨hcs, hx⟩ | ⟨x, l, c', zs, hcs, _, hl, hm, hz, hx, hcell, hwz⟩
  · simp [Value.cells] at hcs
    obtain ⟨rfl, rfl, rfl⟩ := hcs
    simp only [Prod.mk.injEq] at hx
    exact ⟨none, 0, 0, [], rfl, rfl, Nat.le_refl _, by omega, Rd.nil, .inl ⟨hx.1, rfl⟩⟩
  · simp [Value.cells] at hcs
    obtain ⟨rfl, rfl, rfl⟩ := hcs
    simp only [Prod.mk.injEq] at hx
    have hzl : n ≤ zs.length := by rw [hz]; split <;> omega
    have hlen : (zs.take n).length = n := by simp; omega
    refine ⟨some x, n, c, (zs.take n).map fun q => UInt8.ofNat q.toNat, rfl, by simp; omega, hl, by unfold maxLen at hm; omega, fun hne => ?_, .inr ⟨_, _, hx.1, by simp [lits]; omega⟩⟩
    have key : ∀ i u, (((zs.take n).map fun q => UInt8.ofNat q.toNat).map bV)[i]? = some u → w.cell? (x.add i) = some u := by
      intro i u hu
      have hi : i < n := by
        have := (List.getElem?_eq_some_iff.1 hu).1
        simp at this; omega
      have hiz : i < zs.length := by omega
      rw [hcell i hiz]
      have hw := hwz zs[i] (List.getElem_mem hiz)
      have hb := bounds_u8 hw
      rw [← hu]
      simp only [List.getElem?_map, List.getElem?_take_of_lt hi, List.getElem?_eq_getElem hiz, Option.map_some, List.getD, Option.getD_some, bV, UInt8.toNat_ofNat']
      congr 2
      omega
    refine ⟨x, rfl, ?_, key⟩
    obtain ⟨u, us, hq⟩ := List.exists_cons_of_ne_nil hne
    have := World.block_lt_of_cell? _ _ (key 0 u (by rw [hq]; rfl))
    rwa [blk_add] at this

/-- A slice of whatever elements: F lays an element's cells, Q says what its datum says of it. -/
theorem open_rows {α : Type} [Inhabited α] {t e : TypeId} {v : Value} {d : DataW H} {ps : List MemPlace} (size : Nat) (F : α → List Value) (Q : α → DataW H → Prop) (ht : P.underlying t = some (.slice e)) (hC : P.cellsOf e = size) (hpos : 0 < size)
    (hF : ∀ x, (F x).length = size)
    (hel : ∀ (n : Nat) (cs : List Value) (y : DataW H × List MemPlace), cs.length = size → DataW.trod enc P w base spare held n e cs = some y → ∃ x, cs = F x ∧ Q x y.1)
    (hv : Value.okWide P w r b0 t v) (h : DataW.Trod enc P w base spare held t v d ps) :
    ∃ (A : Option Addr) (n c : Nat) (l : List α), v = .slice A n c ∧ l.length = n ∧ n ≤ c ∧ (c : Int) ≤ 9223372036854775807 ∧ Rd w w.heap.size A (l.flatMap F) ∧
      ((d = .nil ∧ l = []) ∨ ∃ es sp, d = .slice es sp ∧ es.length = n ∧ ∀ (i : Nat) (x : α) (y : DataW H), l[i]? = some x → es[i]? = some y → Q x y) := by
  obtain ⟨A, n, c, rfl⟩ := okWide_slice ht hv
  obtain ⟨fuel, hf⟩ := h
  rcases open_slice ht hf with ⟨hcs, hx⟩ | ⟨a, len, cap, m, n', D, Pl, hcs, _, hl, hm, hmm, hx, hi⟩
  · simp [Value.cells] at hcs
    obtain ⟨rfl, rfl, rfl⟩ := hcs
    simp only [Prod.mk.injEq] at hx
    exact ⟨none, 0, 0, [], rfl, rfl, Nat.le_refl _, by omega, Rd.nil, .inl ⟨hx.1, rfl⟩⟩
  · simp [Value.cells] at hcs
    obtain ⟨rfl, rfl, rfl⟩ := hcs
    simp only [Prod.mk.injEq] at hx
    rw [hC] at hi
    have hlm : n ≤ m := by rw [hmm]; split <;> omega
    obtain ⟨X, hX⟩ := choose_lt (n := n) (α := α) (p := fun i x => (∃ cs', w.cells? base (a.add (i * size)) size = some cs' ∧ cs' = F x) ∧ Q x (D i)) (fun i hin => by
      obtain ⟨cs', h1, h2⟩ := hi i (by omega)
      obtain ⟨_, hlen, _⟩ := World.cells?_some h1
      obtain ⟨x, hx1, hx2⟩ := hel _ _ _ hlen h2
      exact ⟨x, ⟨cs', h1, hx1⟩, hx2⟩)
    have hcell : ∀ i j, i < n → j < size → w.cell? (a.add (i * size + j)) = (F (X i))[j]? := by
      intro i j hin hj
      obtain ⟨⟨cs', h1, h2⟩, _⟩ := hX i hin
      obtain ⟨_, hlen, hat⟩ := World.cells?_some h1
      have := hat j hj
      rw [← Go.Deep.add_add, this, h2]
    have hget : ∀ (k : Nat) (l : List α) (i j : Nat), l.length = k → i < k → j < size → (l.flatMap F)[i * size + j]? = (l[i]?).bind fun x => (F x)[j]? := by
      intro k
      induction k with
      | zero => intro l i j _ h; omega
      | succ k ih =>
        intro l i j hlk hik hj
        match l, hlk with
        | x :: r, hlk =>
          cases i with
          | zero =>
            simp only [List.flatMap_cons, Nat.zero_mul, Nat.zero_add, List.getElem?_cons_zero, Option.bind_some]
            rw [List.getElem?_append_left (by rw [hF]; exact hj)]
          | succ i =>
            simp only [List.flatMap_cons, List.getElem?_cons_succ]
            rw [List.getElem?_append_right (by rw [hF, Nat.add_mul]; omega), hF, show (i + 1) * size + j - size = i * size + j by rw [Nat.add_mul]; omega]
            exact ih r i j (by simpa using hlk) (by omega) hj
    have hll : ((List.range n).map X).length = n := by simp
    have hflen : ∀ l : List α, (l.flatMap F).length = l.length * size := by
      intro l
      induction l with
      | nil => simp
      | cons x r ih => simp only [List.flatMap_cons, List.length_append, ih, hF, List.length_cons, Nat.add_mul]; omega
    have key : ∀ q u, (((List.range n).map X).flatMap F)[q]? = some u → w.cell? (a.add q) = some u := by
      intro q u hu
      have hq : q < n * size := by
        have := (List.getElem?_eq_some_iff.1 hu).1
        rw [hflen, hll] at this; exact this
      have hq1 : q / size < n := Nat.div_lt_of_lt_mul (by rw [Nat.mul_comm]; exact hq)
      have hq2 : q % size < size := Nat.mod_lt _ hpos
      have hqe : q / size * size + q % size = q := by rw [Nat.mul_comm]; exact Nat.div_add_mod q size
      have h1 := hget n _ (q / size) (q % size) hll hq1 hq2
      rw [hqe, hu] at h1
      have h2 := hcell (q / size) (q % size) hq1 hq2
      rw [hqe] at h2
      rw [h2, h1]
      simp [hq1]
    refine ⟨some a, n, c, (List.range n).map X, rfl, hll, hl, by unfold maxLen at hm; omega, fun hne => ⟨a, rfl, ?_, key⟩, .inr ⟨_, _, hx.1, by simp, ?_⟩⟩
    · obtain ⟨u, us, hq⟩ := List.exists_cons_of_ne_nil hne
      have := World.block_lt_of_cell? _ _ (key 0 u (by rw [hq]; rfl))
      rwa [blk_add] at this
    · intro i x y hx1 hy1
      simp only [List.getElem?_map] at hx1 hy1
      obtain ⟨i1, hi1, rfl⟩ := Option.map_eq_some_iff.1 hx1
      obtain ⟨i2, hi2, rfl⟩ := Option.map_eq_some_iff.1 hy1
      have e1 := List.getElem?_eq_some_iff.1 hi1
      have e2 := List.getElem?_eq_some_iff.1 hi2
      obtain ⟨h1, rfl⟩ := e1
      obtain ⟨h2, rfl⟩ := e2
      simp only [List.getElem_range]
      exact (hX i (by simpa using h1)).2
/-- The fields of a struct of one-cell fields. -/
theorem open_fields {e : TypeId} {fs : Array Field} {n : Nat} {cs : List Value} {y : DataW H × List MemPlace} (he : P.underlying e = some (.struct fs)) (hone : oneCellFields P fs = true) (hC : P.cellsOf e = fs.size)
    (h : DataW.trod enc P w base spare held n e cs = some y) :
    ∃ (ys : List (DataW H × List MemPlace)) (n' : Nat), y.1 = .agg (ys.map (·.1)) ∧ ys.length = fs.size ∧ cs.length = fs.size ∧
      ∀ (j : Nat) (f : Field), fs[j]? = some f → ∃ (v : Value) (z : DataW H × List MemPlace), cs[j]? = some v ∧ ys[j]? = some z ∧ DataW.trod enc P w base spare held n' f.type [v] = some z := by
  obtain ⟨ys, n', _, hy, hlen, hyl, hf⟩ := DataW.trod_struct he h
  refine ⟨ys, n', by rw [hy], hyl, hlen.trans hC, fun j f hj => ?_⟩
  obtain ⟨ho, hk⟩ := hone_of hone j f hj
  have hjl : j < fs.size := (Array.getElem?_eq_some_iff.1 hj).1
  have hcl : j < cs.length := by rw [hlen, hC]; exact hjl
  have h1 := hf j f hj
  rw [ho, hk, List.drop_eq_getElem_cons hcl] at h1
  have hys : ys[j]? = some (ys[j]'(by omega)) := List.getElem?_eq_getElem (by omega)
  exact ⟨cs[j], _, List.getElem?_eq_getElem hcl, hys, h1.trans hys⟩
end

section
variable {H : Type}
theorem bulk_one (d : DataW H) : 1 ≤ Rows.uptoBulk d := by
  cases d with
  | lit l => cases l <;> simp [Rows.uptoBulk]
  | nil => simp [Rows.uptoBulk]
  | ptr d => simp [Rows.uptoBulk]
  | slice elems spare => simp [Rows.uptoBulk]
  | agg parts => simp [Rows.uptoBulk]
  | iface t d => simp [Rows.uptoBulk]
  | map entries => simp [Rows.uptoBulk]
  | held h => simp [Rows.uptoBulk]
theorem bulk_len (l : List (DataW H)) : l.length ≤ Rows.uptoBulkAll l := by
  induction l with
  | nil => simp [Rows.uptoBulkAll]
  | cons x r ih => have := bulk_one x; simp only [Rows.uptoBulkAll, List.length_cons]; omega
theorem bulk_slice {d : DataW H} {n : Nat} (h : DLen d n) : n ≤ Rows.uptoBulk d := by
  rcases h with ⟨rfl, rfl⟩ | ⟨es, sp, rfl, rfl⟩
  · omega
  · have := bulk_len es; simp only [Rows.uptoBulk]; omega
end
end Go.Proofs.YtokojichjliieaaDoor
namespace Go.Proofs.YtokojichjliieaaDoor
open Go.RowKit

/-- An element's cells: just sz of them. -/
structure Cels {α : Type} (fC : α → List Value) (sz : Nat) : Prop where
  len : ∀ x, (fC x).length = sz
  one : ∀ x, ∀ u ∈ fC x, u.oneCell' = true
  pos : 0 < sz
def RS {α : Type} (fC : α → List Value) (w : World) (B : Nat) (A : Option Addr) (l : List α) : Prop := Rd w B A (l.flatMap fC)
def OwS {α : Type} (fC : α → List Value) (sz : Nat) (w : World) (base : Nat) (e : TypeId) (v : Value) (l : List α) : Prop := w.ownsRow base e sz v l.length (l.flatMap fC)
section
variable {α : Type} {fC : α → List Value} {sz : Nat} {w w' : World} {B B' : Nat} {A : Option Addr} {l : List α} {base : Nat} {e : TypeId} {v : Value}
theorem Cels.all (h : Cels fC sz) (l : List α) : (l.flatMap fC).length = l.length * sz := by
  induction l with
  | nil => simp
  | cons a r ih => rw [List.flatMap_cons, List.length_append, ih, h.len, List.length_cons, Nat.add_mul, Nat.one_mul, Nat.add_comm]
theorem Cels.ones (h : Cels fC sz) (l : List α) : ∀ u ∈ l.flatMap fC, u.oneCell' = true := by
  intro u hu
  obtain ⟨x, _, hx⟩ := List.mem_flatMap.1 hu
  exact h.one x u hx
theorem Cels.get (h : Cels fC sz) {l : List α} {k j : Nat} {x : α} {u : Value} (hx : l[k]? = some x) (hu : (fC x)[j]? = some u) : (l.flatMap fC)[k * sz + j]? = some u := by
  induction l generalizing k with
  | nil => simp at hx
  | cons a r ih =>
    have hj : j < sz := by rw [← h.len x]; exact (List.getElem?_eq_some_iff.1 hu).1
    rw [List.flatMap_cons]
    cases k with
    | zero =>
      simp at hx
      subst hx
      rw [Nat.zero_mul, Nat.zero_add, List.getElem?_append_left (by rw [h.len]; exact hj)]; exact hu
    | succ k =>
      rw [List.getElem?_append_right (by rw [h.len, Nat.add_mul, Nat.one_mul]; omega), h.len, show (k + 1) * sz + j - sz = k * sz + j by rw [Nat.add_mul, Nat.one_mul]; omega]
      exact ih (by simpa using hx)
theorem Cels.set (h : Cels fC sz) {l : List α} {k j : Nat} {x x' : α} {u : Value} (hx : l[k]? = some x) (hj : j < sz) (hu : fC x' = (fC x).set j u) : (l.flatMap fC).set (k * sz + j) u = (l.set k x').flatMap fC := by
  induction l generalizing k with
  | nil => simp at hx
  | cons a r ih =>
    rw [List.flatMap_cons]
    cases k with
    | zero =>
      simp at hx
      subst hx
      rw [Nat.zero_mul, Nat.zero_add, List.set_append_left _ _ (by rw [h.len]; exact hj), List.set_cons_zero, List.flatMap_cons, hu]
    | succ k =>
      rw [List.set_append_right _ _ (by rw [h.len, Nat.add_mul, Nat.one_mul]; omega), h.len, show (k + 1) * sz + j - sz = k * sz + j by rw [Nat.add_mul, Nat.one_mul]; omega, List.set_cons_succ, List.flatMap_cons]
      rw [ih (by simpa using hx)]
theorem RS.nil : RS fC w B A [] := Rd.nil
theorem RS.below (h : RS fC w B A l) (hb : Below B' w w') (hB : B ≤ B') : RS fC w' B A l := Rd.below h hb hB
theorem RS.more (h : RS fC w B A l) (hB : B ≤ B') : RS fC w B' A l := Rd.more h hB
theorem RS.top (h : RS fC w B A l) : RS fC w w.heap.size A l := Rd.top h
theorem RS.step (h : RS fC w B A l) (hb : Below w.heap.size w w') : RS fC w' w'.heap.size A l := Rd.step h hb
theorem RS.drewN (h : RS fC w B A l) (k : Nat) : RS fC (w.drewN k) B A l := h
theorem RS.drew (h : RS fC w B A l) : RS fC w.drew B A l := h
theorem RS.alloc (h : RS fC w B A l) (hB : B ≤ w.heap.size) (o : Obj) : RS fC (w.alloc o) B A l := Rd.alloc h hB o
theorem RS.setCell (h : RS fC w B A l) {p : Addr} (hB : B ≤ p.block) (u : Value) : RS fC (w.setCell p u) B A l := Rd.setCell h hB u
/-- Element k: its first cell where the walk looks for it, its others behind it. -/
theorem RS.at_ (h : RS fC w B A l) (hC : Cels fC sz) {k : Nat} (hk : k < l.length) :
    ∃ ad x, A = some ad ∧ ad.block < B ∧ Hid (l[k]? = some x) ∧ (∀ u, (fC x)[0]? = some u → w.cell? (ad.add (k * sz)) = some u) ∧
      ∀ j u, (fC x)[j + 1]? = some u → w.cell? ⟨(ad.add (k * sz)).block, (ad.add (k * sz)).off + (j + 1), none⟩ = some u := by
  have hx : l[k]? = some l[k] := List.getElem?_eq_getElem hk
  have hne : l.flatMap fC ≠ [] := fun e => by
    have := hC.all l
    rw [e] at this
    have := Nat.mul_pos (show 0 < l.length by omega) hC.pos
    simp at *
    omega
  obtain ⟨ad, e, hb, hc⟩ := h hne
  refine ⟨ad, l[k], e, hb, hx, fun u hu => ?_, fun j u hu => ?_⟩
  · exact hc _ _ (hC.get hx hu)
  · rw [← add_pos _ j, addadd]; exact hc _ _ (hC.get hx hu)
theorem OwS.nil : OwS fC sz w base e (.slice none 0 0) [] := World.ownsRow_nil _ _ _ _
theorem OwS.alloc (h : OwS fC sz w base e v l) (o : Obj) : OwS fC sz (w.alloc o) base e v l := World.ownsRow.alloc h o
theorem OwS.drew (h : OwS fC sz w base e v l) : OwS fC sz w.drew base e v l := h
theorem OwS.drewN (h : OwS fC sz w base e v l) (k : Nat) : OwS fC sz (w.drewN k) base e v l := h
theorem OwS.kept (h : OwS fC sz w base e v l) {row : Option Nat} (hg : w.grownBy w' row) (hr : v.ownBlock = none ∨ v.ownBlock ≠ row) : OwS fC sz w' base e v l := World.ownsRow.kept h hg hr
theorem OwS.set_other (h : OwS fC sz w base e v l) {p : Addr} (hr : v.ownBlock ≠ some p.block) (u : Value) : OwS fC sz (w.setCell p u) base e v l :=
  OwS.kept h (row := some p.block) ⟨rfl, rfl, rfl, by simp [World.setCell], fun k _ hk => Below.heap_setCell w p u k (fun e => hk (by rw [e]))⟩ (.inr hr)
theorem OwS.step (h : OwS fC sz w base e v l) (hb : Below w.heap.size w w') : OwS fC sz w' base e v l :=
  OwS.kept h (gb_below hb none) (by cases hv : v.ownBlock with
    | none => exact .inl rfl
    | some g => exact .inr (by simp))
theorem OwS.rd (h : OwS fC sz w base e v l) : ∃ A c, v = .slice A l.length c ∧ RS fC w w.heap.size A l ∧ l.length ≤ c := by
  rcases h.2 with ⟨rfl, h0⟩ | ⟨g, cap, cur, rfl, hb, hh, hc, hm, r⟩
  · have : l = [] := List.eq_nil_of_length_eq_zero h0
    subst this
    exact ⟨none, 0, rfl, Rd.nil, Nat.le_refl _⟩
  · exact ⟨_, cap, rfl, Rd.own h, hc⟩
/-- Where there is an element the row has a block. -/
theorem OwS.blk (h : OwS fC sz w base e v l) {g : Nat} (hg : v.ownBlock = some g) : base ≤ g ∧ g < w.heap.size := World.ownsRow.lt h g hg
theorem OwS.form (h : OwS fC sz w base e v l) (hl : 0 < l.length) : ∃ g c, v = .slice (some ⟨g, 0, none⟩) l.length c ∧ base ≤ g ∧ g < w.heap.size := World.ownsRow.form h hl
theorem OwS.cell {g n c : Nat} (h : OwS fC sz w base e (.slice (some ⟨g, 0, none⟩) n c) l) (hC : Cels fC sz) {k j : Nat} {x : α} {u : Value} (hx : l[k]? = some x) (hu : (fC x)[j]? = some u) : w.cell? ⟨g, k * sz + j, none⟩ = some u := by
  have := World.ownsRow.cells h (g := g) rfl _ u (hC.get hx hu)
  rwa [Addr.add_lit, Nat.zero_add] at this
theorem OwS.len {A : Option Addr} {n c : Nat} (h : OwS fC sz w base e (.slice A n c) l) : n = l.length := by
  rcases h.2 with ⟨h', h0⟩ | ⟨g', cap', cur, h', r⟩
  · simp only [Value.slice.injEq] at h'; omega
  · simp only [Value.slice.injEq] at h'; exact h'.2.1
theorem OwS.frz {g n c : Nat} (h : OwS fC sz w base e (.slice (some ⟨g, 0, none⟩) n c) l) (j : Nat) : w.frozen? ⟨g, j, none⟩ = false := by
  have hn := h.len
  subst hn
  exact World.ownsRow.frozenAt h j
theorem OwS.set {g n c : Nat} (h : OwS fC sz w base e (.slice (some ⟨g, 0, none⟩) n c) l) (hC : Cels fC sz) {k j : Nat} {x x' : α} {u : Value} (hx : l[k]? = some x) (hj : j < sz) (hu : fC x' = (fC x).set j u) :
    OwS fC sz (w.setCell ⟨g, k * sz + j, none⟩ u) base e (.slice (some ⟨g, 0, none⟩) n c) (l.set k x') := by
  have hn := h.len
  subst hn
  have := (World.ownsRow.stored h (k * sz + j) u).1
  unfold OwS
  rw [List.length_set, ← hC.set hx hj hu]
  exact this
end
theorem le_alloc0 {B : Nat} {w : World} (h : B ≤ w.heap.size) (o : Obj) : B ≤ (w.alloc o).heap.size := by
  show B ≤ (w.heap.push o).size
  rw [Array.size_push]; omega
theorem le_alloc {B : Nat} {w : World} (h : B ≤ w.heap.size) (o : Obj) : B ≤ (w.alloc o).drew.heap.size := by
  show B ≤ (w.heap.push o).size
  rw [Array.size_push]; omega
section
variable {P : Program} (w : World)
/-- append(v, x...) at a plain region's list of operations. -/
theorem wpList_appS {α : Type} {fC : α → List Value} {sz : Nat} (hC : Cels fC sz) {ops : Array Oper} {rest : List Oper} {o : Oper} {a : Act} {Q : Exit → Act → World → Prop} (hgd : o.guard = none) (s x : Operand) {t e : TypeId} {z : Value} {bytes : Nat}
    (ho : o.op = .call { callee := .builtin .append, args := #[s, x], argTypes := #[t, t] }) (hE : ETy P t e z sz bytes) (hby : 0 < bytes)
    (base : Nat) (v : Value) (l : List α) (hs : a.eval s = v) (hown : OwS fC sz w base e v l)
    (B : Nat) (A : Option Addr) (m c : Nat) (news : List α) (hx : a.eval x = .slice A m c) (hl : news.length = m) (hr : RS fC w B A news)
    (hn : (l.length + news.length) * bytes ≤ 140737488355328) (hbase : base ≤ w.heap.size)
    (h : ∀ v' w', OwS fC sz w' base e v' (l ++ news) → w.grownBy w' v.ownBlock → (v'.ownBlock = v.ownBlock ∨ v'.ownBlock = some w.heap.size) → Below base w w' → wpList P ops Q rest (a.put o.dst v') w') : wpList P ops Q (o :: rest) a w := by
  obtain ⟨i, hi, hz, hsz, hb⟩ := hE.info
  subst hl
  have hm : (l.length + news.length) * 1 ≤ (l.length + news.length) * bytes := Nat.mul_le_mul (Nat.le_refl _) hby
  refine wpList_app w hgd s x t ho base e hE.sl hi hz hsz hb hE.cells hE.pos v l.length (l.flatMap fC) hs hown B A news.length c (news.flatMap fC) hx (hC.all news) hr (hC.ones _) (by unfold maxLen; omega) hn hbase ?_
  intro v' w' h1 h2 h3 h4
  exact h v' w' (by unfold OwS; rw [List.length_append, List.flatMap_append]; exact h1) h2 h3 h4
/-- The same at a step of a region that draws its order. -/
theorem step_appS {α : Type} {fC : α → List Value} {sz : Nat} (hC : Cels fC sz) {ops : Array Oper} {o : Oper} {a : Act} {K : Act → World → Prop} {Q : Exit → Act → World → Prop} {E : Prop} (hgd : o.guard = none) (s x : Operand) {t e : TypeId} {z : Value} {bytes : Nat}
    (ho : o.op = .call { callee := .builtin .append, args := #[s, x], argTypes := #[t, t] }) (hE : ETy P t e z sz bytes) (hby : 0 < bytes)
    (base : Nat) (v : Value) (l : List α) (hs : a.eval s = v) (hown : OwS fC sz w base e v l)
    (B : Nat) (A : Option Addr) (m c : Nat) (news : List α) (hx : a.eval x = .slice A m c) (hl : news.length = m) (hr : RS fC w B A news)
    (hn : (l.length + news.length) * bytes ≤ 140737488355328) (hbase : base ≤ w.heap.size)
    (h : ∀ v' w', OwS fC sz w' base e v' (l ++ news) → w.grownBy w' v.ownBlock → (v'.ownBlock = v.ownBlock ∨ v'.ownBlock = some w.heap.size) → Below base w w' → K (a.put o.dst v') w') :
    if Region.wanted o (yielded ops a.tmps) = true then Oper.wp P o a w K Q else E := by
  have hw : Region.wanted o (yielded ops a.tmps) = true := by simp [Region.wanted, hgd]
  rw [if_pos hw]
  obtain ⟨i, hi, hz, hsz, hb⟩ := hE.info
  subst hl
  have hm : (l.length + news.length) * 1 ≤ (l.length + news.length) * bytes := Nat.mul_le_mul (Nat.le_refl _) hby
  obtain ⟨v', w', hrun, h2, h3, h4⟩ := run_append_rd (P := P) w base t o.type e i z sz bytes hE.sl hi hz hsz hb hE.cells hE.pos v l.length (l.flatMap fC) hown B A news.length c (news.flatMap fC) (hC.all news) hr (hC.ones _) (by unfold maxLen; omega) hn hbase
  unfold Oper.wp execOp
  simp only [ho, resolve, invoke, builtin, Sem.run_bind, Sem.run_pure, Result.andThen_ok, List.map_toArray, List.map_cons, List.map_nil, hs, hx, hrun]
  exact h v' w' (by unfold OwS; rw [List.length_append, List.flatMap_append]; exact h2) h3 h4 ((Below.refl _ _).grown h3 hbase fun k hk => (World.ownsRow.lt hown k hk).1)
/-- One new element's cells, laid ahead by append(v, x). -/
theorem RS.new {α : Type} {fC : α → List Value} (w : World) (x : α) (cs : Array Value) (h : cs.toList = fC x) (e : TypeId) (fr : Nat × Nat) : RS fC (w.alloc (.cells cs e fr)) (w.heap.size + 1) (some ⟨w.heap.size, 0, none⟩) [x] := fun _ =>
  ⟨_, rfl, Nat.lt_succ_self _, fun i u hu => by
    have e : (⟨w.heap.size, 0, none⟩ : Addr).add i = ⟨w.heap.size, i, none⟩ := by unfold Addr.add; split <;> simp_all
    rw [e, World.cell?_alloc_mark, ← Array.getElem?_toList, h]
    simpa using hu⟩
theorem RS.newAt {α : Type} {fC : α → List Value} {g : Nat} (w : World) (x : α) (cs : Array Value) (h : cs.toList = fC x) (e : TypeId) (fr : Nat × Nat) (hg : w.heap.size = g) : RS fC (w.alloc (.cells cs e fr)) (g + 1) (some ⟨g, 0, none⟩) [x] := by subst hg; exact RS.new w x cs h e fr
end
end Go.Proofs.YtokojichjliieaaDoor
namespace Go.Proofs.YtokojichjliieaaDoor
open Go.RowKit

theorem byteTy : ETy Tryd.prog 22 5 (.int .u8 0) 1 1 := ⟨Tryd.underlying22, info_parts (by kernel_rfl), rfl, by decide⟩
/-- A reader in block g: its bytes, how many bits were passed. -/
def BRd (w : World) (g : Nat) (b : List UInt8) (p : Nat) : Prop :=
  ∃ A c, Bk w g 134 #[.slice A b.length c, .int .i64 (p : Int)] ∧ RB w g A b ∧ b.length ≤ c ∧ p ≤ 8 * b.length ∧ b.length ≤ 1000000000
theorem BRd.lt {w : World} {g : Nat} {b : List UInt8} {p : Nat} (h : BRd w g b p) : g < w.heap.size := by obtain ⟨A, c, h1, _⟩ := h; exact h1.lt
theorem BRd.le {w : World} {g : Nat} {b : List UInt8} {p : Nat} (h : BRd w g b p) : p ≤ 8 * b.length ∧ b.length ≤ 1000000000 := by obtain ⟨A, c, _, _, _, h1⟩ := h; exact h1
theorem BRd.keep {w w' : World} {g : Nat} {b : List UInt8} {p : Nat} (h : BRd w g b p) (hk : ∀ i, i ≤ g → w'.heap[i]? = w.heap[i]?) : BRd w' g b p := by
  obtain ⟨A, c, h1, h2, r⟩ := h
  exact ⟨A, c, (hk g (Nat.le_refl _)).trans h1, Rd.keep h2 fun q hq => World.cell?_of_block (hk _ (by omega)), r⟩
theorem BRd.below {w w' : World} {g B : Nat} {b : List UInt8} {p : Nat} (h : BRd w g b p) (hb : Below B w w') (hB : g < B) : BRd w' g b p := h.keep fun i hi => hb.block i (by omega)
theorem BRd.step {w w' : World} {g : Nat} {b : List UInt8} {p : Nat} (h : BRd w g b p) (hb : Below w.heap.size w w') : BRd w' g b p := h.below hb h.lt
theorem BRd.grown {w w' : World} {g : Nat} {b : List UInt8} {p : Nat} {row : Option Nat} (h : BRd w g b p) (hb : w.grownBy w' row) (hr : ∀ k, row = some k → g < k) : BRd w' g b p :=
  h.keep fun i hi => hb.block i (by have := h.lt; omega) (fun e => by have := hr i e.symm; omega)
/-- Where the reader stands is turned. -/
theorem BRd.set {w : World} {g : Nat} {b : List UInt8} {p q : Nat} (h : BRd w g b p) (hq : q ≤ 8 * b.length) : BRd (w.setCell ⟨g, 1, none⟩ (.int .i64 (q : Int))) g b q := by
  obtain ⟨A, c, h1, h2, h3, _, h5⟩ := h
  refine ⟨A, c, ?_, h2.setCell (by exact Nat.le_refl _) _, h3, hq, h5⟩
  have := h1.set 1 (.int .i64 (q : Int))
  simpa using this
set_option maxHeartbeats 400000 in
theorem bnew_any (A : Option Addr) (n c : Nat) (l : List UInt8) (w : World) (hn : l.length = n) (hz : n ≤ 1000000000) (hr : RB w w.heap.size A l) :
    Calls Tryd.prog 53 #[.slice A n c] w fun e w' => ∃ g, e = .returned (.pointer (some ⟨g, 0, none⟩)) ∧ w.heap.size ≤ g ∧ BRd w' g l 0 ∧ Below w.heap.size w w' := by
  have HN : Hid ((([] : List UInt8).length + l.length) * 1 ≤ 140737488355328) := Lib.hid (by simp; omega)
  have HL := Lib.hid hn
  clear hn
  go_enter Tryd.func53, Tryd.ntmps53
  go_wp2_with (at_builtin; refine wpList_appL _ bV_one rfl (.tmp 3) (.tmp 4) rfl byteTy (by decide) w.heap.size _ [] rfl (OwL.lit0 w (Nat.le_refl _)) w.heap.size A n c l rfl HL.out (RL.alloc hr (Nat.le_refl _) _) HN.out (le_alloc0 (Nat.le_refl _) _) ?_; intro v1 w1 hown _ _ hb1; rw [List.nil_append] at hown; obtain ⟨A1, c1, rfl, hr1, hc1, _⟩ := OwL.rd hown)
  have hb2 := ((Below.refl w.heap.size w).alloc (Nat.le_refl _) _).trans hb1
  clear hb1 hown
  go_ret
  refine ⟨w1.heap.size, rfl, hb2.size, ⟨A1, c1, Bk.new _ _ _, hr1.alloc (Nat.le_refl _) _, hc1, by omega, by rw [HL.out]; exact hz⟩, hb2.alloc hb2.size _⟩
set_option maxHeartbeats 400000 in
theorem bat_any (g : Nat) (b : List UInt8) (p : Nat) (w : World) (h : BRd w g b p) :
    Calls Tryd.prog 55 #[.pointer (some ⟨g, 0, none⟩)] w fun e w' => e = .returned (.int .i64 (p : Int)) ∧ w = w' := by
  obtain ⟨A, c, h1, _⟩ := h
  have hc : w.cell? ⟨g, 1, none⟩ = some (.int .i64 (p : Int)) := (h1.cell 1).trans rfl
  clear h1
  go_enter Tryd.func55, Tryd.ntmps55
  go_wp2
  go_ret
  exact ⟨rfl, rfl⟩
end Go.Proofs.YtokojichjliieaaDoor
namespace Go.Proofs.YtokojichjliieaaDoor
open Go.RowKit

/-- The first i of three bytes. -/
def accP (b : List UInt8) (k : Nat) : Nat → Nat
  | 0 => 0
  | i + 1 => accP b k i + 256 ^ i * (b.getD (k + i) 0).toNat
theorem wraps_u32 (n : Int) (h₀ : 0 ≤ n) (h₁ : n < 2 ^ 32) : IntKind.u32.wrap n = n := by
  have : IntKind.u32.wrap n = n % 4294967296 := by simp [IntKind.wrap, IntKind.bits, IntKind.signed]
  rw [this]; omega
theorem wraps_u64 (n : Int) (h₀ : 0 ≤ n) (h₁ : n < 2 ^ 64) : IntKind.u64.wrap n = n := by
  have : IntKind.u64.wrap n = n % 18446744073709551616 := by simp [IntKind.wrap, IntKind.bits, IntKind.signed]
  rw [this]; omega
theorem u32_or_low (a y i : Nat) (ha : a < 2 ^ i) (hy : y % 2 ^ i = 0) (hy1 : y < 2 ^ 32) (hi : i ≤ 32) : bits .or .u32 (a : Int) (y : Int) = ((a + y : Nat) : Int) := by
  have ha' : a < 2 ^ 32 := Nat.lt_of_lt_of_le ha (Nat.pow_le_pow_right (by decide) hi)
  rw [(bits_nat .u32 32 (by decide) wraps_u32 a y ha' hy1).2]
  have hq : y = 2 ^ i * (y / 2 ^ i) := by have := Nat.div_add_mod y (2 ^ i); omega
  rw [Nat.or_comm, hq, ← Nat.two_pow_add_eq_or_of_lt ha]
  rw [Nat.add_comm]
theorem accP_lt (b : List UInt8) (j : Nat) : ∀ k, accP b j k < 256 ^ k := by
  intro k
  induction k with
  | zero => simp [accP]
  | succ k ih =>
    unfold accP
    have h := (b.getD (j + k) 0).toNat_lt
    have h2 : 256 ^ k * (b.getD (j + k) 0).toNat ≤ 256 ^ k * 255 := Nat.mul_le_mul (Nat.le_refl _) (by omega)
    rw [Nat.pow_succ]; omega
theorem accP_none (b : List UInt8) (j k : Nat) (h : b.length ≤ j + k) : accP b j (k + 1) = accP b j k := by
  show accP b j k + 256 ^ k * (b.getD (j + k) 0).toNat = _
  rw [List.getD_eq_getElem?_getD, List.getElem?_eq_none h]
  show accP b j k + 256 ^ k * (0 : UInt8).toNat = _
  rw [show (0 : UInt8).toNat = 0 from rfl, Nat.mul_zero, Nat.add_zero]
theorem or_acc {b : List UInt8} {j k : Nat} {x : UInt8} {e : Int} (hk : k ≤ 2) (hx : b[j + k]? = some x) (he : e = (x.toNat : Int) * 256 ^ k) : bits .or .u32 (accP b j k : Int) e = (accP b j (k + 1) : Int) := by
  have h := accP_lt b j k
  have hx8 := x.toNat_lt
  have e1 : e = ((256 ^ k * x.toNat : Nat) : Int) := by rw [he, Int.natCast_mul, Int.natCast_pow, Int.mul_comm]; rfl
  have hp : (256 : Nat) ^ k = 2 ^ (8 * k) := by rw [show (256 : Nat) = 2 ^ 8 by decide, ← Nat.pow_mul]
  have e2 : accP b j (k + 1) = accP b j k + 256 ^ k * x.toNat := by
    show accP b j k + 256 ^ k * (b.getD (j + k) 0).toNat = _
    rw [List.getD_eq_getElem?_getD, hx]; rfl
  rw [e1, e2]
  refine u32_or_low _ _ (8 * k) (by rw [← hp]; exact h) (by rw [hp]; exact Nat.mul_mod_right _ _) ?_ (by omega)
  have : (256 : Nat) ^ k ≤ 256 ^ 2 := Nat.pow_le_pow_right (by decide) hk
  have h3 : 256 ^ k * x.toNat ≤ 256 ^ 2 * 255 := Nat.mul_le_mul this (by omega)
  omega
theorem accP3 (b : List UInt8) (j : Nat) : accP b j 3 = acc3 b j := by
  show 0 + 256 ^ 0 * (b.getD (j + 0) 0).toNat + 256 ^ 1 * (b.getD (j + 1) 0).toNat + 256 ^ 2 * (b.getD (j + 2) 0).toNat = _
  unfold acc3
  rw [show 256 ^ 0 = 1 from rfl, show 256 ^ 1 = 256 from rfl, show 256 ^ 2 = 65536 from rfl, Nat.add_zero]; omega
theorem and7 (p : Nat) (h : p < 2 ^ 63) : bits .and .u64 (p : Int) 7 = ((p % 8 : Nat) : Int) := by
  have := bits_mask .u64 64 (by decide) wraps_u64 3 (by decide) (p : Int) (by omega) (by omega)
  rw [show (2 : Int) ^ 3 - 1 = 7 by decide] at this
  rw [this]; omega
theorem take_val (q m n : Nat) (hq : q < 16777216) (hn : n ≤ 16) : wrap64 (bits .and .u32 ((q : Int) / 2 ^ m) ((2 ^ n - 1) % 4294967296)) = ((q / 2 ^ m % 2 ^ n : Nat) : Int) := by
  have h2 : (2 : Nat) ^ n ≤ 2 ^ 16 := Nat.pow_le_pow_right (by decide) hn
  have h3 : 0 < (2 : Nat) ^ n := Nat.two_pow_pos n
  have h4 : q / 2 ^ m ≤ q := Nat.div_le_self _ _
  have e1 : ((2 : Int) ^ n - 1) % 4294967296 = 2 ^ n - 1 := by
    have : ((2 : Int) ^ n) = ((2 ^ n : Nat) : Int) := by simp
    rw [this]; omega
  have e2 : (q : Int) / 2 ^ m = ((q / 2 ^ m : Nat) : Int) := by simp
  rw [e1, e2]
  generalize q / 2 ^ m = r at h4 ⊢
  rw [bits_mask .u32 32 (by decide) wraps_u32 n (by omega) _ (by omega) (by omega)]
  have e3 : (r : Int) % 2 ^ n = ((r % 2 ^ n : Nat) : Int) := by simp
  rw [e3]
  have h5 : r % 2 ^ n < 2 ^ n := Nat.mod_lt _ h3
  generalize r % 2 ^ n = t at h5 ⊢
  generalize (2 : Nat) ^ n = u at h2 h5
  clear e1 e2 e3 h3
  exact IntWalk.wrap64_in _ ⟨by omega, by omega⟩
set_option maxHeartbeats 2000000 in
theorem btake_ok (g : Nat) (b : List UInt8) (p n : Nat) (w : World) (h : BRd w g b p) (hn : n ≤ 16) (hp : p + n ≤ 8 * b.length) :
    Calls Tryd.prog 99 #[.pointer (some ⟨g, 0, none⟩), .int .i64 (n : Int)] w fun e w' => e = .returned (.tuple #[.int .i64 (takeN b p n : Int), .int .i64 0]) ∧ BRd w' g b (p + n) ∧ w.grownBy w' (some g) := by
  have hle := h.le
  obtain ⟨A, c, h1, h2, _⟩ := id h
  have c0 : w.cell? ⟨g, 0, none⟩ = some (.slice A b.length c) := (h1.cell 0).trans rfl
  have c1 : w.cell? ⟨g, 1, none⟩ = some (.int .i64 (p : Int)) := (h1.cell 1).trans rfl
  have f1 : w.frozen? ⟨g, 1, none⟩ = false := h1.frz 1
  have i1 : IntKind.i64.wrap (8 * (b.length : Int)) = 8 * (b.length : Int) := IntWalk.i64_in _ (by omega)
  have i2 : IntKind.i64.wrap (8 * (b.length : Int) - (p : Int)) = 8 * (b.length : Int) - (p : Int) := IntWalk.i64_in _ (by omega)
  have i3 : ¬ (8 * (b.length : Int) - (p : Int) < (n : Int)) := by omega
  clear h1
  go_enter Tryd.func99, Tryd.ntmps99
  go_wp2
  go_quiet (fail)
  rename_i nq
  clear i1 i2
  have hB := h
  have hgb := gb_drewN (World.grownBy.refl w (some g)) nq
  have d0 : (w.drewN nq).cell? ⟨g, 0, none⟩ = some (.slice A b.length c) := c0
  have d1 : (w.drewN nq).cell? ⟨g, 1, none⟩ = some (.int .i64 (p : Int)) := c1
  have d2 : (w.drewN nq).frozen? ⟨g, 1, none⟩ = false := f1
  have dB : BRd (w.drewN nq) g b p := h
  have dr : RB (w.drewN nq) g A b := h2
  clear c0 c1 f1 hB h h2
  generalize w.drewN nq = w1 at hgb d0 d1 d2 dB dr ⊢
  go_wp2
  go_loop [6, 7, 8] (fun a i _ => ∃ k : Nat, k ≤ 3 ∧ i = .int .i64 (k : Int) ∧ a = .int .u32 (accP b (p / 8) k : Int)) (fun _ i _ => 3 - (intOf i).toNat)
  case atStart => exact ⟨0, by omega, rfl, rfl⟩
  case round =>
    obtain ⟨k, hk, rfl, rfl⟩ := hrel
    have hk4 : k = 0 ∨ k = 1 ∨ k = 2 ∨ k = 3 := by omega
    rcases hk4 with rfl | rfl | rfl | rfl
    · by_cases hb0 : p / 8 < b.length
      · obtain ⟨ad, x, rfl, _, hx, hc⟩ := dr.byte (k := p / 8) hb0
        have hx8 := x.toNat_lt
        go_wp2
        go_round
        case rel => exact ⟨1, by omega, rfl, congrArg (Value.int .u32) (or_acc (by omega) hx.out (by omega))⟩
        case measure => simp [intOf]
      · have HN := Lib.hid (accP_none b (p / 8) 0 (by omega))
        have hb1 : ¬ (p : Int) / 8 < (b.length : Int) := by omega
        go_wp2
        go_round
        case rel => exact ⟨1, by omega, rfl, by rw [HN.out]⟩
        case measure => simp [intOf]
    · by_cases hb0 : p / 8 + 1 < b.length
      · obtain ⟨ad, x, rfl, _, hx, hc⟩ := dr.byte (k := p / 8 + 1) hb0
        have hc' : w1.cell? ⟨ad.block, ad.off + (p / 8 + 1), none⟩ = some (.int .u8 (x.toNat : Int)) := by rw [add_pos] at hc; exact hc
        have hx8 := x.toNat_lt
        go_wp2
        go_round
        case rel => exact ⟨2, by omega, rfl, congrArg (Value.int .u32) (or_acc (by omega) hx.out (by omega))⟩
        case measure => simp [intOf]
      · have HN := Lib.hid (accP_none b (p / 8) 1 (by omega))
        have hb1 : ¬ (p : Int) / 8 + 1 < (b.length : Int) := by omega
        go_wp2
        go_round
        case rel => exact ⟨2, by omega, rfl, by rw [HN.out]⟩
        case measure => simp [intOf]
    · by_cases hb0 : p / 8 + 2 < b.length
      · obtain ⟨ad, x, rfl, _, hx, hc⟩ := dr.byte (k := p / 8 + 2) hb0
        have hc' : w1.cell? ⟨ad.block, ad.off + (p / 8 + 2), none⟩ = some (.int .u8 (x.toNat : Int)) := by rw [add_pos] at hc; exact hc
        have hx8 := x.toNat_lt
        go_wp2
        go_round
        case rel => exact ⟨3, by omega, rfl, congrArg (Value.int .u32) (or_acc (by omega) hx.out (by omega))⟩
        case measure => simp [intOf]
      · have HN := Lib.hid (accP_none b (p / 8) 2 (by omega))
        have hb1 : ¬ (p : Int) / 8 + 2 < (b.length : Int) := by omega
        go_wp2
        go_round
        case rel => exact ⟨3, by omega, rfl, by rw [HN.out]⟩
        case measure => simp [intOf]
    · have ha := acc3_lt b (p / 8)
      have ht := Lib.hid (acc3_take b p n hn)
      rw [accP3]
      obtain ⟨q, hq⟩ : ∃ q, acc3 b (p / 8) = q := ⟨_, rfl⟩
      obtain ⟨mm, hmm⟩ : ∃ mm, p % 8 = mm := ⟨_, rfl⟩
      have hm8 : mm < 8 := by omega
      have hm7 : bits .and .u64 (p : Int) 7 = (mm : Int) := by
        rw [← hmm]; exact and7 p (by omega)
      rw [hq] at ha ht ⊢
      rw [hmm] at ht
      clear hq hmm
      have HV := Lib.hid (take_val q mm n ha hn)
      have HS := Lib.hid (dB.set (q := p + n) hp)
      have HG := Lib.hid (gb_set hgb 1 (.int .i64 ((p + n : Nat) : Int)))
      have HC : Hid (((p + n : Nat) : Int) = (p : Int) + (n : Int)) := Lib.hid (Int.natCast_add p n)
      clear dB hgb
      go_wp2
      go_ret2
      rw [HV.out, ht.out, ← HC.out]
      exact ⟨rfl, HS.out, HG.out⟩
end Go.Proofs.YtokojichjliieaaDoor
namespace Go.Proofs.YtokojichjliieaaDoor
open Go.RowKit

theorem gb_past {a b c : World} {row : Option Nat} {B : Nat} (h : a.grownBy b row) (k : Below B b c) (hB : a.heap.size ≤ B) : a.grownBy c row :=
  ⟨k.os.trans h.os, k.tape.trans h.tape, k.output.trans h.output, Nat.le_trans h.size k.size, fun i hi hne => (k.block i (by omega)).trans (h.block i hi hne)⟩
set_option maxHeartbeats 1000000 in
theorem btake_short (g : Nat) (b : List UInt8) (p n : Nat) (w : World) (h : BRd w g b p) (hn : n ≤ 16) (hp : 8 * b.length < p + n) :
    Calls Tryd.prog 99 #[.pointer (some ⟨g, 0, none⟩), .int .i64 (n : Int)] w fun e w' => e = .returned (.tuple #[.int .i64 0, .int .i64 2]) ∧ Below w.heap.size w w' := by
  have hle := h.le
  obtain ⟨A, c, h1, h2, _⟩ := id h
  have c0 : w.cell? ⟨g, 0, none⟩ = some (.slice A b.length c) := (h1.cell 0).trans rfl
  have c1 : w.cell? ⟨g, 1, none⟩ = some (.int .i64 (p : Int)) := (h1.cell 1).trans rfl
  have i1 : IntKind.i64.wrap (8 * (b.length : Int)) = 8 * (b.length : Int) := IntWalk.i64_in _ (by omega)
  have i2 : IntKind.i64.wrap (8 * (b.length : Int) - (p : Int)) = 8 * (b.length : Int) - (p : Int) := IntWalk.i64_in _ (by omega)
  have i3 : 8 * (b.length : Int) - (p : Int) < (n : Int) := by omega
  clear h1 h h2
  go_enter Tryd.func99, Tryd.ntmps99
  go_wp2
  go_quiet (fail)
  clear i1 i2
  go_wp2
  go_ret2
  exact ⟨rfl, below_drewN (Below.refl _ _) _⟩
set_option maxHeartbeats 1000000 in
theorem bbytes_short (g : Nat) (b : List UInt8) (p n : Nat) (w : World) (h : BRd w g b p) (hn : n ≤ 100000) (hp : b.length < (p + 7) / 8 + n) :
    Calls Tryd.prog 100 #[.pointer (some ⟨g, 0, none⟩), .int .i64 (n : Int)] w fun e w' => e = .returned (.tuple #[.slice none 0 0, .int .i64 2]) ∧ Below w.heap.size w w' := by
  have hle := h.le
  obtain ⟨A, c, h1, h2, _⟩ := id h
  have c0 : w.cell? ⟨g, 0, none⟩ = some (.slice A b.length c) := (h1.cell 0).trans rfl
  have c1 : w.cell? ⟨g, 1, none⟩ = some (.int .i64 (p : Int)) := (h1.cell 1).trans rfl
  have i3 : (b.length : Int) - ((p : Int) + 7) / 8 < (n : Int) := by omega
  clear h1 h h2
  go_enter Tryd.func100, Tryd.ntmps100
  go_wp2
  all_goals
    go_ret2
    exact ⟨rfl, Below.refl _ _⟩
set_option maxHeartbeats 2000000 in
theorem bbytes_ok (g : Nat) (b : List UInt8) (p n f : Nat) (w : World) (h : BRd w g b p) (hn : n ≤ 100000) (hf : (p + 7) / 8 = f) (hp : f + n ≤ b.length) :
    Calls Tryd.prog 100 #[.pointer (some ⟨g, 0, none⟩), .int .i64 (n : Int)] w fun e w' => ∃ A c, e = .returned (.tuple #[.slice A n c, .int .i64 0]) ∧ n ≤ c ∧ RB w' w'.heap.size A ((b.drop f).take n) ∧
      (∀ ad, A = some ad → w.heap.size ≤ ad.block) ∧ BRd w' g b (8 * (f + n)) ∧ w.grownBy w' (some g) := by
  have hle := h.le
  obtain ⟨A, c, h1, h2, h3, _⟩ := id h
  have c0 : w.cell? ⟨g, 0, none⟩ = some (.slice A b.length c) := (h1.cell 0).trans rfl
  have c1 : w.cell? ⟨g, 1, none⟩ = some (.int .i64 (p : Int)) := (h1.cell 1).trans rfl
  have f1 : w.frozen? ⟨g, 1, none⟩ = false := h1.frz 1
  have hff : ((p : Int) + 7) / 8 = (f : Int) := by omega
  have hfl : (f : Int) ≤ (b.length : Int) := by omega
  have hgl := h.lt
  have hS : BRd (w.setCell ⟨g, 1, none⟩ (.int .i64 (((f : Int) + (n : Int)) * 8))) g b (8 * (f + n)) := by
    have := h.set (q := 8 * (f + n)) (by omega)
    rwa [show (((8 * (f + n) : Nat)) : Int) = ((f : Int) + (n : Int)) * 8 by omega] at this
  have HG := Lib.hid (gb_set (World.grownBy.refl w (some g)) 1 (.int .i64 (((f : Int) + (n : Int)) * 8)))
  have c2 : ((w.setCell ⟨g, 1, none⟩ (.int .i64 (((f : Int) + (n : Int)) * 8))).alloc (.cells #[] 5)).cell? ⟨g, 0, none⟩ = some (.slice A b.length c) := by
    rw [World.cell?_alloc_lt _ _ _ (by show g < _; simpa [World.setCell] using hgl)]
    exact (World.cell?_setCell_other w ⟨g, 1, none⟩ ⟨g, 0, none⟩ _ (by simp)).trans c0
  have hr2 : RB (w.setCell ⟨g, 1, none⟩ (.int .i64 (((f : Int) + (n : Int)) * 8))) g A b := h2.setCell (by exact Nat.le_refl _) _
  have hsz : (w.setCell ⟨g, 1, none⟩ (.int .i64 (((f : Int) + (n : Int)) * 8))).heap.size = w.heap.size := by simp [World.setCell]
  have hcut := (hr2.cut (k := f) (cap := c) (by omega)).take n
  have HN : Hid ((([] : List UInt8).length + ((b.drop f).take n).length) * 1 ≤ 140737488355328) := Lib.hid (by simp; omega)
  have HL : Hid (((b.drop f).take n).length = n) := Lib.hid (by simp; omega)
  have HSZ := Lib.hid hsz
  clear h1 hr2 hsz
  have HL2 : Hid (((b.drop f).take n).length = f + n - f) := Lib.hid (by simp; omega)
  have HE : Hid (f + n - f = n) := Lib.hid (by omega)
  have hdisj : (c = f ∧ RL bV (w.setCell ⟨g, 1, none⟩ (.int .i64 (((f : Int) + (n : Int)) * 8))) g A ((b.drop f).take n)) ∨ (¬ c = f ∧ RL bV (w.setCell ⟨g, 1, none⟩ (.int .i64 (((f : Int) + (n : Int)) * 8))) g (A.map (·.add f)) ((b.drop f).take n)) := by
    by_cases e : c = f
    · rw [if_pos e] at hcut; exact .inl ⟨e, hcut⟩
    · rw [if_neg e] at hcut; exact .inr ⟨e, hcut⟩
  clear hcut
  have fin : ∀ (v1 : Value) (w1 : World), OwL bV w1 w.heap.size 5 v1 ([] ++ (b.drop f).take n) → Below w.heap.size ((w.setCell ⟨g, 1, none⟩ (.int .i64 (((f : Int) + (n : Int)) * 8))).alloc (.cells #[] 5)) w1 →
      ∃ A c, v1 = .slice A n c ∧ n ≤ c ∧ RB w1 w1.heap.size A ((b.drop f).take n) ∧ (∀ ad, A = some ad → w.heap.size ≤ ad.block) ∧ BRd w1 g b (8 * (f + n)) ∧ w.grownBy w1 (some g) := by
    intro v1 w1 hown hb1
    rw [List.nil_append] at hown
    obtain ⟨A1, c1, rfl, hr1, hc1, _⟩ := OwL.rd hown
    refine ⟨A1, c1, by rw [HL.out], by rw [← HL.out]; exact hc1, hr1, fun ad had => ?_, ?_, ?_⟩
    · subst had; exact (World.ownsRow.lt hown ad.block rfl).1
    · refine BRd.below ?_ hb1 hgl
      exact hS.keep fun i hi => Below.heap_alloc _ _ i (by rw [HSZ.out]; omega)
    · exact gb_past (gb_alloc HG.out _) hb1 (Nat.le_refl _)
  rcases hdisj with ⟨hcf, hcut⟩ | ⟨hcf, hcut⟩
  · go_enter Tryd.func100, Tryd.ntmps100
    go_wp2_with (at_builtin; refine wpList_appL _ bV_one rfl (.tmp 35) (.tmp 44) rfl byteTy (by decide) w.heap.size _ [] rfl ?c0 g _ (f + n - f) _ ((b.drop f).take n) rfl HL2.out ?c1 HN.out ?c2 ?_)
    case c0 => have := OwL.lit0 (f := bV) (e := 5) (base := w.heap.size) (w.setCell ⟨g, 1, none⟩ (.int .i64 (((f : Int) + (n : Int)) * 8))) (by rw [HSZ.out]; exact Nat.le_refl _); rw [HSZ.out] at this; exact this
    case c1 => exact RL.alloc hcut (by rw [HSZ.out]; omega) _
    case c2 => exact le_alloc0 (by rw [HSZ.out]; exact Nat.le_refl _) _
    intro v1 w1 hown _ _ hb1
    obtain ⟨A1, c1, rfl, r⟩ := fin v1 w1 hown hb1
    go_wp2
    go_ret2
    exact ⟨A1, c1, rfl, r⟩
  · go_enter Tryd.func100, Tryd.ntmps100
    go_wp2_with (at_builtin; refine wpList_appL _ bV_one rfl (.tmp 35) (.tmp 44) rfl byteTy (by decide) w.heap.size _ [] rfl ?c3 g _ (f + n - f) _ ((b.drop f).take n) rfl HL2.out ?c4 HN.out ?c5 ?_)
    case c3 => have := OwL.lit0 (f := bV) (e := 5) (base := w.heap.size) (w.setCell ⟨g, 1, none⟩ (.int .i64 (((f : Int) + (n : Int)) * 8))) (by rw [HSZ.out]; exact Nat.le_refl _); rw [HSZ.out] at this; exact this
    case c4 => exact RL.alloc hcut (by rw [HSZ.out]; omega) _
    case c5 => exact le_alloc0 (by rw [HSZ.out]; exact Nat.le_refl _) _
    intro v1 w1 hown _ _ hb1
    obtain ⟨A1, c1, rfl, r⟩ := fin v1 w1 hown hb1
    go_wp2
    go_ret2
    exact ⟨A1, c1, rfl, r⟩
end Go.Proofs.YtokojichjliieaaDoor
namespace Go.Proofs.YtokojichjliieaaDoor
open Go.RowKit

/-- An element is read as the token that it is. -/
def heldR (v : Value) : Option (DataW Value × List MemPlace) := some (.held v, [])
/-- Block b is a map of at most n entries that holds at each key what F says. -/
def MapF (w : World) (P : Program) (k : TypeId) (b n : Nat) (F : Lit → Option Value) : Prop :=
  ∃ D : DataW Value, w.ownsMap P k heldR b n D ∧ ∀ kl, WideAt.IsKeyLit kl → (∀ z, D.atKey kl z = ((F kl).map DataW.held).getD z) ∧ Maps.has D kl = (F kl).isSome

section
variable {P : Program} {k : TypeId} {w w' : World} {b n : Nat} {F : Lit → Option Value}
theorem MapF.made (w : World) (P : Program) (k : TypeId) : MapF (w.alloc (.map #[] 0)) P k w.heap.size 0 (fun _ => none) :=
  ⟨.map [], World.ownsMap_made w P k heldR, fun _ _ => ⟨fun _ => rfl, rfl⟩⟩
theorem MapF.madeAt {g : Nat} (w : World) (P : Program) (k : TypeId) (hg : w.heap.size = g) : MapF (w.alloc (.map #[] 0)) P k g 0 (fun _ => none) := by subst hg; exact MapF.made w P k
theorem MapF.lt (h : MapF w P k b n F) : b < w.heap.size := by obtain ⟨D, h, _⟩ := h; exact h.lt
theorem MapF.mono (h : MapF w P k b n F) {n' : Nat} (hn : n ≤ n') : MapF w P k b n' F := by obtain ⟨D, h, r⟩ := h; exact ⟨D, h.mono hn, r⟩
theorem MapF.grown (h : MapF w P k b n F) {row : Option Nat} (hg : w.grownBy w' row) (hne : some b ≠ row) : MapF w' P k b n F := by obtain ⟨D, h, r⟩ := h; exact ⟨D, h.kept hg hne, r⟩
theorem MapF.alloc (h : MapF w P k b n F) (o : Obj) : MapF (w.alloc o) P k b n F := by obtain ⟨D, h, r⟩ := h; exact ⟨D, h.alloc o, r⟩
theorem MapF.drewN (h : MapF w P k b n F) (q : Nat) : MapF (w.drewN q) P k b n F := h
theorem MapF.drew (h : MapF w P k b n F) : MapF w.drew P k b n F := h
theorem MapF.setCell (h : MapF w P k b n F) {a : Addr} (ha : b ≠ a.block) (u : Value) : MapF (w.setCell a u) P k b n F := by obtain ⟨D, h, r⟩ := h; exact ⟨D, h.setCell ha u, r⟩
theorem MapF.below (h : MapF w P k b n F) {B : Nat} (hb : Below B w w') (hB : b < B) : MapF w' P k b n F := by
  obtain ⟨D, ⟨es, clock, he, r⟩, q⟩ := h
  exact ⟨D, ⟨es, clock, (hb.block b hB).trans he, r⟩, q⟩
theorem MapF.ext (h : MapF w P k b n F) {G : Lit → Option Value} (he : ∀ kl, WideAt.IsKeyLit kl → G kl = F kl) : MapF w P k b n G := by
  obtain ⟨D, h, r⟩ := h
  exact ⟨D, h, fun kl hk => by rw [he kl hk]; exact r kl hk⟩

/-- v, ok := m[k]. -/
theorem wpList_look_ok {ops : Array Oper} {rest : List Oper} {o : Oper} {a : Act} {Q : Exit → Act → World → Prop}
    (hg : o.guard = none) (m x : Operand) (t : TypeId) (hop : o.op = Op.lookup t m x true)
    (e : TypeId) (K : Maps.Keyed P k) (ht : P.underlying t = some (.map k e)) (z : Value) (hz : (zeroValue e).run P w = .ok z w)
    (hm : a.eval m = .map (some b)) (hown : MapF w P k b n F) (key : Value) (kl : Lit) (hx : a.eval x = key) (hkey : keyOf P k key = some kl)
    (hK : wpList P ops Q rest (a.put o.dst (.tuple #[(F kl).getD z, .bool (F kl).isSome])) w) :
    wpList P ops Q (o :: rest) a w := by
  obtain ⟨D, h, r⟩ := hown
  obtain ⟨r1, r2⟩ := r kl (K.key hkey)
  refine wpList_lookup_own_ok w hg m x t hop k e K ht heldR hz (.held z) [] rfl b n D hm h key kl hx hkey (fun v ps hv => ?_)
  have hv' : v = (F kl).getD z := by
    rw [r1] at hv
    unfold heldR at hv
    simp only [Option.some.injEq, Prod.mk.injEq] at hv
    cases hF : F kl with
    | none => rw [hF] at hv; simpa using hv.1
    | some u => rw [hF] at hv; simpa using hv.1
  rw [r2, hv']
  exact hK
/-- m[k] = v. -/
theorem wpList_store {ops : Array Oper} {rest : List Oper} {o : Oper} {a : Act} {Q : Exit → Act → World → Prop}
    (hg : o.guard = none) (m x v : Operand) (t : TypeId) (hop : o.op = Op.mapUpdate t m x v)
    (e : TypeId) (K : Maps.Keyed P k) (ht : P.underlying t = some (.map k e)) (hm : a.eval m = .map (some b)) (hown : MapF w P k b n F) (hn : n < maxLen) (key val : Value) (kl : Lit)
    (hx : a.eval x = key) (hv : a.eval v = val) (hkey : keyOf P k key = some kl)
    (hK : ∀ w', MapF w' P k b (n + 1) (fun q => if q.sameKey kl = true then some val else F q) → w.grownBy w' (some b) → wpList P ops Q rest (a.put o.dst undef) w') :
    wpList P ops Q (o :: rest) a w := by
  obtain ⟨D, h, r⟩ := hown
  refine wpList_mapUpdate_own w hg m x v t hop k e K ht heldR b n D hm h hn key val kl hx hv hkey (.held val) [] rfl ?_
  intro w' h' hgr
  refine hK w' ⟨_, h', fun q hq => ?_⟩ hgr
  by_cases hqk : q = kl
  · subst hqk
    dsimp only
    rw [if_pos (WideAt.sameKey_self hq)]
    exact ⟨fun z => Maps.atKey_put_same h.isMap hq _ z, Maps.has_put_same h.isMap hq _⟩
  · dsimp only
    rw [if_neg (fun h => hqk (WideAt.sameKey_eq h))]
    obtain ⟨r1, r2⟩ := r q hq
    exact ⟨fun z => by rw [Maps.atKey_put_other hqk]; exact r1 z, by rw [Maps.has_put_other hqk]; exact r2⟩
/-- m[k]. -/
theorem wpList_look {ops : Array Oper} {rest : List Oper} {o : Oper} {a : Act} {Q : Exit → Act → World → Prop}
    (hg : o.guard = none) (m x : Operand) (t : TypeId) (hop : o.op = Op.lookup t m x false)
    (e : TypeId) (K : Maps.Keyed P k) (ht : P.underlying t = some (.map k e)) (z : Value) (hz : (zeroValue e).run P w = .ok z w)
    (hm : a.eval m = .map (some b)) (hown : MapF w P k b n F) (key : Value) (kl : Lit) (hx : a.eval x = key) (hkey : keyOf P k key = some kl)
    (hK : wpList P ops Q rest (a.put o.dst ((F kl).getD z)) w) :
    wpList P ops Q (o :: rest) a w := by
  refine wpList_plain hg fun K' hK' => ?_
  obtain ⟨D, h, r⟩ := hown
  obtain ⟨r1, r2⟩ := r kl (K.key hkey)
  obtain ⟨v, ps, hrun, hv⟩ := h.lookup K ht hz (zd := .held z) (zp := []) rfl hkey
  have hv' : v = (F kl).getD z := by
    rw [r1] at hv
    unfold heldR at hv
    simp only [Option.some.injEq, Prod.mk.injEq] at hv
    cases hF : F kl with
    | none => rw [hF] at hv; simpa using hv.1
    | some u => rw [hF] at hv; simpa using hv.1
  subst hv'
  unfold Oper.wp
  simp [execOp, hop, hm, hx, hrun, Result.andThen]
  exact hK' _ _ hK

/-- The same, told by keys of a type of one's own. -/
def MapT {κ : Type} (f : κ → Value) (w : World) (P : Program) (k : TypeId) (b n : Nat) (G : κ → Option Value) : Prop :=
  ∃ F, MapF w P k b n F ∧ ∀ x kl, keyOf P k (f x) = some kl → F kl = G x
variable {κ : Type} {f : κ → Value} {G : κ → Option Value}
theorem MapT.made (w : World) (P : Program) (k : TypeId) : MapT f (w.alloc (.map #[] 0)) P k w.heap.size 0 (fun _ => none) := ⟨_, MapF.made w P k, fun _ _ _ => rfl⟩
theorem MapT.madeAt {g : Nat} (w : World) (P : Program) (k : TypeId) (hg : w.heap.size = g) : MapT f (w.alloc (.map #[] 0)) P k g 0 (fun _ => none) := ⟨_, MapF.madeAt w P k hg, fun _ _ _ => rfl⟩
theorem MapT.lt (h : MapT f w P k b n G) : b < w.heap.size := by obtain ⟨F, h, _⟩ := h; exact h.lt
theorem MapT.mono (h : MapT f w P k b n G) {n' : Nat} (hn : n ≤ n') : MapT f w P k b n' G := by obtain ⟨F, h, r⟩ := h; exact ⟨F, h.mono hn, r⟩
theorem MapT.grown (h : MapT f w P k b n G) {row : Option Nat} (hg : w.grownBy w' row) (hne : some b ≠ row) : MapT f w' P k b n G := by obtain ⟨F, h, r⟩ := h; exact ⟨F, h.grown hg hne, r⟩
theorem MapT.alloc (h : MapT f w P k b n G) (o : Obj) : MapT f (w.alloc o) P k b n G := by obtain ⟨F, h, r⟩ := h; exact ⟨F, h.alloc o, r⟩
theorem MapT.drewN (h : MapT f w P k b n G) (q : Nat) : MapT f (w.drewN q) P k b n G := h
theorem MapT.drew (h : MapT f w P k b n G) : MapT f w.drew P k b n G := h
theorem MapT.setCell (h : MapT f w P k b n G) {a : Addr} (ha : b ≠ a.block) (u : Value) : MapT f (w.setCell a u) P k b n G := by obtain ⟨F, h, r⟩ := h; exact ⟨F, h.setCell ha u, r⟩
theorem MapT.below (h : MapT f w P k b n G) {B : Nat} (hb : Below B w w') (hB : b < B) : MapT f w' P k b n G := by obtain ⟨F, h, r⟩ := h; exact ⟨F, h.below hb hB, r⟩
theorem MapT.ext (h : MapT f w P k b n G) {G' : κ → Option Value} (he : ∀ x, G' x = G x) : MapT f w P k b n G' := by obtain ⟨F, h, r⟩ := h; exact ⟨F, h, fun x kl hk => (r x kl hk).trans (he x).symm⟩

theorem wpList_lookT_ok {ops : Array Oper} {rest : List Oper} {o : Oper} {a : Act} {Q : Exit → Act → World → Prop}
    (hg : o.guard = none) (m x : Operand) (t : TypeId) (hop : o.op = Op.lookup t m x true)
    (e : TypeId) (K : Maps.Keyed P k) (ht : P.underlying t = some (.map k e)) (z : Value) (hz : (zeroValue e).run P w = .ok z w)
    (hm : a.eval m = .map (some b)) (hown : MapT f w P k b n G) (y : κ) (kl : Lit) (hx : a.eval x = f y) (hkey : keyOf P k (f y) = some kl)
    (hK : wpList P ops Q rest (a.put o.dst (.tuple #[(G y).getD z, .bool (G y).isSome])) w) :
    wpList P ops Q (o :: rest) a w := by
  obtain ⟨F, h, r⟩ := hown
  exact wpList_look_ok hg m x t hop e K ht z hz hm h (f y) kl hx hkey (by rw [r y kl hkey]; exact hK)
theorem wpList_lookV_ok {ops : Array Oper} {rest : List Oper} {o : Oper} {a : Act} {Q : Exit → Act → World → Prop}
    (hg : o.guard = none) (m x : Operand) (t : TypeId) (hop : o.op = Op.lookup t m x true)
    (e : TypeId) (K : Maps.Keyed P k) (ht : P.underlying t = some (.map k e)) (z : Value) (hz : (zeroValue e).run P w = .ok z w)
    (hm : a.eval m = .map (some b)) (hown : MapT f w P k b n G) (y : κ) (kl : Lit) (hx : a.eval x = f y) (hkey : keyOf P k (f y) = some kl) (v : Value) (ok : Bool) (hv : (G y).getD z = v) (hb : (G y).isSome = ok)
    (hK : wpList P ops Q rest (a.put o.dst (.tuple #[v, .bool ok])) w) :
    wpList P ops Q (o :: rest) a w := by
  subst hv
  subst hb
  exact wpList_lookT_ok hg m x t hop e K ht z hz hm hown y kl hx hkey hK
theorem wpList_lookT {ops : Array Oper} {rest : List Oper} {o : Oper} {a : Act} {Q : Exit → Act → World → Prop}
    (hg : o.guard = none) (m x : Operand) (t : TypeId) (hop : o.op = Op.lookup t m x false)
    (e : TypeId) (K : Maps.Keyed P k) (ht : P.underlying t = some (.map k e)) (z : Value) (hz : (zeroValue e).run P w = .ok z w)
    (hm : a.eval m = .map (some b)) (hown : MapT f w P k b n G) (y : κ) (kl : Lit) (hx : a.eval x = f y) (hkey : keyOf P k (f y) = some kl)
    (hK : wpList P ops Q rest (a.put o.dst ((G y).getD z)) w) :
    wpList P ops Q (o :: rest) a w := by
  obtain ⟨F, h, r⟩ := hown
  exact wpList_look hg m x t hop e K ht z hz hm h (f y) kl hx hkey (by rw [r y kl hkey]; exact hK)
theorem wpList_storeT [DecidableEq κ] {ops : Array Oper} {rest : List Oper} {o : Oper} {a : Act} {Q : Exit → Act → World → Prop}
    (hg : o.guard = none) (m x v : Operand) (t : TypeId) (hop : o.op = Op.mapUpdate t m x v)
    (e : TypeId) (K : Maps.Keyed P k) (ht : P.underlying t = some (.map k e)) (hm : a.eval m = .map (some b)) (hown : MapT f w P k b n G) (hinj : ∀ x y, f x = f y → x = y) (hn : n < maxLen) (y : κ) (val : Value) (kl : Lit)
    (hx : a.eval x = f y) (hv : a.eval v = val) (hkey : keyOf P k (f y) = some kl)
    (hK : ∀ w', MapT f w' P k b (n + 1) (fun q => if q = y then some val else G q) → w.grownBy w' (some b) → wpList P ops Q rest (a.put o.dst undef) w') :
    wpList P ops Q (o :: rest) a w := by
  obtain ⟨F, h, r⟩ := hown
  refine wpList_store hg m x v t hop e K ht hm h hn (f y) val kl hx hv hkey ?_
  intro w' h' hgr
  refine hK w' ⟨_, h', fun q ql hq => ?_⟩ hgr
  dsimp only
  by_cases hqy : q = y
  · subst hqy
    rw [hkey] at hq
    injection hq with hq
    subst hq
    rw [if_pos (WideAt.sameKey_self (K.key hkey)), if_pos rfl]
  · have hne : ¬ ql.sameKey kl = true := fun hs => by
      have := WideAt.sameKey_eq hs
      subst this
      exact hqy (hinj _ _ (K.inj hq hkey))
    rw [if_neg hne, if_neg hqy]
    exact r q ql hq
end
end Go.Proofs.YtokojichjliieaaDoor
namespace Go.Proofs.YtokojichjliieaaDoor
open Go.RowKit

/-- Block b is a map in which the entry of key kl stands open under the stamp st: a value that is stored there makes of it what G says. -/
def OpenF (w : World) (P : Program) (k : TypeId) (b n : Nat) (F : Lit → Option Value) (kl : Lit) (st : Nat) : Prop :=
  ∃ es clock, w.heap[b]? = some (.map es clock) ∧ ∃ i, es.findIdx? (fun e => (e.born : Int) == (st : Int)) = some i ∧
    ∀ (val : Value) (w' : World), w'.heap[b]? = some (.map (es.modify i fun e => { e with val := val }) clock) → MapF w' P k b n (fun q => if q.sameKey kl = true then some val else F q)
section
variable {P : Program} {k : TypeId} {w w' : World} {b n st : Nat} {F : Lit → Option Value} {kl : Lit}
theorem MapF.same (h : MapF w P k b n F) (hb : w'.heap[b]? = w.heap[b]?) : MapF w' P k b n F := by
  obtain ⟨D, ⟨es, clock, he, r⟩, q⟩ := h
  exact ⟨D, ⟨es, clock, hb.trans he, r⟩, q⟩
theorem OpenF.same (h : OpenF w P k b n F kl st) (hb : w'.heap[b]? = w.heap[b]?) : OpenF w' P k b n F kl st := by
  obtain ⟨es, clock, he, r⟩ := h
  exact ⟨es, clock, hb.trans he, r⟩
theorem OpenF.lt (h : OpenF w P k b n F kl st) : b < w.heap.size := by
  obtain ⟨es, clock, he, _⟩ := h
  rcases Nat.lt_or_ge b w.heap.size with hlt | hge
  · exact hlt
  · rw [Array.getElem?_eq_none hge] at he; cases he
theorem findIdx_born {es : Array MapEntry} {i : Nat} {e : MapEntry} (hn : (es.toList.map (·.born)).Nodup) (hi : es[i]? = some e) : es.findIdx? (fun x => (x.born : Int) == (e.born : Int)) = some i := by
  obtain ⟨hil, hie⟩ := Array.getElem?_eq_some_iff.1 hi
  rw [Array.findIdx?_eq_some_iff_getElem]
  refine ⟨hil, by simp [hie], fun j hj => ?_⟩
  have hjl : j < es.size := by omega
  have hne : es[j].born ≠ es[i].born := by
    have := (List.pairwise_iff_getElem.1 hn) j i (by simpa using hjl) (by simpa using hil) hj
    simpa using this
  rw [← hie]
  simp
  omega
theorem MapF.put {t e : TypeId} {key val : Value} (h : MapF w P k b n F) (K : Maps.Keyed P k) (ht : P.underlying t = some (.map k e)) (hn : n < maxLen) (hkey : keyOf P k key = some kl) :
    ∃ w', (Instr.mapUpdate t (.map (some b)) key val).run P w = .ok () w' ∧ MapF w' P k b (n + 1) (fun q => if q.sameKey kl = true then some val else F q) := by
  obtain ⟨D, hown, r⟩ := h
  obtain ⟨w', hrun, h', _⟩ := hown.update K ht hn hkey (show heldR val = some (.held val, []) from rfl)
  refine ⟨w', hrun, _, h', fun q hq => ?_⟩
  by_cases hqk : q = kl
  · subst hqk
    dsimp only
    rw [if_pos (WideAt.sameKey_self hq)]
    exact ⟨fun z => Maps.atKey_put_same hown.isMap hq _ z, Maps.has_put_same hown.isMap hq _⟩
  · dsimp only
    rw [if_neg (fun h => hqk (WideAt.sameKey_eq h))]
    obtain ⟨r1, r2⟩ := r q hq
    exact ⟨fun z => by rw [Maps.atKey_put_other hqk]; exact r1 z, by rw [Maps.has_put_other hqk]; exact r2⟩
theorem heap_set_at {w : World} {b : Nat} {o o' : Obj} (hb : w.heap[b]? = some o) : (w.heap.setIfInBounds b o')[b]? = some o' := (MapKept.heap_set hb).1
theorem gb_heap {w : World} {b : Nat} (o : Obj) : w.grownBy { w with heap := w.heap.setIfInBounds b o } (some b) :=
  ⟨rfl, rfl, rfl, by simp, fun i _ hi => by
    show (w.heap.setIfInBounds b o)[i]? = _
    rw [Array.getElem?_setIfInBounds_ne]
    exact fun e => hi (by rw [e])⟩
theorem MapF.entry {t e : TypeId} {z key : Value} (h : MapF w P k b n F) (K : Maps.Keyed P k) (ht : P.underlying t = some (.map k e)) (hz : (zeroValue e).run P w = .ok z w) (hn : n < maxLen) (hkey : keyOf P k key = some kl) :
    ∃ (v : Value) (st : Nat) (w1 : World), (Instr.mapEntry t (.map (some b)) key).run P w = .ok (.tuple #[v, .int .i64 (st : Int)]) w1 ∧ w.grownBy w1 (some b) ∧ OpenF w1 P k b (n + 1) F kl st := by
  have hmf := h
  obtain ⟨D, hown, hr⟩ := h
  obtain ⟨es, clock, hb, FT, hsz, hD⟩ := hown
  have hst := FT.stamped
  have hks : ∀ x ∈ es.toList, ∃ l, keyOf P k x.key = some l := fun x hx => by
    obtain ⟨y, hy⟩ := FT.reads x hx
    exact ⟨_, WideElems.rd_key hy⟩
  have hgo : (getObj b).run P w = .ok (.map es clock) w := MapKept.run_getObj_map hb
  have hset : ∀ o, (setObj b o).run P w = .ok () { w with heap := w.heap.setIfInBounds b o } := fun o => MapKept.run_setObj_map o hb
  have hck := K.check w false hkey
  rcases K.find w hkey es.toList hks with ⟨h1, h2⟩ | ⟨j, e0, h1, h2, h3⟩
  · refine ⟨z, clock, { w with heap := w.heap.setIfInBounds b (.map (es.push { key := key, val := z, born := clock }) (clock + 1)) }, ?_, gb_heap _, ?_⟩
    · simp only [Instr.mapEntry, Sem.run_bind, run_underlying ht, hgo, Result.andThen]
      simp [Sem.run_bind, hck, h1, hz, hset, Result.andThen, goInt]
    · refine ⟨_, _, heap_set_at hb, es.size, ?_, fun val w' hw' => ?_⟩
      · rw [Array.findIdx?_eq_some_iff_getElem]
        refine ⟨by simp, by simp, fun i hi => ?_⟩
        have := hst.1 es[i] (by simp)
        simp [Array.getElem_push, hi]
        omega
      · obtain ⟨wu, hrun, hmu⟩ := hmf.put (t := t) (val := val) K ht hn hkey
        have hrun2 : (Instr.mapUpdate t (.map (some b)) key val).run P w = .ok () { w with heap := w.heap.setIfInBounds b (.map (es.push { key := key, val := val, born := clock }) (clock + 1)) } := by
          simp only [Instr.mapUpdate, Sem.run_bind, run_underlying ht, hgo, Result.andThen]
          simp [Sem.run_bind, hck, h1, hset, Result.andThen]
        rw [hrun2] at hrun
        injection hrun with _ hwu
        subst hwu
        refine hmu.same ?_
        rw [hw']
        show _ = (w.heap.setIfInBounds b _)[b]?
        rw [heap_set_at hb]
        congr 2
        apply Array.ext'
        simp [Array.toList_modify, List.modify_eq_set]
  · have hj : es[j]? = some e0 := by simpa using h2
    have hjl := (Array.getElem?_eq_some_iff.1 hj).1
    have hje := (Array.getElem?_eq_some_iff.1 hj).2
    have hky := K.stays w hkey
    have hsame : (es.modify j fun e => { e with key := key }) = es := by
      apply Array.ext
      · simp
      · intro i h1 h2'
        rw [Array.getElem_modify]
        split
        · rename_i e; subst e; rw [hje, ← h3]
        · rfl
    refine ⟨e0.val, e0.born, { w with heap := w.heap.setIfInBounds b (.map es clock) }, ?_, gb_heap _, ?_⟩
    · simp only [Instr.mapEntry, Sem.run_bind, run_underlying ht, hgo, Result.andThen]
      simp [hck, h1, hj, h3, hky, hset, hsame, goInt]
    · refine ⟨_, _, heap_set_at hb, j, findIdx_born hst.2.1 hj, fun val w' hw' => ?_⟩
      obtain ⟨wu, hrun, hmu⟩ := hmf.put (t := t) (val := val) K ht hn hkey
      have hrun2 : (Instr.mapUpdate t (.map (some b)) key val).run P w = .ok () { w with heap := w.heap.setIfInBounds b (.map (es.modify j fun e => { e with key := key, val := val }) clock) } := by
        simp only [Instr.mapUpdate, Sem.run_bind, run_underlying ht, hgo, Result.andThen]
        simp [hck, h1, hj, h3, hky, hset]
      rw [hrun2] at hrun
      injection hrun with _ hwu
      subst hwu
      refine hmu.same ?_
      rw [hw']
      show _ = (w.heap.setIfInBounds b _)[b]?
      rw [heap_set_at hb]
      congr 2
      apply Array.ext
      · simp
      · intro i h1 h2'
        rw [Array.getElem_modify, Array.getElem_modify]
        split
        · rename_i e; subst e; rw [hje, ← h3]
        · rfl
theorem OpenF.store {t : TypeId} (h : OpenF w P k b n F kl st) (val : Value) : ∃ w', (Instr.entryStore t (.map (some b)) (.int .i64 (st : Int)) val).run P w = .ok () w' ∧ w.grownBy w' (some b) ∧ MapF w' P k b n (fun q => if q.sameKey kl = true then some val else F q) := by
  obtain ⟨es, clock, hb, i, hi, hv⟩ := h
  have hgo : (getObj b).run P w = .ok (.map es clock) w := MapKept.run_getObj_map hb
  have hset : ∀ o, (setObj b o).run P w = .ok () { w with heap := w.heap.setIfInBounds b o } := fun o => MapKept.run_setObj_map o hb
  refine ⟨{ w with heap := w.heap.setIfInBounds b (.map (es.modify i fun e => { e with val := val }) clock) }, ?_, gb_heap _, hv val _ (heap_set_at hb)⟩
  simp only [Instr.entryStore, Sem.run_bind, hgo, Result.andThen]
  simp [asInt, asIntOf, hi, hset, Result.andThen]
/-- The two at a list of operations. -/
theorem wpList_entry {ops : Array Oper} {rest : List Oper} {o : Oper} {a : Act} {Q : Exit → Act → World → Prop}
    (hg : o.guard = none) (m x : Operand) (t : TypeId) (hop : o.op = Op.mapEntry t m x)
    (e : TypeId) (K : Maps.Keyed P k) (ht : P.underlying t = some (.map k e)) (z : Value) (hz : (zeroValue e).run P w = .ok z w) (hm : a.eval m = .map (some b)) (hown : MapF w P k b n F) (hn : n < maxLen) (key : Value) (kl : Lit)
    (hx : a.eval x = key) (hkey : keyOf P k key = some kl)
    (hK : ∀ (v : Value) (st : Nat) (w' : World), OpenF w' P k b (n + 1) F kl st → w.grownBy w' (some b) → wpList P ops Q rest (a.put o.dst (.tuple #[v, .int .i64 (st : Int)])) w') :
    wpList P ops Q (o :: rest) a w := by
  refine wpList_plain hg fun K' hK' => ?_
  obtain ⟨v, st, w1, hrun, h1, h2⟩ := hown.entry K ht hz hn hkey
  unfold Oper.wp
  simp [execOp, hop, hm, hx, hrun, Result.andThen]
  exact hK' _ _ (hK v st w1 h2 h1)
theorem wpList_entryStore {ops : Array Oper} {rest : List Oper} {o : Oper} {a : Act} {Q : Exit → Act → World → Prop}
    (hg : o.guard = none) (m s v : Operand) (t : TypeId) (hop : o.op = Op.entryStore t m s v)
    (hm : a.eval m = .map (some b)) (h : OpenF w P k b n F kl st) (hs : a.eval s = .int .i64 (st : Int)) (val : Value) (hv : a.eval v = val)
    (hK : ∀ w', MapF w' P k b n (fun q => if q.sameKey kl = true then some val else F q) → w.grownBy w' (some b) → wpList P ops Q rest (a.put o.dst undef) w') :
    wpList P ops Q (o :: rest) a w := by
  refine wpList_plain hg fun K' hK' => ?_
  obtain ⟨w1, hrun, h1, h2⟩ := h.store (t := t) val
  unfold Oper.wp
  simp [execOp, hop, hm, hs, hv, hrun, Result.andThen]
  exact hK' _ _ (hK w1 h2 h1)
/-- v, ok := m[k], the run itself. -/
theorem MapT.run_ok {κ : Type} {f : κ → Value} {G : κ → Option Value} {t e : TypeId} {z : Value} (hown : MapT f w P k b n G) (K : Maps.Keyed P k) (ht : P.underlying t = some (.map k e)) (hz : (zeroValue e).run P w = .ok z w) {y : κ} {kl : Lit} (hkey : keyOf P k (f y) = some kl) :
    (Instr.lookup t (.map (some b)) (f y) true).run P w = .ok (.tuple #[(G y).getD z, .bool (G y).isSome]) w := by
  obtain ⟨F, ⟨D, h, r⟩, rG⟩ := hown
  obtain ⟨r1, r2⟩ := r kl (K.key hkey)
  have hF := rG y kl hkey
  obtain ⟨v, ps, hrun, hv⟩ := h.look_ok K ht hz (zd := .held z) (zp := []) rfl hkey
  have hv' : v = (F kl).getD z := by
    rw [r1] at hv
    unfold heldR at hv
    simp only [Option.some.injEq, Prod.mk.injEq] at hv
    cases hF : F kl with
    | none => rw [hF] at hv; simpa using hv.1
    | some u => rw [hF] at hv; simpa using hv.1
  rw [hrun, r2, hv', hF]
end
end Go.Proofs.YtokojichjliieaaDoor
namespace Go.Proofs.YtokojichjliieaaDoor
open Go.RowKit

/-- A code word: how many bits, which. -/
def wordV (x : Nat × Nat) : Value := .agg #[.int .u8 (x.1 : Int), .int .u16 (x.2 : Int)]
theorem word_inj (x y : Nat × Nat) (h : wordV x = wordV y) : x = y := by
  unfold wordV at h
  simp only [Value.agg.injEq, Array.mk.injEq, List.cons.injEq, Value.int.injEq, and_true, true_and] at h
  exact Prod.ext (by omega) (by omega)
theorem wordLaw : WideMaps.KeyLaw Tryd.prog 164 := deep_law_laid laidOut (m := 2) (by omega) (of_decide_eq_true (by kernel_rfl)) (by kernel_rfl) (by rw [Tryd.underlying164])
theorem wordK : Maps.Keyed Tryd.prog 164 := Maps.Keyed.of_law wordLaw
theorem word_key {x : Nat × Nat} (h1 : x.1 < 256) (h2 : x.2 < 65536) : ∃ kl, keyOf Tryd.prog 164 (wordV x) = some kl := by
  have hk : Tryd.prog.keyType 164 = true := by kernel_rfl
  have hc : Tryd.prog.cellsOf 164 = 2 := by kernel_rfl
  have hc1 : Tryd.prog.cellsOf 5 = 1 := by kernel_rfl
  have hc2 : Tryd.prog.cellsOf 34 = 1 := by kernel_rfl
  have hpos : 0 < Tryd.prog.types.size := of_decide_eq_true (by kernel_rfl)
  obtain ⟨m, hm⟩ : ∃ m, Tryd.prog.types.size = m + 1 := ⟨Tryd.prog.types.size - 1, by omega⟩
  have w1 : (Lit.int .u8 (x.1 : Int)).wf = true := by simp [Lit.wf, show IntKind.u8.min = 0 from rfl, show IntKind.u8.max = 255 from rfl]; omega
  have w2 : (Lit.int .u16 (x.2 : Int)).wf = true := by simp [Lit.wf, show IntKind.u16.min = 0 from rfl, show IntKind.u16.max = 65535 from rfl]; omega
  have hcl : (Value.agg #[.int .u8 (x.1 : Int), .int .u16 (x.2 : Int)]).cells.toList = [.int .u8 (x.1 : Int), .int .u16 (x.2 : Int)] := rfl
  unfold keyOf wordV
  rw [hcl, Tryd.underlying164]
  simp [hk, hcl, Value.formed, Tryd.underlying164, hc, hm, Program.keyLits, hc1, hc2, Tryd.underlying5, Tryd.underlying34, w1, w2]
/-- What the code's maps hold of the first k lengths: a word's symbol; a symbol's word. -/
def symG (l : List Nat) (k : Nat) (x : Nat × Nat) : Option Value := (symK l k x.1 x.2).map fun s => .int .i64 (s : Int)
def wordOf (l : List Nat) (s : Nat) : Option (Nat × Nat) := if l.getD s 0 = 0 then none else some (l.getD s 0, firstP l (l.getD s 0) + (symsP l s (l.getD s 0)).length)
def wrdG (l : List Nat) (k : Nat) (s : Int) : Option Value := if 0 ≤ s ∧ s < k then (wordOf l s.toNat).map wordV else none
/-- A prefix code in block g, all of it from block lo on. -/
def PCd (w : World) (lo g : Nat) (l : List Nat) : Prop :=
  ∃ ms mw n1 n2, Bk w g 161 #[.map (some ms), .map (some mw), .int .u8 (mostP l : Int)] ∧ MapT wordV w Tryd.prog 164 ms n1 (symG l l.length) ∧
    MapT iV w Tryd.prog 3 mw n2 (wrdG l l.length) ∧ (lo ≤ ms ∧ ms ≤ g) ∧ (lo ≤ mw ∧ mw ≤ g) ∧ mostP l ≤ 15 ∧ kraftTo l 15 ≤ 32768
theorem PCd.lt {w : World} {lo g : Nat} {l : List Nat} (h : PCd w lo g l) : lo ≤ g ∧ g < w.heap.size := by obtain ⟨_, _, _, _, h1, _, _, h2, _⟩ := h; exact ⟨by omega, h1.lt⟩
theorem MapT.same {κ : Type} {f : κ → Value} {w w' : World} {P : Program} {k : TypeId} {b n : Nat} {G : κ → Option Value} (h : MapT f w P k b n G) (hb : w'.heap[b]? = w.heap[b]?) : MapT f w' P k b n G := by
  obtain ⟨F, h1, h2⟩ := h
  exact ⟨F, h1.same hb, h2⟩
theorem PCd.keep {w w' : World} {lo g : Nat} {l : List Nat} (h : PCd w lo g l) (hk : ∀ i, lo ≤ i → i ≤ g → w'.heap[i]? = w.heap[i]?) : PCd w' lo g l := by
  have hl := h.lt
  obtain ⟨ms, mw, n1, n2, h1, h2, h3, h4, h5, r⟩ := h
  exact ⟨ms, mw, n1, n2, (hk g hl.1 (Nat.le_refl _)).trans h1, h2.same (hk _ h4.1 h4.2), h3.same (hk _ h5.1 h5.2), h4, h5, r⟩
theorem PCd.grown {w w' : World} {lo g : Nat} {l : List Nat} {row : Option Nat} (h : PCd w lo g l) (hb : w.grownBy w' row) (hr : ∀ k, row = some k → k < lo ∨ g < k) : PCd w' lo g l :=
  h.keep fun i h1 h2 => hb.block i (by have := h.lt; omega) (fun e => by have := hr i e.symm; omega)
theorem PCd.below {w w' : World} {lo g B : Nat} {l : List Nat} (h : PCd w lo g l) (hb : Below B w w') (hB : g < B) : PCd w' lo g l := h.keep fun i _ h2 => hb.block i (by omega)
end Go.Proofs.YtokojichjliieaaDoor
namespace Go.Proofs.YtokojichjliieaaDoor

theorem cntP_take {l : List Nat} {k m : Nat} (hk : l[k]? = some m) (i : Nat) : cntP (l.take (k + 1)) i = if i = m ∧ m ≠ 0 then cntP (l.take k) i + 1 else cntP (l.take k) i := by
  have hkl : k < l.length := by
    rcases Nat.lt_or_ge k l.length with h | h
    · exact h
    · rw [List.getElem?_eq_none h] at hk; cases hk
  unfold cntP
  rw [List.take_add_one, hk]
  by_cases h0 : i = 0
  · subst h0
    by_cases hm : 0 = m
    · subst hm; simp
    · simp [hm]
  · rw [if_neg h0, if_neg h0, Option.toList_some, List.count_append, List.count_singleton]
    by_cases h : i = m
    · subst h; simp [h0]
    · have h' : ¬ m = i := fun e => h e.symm
      simp [h, h']
theorem cntP_le (l : List Nat) (i : Nat) : cntP l i ≤ l.length := by
  unfold cntP; split
  · omega
  · exact List.count_le_length
theorem usedP_take {l : List Nat} {k m : Nat} (hk : l[k]? = some m) : usedP (l.take (k + 1)) = if m ≠ 0 then usedP (l.take k) + 1 else usedP (l.take k) := by
  unfold usedP
  rw [List.take_add_one, hk, Option.toList_some, List.filter_append, List.length_append]
  by_cases h : m = 0 <;> simp [h]
theorem usedP_le (l : List Nat) : usedP l ≤ l.length := List.length_filter_le _ _
theorem kraft_le_over {l : List Nat} {n : Nat} (hn : n ≤ 15) (h : 32768 < kraftTo l n * 2 ^ (15 - n)) : 32768 < kraftTo l 15 := by
  have h1 := kraft_mono l n (15 - n)
  rw [show n + (15 - n) = 15 by omega] at h1
  omega
theorem count_pos_used {l : List Nat} {n : Nat} (hn : n ≠ 0) : l.count n ≤ usedP l := by
  unfold usedP
  induction l with
  | nil => simp
  | cons a l ih =>
    rw [List.count_cons, List.filter_cons]
    by_cases ha : a = 0
    · subst ha
      have : ¬ (0 : Nat) = n := fun e => hn e.symm
      simpa [this] using ih
    · simp only [bne_iff_ne, ne_eq, ha, not_false_eq_true, if_true, List.length_cons]
      split <;> omega
theorem used_sum {l : List Nat} {a b : Nat} (ha : a ≠ 0) (hb : b ≠ 0) (hab : a ≠ b) : l.count a + l.count b ≤ usedP l := by
  unfold usedP
  induction l with
  | nil => simp
  | cons c l ih =>
    rw [List.count_cons, List.count_cons, List.filter_cons]
    by_cases hc : c = 0
    · subst hc
      have h1 : ¬ (0 : Nat) = a := fun e => ha e.symm
      have h2 : ¬ (0 : Nat) = b := fun e => hb e.symm
      simpa [h1, h2] using ih
    · simp only [bne_iff_ne, ne_eq, hc, not_false_eq_true, if_true, List.length_cons, beq_iff_eq]
      split <;> split <;> omega
/-- Few symbols: the sum is small. -/
theorem kraft_lone {l : List Nat} (h : usedP l = 0 ∨ (usedP l = 1 ∧ l.count 1 = 1)) : kraftTo l 15 ≤ 32768 := by
  have hz : ∀ n, 2 ≤ n → l.count n = 0 := fun n hn => by
    rcases h with h | ⟨h, h1⟩
    · have := count_pos_used (l := l) (n := n) (by omega); omega
    · have := used_sum (l := l) (a := 1) (b := n) (by omega) (by omega) (by omega); omega
  have h1 : l.count 1 ≤ 1 := by
    rcases h with h | ⟨_, h1⟩
    · have := count_pos_used (l := l) (n := 1) (by omega); omega
    · omega
  simp only [kraftTo, cntP]
  simp only [hz 2 (by omega), hz 3 (by omega), hz 4 (by omega), hz 5 (by omega), hz 6 (by omega), hz 7 (by omega), hz 8 (by omega), hz 9 (by omega), hz 10 (by omega), hz 11 (by omega), hz 12 (by omega), hz 13 (by omega), hz 14 (by omega), hz 15 (by omega)]
  simp
  omega
theorem code_over {l : List Nat} {lone : Bool} (h : 32768 < kraftTo l 15) : codeB l lone = false := by
  unfold codeB
  have h1 : ¬ kraftTo l 15 = 32768 := by omega
  have h2 : ¬ usedP l = 0 := fun e => by have := kraft_lone (l := l) (.inl e); omega
  have h3 : ¬ (usedP l = 1 ∧ l.count 1 = 1) := fun e => by have := kraft_lone (l := l) (.inr e); omega
  have h4 : ¬ usedP l = 1 ∨ ¬ l.count 1 = 1 := by omega
  simp only [h1, h2, decide_false, Bool.false_or, Bool.and_eq_false_iff]
  right
  rcases h4 with h4 | h4 <;> simp [h4]
theorem code_kraft {l : List Nat} {lone : Bool} (h : codeB l lone = true) : kraftTo l 15 ≤ 32768 := by
  rcases Nat.lt_or_ge 32768 (kraftTo l 15) with h' | h'
  · rw [code_over h'] at h; cases h
  · exact h'
/-- What is left behind n lengths. -/
def leftP (l : List Nat) (n : Nat) : Nat := 32768 - kraftTo l n * 2 ^ (15 - n)
theorem left_succ {l : List Nat} {n : Nat} (hn : n < 15) (h : kraftTo l n * 2 ^ (15 - n) ≤ 32768) :
    leftP l n + kraftTo l n * 2 ^ (15 - n) = 32768 ∧ kraftTo l (n + 1) * 2 ^ (15 - (n + 1)) = kraftTo l n * 2 ^ (15 - n) + cntP l (n + 1) * 2 ^ (15 - (n + 1)) := by
  refine ⟨by unfold leftP; omega, ?_⟩
  have e : 15 - n = (15 - (n + 1)) + 1 := by omega
  rw [e, Nat.pow_succ, kraftTo, Nat.add_mul]
  congr 1
  rw [← Nat.mul_assoc]; rw [Nat.mul_comm 2, Nat.mul_assoc, Nat.mul_assoc, Nat.mul_comm 2]
theorem mostP_le {l : List Nat} (h : ∀ x ∈ l, x ≤ 15) : mostP l ≤ 15 := by
  unfold mostP
  suffices ∀ a, a ≤ 15 → List.foldl max a l ≤ 15 from this 0 (by omega)
  induction l with
  | nil => intro a ha; exact ha
  | cons b l ih =>
    intro a ha
    rw [List.foldl_cons]
    exact ih (fun x hx => h x (List.mem_cons_of_mem _ hx)) _ (by have := h b (List.mem_cons_self ..); omega)
theorem mostP_take {l : List Nat} {k m : Nat} (hk : l[k]? = some m) : mostP (l.take (k + 1)) = max (mostP (l.take k)) m := by
  unfold mostP
  rw [List.take_add_one, hk, Option.toList_some, List.foldl_append]
  rfl
theorem symsP_len_succ {l : List Nat} {k m : Nat} (hk : l[k]? = some m) (i : Nat) : (symsP l (k + 1) i).length = if i = m then (symsP l k i).length + 1 else (symsP l k i).length := by
  rw [symsP_succ, List.length_append, hk]
  by_cases h : i = m
  · subst h; simp
  · have h' : ¬ m = i := fun e => h e.symm
    simp [h, h']
/-- A word fits its bits. -/
theorem word_fits {l : List Nat} (h : kraftTo l 15 ≤ 32768) {k m : Nat} (hk : l[k]? = some m) (hm : m ≠ 0) (hm15 : m ≤ 15) : firstP l m + (symsP l k m).length < 2 ^ m := by
  have h1 := first_bound h hm15
  have hkl : k < l.length := by
    rcases Nat.lt_or_ge k l.length with h | h
    · exact h
    · rw [List.getElem?_eq_none h] at hk; cases hk
  have h2 := count_take l (k + 1) m (by omega)
  have h3 := symsP_len_succ hk m
  rw [if_pos rfl] at h3
  have h4 : (l.take (k + 1)).count m ≤ l.count m := (List.take_sublist _ _).count_le _
  unfold cntP at h1
  rw [if_neg hm] at h1
  omega
end Go.Proofs.YtokojichjliieaaDoor
namespace Go.Proofs.YtokojichjliieaaDoor
open Go.RowKit

/-- A fact that no tactic sees through (Hid is a definition, and 'assumption' opens it). -/
structure Bx (p : Prop) : Prop where out : p
theorem bx {p : Prop} (h : p) : Bx p := ⟨h⟩
/-- A row of the call's own is a slice, its length behind a letter. -/
theorem OwL.sl {α : Type} {f : α → Value} {w : World} {base : Nat} {e : TypeId} {v : Value} {l : List α} (h : OwL f w base e v l) : ∃ A n c, v = .slice A n c ∧ Bx (n = l.length) ∧ RL f w w.heap.size A l := by
  obtain ⟨A, c, h1, h2, _⟩ := h.rd
  exact ⟨A, _, c, h1, ⟨rfl⟩, h2⟩
def Rw (w : World) (g : Nat) (t : TypeId) (n : Nat) (C : Nat → Value) : Prop := ∃ cs, Bk w g t cs ∧ cs.size = n ∧ ∀ i, i < n → cs[i]? = some (C i)
section
variable {w w' : World} {g : Nat} {t : TypeId} {n : Nat} {C : Nat → Value}
theorem Rw.lt (h : Rw w g t n C) : g < w.heap.size := by obtain ⟨_, h, _⟩ := h; exact h.lt
theorem Rw.cell (h : Rw w g t n C) {i : Nat} (hi : i < n) : w.cell? ⟨g, i, none⟩ = some (C i) := by
  obtain ⟨cs, hb, _, hc⟩ := h
  rw [hb.cell, hc i hi]
theorem Rw.frz (h : Rw w g t n C) (i : Nat) : w.frozen? ⟨g, i, none⟩ = false := by obtain ⟨_, h, _⟩ := h; exact h.frz i
theorem Rw.of {cs : Array Value} (h : Bk w g t cs) (hn : cs.size = n) (hc : ∀ i, i < n → cs[i]? = some (C i)) : Rw w g t n C := ⟨cs, h, hn, hc⟩
theorem Rw.ext (h : Rw w g t n C) {D : Nat → Value} (hD : ∀ i, i < n → D i = C i) : Rw w g t n D := by
  obtain ⟨cs, h1, h2, h3⟩ := h
  exact ⟨cs, h1, h2, fun i hi => by rw [hD i hi]; exact h3 i hi⟩
theorem Rw.set (h : Rw w g t n C) (i : Nat) (u : Value) : Rw (w.setCell ⟨g, i, none⟩ u) g t n (fun j => if j = i then u else C j) := by
  obtain ⟨cs, h1, h2, h3⟩ := h
  refine ⟨_, h1.set i u, by simpa using h2, fun j hj => ?_⟩
  rw [Array.getElem?_setIfInBounds]
  by_cases e : i = j
  · subst e; simp [h2, hj]
  · have e' : ¬ j = i := fun x => e x.symm
    simp [e, e', h3 j hj]
theorem Rw.keep (h : Rw w g t n C) (hk : w'.heap[g]? = w.heap[g]?) : Rw w' g t n C := by
  obtain ⟨cs, h1, r⟩ := h
  exact ⟨cs, hk.trans h1, r⟩
theorem Rw.alloc (h : Rw w g t n C) (o : Obj) : Rw (w.alloc o) g t n C := h.keep (Below.heap_alloc w o g h.lt)
theorem Rw.far (h : Rw w g t n C) {p : Addr} (hp : g ≠ p.block) (u : Value) : Rw (w.setCell p u) g t n C := h.keep (Below.heap_setCell w p u g hp)
theorem Rw.below {B : Nat} (h : Rw w g t n C) (hb : Below B w w') (hg : g < B) : Rw w' g t n C := h.keep (hb.block g hg)
theorem Rw.grown {row : Option Nat} (h : Rw w g t n C) (hb : w.grownBy w' row) (hg : some g ≠ row) : Rw w' g t n C := h.keep (hb.block g h.lt hg)
end
end Go.Proofs.YtokojichjliieaaDoor
namespace Go.Proofs.YtokojichjliieaaDoor
open Go.RowKit

/-- Block b is a map told by G in which the entry of key y stands open under the stamp st. -/
def OpenT {κ : Type} (f : κ → Value) (w : World) (P : Program) (k : TypeId) (b n : Nat) (G : κ → Option Value) (y : κ) (st : Nat) : Prop :=
  ∃ F kl, OpenF w P k b n F kl st ∧ keyOf P k (f y) = some kl ∧ ∀ x ql, keyOf P k (f x) = some ql → F ql = G x
section
variable {κ : Type} {f : κ → Value} {P : Program} {k : TypeId} {w w' : World} {b n st : Nat} {G : κ → Option Value} {y : κ}
theorem OpenT.lt (h : OpenT f w P k b n G y st) : b < w.heap.size := by obtain ⟨F, kl, h, _⟩ := h; exact h.lt
theorem OpenT.grown (h : OpenT f w P k b n G y st) {row : Option Nat} (hg : w.grownBy w' row) (hne : some b ≠ row) : OpenT f w' P k b n G y st := by
  have hl := h.lt
  obtain ⟨F, kl, h, r⟩ := h
  exact ⟨F, kl, h.same (hg.block b hl hne), r⟩
theorem MapT.entry {t e : TypeId} {z : Value} (h : MapT f w P k b n G) (K : Maps.Keyed P k) (ht : P.underlying t = some (.map k e)) (hz : (zeroValue e).run P w = .ok z w) (hn : n < maxLen) {kl : Lit} (hkey : keyOf P k (f y) = some kl) :
    ∃ (v : Value) (st : Nat) (w1 : World), (Instr.mapEntry t (.map (some b)) (f y)).run P w = .ok (.tuple #[v, .int .i64 (st : Int)]) w1 ∧ w.grownBy w1 (some b) ∧ OpenT f w1 P k b (n + 1) G y st := by
  obtain ⟨F, h, r⟩ := h
  obtain ⟨v, st, w1, h1, h2, h3⟩ := h.entry K ht hz hn hkey
  exact ⟨v, st, w1, h1, h2, F, kl, h3, hkey, r⟩
theorem OpenT.store [DecidableEq κ] {t : TypeId} (h : OpenT f w P k b n G y st) (K : Maps.Keyed P k) (hinj : ∀ x y, f x = f y → x = y) (val : Value) : ∃ w', (Instr.entryStore t (.map (some b)) (.int .i64 (st : Int)) val).run P w = .ok () w' ∧ w.grownBy w' (some b) ∧ MapT f w' P k b n (fun q => if q = y then some val else G q) := by
  obtain ⟨F, kl, h, hkey, r⟩ := h
  obtain ⟨w1, h1, h2, h3⟩ := h.store (t := t) val
  refine ⟨w1, h1, h2, _, h3, fun q ql hq => ?_⟩
  dsimp only
  by_cases hqy : q = y
  · subst hqy
    rw [hkey] at hq
    injection hq with hq
    subst hq
    rw [if_pos (WideAt.sameKey_self (K.key hkey)), if_pos rfl]
  · have hne : ¬ ql.sameKey kl = true := fun hs => by
      have := WideAt.sameKey_eq hs
      subst this
      exact hqy (hinj _ _ (K.inj hq hkey))
    rw [if_neg hne, if_neg hqy]
    exact r q ql hq
theorem step_entryT {ops : Array Oper} {o : Oper} {a : Act} {K' : Act → World → Prop} {Q : Exit → Act → World → Prop} {E : Prop} (hgd : o.guard = none) (m x : Operand) (t : TypeId) (hop : o.op = Op.mapEntry t m x)
    (e : TypeId) (K : Maps.Keyed P k) (ht : P.underlying t = some (.map k e)) (z : Value) (hz : (zeroValue e).run P w = .ok z w) (hm : a.eval m = .map (some b)) (hown : MapT f w P k b n G) (hn : n < maxLen) (y : κ) (kl : Lit)
    (hx : a.eval x = f y) (hkey : keyOf P k (f y) = some kl)
    (h : ∀ (v : Value) (st : Nat) (w' : World), OpenT f w' P k b (n + 1) G y st → w.grownBy w' (some b) → K' (a.put o.dst (.tuple #[v, .int .i64 (st : Int)])) w') :
    if Region.wanted o (yielded ops a.tmps) = true then Oper.wp P o a w K' Q else E := by
  have hw : Region.wanted o (yielded ops a.tmps) = true := by simp [Region.wanted, hgd]
  rw [if_pos hw]
  obtain ⟨v, st, w1, hrun, h1, h2⟩ := hown.entry K ht hz hn hkey
  unfold Oper.wp
  simp [execOp, hop, hm, hx, hrun, Result.andThen]
  exact h v st w1 h2 h1
theorem step_entryStoreT [DecidableEq κ] {ops : Array Oper} {o : Oper} {a : Act} {K' : Act → World → Prop} {Q : Exit → Act → World → Prop} {E : Prop} (hgd : o.guard = none) (m s v : Operand) (t : TypeId) (hop : o.op = Op.entryStore t m s v)
    (K : Maps.Keyed P k) (hinj : ∀ x y, f x = f y → x = y) (hm : a.eval m = .map (some b)) (h : OpenT f w P k b n G y st) (hs : a.eval s = .int .i64 (st : Int)) (val : Value) (hv : a.eval v = val)
    (hK : ∀ w', MapT f w' P k b n (fun q => if q = y then some val else G q) → w.grownBy w' (some b) → K' (a.put o.dst undef) w') :
    if Region.wanted o (yielded ops a.tmps) = true then Oper.wp P o a w K' Q else E := by
  have hw : Region.wanted o (yielded ops a.tmps) = true := by simp [Region.wanted, hgd]
  rw [if_pos hw]
  obtain ⟨w1, hrun, h1, h2⟩ := h.store (t := t) K hinj val
  unfold Oper.wp
  simp [execOp, hop, hm, hs, hv, hrun, Result.andThen]
  exact hK w1 h2 h1
end
end Go.Proofs.YtokojichjliieaaDoor
