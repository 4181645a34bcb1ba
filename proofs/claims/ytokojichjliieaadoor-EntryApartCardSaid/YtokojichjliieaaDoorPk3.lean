/- The sum of bytes, in plain numbers; up to four neighbouring bytes that are others make another sum. The program's own numbers for the sum: xor, complement and mask of 32 bits, the table. Plain facts on bits of bytes, the lowest first. Plain facts on canonical prefix codes. Plain facts on unpacking: what squeezed bytes are unpacked to. What one entry's bytes unpack to, in plain words. Texts as lists of bytes: equations in the walk's spelling. Arguments opened to what the walks are told of them; what the bound on the bulk gives. Rows of elements of several cells each: read, owned, appended, a field stored. Nothing here speaks of the program. A map of the call's own, whatever its elements are: what it holds at a key, told by a function. Nothing here speaks of the program. A map's entry opened and stored into, apart (two maps stored into by one statement). Nothing here speaks of the program. Plain facts on making a prefix code of lengths. A block that is a row of so many cells, each told by its place. Nothing here speaks of the program. A map's entry opened and stored into, told by keys of a type of one's own; the two as steps of a region that draws its order. Nothing here speaks of the program. Plain facts on unpacking: what is read hangs on the bits that are passed alone; what is cut off is missed. A block whose whole row is stored anew. Nothing here speaks of the program. Plain facts on texts: all instances replaced, cut at a sign; the lines of a text. The directory of an archive, in plain numbers. What a directory that is accepted is like; entries that lie on one another, by their order. A map of the call's own: the run equation of a look. Nothing here speaks of the program. Plain: looking a name up. Names, sign by sign. Texts in cells; what strings.Split and strings.IndexByte answer. A row of bytes as a text. Regions that draw their order, read and call quietly, and end in operations that make memory: the head is taken first, in the order of the text, in every world of a row of worlds. Three rows of the call's own, each in a block of its own. Nothing here speaks of the program. append(s, make([]byte, k)...) where there is no room. Nothing here speaks of the program. Contract: samovarref02.Same (for the seats behind the first). Arguments of more kinds opened: rows of one-cell elements, of 16-bit numbers, of texts. What a row that lists variables wants of its witness. Arguments: a record of an archive by value, an array of four bytes. Arguments: an array of four bytes by value. -/
import Derived.Laws.BitsLemmas
import Derived.Test.YtokojichjliieaaDoorPk1
import Derived.Lib.Strings
import Derived.Test.YtokojichjliieaaDoorRows
import Derived.ProofKit
import Derived.OpenShut
import Derived.ShutString
import Derived.ChangeOld
import Derived.Below
import Derived.SizedLaws
import Derived.Deep.CondSized
import Derived.JoinedCond
import Derived.Deep.Slices
import Derived.Deep.Fields
import Derived.Deep.RegionLaw
import Derived.StillTailTactics
import Derived.WalkKit
import Derived.Maps.OwnSet
import Derived.Maps.Views
import Derived.Deep.LoopGhost
import Derived.Deep.QuietTactic
import Derived.Laws.Tables
import Derived.Laws.ResultCell
import Derived.Deep.WholeRow
import Derived.Lib.Replace
import Derived.Test.YtokojichjliieaaDoorProg
import Derived.Lib.IndexLaws
import Derived.Lib.BufferRead
import Derived.Deep.RegionHeld
import Derived.BigQuiet
import Derived.Lib.SmallJoins
import Derived.Laws.IdiomArrays
namespace Go.Proofs.YtokojichjliieaaDoor

def crcP : Nat := 3988292384
def bitS (r : Nat) : Nat := if r % 2 = 1 then (r / 2) ^^^ crcP else r / 2
def bitsS : Nat → Nat → Nat
  | 0, r => r
  | n + 1, r => bitsS n (bitS r)
def byteS (r c : Nat) : Nat := bitsS 8 (r ^^^ c)
def crcF (r : Nat) (l : List UInt8) : Nat := l.foldl (fun r c => byteS r c.toNat) r
/-- The sum of l behind bytes that have the sum s. -/
def crcA (s : Nat) (l : List UInt8) : Nat := 4294967295 - crcF (4294967295 - s) l
theorem xor_half (a b : Nat) : (a ^^^ b) / 2 = (a / 2) ^^^ (b / 2) := by
  have := Nat.shiftRight_xor_distrib (a := a) (b := b) (i := 1)
  simpa [Nat.shiftRight_eq_div_pow] using this
theorem xor_low (a b : Nat) : (a ^^^ b) % 2 = (a % 2 + b % 2) % 2 := by
  have h := Nat.xor_mod_two_eq_one (a := a) (b := b)
  omega
theorem bitS_xor (a b : Nat) : bitS (a ^^^ b) = bitS a ^^^ bitS b := by
  unfold bitS
  rw [xor_low, xor_half]
  have ha : a % 2 = 0 ∨ a % 2 = 1 := by omega
  have hb : b % 2 = 0 ∨ b % 2 = 1 := by omega
  rcases ha with ha | ha <;> rcases hb with hb | hb <;> rw [ha, hb]
  · rfl
  · show ((a / 2) ^^^ (b / 2)) ^^^ crcP = (a / 2) ^^^ ((b / 2) ^^^ crcP)
    rw [Nat.xor_assoc]
  · show ((a / 2) ^^^ (b / 2)) ^^^ crcP = ((a / 2) ^^^ crcP) ^^^ (b / 2)
    rw [Nat.xor_assoc, Nat.xor_assoc, Nat.xor_comm (b / 2)]
  · show (a / 2) ^^^ (b / 2) = ((a / 2) ^^^ crcP) ^^^ ((b / 2) ^^^ crcP)
    rw [Nat.xor_assoc, ← Nat.xor_assoc crcP, Nat.xor_comm crcP, Nat.xor_assoc (b / 2), Nat.xor_self, Nat.xor_zero]
theorem bitsS_xor : ∀ n a b, bitsS n (a ^^^ b) = bitsS n a ^^^ bitsS n b := by
  intro n
  induction n with
  | zero => intro a b; rfl
  | succ n ih => intro a b; rw [bitsS, bitsS, bitsS, bitS_xor, ih]
theorem bitS_lt {r : Nat} (h : r < 4294967296) : bitS r < 4294967296 := by
  unfold bitS
  split
  · exact Nat.xor_lt_two_pow (n := 32) (by omega) (by decide)
  · omega
theorem bitsS_lt : ∀ n {r : Nat}, r < 4294967296 → bitsS n r < 4294967296 := by
  intro n
  induction n with
  | zero => intro r h; exact h
  | succ n ih => intro r h; exact ih (bitS_lt h)
theorem bitS_zero {r : Nat} (h : r < 4294967296) (h0 : bitS r = 0) : r = 0 := by
  unfold bitS at h0
  split at h0
  · have e : r / 2 = crcP := by
      have := congrArg (· ^^^ crcP) h0
      simp only [Nat.xor_assoc, Nat.xor_self, Nat.xor_zero, Nat.zero_xor] at this
      exact this
    have : r / 2 < 2147483648 := by omega
    rw [e] at this
    exact absurd this (by decide)
  · omega
theorem bitsS_zero : ∀ n {r : Nat}, r < 4294967296 → bitsS n r = 0 → r = 0 := by
  intro n
  induction n with
  | zero => intro r _ h; exact h
  | succ n ih => intro r h h0; exact bitS_zero h (ih (bitS_lt h) h0)
theorem bitsS_nil : ∀ n, bitsS n 0 = 0 := by
  intro n
  induction n with
  | zero => rfl
  | succ n ih => rw [bitsS]; exact ih
theorem bitsS_shift : ∀ n x, bitsS n (x * 2 ^ n) = x := by
  intro n
  induction n with
  | zero => intro x; rw [Nat.pow_zero, Nat.mul_one]; rfl
  | succ n ih =>
    intro x
    have e : bitS (x * 2 ^ (n + 1)) = x * 2 ^ n := by
      unfold bitS
      rw [Nat.pow_succ, ← Nat.mul_assoc, if_neg (by omega)]; omega
    rw [bitsS, e, ih]
theorem bitsS_add : ∀ m n r, bitsS (m + n) r = bitsS n (bitsS m r) := by
  intro m
  induction m with
  | zero => intro n r; rw [Nat.zero_add]; rfl
  | succ m ih => intro n r; rw [Nat.add_right_comm, bitsS, ih]; rfl
/-- What tells two registers apart, behind one byte. -/
theorem byteS_xor (a b c d : Nat) : byteS a c ^^^ byteS b d = bitsS 8 ((a ^^^ b) ^^^ (c ^^^ d)) := by
  unfold byteS
  rw [← bitsS_xor]
  congr 1
  rw [Nat.xor_assoc, Nat.xor_assoc, ← Nat.xor_assoc c, Nat.xor_comm c b, Nat.xor_assoc b]
/-- What is known of a byte's step. -/
structure Lin (T : Nat → Nat) : Prop where
  zero : T 0 = 0
  lt : ∀ r, r < 4294967296 → T r < 4294967296
  inj : ∀ r, r < 4294967296 → T r = 0 → r = 0
  xor : ∀ a b, T (a ^^^ b) = T a ^^^ T b
  shift : ∀ x, T (x * 256) = x
theorem lin_eight : Lin (bitsS 8) := ⟨bitsS_nil 8, fun _ h => bitsS_lt 8 h, fun _ h h0 => bitsS_zero 8 h h0, bitsS_xor 8, bitsS_shift 8⟩
/-- How two rows of as many bytes tell registers apart. -/
def difF (T : Nat → Nat) : Nat → List (UInt8 × UInt8) → Nat
  | D, [] => D
  | D, x :: r => difF T (T (D ^^^ (x.1.toNat ^^^ x.2.toNat))) r
theorem xor_byte (x y : UInt8) : x.toNat ^^^ y.toNat < 256 := Nat.xor_lt_two_pow (n := 8) x.toNat_lt y.toNat_lt
theorem xor_eq_zero {a b : Nat} (h : a ^^^ b = 0) : a = b := by
  have := congrArg (· ^^^ b) h
  simp only [Nat.xor_assoc, Nat.xor_self, Nat.xor_zero, Nat.zero_xor] at this
  exact this
theorem add_xor (a x : Nat) (h : a < 256) : a + 256 * x = a ^^^ (x * 256) := by
  rw [Nat.xor_comm, show x * 256 = 2 ^ 8 * x by omega, Nat.add_comm, show 256 * x = 2 ^ 8 * x by omega, Nat.two_pow_add_eq_or_of_lt (by omega) x]
  apply Nat.eq_of_testBit_eq
  intro i
  rw [Nat.testBit_or, Nat.testBit_xor]
  by_cases hi : i < 8
  · have e : (2 ^ 8 * x).testBit i = false := by
      rw [Nat.testBit_two_pow_mul]; simp; omega
    rw [e]; simp
  · have e : a.testBit i = false := Nat.testBit_lt_two_pow (Nat.lt_of_lt_of_le h (by
      have : (2 : Nat) ^ 8 ≤ 2 ^ i := Nat.pow_le_pow_right (by decide) (by omega)
      omega))
    rw [e]; simp
/-- Some bytes as one number, the least first. -/
def worthF : List (UInt8 × UInt8) → Nat
  | [] => 0
  | x :: r => (x.1.toNat ^^^ x.2.toNat) + 256 * worthF r
theorem worth_lt : ∀ (z : List (UInt8 × UInt8)), worthF z < 256 ^ z.length := by
  intro z
  induction z with
  | nil => decide
  | cons x r ih =>
    have := xor_byte x.1 x.2
    rw [worthF, List.length_cons, Nat.pow_succ]; omega
theorem worth_zero : ∀ (z : List (UInt8 × UInt8)), worthF z = 0 → ∀ x ∈ z, x.1 = x.2 := by
  intro z
  induction z with
  | nil => intro _ x hx; cases hx
  | cons y r ih =>
    intro h x hx
    rw [worthF] at h
    rcases List.mem_cons.1 hx with e | e
    · subst e; exact UInt8.toNat_inj.1 (xor_eq_zero (by omega))
    · exact ih (by omega) x e
def iterT (T : Nat → Nat) : Nat → Nat → Nat
  | 0, r => r
  | n + 1, r => iterT T n (T r)
section
variable {T : Nat → Nat} (L : Lin T)
include L
theorem iter_lt : ∀ n {r : Nat}, r < 4294967296 → iterT T n r < 4294967296 := by
  intro n
  induction n with
  | zero => intro r h; exact h
  | succ n ih => intro r h; exact ih (L.lt r h)
theorem iter_zero : ∀ n {r : Nat}, r < 4294967296 → iterT T n r = 0 → r = 0 := by
  intro n
  induction n with
  | zero => intro r _ h; exact h
  | succ n ih => intro r h h0; exact L.inj r h (ih (L.lt r h) h0)
/-- The same bytes leave what was apart apart. -/
theorem dif_same : ∀ (z : List (UInt8 × UInt8)) D, D < 4294967296 → (∀ x ∈ z, x.1 = x.2) → difF T D z = 0 → D = 0 := by
  intro z
  induction z with
  | nil => intro D _ _ h; exact h
  | cons x r ih =>
    intro D hD hs h
    rw [difF, hs x List.mem_cons_self, Nat.xor_self, Nat.xor_zero] at h
    exact L.inj D hD (ih _ (L.lt D hD) (fun y hy => hs y (List.mem_cons_of_mem _ hy)) h)
theorem dif_none : ∀ (z : List (UInt8 × UInt8)), (∀ x ∈ z, x.1 = x.2) → ∀ r, difF T 0 (z ++ r) = difF T 0 r := by
  intro z
  induction z with
  | nil => intro _ r; rfl
  | cons x z ih =>
    intro hs r
    rw [List.cons_append, difF, hs x List.mem_cons_self, Nat.xor_self, Nat.xor_zero, L.zero]
    exact ih (fun y hy => hs y (List.mem_cons_of_mem _ hy)) r
theorem dif_worth : ∀ (z : List (UInt8 × UInt8)) D, difF T D z = iterT T z.length (D ^^^ worthF z) := by
  intro z
  induction z with
  | nil => intro D; rw [worthF, Nat.xor_zero]; rfl
  | cons x r ih =>
    intro D
    rw [difF, ih, worthF, add_xor _ _ (xor_byte _ _), List.length_cons, iterT, (Nat.xor_assoc D (x.1.toNat ^^^ x.2.toNat) (worthF r * 256)).symm, L.xor (D ^^^ (x.1.toNat ^^^ x.2.toNat)), L.shift]
omit L in
theorem dif_app (q : List (UInt8 × UInt8)) : ∀ (m : List (UInt8 × UInt8)) D, difF T D (m ++ q) = difF T (difF T D m) q := by
  intro m
  induction m with
  | nil => intro D; rfl
  | cons x m ih => intro D; rw [List.cons_append, difF, difF, ih]
/-- Up to four neighbouring bytes that are others, and the sum is another one. -/
theorem dif_burst {p m q : List (UInt8 × UInt8)} (hp : ∀ x ∈ p, x.1 = x.2) (hq : ∀ x ∈ q, x.1 = x.2) (hm : m.length ≤ 4) (h : difF T 0 (p ++ (m ++ q)) = 0) : ∀ x ∈ m, x.1 = x.2 := by
  rw [dif_none L p hp, dif_app, dif_worth L m, Nat.zero_xor] at h
  have h32 : worthF m < 4294967296 := Nat.lt_of_lt_of_le (worth_lt m) (by
    have : (256 : Nat) ^ m.length ≤ 256 ^ 4 := Nat.pow_le_pow_right (by decide) hm
    exact Nat.le_trans this (by decide))
  exact worth_zero m (iter_zero L _ h32 (dif_same L q _ (iter_lt L _ h32) hq h))
end
theorem crc_dif : ∀ (z : List (UInt8 × UInt8)) a b, crcF a (z.map (·.1)) ^^^ crcF b (z.map (·.2)) = difF (bitsS 8) (a ^^^ b) z := by
  intro z
  induction z with
  | nil => intro a b; rfl
  | cons x r ih =>
    intro a b
    show crcF (byteS a x.1.toNat) (r.map (·.1)) ^^^ crcF (byteS b x.2.toNat) (r.map (·.2)) = difF (bitsS 8) (bitsS 8 ((a ^^^ b) ^^^ (x.1.toNat ^^^ x.2.toNat))) r
    rw [ih, byteS_xor]
theorem crcF_lt : ∀ (l : List UInt8) r, r < 4294967296 → crcF r l < 4294967296 := by
  intro l
  induction l with
  | nil => intro r h; exact h
  | cons c l ih =>
    intro r h
    have hc := c.toNat_lt
    exact ih _ (bitsS_lt 8 (Nat.xor_lt_two_pow (n := 32) h (by omega)))
end Go.Proofs.YtokojichjliieaaDoor
namespace Go.Proofs.YtokojichjliieaaDoor
theorem wraps_u32S (n : Int) (h₀ : 0 ≤ n) (h₁ : n < 2 ^ 32) : IntKind.u32.wrap n = n := by rw [IntKind.wrap_u32]; omega
theorem xor32 (a b : Nat) (ha : a < 4294967296) (hb : b < 4294967296) : bits .xor .u32 (a : Int) (b : Int) = ((a ^^^ b : Nat) : Int) := by
  have ha' : a % 2 ^ 32 = a := Nat.mod_eq_of_lt ha
  have hb' : b % 2 ^ 32 = b := Nat.mod_eq_of_lt hb
  have hx : a ^^^ b < 4294967296 := Nat.xor_lt_two_pow (n := 32) ha hb
  simp only [bits, BitVec.ofInt_natCast, BitVec.toNat_xor, BitVec.toNat_ofNat, show IntKind.u32.bits = 32 from rfl, ha', hb']
  exact wraps_u32S _ (Int.natCast_nonneg _) (by omega)
theorem and32 (a b : Nat) (ha : a < 4294967296) (hb : b < 4294967296) : bits .and .u32 (a : Int) (b : Int) = ((a &&& b : Nat) : Int) :=
  (bits_nat .u32 32 (by decide) wraps_u32S a b ha hb).1
theorem flip_nat (r : Nat) (h : r < 4294967296) : 4294967295 ^^^ r = 4294967295 - r := by
  apply Nat.eq_of_testBit_eq
  intro i
  have e : 4294967295 - r = 2 ^ 32 - (r + 1) := by omega
  rw [e, Nat.testBit_two_pow_sub_succ h, Nat.testBit_xor, show (4294967295 : Nat) = 2 ^ 32 - 1 from rfl, Nat.testBit_two_pow_sub_one]
  by_cases hi : i < 32
  · simp [hi]
  · have : r.testBit i = false := Nat.testBit_lt_two_pow (Nat.lt_of_lt_of_le h (by
      have : (2 : Nat) ^ 32 ≤ 2 ^ i := Nat.pow_le_pow_right (by decide) (by omega)
      omega))
    simp [hi, this]
theorem flip32 (r : Nat) (h : r < 4294967296) : bits .xor .u32 4294967295 (r : Int) = ((4294967295 - r : Nat) : Int) := by
  have := xor32 4294967295 r (by decide) h
  rw [flip_nat r h] at this
  exact this
theorem low32 (r : Nat) (h : r < 4294967296) : bits .and .u32 (r : Int) 1 = ((r % 2 : Nat) : Int) := by
  have := and32 r 1 h (by decide)
  rw [Nat.and_one_is_mod] at this
  exact this
/-- The program's branch-free step is the document's. -/
theorem maskStep (r : Nat) (h : r < 4294967296) : bits .xor .u32 ((r / 2 : Nat) : Int) (bits .and .u32 3988292384 (IntKind.u32.wrap (-((r % 2 : Nat) : Int)))) = (bitS r : Int) := by
  have hp : crcP = 3988292384 := rfl
  rcases (by omega : r % 2 = 0 ∨ r % 2 = 1) with e | e
  · rw [e, show IntKind.u32.wrap (-((0 : Nat) : Int)) = ((0 : Nat) : Int) from by decide, show (3988292384 : Int) = ((3988292384 : Nat) : Int) from rfl, and32 _ _ (by decide) (by decide), Nat.and_zero, xor32 _ _ (by omega) (by decide), Nat.xor_zero]
    rw [bitS, if_neg (by omega)]
  · rw [e, show IntKind.u32.wrap (-((1 : Nat) : Int)) = ((4294967295 : Nat) : Int) from by decide, show (3988292384 : Int) = ((3988292384 : Nat) : Int) from rfl, and32 _ _ (by decide) (by decide), show 3988292384 &&& 4294967295 = crcP from by decide, xor32 _ _ (by omega) (by decide)]
    rw [bitS, if_pos e]
/-- The table's entry, and a byte's step by it. -/
def tabS (k : Nat) : Nat := bitsS 8 k
theorem tabS_lt {k : Nat} (h : k < 256) : tabS k < 4294967296 := bitsS_lt 8 (by omega)
theorem xor_mod (r c : Nat) (hc : c < 256) : (r ^^^ c) % 256 = (r % 256) ^^^ c := by
  have := Nat.xor_mod_two_pow (a := r) (b := c) (n := 8)
  rw [show (2 : Nat) ^ 8 = 256 from rfl, Nat.mod_eq_of_lt hc] at this
  exact this
theorem split_xor (r : Nat) : r = (r % 256) ^^^ (r / 256 * 256) := by
  have := add_xor (r % 256) (r / 256) (Nat.mod_lt _ (by decide))
  omega
theorem byteS_tab (r c : Nat) : byteS r c = tabS ((r % 256) ^^^ c) ^^^ (r / 256) := by
  unfold byteS tabS
  rw [show bitsS 8 (r ^^^ c) = bitsS 8 (((r % 256) ^^^ c) ^^^ (r / 256 * 256)) by
    congr 1
    conv => lhs; rw [split_xor r]
    rw [Nat.xor_assoc, Nat.xor_comm (r / 256 * 256), ← Nat.xor_assoc], bitsS_xor]
  congr 1
  exact bitsS_shift 8 (r / 256)
theorem byteS_lt {r c : Nat} (hr : r < 4294967296) (hc : c < 256) : byteS r c < 4294967296 := bitsS_lt 8 (Nat.xor_lt_two_pow (n := 32) hr (by omega))
theorem crcF_snoc (r : Nat) (l : List UInt8) (x : UInt8) : crcF r (l ++ [x]) = byteS (crcF r l) x.toNat := by
  unfold crcF; rw [List.foldl_append]; rfl
end Go.Proofs.YtokojichjliieaaDoor
namespace Go.Proofs.YtokojichjliieaaDoor

/-- The bit i of bytes. -/
def bitAt (l : List UInt8) (i : Nat) : Nat := (l.getD (i / 8) 0).toNat / 2 ^ (i % 8) % 2
/-- The number of the n bits from a on. -/
def takeN (l : List UInt8) (a : Nat) : Nat → Nat
  | 0 => 0
  | n + 1 => takeN l a n + 2 ^ n * bitAt l (a + n)
theorem bitAt_lt (l : List UInt8) (i : Nat) : bitAt l i < 2 := Nat.mod_lt _ (by decide)
theorem takeN_lt (l : List UInt8) (a n : Nat) : takeN l a n < 2 ^ n := by
  induction n with
  | zero => simp [takeN]
  | succ n ih =>
    unfold takeN
    have h := bitAt_lt l (a + n)
    have h2 : 2 ^ n * bitAt l (a + n) ≤ 2 ^ n * 1 := Nat.mul_le_mul (Nat.le_refl _) (by omega)
    rw [Nat.pow_succ]; omega
/-- Three bytes as a number, the least first. -/
def acc3 (l : List UInt8) (k : Nat) : Nat := (l.getD k 0).toNat + 256 * (l.getD (k + 1) 0).toNat + 65536 * (l.getD (k + 2) 0).toNat
theorem acc3_lt (l : List UInt8) (k : Nat) : acc3 l k < 16777216 := by
  have h0 := (l.getD k 0).toNat_lt
  have h1 := (l.getD (k + 1) 0).toNat_lt
  have h2 := (l.getD (k + 2) 0).toNat_lt
  unfold acc3; omega
theorem acc3_bit (l : List UInt8) (k j : Nat) (hj : j < 24) : acc3 l k / 2 ^ j % 2 = bitAt l (8 * k + j) := by
  have h0 := (l.getD k 0).toNat_lt
  have h1 := (l.getD (k + 1) 0).toNat_lt
  have h2 := (l.getD (k + 2) 0).toNat_lt
  unfold bitAt acc3
  rw [show (8 * k + j) / 8 = k + j / 8 by omega, show (8 * k + j) % 8 = j % 8 by omega]
  generalize e0 : (l.getD k 0).toNat = b0 at *
  generalize e1 : (l.getD (k + 1) 0).toNat = b1 at *
  generalize e2 : (l.getD (k + 2) 0).toNat = b2 at *
  have hs : j = 0 ∨ j = 1 ∨ j = 2 ∨ j = 3 ∨ j = 4 ∨ j = 5 ∨ j = 6 ∨ j = 7 ∨ j = 8 ∨ j = 9 ∨ j = 10 ∨ j = 11 ∨ j = 12 ∨ j = 13 ∨ j = 14 ∨ j = 15 ∨ j = 16 ∨ j = 17 ∨ j = 18 ∨ j = 19 ∨ j = 20 ∨ j = 21 ∨ j = 22 ∨ j = 23 := by omega
  rcases hs with rfl | rfl | rfl | rfl | rfl | rfl | rfl | rfl | rfl | rfl | rfl | rfl | rfl | rfl | rfl | rfl | rfl | rfl | rfl | rfl | rfl | rfl | rfl | rfl
  all_goals
    simp only [Nat.reducePow, Nat.reduceDiv, Nat.reduceMod, Nat.add_zero]
    first
      | (rw [e0]; omega)
      | (rw [e1]; omega)
      | (rw [e2]; omega)
/-- The number of bits, out of three bytes. -/
theorem acc3_take (l : List UInt8) (a n : Nat) (hn : n ≤ 16) : acc3 l (a / 8) / 2 ^ (a % 8) % 2 ^ n = takeN l a n := by
  induction n with
  | zero => simp [takeN]; omega
  | succ n ih =>
    unfold takeN
    rw [← ih (by omega)]
    have hb := acc3_bit l (a / 8) (a % 8 + n) (by omega)
    rw [show 8 * (a / 8) + (a % 8 + n) = a + n by omega] at hb
    rw [← hb, Nat.pow_succ, Nat.mod_mul, Nat.div_div_eq_div_mul, ← Nat.pow_add]
/-- Bits of which none is read beyond an end hang on what stands before it alone. -/
theorem bitAt_app (l m : List UInt8) (i : Nat) (h : i < 8 * l.length) : bitAt (l ++ m) i = bitAt l i := by
  unfold bitAt
  rw [List.getD_eq_getElem?_getD, List.getD_eq_getElem?_getD, List.getElem?_append_left (by omega)]
theorem takeN_app (l m : List UInt8) (a n : Nat) (h : a + n ≤ 8 * l.length) : takeN (l ++ m) a n = takeN l a n := by
  induction n with
  | zero => rfl
  | succ n ih => unfold takeN; rw [ih (by omega), bitAt_app _ _ _ (by omega)]
end Go.Proofs.YtokojichjliieaaDoor
namespace Go.Proofs.YtokojichjliieaaDoor

/-- How many symbols have words of n bits; the first word of n bits; the symbols that have n bits, rising. -/
def cntP (l : List Nat) (n : Nat) : Nat := if n = 0 then 0 else l.count n
def firstP (l : List Nat) : Nat → Nat
  | 0 => 0
  | n + 1 => 2 * (firstP l n + cntP l n)
def symsP (l : List Nat) (k n : Nat) : List Nat := (List.range k).filter fun s => l[s]? == some n
def kraftTo (l : List Nat) : Nat → Nat
  | 0 => 0
  | n + 1 => 2 * kraftTo l n + cntP l (n + 1)
def usedP (l : List Nat) : Nat := (l.filter fun n => n != 0).length
/-- Do lengths make a code? -/
def codeB (l : List Nat) (lone : Bool) : Bool := decide (kraftTo l 15 = 32768) || (lone && (decide (usedP l = 0) || (decide (usedP l = 1) && decide (l.count 1 = 1))))
theorem kraft_first (l : List Nat) (n : Nat) : firstP l n + cntP l n = kraftTo l n := by
  induction n with
  | zero => rfl
  | succ n ih => simp only [firstP, kraftTo, ih]
theorem kraft_mono (l : List Nat) (n d : Nat) : kraftTo l n * 2 ^ d ≤ kraftTo l (n + d) := by
  induction d with
  | zero => simp
  | succ d ih =>
    rw [← Nat.add_assoc]
    simp only [kraftTo]
    rw [Nat.pow_succ, ← Nat.mul_assoc]; omega
/-- A word of n bits has no more than n bits. -/
theorem first_bound {l : List Nat} (h : kraftTo l 15 ≤ 32768) {n : Nat} (hn : n ≤ 15) : firstP l n + cntP l n ≤ 2 ^ n := by
  rw [kraft_first]
  have h1 := kraft_mono l n (15 - n)
  rw [show n + (15 - n) = 15 by omega] at h1
  have h2 : (2 : Nat) ^ 15 = 2 ^ n * 2 ^ (15 - n) := by rw [← Nat.pow_add]; congr 1; omega
  have h3 : 0 < 2 ^ (15 - n) := Nat.two_pow_pos _
  have h4 : kraftTo l n * 2 ^ (15 - n) ≤ 2 ^ n * 2 ^ (15 - n) := by rw [← h2]; omega
  exact Nat.le_of_mul_le_mul_right h4 h3
theorem symsP_succ (l : List Nat) (k n : Nat) : symsP l (k + 1) n = symsP l k n ++ (if l[k]? = some n then [k] else []) := by
  unfold symsP
  rw [List.range_succ, List.filter_append]
  congr 1
  by_cases h : l[k]? = some n <;> simp [h]
theorem count_take (l : List Nat) (k n : Nat) (hk : k ≤ l.length) : (symsP l k n).length = (l.take k).count n := by
  induction k with
  | zero => simp [symsP]
  | succ k ih =>
    rw [symsP_succ, List.length_append, ih (by omega), List.take_add_one, List.getElem?_eq_getElem (show k < l.length by omega)]
    simp only [Option.toList_some, List.count_append, Option.some.injEq]
    by_cases h : l[k] = n <;> simp [h]
theorem symsP_len (l : List Nat) (n : Nat) : (symsP l l.length n).length = l.count n := by
  rw [count_take _ _ _ (Nat.le_refl _), List.take_length]
/-- The symbol of a word of n bits, among the first k symbols. -/
def symK (l : List Nat) (k : Nat) (n c : Nat) : Option Nat := if n = 0 then none else if firstP l n ≤ c then (symsP l k n)[c - firstP l n]? else none
def symAt (l : List Nat) (n c : Nat) : Option Nat := symK l l.length n c
theorem symK_zero (l : List Nat) (n c : Nat) : symK l 0 n c = none := by
  unfold symK symsP
  split
  · rfl
  · split <;> simp
theorem symK_same {l : List Nat} {k m : Nat} (hk : l[k]? = some m) (hm : m ≠ 0) : symK l (k + 1) m (firstP l m + (symsP l k m).length) = some k := by
  unfold symK
  rw [if_neg hm, if_pos (by omega), symsP_succ, if_pos hk]
  rw [show firstP l m + (symsP l k m).length - firstP l m = (symsP l k m).length by omega]
  simp
theorem symK_other {l : List Nat} {k m n c : Nat} (hk : l[k]? = some m) (h : ¬ (n = m ∧ c = firstP l m + (symsP l k m).length)) : symK l (k + 1) n c = symK l k n c := by
  unfold symK
  split
  · rfl
  · split
    · rename_i h1
      rw [symsP_succ]
      by_cases hn : n = m
      · subst hn
        rw [if_pos hk]
        rcases Nat.lt_or_ge (c - firstP l n) (symsP l k n).length with h2 | h2
        · rw [List.getElem?_append_left h2]
        · rw [List.getElem?_append_right h2, List.getElem?_eq_none h2]
          have h3 : c - firstP l n - (symsP l k n).length ≠ 0 := fun e => h ⟨rfl, by omega⟩
          obtain ⟨q, hq⟩ : ∃ q, c - firstP l n - (symsP l k n).length = q + 1 := ⟨c - firstP l n - (symsP l k n).length - 1, by omega⟩
          rw [hq]; simp
      · rw [if_neg (by rw [hk]; intro e; injection e with e; exact hn e.symm)]; simp
    · rfl
theorem symK_skip {l : List Nat} {k n c : Nat} (hk : l[k]? = some 0) : symK l (k + 1) n c = symK l k n c := by
  by_cases hn : n = 0
  · unfold symK; rw [if_pos hn, if_pos hn]
  · exact symK_other hk (fun e => hn e.1)
def mostP (l : List Nat) : Nat := l.foldl max 0
end Go.Proofs.YtokojichjliieaaDoor
namespace Go.Proofs.YtokojichjliieaaDoor

/-- An answer, or an error's number. -/
inductive Rz (α : Type) where
  | ok (a : α) : Rz α
  | err (e : Int) : Rz α
def Rz.bind {α β : Type} : Rz α → (α → Rz β) → Rz β
  | .ok a, f => f a
  | .err e, _ => .err e
/-- The next n bits at p. -/
def tk (b : List UInt8) (p n : Nat) : Rz (Nat × Nat) := if p + n ≤ 8 * b.length then .ok (takeN b p n, p + n) else .err 2
/-- The next symbol. -/
def nextF (l : List Nat) (b : List UInt8) : Nat → Nat → Nat → Nat → Rz (Nat × Nat)
  | 0, _, _, _ => .err 6
  | f + 1, n, c, p => if p + 1 ≤ 8 * b.length then (match symAt l (n + 1) (2 * c + bitAt b p) with
      | some s => .ok (s, p + 1)
      | none => nextF l b f (n + 1) (2 * c + bitAt b p) (p + 1)) else .err 2
def nextP (l : List Nat) (b : List UInt8) (p : Nat) : Rz (Nat × Nat) := nextF l b (mostP l) 0 0 p
/-- Lengths and distances. -/
def spreadP (c per : Nat) : Nat × Nat := if c < 2 * per then (c, 0) else ((per + c % per) * 2 ^ (c / per - 1), c / per - 1)
def lenP (s : Nat) : Nat × Nat := if s = 285 then (258, 0) else ((spreadP (s - 257) 4).1 + 3, (spreadP (s - 257) 4).2)
def dstP (t : Nat) : Nat × Nat := ((spreadP t 2).1 + 1, (spreadP t 2).2)
def copyN (far : Nat) : Nat → List UInt8 → List UInt8
  | 0, out => out
  | n + 1, out => copyN far n (out ++ [out.getD (out.length - far) 0])
/-- A block's symbols. -/
def symF (lit dist : List Nat) (b : List UInt8) (lim : Nat) : Nat → Nat → List UInt8 → Rz (List UInt8 × Nat)
  | 0, _, _ => .err 0
  | f + 1, p, out => (nextP lit b p).bind fun x =>
      if x.1 = 256 then .ok (out, x.2)
      else if x.1 < 256 then (if lim ≤ out.length then .err 8 else symF lit dist b lim f x.2 (out ++ [UInt8.ofNat x.1]))
      else if 285 < x.1 then .err 6
      else (tk b x.2 (lenP x.1).2).bind fun y => (nextP dist b y.2).bind fun z =>
        if 29 < z.1 then .err 6
        else (tk b z.2 (dstP z.1).2).bind fun u =>
          if out.length < (dstP z.1).1 + u.1 then .err 7
          else if lim < out.length + ((lenP x.1).1 + y.1) then .err 8
          else symF lit dist b lim f u.2 (copyN ((dstP z.1).1 + u.1) ((lenP x.1).1 + y.1) out)
/-- The lengths that a block tells. -/
def ordL : List Nat := [16, 17, 18, 0, 8, 7, 9, 6, 10, 5, 11, 4, 12, 3, 13, 2, 14, 1, 15]
def lensF (b : List UInt8) : List Nat → List Nat → Nat → Rz (List Nat × Nat)
  | [], l, p => .ok (l, p)
  | k :: r, l, p => (tk b p 3).bind fun x => lensF b r (l.set k x.1) x.2
def runP (s : Nat) (all : List Nat) : Nat × Nat × Nat :=
  if s = 16 then (all.getLastD 0, 3, 2) else if s = 17 then (0, 3, 3) else if s = 18 then (0, 11, 7) else (s, 1, 0)
def allF (lens : List Nat) (b : List UInt8) (total : Nat) : Nat → Nat → List Nat → Rz (List Nat × Nat)
  | 0, _, _ => .err 0
  | f + 1, p, all => if total ≤ all.length then .ok (all, p) else (nextP lens b p).bind fun x =>
      if x.1 = 16 ∧ all = [] then .err 6
      else (tk b x.2 (runP x.1 all).2.2).bind fun y =>
        if total < all.length + ((runP x.1 all).2.1 + y.1) then .err 6
        else allF lens b total f y.2 (all ++ List.replicate ((runP x.1 all).2.1 + y.1) (runP x.1 all).1)
def allP0 (lens : List Nat) (total : Nat) (b : List UInt8) (p : Nat) : Rz (List Nat × Nat) := allF lens b total (8 * b.length + 1) p []
def toldP (b : List UInt8) (p : Nat) : Rz ((List Nat × List Nat) × Nat) :=
  (tk b p 5).bind fun x => (tk b x.2 5).bind fun y => (tk b y.2 4).bind fun z =>
    if 286 < x.1 + 257 ∨ 30 < y.1 + 1 then .err 5
    else (lensF b (ordL.take (z.1 + 4)) (List.replicate 19 0) z.2).bind fun u =>
      if codeB u.1 false = false then .err 5
      else (allP0 u.1 (x.1 + 257 + (y.1 + 1)) b u.2).bind fun v =>
        if v.1.getD 256 0 = 0 then .err 5 else .ok ((v.1.take (x.1 + 257), v.1.drop (x.1 + 257)), v.2)
def fixLit : List Nat := List.replicate 144 8 ++ List.replicate 112 9 ++ List.replicate 24 7 ++ List.replicate 8 8
def fixDist : List Nat := List.replicate 32 5
/-- A stored block. -/
def byteN (b : List UInt8) (k : Nat) : Nat := (b.getD k 0).toNat
def storedP (b : List UInt8) (lim p : Nat) (out : List UInt8) : Rz (List UInt8 × Nat) :=
  if b.length < (p + 7) / 8 + 4 then .err 2
  else if byteN b ((p + 7) / 8) + 256 * byteN b ((p + 7) / 8 + 1) + (byteN b ((p + 7) / 8 + 2) + 256 * byteN b ((p + 7) / 8 + 3)) ≠ 65535 then .err 4
  else if lim < out.length + (byteN b ((p + 7) / 8) + 256 * byteN b ((p + 7) / 8 + 1)) then .err 8
  else if b.length < (p + 7) / 8 + 4 + (byteN b ((p + 7) / 8) + 256 * byteN b ((p + 7) / 8 + 1)) then .err 2
  else .ok (out ++ (b.drop ((p + 7) / 8 + 4)).take (byteN b ((p + 7) / 8) + 256 * byteN b ((p + 7) / 8 + 1)), 8 * ((p + 7) / 8 + 4 + (byteN b ((p + 7) / 8) + 256 * byteN b ((p + 7) / 8 + 1))))
def symP (lit dist : List Nat) (lim : Nat) (out : List UInt8) (b : List UInt8) (p : Nat) : Rz (List UInt8 × Nat) := symF lit dist b lim (8 * b.length + 1) p out
def codedP (lim : Nat) (out : List UInt8) (lit dist : List Nat) (b : List UInt8) (p : Nat) : Rz (List UInt8 × Nat) :=
  if codeB lit false = false then .err 5 else if codeB dist true = false then .err 5 else symP lit dist lim out b p
/-- What stands in one block, of the kind k. -/
def bodyP (lim : Nat) (out : List UInt8) (k : Nat) (b : List UInt8) (p : Nat) : Rz (List UInt8 × Nat) :=
  if k = 0 then storedP b lim p out else if k = 3 then .err 3
  else if k = 2 then (toldP b p).bind fun u => codedP lim out u.1.1 u.1.2 b u.2
  else codedP lim out fixLit fixDist b p
/-- One block: is it the last? -/
def blkP (lim : Nat) (out : List UInt8) (b : List UInt8) (p : Nat) : Rz ((Bool × List UInt8) × Nat) :=
  (tk b p 1).bind fun x => (tk b x.2 2).bind fun y => (bodyP lim out y.1 b y.2).bind fun z => .ok ((decide (x.1 = 1), z.1), z.2)
def allB (lim : Nat) (b : List UInt8) : Nat → Nat → List UInt8 → Rz (List UInt8 × Nat)
  | 0, _, _ => .err 0
  | f + 1, p, out => (blkP lim out b p).bind fun x => if x.1.1 = true then .ok (x.1.2, x.2) else allB lim b f x.2 x.1.2
/-- All blocks, and the bits that they take. -/
def allP (lim : Nat) (b : List UInt8) (p : Nat) : Rz (List UInt8 × Nat) := allB lim b (8 * b.length + 1) p []
/-- All that bytes begin with. -/
def inflP (b : List UInt8) (lim : Int) : Rz (List UInt8 × Nat) := if lim < 0 ∨ 32768 < lim then .err 1 else (allP lim.toNat b 0).bind fun x => .ok (x.1, (x.2 + 7) / 8)
end Go.Proofs.YtokojichjliieaaDoor
namespace Go.Proofs.YtokojichjliieaaDoor
def outA (me pk si : Int) (b : List UInt8) : Rz (List UInt8) :=
  if me = 8 then (inflP b si).bind fun x => if x.2 < b.length then .err 18 else .ok x.1
  else if pk ≠ si then .err 18 else .ok b
def endA' (si su : Int) (o : List UInt8) : Rz (List UInt8) := if (o.length : Int) ≠ si then .err 18 else if (crcA 0 o : Int) ≠ su then .err 19 else .ok o
/-- A record's method, packed length, size and sum, and the packed bytes. -/
def unpA (me pk si su : Int) (b : List UInt8) : Rz (List UInt8) :=
  if (b.length : Int) ≠ pk ∨ (me ≠ 0 ∧ me ≠ 8) ∨ si < 0 then .err 1
  else if 32768 < si then .err 17
  else (outA me pk si b).bind (endA' si su)
end Go.Proofs.YtokojichjliieaaDoor
namespace Go.Proofs.YtokojichjliieaaDoor
theorem ba_eq {s t : ByteArray} (h : s.data.toList = t.data.toList) : s = t := ByteArray.ext (Array.toList_inj.1 h)
theorem size_len (s : ByteArray) : s.data.toList.length = s.size := rfl
theorem byte_at {s : ByteArray} {k : Nat} (h : k < s.size) : s.data.toList[k]? = some s[k] := by
  rw [List.getElem?_eq_getElem (by exact h)]; rfl
theorem head_at {s : ByteArray} (h : 0 < s.size) : s.data.toList.head? = some s[0] := by
  rw [List.head?_eq_getElem?]; exact byte_at h
theorem tl_ne {s : ByteArray} {l : List UInt8} (h : ¬ s.data.toList = l) : (s.toList == l) = false := by
  rw [Lib.toList_data]; simpa using h
theorem tl_eq {s : ByteArray} {l : List UInt8} (h : s.data.toList = l) : (s.toList == l) = true := by
  rw [Lib.toList_data]; simpa using h
theorem tl_some {s : ByteArray} (h : ¬ s.data.toList = []) : s.toList.isEmpty = false := by
  rw [Lib.toList_data]; simpa using h
theorem tl_none {s : ByteArray} (h : s.data.toList = []) : s.toList.isEmpty = true := by
  rw [Lib.toList_data]; simpa using h
theorem size_zero {s : ByteArray} (h : s.data.toList = []) : s.size = 0 := by rw [← size_len, h]; rfl
theorem size_pos {s : ByteArray} (h : ¬ s.data.toList = []) : 0 < s.size := by rw [← size_len]; exact List.length_pos_iff.2 h
theorem mk_toList (l : List UInt8) : (⟨l.toArray⟩ : ByteArray).data.toList = l := rfl
theorem ret_bool {b b' : Bool} (h : b = b') : Ending.returned (.bool b) = Ending.returned (.bool b') := by rw [h]
theorem u8_ne {x y : UInt8} (h : ¬ x = y) : ¬ (x.toNat : Int) = (y.toNat : Int) := fun e => h (UInt8.toNat_inj.1 (by omega))
end Go.Proofs.YtokojichjliieaaDoor
namespace Go.Proofs.YtokojichjliieaaDoor
open Go.ChangeShapes Go.WideShapes Go.ChangeAt Go.RowKit
open Go.ChangeMaps (open_string shut_string)
open Go.Deep (open_slice choose_lt hone_of oneCellFields)

theorem own : ownKnob Tryd.prog.godebug = none := by kernel_rfl
theorem laidOut : laidOutB Tryd.prog = true := by kernel_rfl

section
variable {H : Type} {enc : TypeId × Value → H} {P : Program} {w : World} {base : Nat} {spare : Nat → Bool} {held : Bool} {r : Reach} {b0 : Nat}
/-- What the datum of a slice says of its length. -/
def DLen (d : DataW H) (n : Nat) : Prop := (d = .nil ∧ n = 0) ∨ ∃ es sp, d = .slice es sp ∧ es.length = n

theorem open_bytes {t e : TypeId} {v : Value} {d : DataW H} {ps : List MemPlace} (ht : P.underlying t = some (.slice e)) (he : P.underlying e = some (.int .u8)) (hc : P.cellsOf e = 1)
    (hv : Value.okWide P w r b0 t v) (h : DataW.Trod enc P w base spare held t v d ps) :
    ∃ (A : Option Addr) (n c : Nat) (l : List UInt8), v = .slice A n c ∧ l.length = n ∧ n ≤ c ∧ (c : Int) ≤ 9223372036854775807 ∧ RB w w.heap.size A l ∧ DLen d n := by
  obtain ⟨A, n, c, rfl⟩ := okWide_slice ht hv
  obtain ⟨fuel, hf⟩ := h
  rcases open_ints ht he hc hf with ⟨hcs, hx⟩ | ⟨x, l, c', zs, hcs, _, hl, hm, hz, hx, hcell, hwz⟩
  · simp [Value.cells] at hcs
    obtain ⟨rfl, rfl, rfl⟩ := hcs
    simp only [Prod.mk.injEq] at hx
    exact ⟨none, 0, 0, [], rfl, rfl, Nat.le_refl _, by omega, Rd.nil, .inl ⟨hx.1, rfl⟩⟩
  · simp [Value.cells] at hcs
    obtain ⟨rfl, rfl, rfl⟩ := hcs
    simp only [Prod.mk.injEq] at hx
    have hzl : n ≤ zs.length := by rw [hz]; split <;> omega
    have hlen : (zs.take n).length = n := by simp; omega
    refine ⟨some x, n, c, (zs.take n).map fun q => UInt8.ofNat q.toNat, rfl, by simp; omega, hl, by unfold maxLen at hm; omega, fun hne => ?_, .inr ⟨_, _, hx.1, by simp [lits]; omega⟩⟩
    have key : ∀ i u, (((zs.take n).map fun q => UInt8.ofNat q.toNat).map bV)[i]? = some u → w.cell? (x.add i) = some u := by
      intro i u hu
      have hi : i < n := by
        have := (List.getElem?_eq_some_iff.1 hu).1
        simp at this; omega
      have hiz : i < zs.length := by omega
      rw [hcell i hiz]
      have hw := hwz zs[i] (List.getElem_mem hiz)
      have hb := bounds_u8 hw
      rw [← hu]
      simp only [List.getElem?_map, List.getElem?_take_of_lt hi, List.getElem?_eq_getElem hiz, Option.map_some, List.getD, Option.getD_some, bV, UInt8.toNat_ofNat']
      congr 2
      omega
    refine ⟨x, rfl, ?_, key⟩
    obtain ⟨u, us, hq⟩ := List.exists_cons_of_ne_nil hne
    have := World.block_lt_of_cell? _ _ (key 0 u (by rw [hq]; rfl))
    rwa [blk_add] at this

/-- A slice of whatever elements: F lays an element's cells, Q says what its datum says of it. -/
theorem open_rows {α : Type} [Inhabited α] {t e : TypeId} {v : Value} {d : DataW H} {ps : List MemPlace} (size : Nat) (F : α → List Value) (Q : α → DataW H → Prop) (ht : P.underlying t = some (.slice e)) (hC : P.cellsOf e = size) (hpos : 0 < size)
    (hF : ∀ x, (F x).length = size)
    (hel : ∀ (n : Nat) (cs : List Value) (y : DataW H × List MemPlace), cs.length = size → DataW.trod enc P w base spare held n e cs = some y → ∃ x, cs = F x ∧ Q x y.1)
    (hv : Value.okWide P w r b0 t v) (h : DataW.Trod enc P w base spare held t v d ps) :
    ∃ (A : Option Addr) (n c : Nat) (l : List α), v = .slice A n c ∧ l.length = n ∧ n ≤ c ∧ (c : Int) ≤ 9223372036854775807 ∧ Rd w w.heap.size A (l.flatMap F) ∧
      ((d = .nil ∧ l = []) ∨ ∃ es sp, d = .slice es sp ∧ es.length = n ∧ ∀ (i : Nat) (x : α) (y : DataW H), l[i]? = some x → es[i]? = some y → Q x y) := by
  obtain ⟨A, n, c, rfl⟩ := okWide_slice ht hv
  obtain ⟨fuel, hf⟩ := h
  rcases open_slice ht hf with ⟨hcs, hx⟩ | ⟨a, len, cap, m, n', D, Pl, hcs, _, hl, hm, hmm, hx, hi⟩
  · simp [Value.cells] at hcs
    obtain ⟨rfl, rfl, rfl⟩ := hcs
    simp only [Prod.mk.injEq] at hx
    exact ⟨none, 0, 0, [], rfl, rfl, Nat.le_refl _, by omega, Rd.nil, .inl ⟨hx.1, rfl⟩⟩
  · simp [Value.cells] at hcs
    obtain ⟨rfl, rfl, rfl⟩ := hcs
    simp only [Prod.mk.injEq] at hx
    rw [hC] at hi
    have hlm : n ≤ m := by rw [hmm]; split <;> omega
    obtain ⟨X, hX⟩ := choose_lt (n := n) (α := α) (p := fun i x => (∃ cs', w.cells? base (a.add (i * size)) size = some cs' ∧ cs' = F x) ∧ Q x (D i)) (fun i hin => by
      obtain ⟨cs', h1, h2⟩ := hi i (by omega)
      obtain ⟨_, hlen, _⟩ := World.cells?_some h1
      obtain ⟨x, hx1, hx2⟩ := hel _ _ _ hlen h2
      exact ⟨x, ⟨cs', h1, hx1⟩, hx2⟩)
    have hcell : ∀ i j, i < n → j < size → w.cell? (a.add (i * size + j)) = (F (X i))[j]? := by
      intro i j hin hj
      obtain ⟨⟨cs', h1, h2⟩, _⟩ := hX i hin
      obtain ⟨_, hlen, hat⟩ := World.cells?_some h1
      have := hat j hj
      rw [← Go.Deep.add_add, this, h2]
    have hget : ∀ (k : Nat) (l : List α) (i j : Nat), l.length = k → i < k → j < size → (l.flatMap F)[i * size + j]? = (l[i]?).bind fun x => (F x)[j]? := by
      intro k
      induction k with
      | zero => intro l i j _ h; omega
      | succ k ih =>
        intro l i j hlk hik hj
        match l, hlk with
        | x :: r, hlk =>
          cases i with
          | zero =>
            simp only [List.flatMap_cons, Nat.zero_mul, Nat.zero_add, List.getElem?_cons_zero, Option.bind_some]
            rw [List.getElem?_append_left (by rw [hF]; exact hj)]
          | succ i =>
            simp only [List.flatMap_cons, List.getElem?_cons_succ]
            rw [List.getElem?_append_right (by rw [hF, Nat.add_mul]; omega), hF, show (i + 1) * size + j - size = i * size + j by rw [Nat.add_mul]; omega]
            exact ih r i j (by simpa using hlk) (by omega) hj
    have hll : ((List.range n).map X).length = n := by simp
    have hflen : ∀ l : List α, (l.flatMap F).length = l.length * size := by
      intro l
      induction l with
      | nil => simp
      | cons x r ih => simp only [List.flatMap_cons, List.length_append, ih, hF, List.length_cons, Nat.add_mul]; omega
    have key : ∀ q u, (((List.range n).map X).flatMap F)[q]? = some u → w.cell? (a.add q) = some u := by
      intro q u hu
      have hq : q < n * size := by
        have := (List.getElem?_eq_some_iff.1 hu).1
        rw [hflen, hll] at this; exact this
      have hq1 : q / size < n := Nat.div_lt_of_lt_mul (by rw [Nat.mul_comm]; exact hq)
      have hq2 : q % size < size := Nat.mod_lt _ hpos
      have hqe : q / size * size + q % size = q := by rw [Nat.mul_comm]; exact Nat.div_add_mod q size
      have h1 := hget n _ (q / size) (q % size) hll hq1 hq2
      rw [hqe, hu] at h1
      have h2 := hcell (q / size) (q % size) hq1 hq2
      rw [hqe] at h2
      rw [h2, h1]
      simp [hq1]
    refine ⟨some a, n, c, (List.range n).map X, rfl, hll, hl, by unfold maxLen at hm; omega, fun hne => ⟨a, rfl, ?_, key⟩, .inr ⟨_, _, hx.1, by simp, ?_⟩⟩
    · obtain ⟨u, us, hq⟩ := List.exists_cons_of_ne_nil hne
      have := World.block_lt_of_cell? _ _ (key 0 u (by rw [hq]; rfl))
      rwa [blk_add] at this
    · intro i x y hx1 hy1
      simp only [List.getElem?_map] at hx1 hy1
      obtain ⟨i1, hi1, rfl⟩ := Option.map_eq_some_iff.1 hx1
      obtain ⟨i2, hi2, rfl⟩ := Option.map_eq_some_iff.1 hy1
      have e1 := List.getElem?_eq_some_iff.1 hi1
      have e2 := List.getElem?_eq_some_iff.1 hi2
      obtain ⟨h1, rfl⟩ := e1
      obtain ⟨h2, rfl⟩ := e2
      simp only [List.getElem_range]
      exact (hX i (by simpa using h1)).2
/-- The fields of a struct of one-cell fields. -/
theorem open_fields {e : TypeId} {fs : Array Field} {n : Nat} {cs : List Value} {y : DataW H × List MemPlace} (he : P.underlying e = some (.struct fs)) (hone : oneCellFields P fs = true) (hC : P.cellsOf e = fs.size)
    (h : DataW.trod enc P w base spare held n e cs = some y) :
    ∃ (ys : List (DataW H × List MemPlace)) (n' : Nat), y.1 = .agg (ys.map (·.1)) ∧ ys.length = fs.size ∧ cs.length = fs.size ∧
      ∀ (j : Nat) (f : Field), fs[j]? = some f → ∃ (v : Value) (z : DataW H × List MemPlace), cs[j]? = some v ∧ ys[j]? = some z ∧ DataW.trod enc P w base spare held n' f.type [v] = some z := by
  obtain ⟨ys, n', _, hy, hlen, hyl, hf⟩ := DataW.trod_struct he h
  refine ⟨ys, n', by rw [hy], hyl, hlen.trans hC, fun j f hj => ?_⟩
  obtain ⟨ho, hk⟩ := hone_of hone j f hj
  have hjl : j < fs.size := (Array.getElem?_eq_some_iff.1 hj).1
  have hcl : j < cs.length := by rw [hlen, hC]; exact hjl
  have h1 := hf j f hj
  rw [ho, hk, List.drop_eq_getElem_cons hcl] at h1
  have hys : ys[j]? = some (ys[j]'(by omega)) := List.getElem?_eq_getElem (by omega)
  exact ⟨cs[j], _, List.getElem?_eq_getElem hcl, hys, h1.trans hys⟩
end

section
variable {H : Type}
theorem bulk_one (d : DataW H) : 1 ≤ Rows.uptoBulk d := by
  cases d with
  | lit l => cases l <;> simp [Rows.uptoBulk]
  | nil => simp [Rows.uptoBulk]
  | ptr d => simp [Rows.uptoBulk]
  | slice elems spare => simp [Rows.uptoBulk]
  | agg parts => simp [Rows.uptoBulk]
  | iface t d => simp [Rows.uptoBulk]
  | map entries => simp [Rows.uptoBulk]
  | held h => simp [Rows.uptoBulk]
theorem bulk_len (l : List (DataW H)) : l.length ≤ Rows.uptoBulkAll l := by
  induction l with
  | nil => simp [Rows.uptoBulkAll]
  | cons x r ih => have := bulk_one x; simp only [Rows.uptoBulkAll, List.length_cons]; omega
theorem bulk_slice {d : DataW H} {n : Nat} (h : DLen d n) : n ≤ Rows.uptoBulk d := by
  rcases h with ⟨rfl, rfl⟩ | ⟨es, sp, rfl, rfl⟩
  · omega
  · have := bulk_len es; simp only [Rows.uptoBulk]; omega
end
end Go.Proofs.YtokojichjliieaaDoor
namespace Go.Proofs.YtokojichjliieaaDoor
open Go.RowKit

/-- An element's cells: just sz of them. -/
structure Cels {α : Type} (fC : α → List Value) (sz : Nat) : Prop where
  len : ∀ x, (fC x).length = sz
  one : ∀ x, ∀ u ∈ fC x, u.oneCell' = true
  pos : 0 < sz
def RS {α : Type} (fC : α → List Value) (w : World) (B : Nat) (A : Option Addr) (l : List α) : Prop := Rd w B A (l.flatMap fC)
def OwS {α : Type} (fC : α → List Value) (sz : Nat) (w : World) (base : Nat) (e : TypeId) (v : Value) (l : List α) : Prop := w.ownsRow base e sz v l.length (l.flatMap fC)
section
variable {α : Type} {fC : α → List Value} {sz : Nat} {w w' : World} {B B' : Nat} {A : Option Addr} {l : List α} {base : Nat} {e : TypeId} {v : Value}
theorem Cels.all (h : Cels fC sz) (l : List α) : (l.flatMap fC).length = l.length * sz := by
  induction l with
  | nil => simp
  | cons a r ih => rw [List.flatMap_cons, List.length_append, ih, h.len, List.length_cons, Nat.add_mul, Nat.one_mul, Nat.add_comm]
theorem Cels.ones (h : Cels fC sz) (l : List α) : ∀ u ∈ l.flatMap fC, u.oneCell' = true := by
  intro u hu
  obtain ⟨x, _, hx⟩ := List.mem_flatMap.1 hu
  exact h.one x u hx
theorem Cels.get (h : Cels fC sz) {l : List α} {k j : Nat} {x : α} {u : Value} (hx : l[k]? = some x) (hu : (fC x)[j]? = some u) : (l.flatMap fC)[k * sz + j]? = some u := by
  induction l generalizing k with
  | nil => simp at hx
  | cons a r ih =>
    have hj : j < sz := by rw [← h.len x]; exact (List.getElem?_eq_some_iff.1 hu).1
    rw [List.flatMap_cons]
    cases k with
    | zero =>
      simp at hx
      subst hx
      rw [Nat.zero_mul, Nat.zero_add, List.getElem?_append_left (by rw [h.len]; exact hj)]; exact hu
    | succ k =>
      rw [List.getElem?_append_right (by rw [h.len, Nat.add_mul, Nat.one_mul]; omega), h.len, show (k + 1) * sz + j - sz = k * sz + j by rw [Nat.add_mul, Nat.one_mul]; omega]
      exact ih (by simpa using hx)
theorem Cels.set (h : Cels fC sz) {l : List α} {k j : Nat} {x x' : α} {u : Value} (hx : l[k]? = some x) (hj : j < sz) (hu : fC x' = (fC x).set j u) : (l.flatMap fC).set (k * sz + j) u = (l.set k x').flatMap fC := by
  induction l generalizing k with
  | nil => simp at hx
  | cons a r ih =>
    rw [List.flatMap_cons]
    cases k with
    | zero =>
      simp at hx
      subst hx
      rw [Nat.zero_mul, Nat.zero_add, List.set_append_left _ _ (by rw [h.len]; exact hj), List.set_cons_zero, List.flatMap_cons, hu]
    | succ k =>
      rw [List.set_append_right _ _ (by rw [h.len, Nat.add_mul, Nat.one_mul]; omega), h.len, show (k + 1) * sz + j - sz = k * sz + j by rw [Nat.add_mul, Nat.one_mul]; omega, List.set_cons_succ, List.flatMap_cons]
      rw [ih (by simpa using hx)]
theorem RS.nil : RS fC w B A [] := Rd.nil
theorem RS.below (h : RS fC w B A l) (hb : Below B' w w') (hB : B ≤ B') : RS fC w' B A l := Rd.below h hb hB
theorem RS.more (h : RS fC w B A l) (hB : B ≤ B') : RS fC w B' A l := Rd.more h hB
theorem RS.top (h : RS fC w B A l) : RS fC w w.heap.size A l := Rd.top h
theorem RS.step (h : RS fC w B A l) (hb : Below w.heap.size w w') : RS fC w' w'.heap.size A l := Rd.step h hb
theorem RS.drewN (h : RS fC w B A l) (k : Nat) : RS fC (w.drewN k) B A l := h
theorem RS.drew (h : RS fC w B A l) : RS fC w.drew B A l := h
theorem RS.alloc (h : RS fC w B A l) (hB : B ≤ w.heap.size) (o : Obj) : RS fC (w.alloc o) B A l := Rd.alloc h hB o
theorem RS.setCell (h : RS fC w B A l) {p : Addr} (hB : B ≤ p.block) (u : Value) : RS fC (w.setCell p u) B A l := Rd.setCell h hB u
/-- Element k: its first cell where the walk looks for it, its others behind it. -/
theorem RS.at_ (h : RS fC w B A l) (hC : Cels fC sz) {k : Nat} (hk : k < l.length) :
    ∃ ad x, A = some ad ∧ ad.block < B ∧ Hid (l[k]? = some x) ∧ (∀ u, (fC x)[0]? = some u → w.cell? (ad.add (k * sz)) = some u) ∧
      ∀ j u, (fC x)[j + 1]? = some u → w.cell? ⟨(ad.add (k * sz)).block, (ad.add (k * sz)).off + (j + 1), none⟩ = some u := by
  have hx : l[k]? = some l[k] := List.getElem?_eq_getElem hk
  have hne : l.flatMap fC ≠ [] := fun e => by
    have := hC.all l
    rw [e] at this
    have := Nat.mul_pos (show 0 < l.length by omega) hC.pos
    simp at *
    omega
  obtain ⟨ad, e, hb, hc⟩ := h hne
  refine ⟨ad, l[k], e, hb, hx, fun u hu => ?_, fun j u hu => ?_⟩
  · exact hc _ _ (hC.get hx hu)
  · rw [← add_pos _ j, addadd]; exact hc _ _ (hC.get hx hu)
theorem OwS.nil : OwS fC sz w base e (.slice none 0 0) [] := World.ownsRow_nil _ _ _ _
theorem OwS.alloc (h : OwS fC sz w base e v l) (o : Obj) : OwS fC sz (w.alloc o) base e v l := World.ownsRow.alloc h o
theorem OwS.drew (h : OwS fC sz w base e v l) : OwS fC sz w.drew base e v l := h
theorem OwS.drewN (h : OwS fC sz w base e v l) (k : Nat) : OwS fC sz (w.drewN k) base e v l := h
theorem OwS.kept (h : OwS fC sz w base e v l) {row : Option Nat} (hg : w.grownBy w' row) (hr : v.ownBlock = none ∨ v.ownBlock ≠ row) : OwS fC sz w' base e v l := World.ownsRow.kept h hg hr
theorem OwS.set_other (h : OwS fC sz w base e v l) {p : Addr} (hr : v.ownBlock ≠ some p.block) (u : Value) : OwS fC sz (w.setCell p u) base e v l :=
  OwS.kept h (row := some p.block) ⟨rfl, rfl, rfl, by simp [World.setCell], fun k _ hk => Below.heap_setCell w p u k (fun e => hk (by rw [e]))⟩ (.inr hr)
theorem OwS.step (h : OwS fC sz w base e v l) (hb : Below w.heap.size w w') : OwS fC sz w' base e v l :=
  OwS.kept h (gb_below hb none) (by cases hv : v.ownBlock with
    | none => exact .inl rfl
    | some g => exact .inr (by simp))
theorem OwS.rd (h : OwS fC sz w base e v l) : ∃ A c, v = .slice A l.length c ∧ RS fC w w.heap.size A l ∧ l.length ≤ c := by
  rcases h.2 with ⟨rfl, h0⟩ | ⟨g, cap, cur, rfl, hb, hh, hc, hm, r⟩
  · have : l = [] := List.eq_nil_of_length_eq_zero h0
    subst this
    exact ⟨none, 0, rfl, Rd.nil, Nat.le_refl _⟩
  · exact ⟨_, cap, rfl, Rd.own h, hc⟩
/-- Where there is an element the row has a block. -/
theorem OwS.blk (h : OwS fC sz w base e v l) {g : Nat} (hg : v.ownBlock = some g) : base ≤ g ∧ g < w.heap.size := World.ownsRow.lt h g hg
theorem OwS.form (h : OwS fC sz w base e v l) (hl : 0 < l.length) : ∃ g c, v = .slice (some ⟨g, 0, none⟩) l.length c ∧ base ≤ g ∧ g < w.heap.size := World.ownsRow.form h hl
theorem OwS.cell {g n c : Nat} (h : OwS fC sz w base e (.slice (some ⟨g, 0, none⟩) n c) l) (hC : Cels fC sz) {k j : Nat} {x : α} {u : Value} (hx : l[k]? = some x) (hu : (fC x)[j]? = some u) : w.cell? ⟨g, k * sz + j, none⟩ = some u := by
  have := World.ownsRow.cells h (g := g) rfl _ u (hC.get hx hu)
  rwa [Addr.add_lit, Nat.zero_add] at this
theorem OwS.len {A : Option Addr} {n c : Nat} (h : OwS fC sz w base e (.slice A n c) l) : n = l.length := by
  rcases h.2 with ⟨h', h0⟩ | ⟨g', cap', cur, h', r⟩
  · simp only [Value.slice.injEq] at h'; omega
  · simp only [Value.slice.injEq] at h'; exact h'.2.1
theorem OwS.frz {g n c : Nat} (h : OwS fC sz w base e (.slice (some ⟨g, 0, none⟩) n c) l) (j : Nat) : w.frozen? ⟨g, j, none⟩ = false := by
  have hn := h.len
  subst hn
  exact World.ownsRow.frozenAt h j
theorem OwS.set {g n c : Nat} (h : OwS fC sz w base e (.slice (some ⟨g, 0, none⟩) n c) l) (hC : Cels fC sz) {k j : Nat} {x x' : α} {u : Value} (hx : l[k]? = some x) (hj : j < sz) (hu : fC x' = (fC x).set j u) :
    OwS fC sz (w.setCell ⟨g, k * sz + j, none⟩ u) base e (.slice (some ⟨g, 0, none⟩) n c) (l.set k x') := by
  have hn := h.len
  subst hn
  have := (World.ownsRow.stored h (k * sz + j) u).1
  unfold OwS
  rw [List.length_set, ← hC.set hx hj hu]
  exact this
end
theorem le_alloc0 {B : Nat} {w : World} (h : B ≤ w.heap.size) (o : Obj) : B ≤ (w.alloc o).heap.size := by
  show B ≤ (w.heap.push o).size
  rw [Array.size_push]; omega
theorem le_alloc {B : Nat} {w : World} (h : B ≤ w.heap.size) (o : Obj) : B ≤ (w.alloc o).drew.heap.size := by
  show B ≤ (w.heap.push o).size
  rw [Array.size_push]; omega
section
variable {P : Program} (w : World)
/-- append(v, x...) at a plain region's list of operations. -/
theorem wpList_appS {α : Type} {fC : α → List Value} {sz : Nat} (hC : Cels fC sz) {ops : Array Oper} {rest : List Oper} {o : Oper} {a : Act} {Q : Exit → Act → World → Prop} (hgd : o.guard = none) (s x : Operand) {t e : TypeId} {z : Value} {bytes : Nat}
    (ho : o.op = .call { callee := .builtin .append, args := #[s, x], argTypes := #[t, t] }) (hE : ETy P t e z sz bytes) (hby : 0 < bytes)
    (base : Nat) (v : Value) (l : List α) (hs : a.eval s = v) (hown : OwS fC sz w base e v l)
    (B : Nat) (A : Option Addr) (m c : Nat) (news : List α) (hx : a.eval x = .slice A m c) (hl : news.length = m) (hr : RS fC w B A news)
    (hn : (l.length + news.length) * bytes ≤ 140737488355328) (hbase : base ≤ w.heap.size)
    (h : ∀ v' w', OwS fC sz w' base e v' (l ++ news) → w.grownBy w' v.ownBlock → (v'.ownBlock = v.ownBlock ∨ v'.ownBlock = some w.heap.size) → Below base w w' → wpList P ops Q rest (a.put o.dst v') w') : wpList P ops Q (o :: rest) a w := by
  obtain ⟨i, hi, hz, hsz, hb⟩ := hE.info
  subst hl
  have hm : (l.length + news.length) * 1 ≤ (l.length + news.length) * bytes := Nat.mul_le_mul (Nat.le_refl _) hby
  refine wpList_app w hgd s x t ho base e hE.sl hi hz hsz hb hE.cells hE.pos v l.length (l.flatMap fC) hs hown B A news.length c (news.flatMap fC) hx (hC.all news) hr (hC.ones _) (by unfold maxLen; omega) hn hbase ?_
  intro v' w' h1 h2 h3 h4
  exact h v' w' (by unfold OwS; rw [List.length_append, List.flatMap_append]; exact h1) h2 h3 h4
/-- The same at a step of a region that draws its order. -/
theorem step_appS {α : Type} {fC : α → List Value} {sz : Nat} (hC : Cels fC sz) {ops : Array Oper} {o : Oper} {a : Act} {K : Act → World → Prop} {Q : Exit → Act → World → Prop} {E : Prop} (hgd : o.guard = none) (s x : Operand) {t e : TypeId} {z : Value} {bytes : Nat}
    (ho : o.op = .call { callee := .builtin .append, args := #[s, x], argTypes := #[t, t] }) (hE : ETy P t e z sz bytes) (hby : 0 < bytes)
    (base : Nat) (v : Value) (l : List α) (hs : a.eval s = v) (hown : OwS fC sz w base e v l)
    (B : Nat) (A : Option Addr) (m c : Nat) (news : List α) (hx : a.eval x = .slice A m c) (hl : news.length = m) (hr : RS fC w B A news)
    (hn : (l.length + news.length) * bytes ≤ 140737488355328) (hbase : base ≤ w.heap.size)
    (h : ∀ v' w', OwS fC sz w' base e v' (l ++ news) → w.grownBy w' v.ownBlock → (v'.ownBlock = v.ownBlock ∨ v'.ownBlock = some w.heap.size) → Below base w w' → K (a.put o.dst v') w') :
    if Region.wanted o (yielded ops a.tmps) = true then Oper.wp P o a w K Q else E := by
  have hw : Region.wanted o (yielded ops a.tmps) = true := by simp [Region.wanted, hgd]
  rw [if_pos hw]
  obtain ⟨i, hi, hz, hsz, hb⟩ := hE.info
  subst hl
  have hm : (l.length + news.length) * 1 ≤ (l.length + news.length) * bytes := Nat.mul_le_mul (Nat.le_refl _) hby
  obtain ⟨v', w', hrun, h2, h3, h4⟩ := run_append_rd (P := P) w base t o.type e i z sz bytes hE.sl hi hz hsz hb hE.cells hE.pos v l.length (l.flatMap fC) hown B A news.length c (news.flatMap fC) (hC.all news) hr (hC.ones _) (by unfold maxLen; omega) hn hbase
  unfold Oper.wp execOp
  simp only [ho, resolve, invoke, builtin, Sem.run_bind, Sem.run_pure, Result.andThen_ok, List.map_toArray, List.map_cons, List.map_nil, hs, hx, hrun]
  exact h v' w' (by unfold OwS; rw [List.length_append, List.flatMap_append]; exact h2) h3 h4 ((Below.refl _ _).grown h3 hbase fun k hk => (World.ownsRow.lt hown k hk).1)
/-- One new element's cells, laid ahead by append(v, x). -/
theorem RS.new {α : Type} {fC : α → List Value} (w : World) (x : α) (cs : Array Value) (h : cs.toList = fC x) (e : TypeId) (fr : Nat × Nat) : RS fC (w.alloc (.cells cs e fr)) (w.heap.size + 1) (some ⟨w.heap.size, 0, none⟩) [x] := fun _ =>
  ⟨_, rfl, Nat.lt_succ_self _, fun i u hu => by
    have e : (⟨w.heap.size, 0, none⟩ : Addr).add i = ⟨w.heap.size, i, none⟩ := by unfold Addr.add; split <;> simp_all
    rw [e, World.cell?_alloc_mark, ← Array.getElem?_toList, h]
    simpa using hu⟩
theorem RS.newAt {α : Type} {fC : α → List Value} {g : Nat} (w : World) (x : α) (cs : Array Value) (h : cs.toList = fC x) (e : TypeId) (fr : Nat × Nat) (hg : w.heap.size = g) : RS fC (w.alloc (.cells cs e fr)) (g + 1) (some ⟨g, 0, none⟩) [x] := by subst hg; exact RS.new w x cs h e fr
end
end Go.Proofs.YtokojichjliieaaDoor
namespace Go.Proofs.YtokojichjliieaaDoor
open Go.RowKit

/-- An element is read as the token that it is. -/
def heldR (v : Value) : Option (DataW Value × List MemPlace) := some (.held v, [])
/-- Block b is a map of at most n entries that holds at each key what F says. -/
def MapF (w : World) (P : Program) (k : TypeId) (b n : Nat) (F : Lit → Option Value) : Prop :=
  ∃ D : DataW Value, w.ownsMap P k heldR b n D ∧ ∀ kl, WideAt.IsKeyLit kl → (∀ z, D.atKey kl z = ((F kl).map DataW.held).getD z) ∧ Maps.has D kl = (F kl).isSome

section
variable {P : Program} {k : TypeId} {w w' : World} {b n : Nat} {F : Lit → Option Value}
theorem MapF.made (w : World) (P : Program) (k : TypeId) : MapF (w.alloc (.map #[] 0)) P k w.heap.size 0 (fun _ => none) :=
  ⟨.map [], World.ownsMap_made w P k heldR, fun _ _ => ⟨fun _ => rfl, rfl⟩⟩
theorem MapF.madeAt {g : Nat} (w : World) (P : Program) (k : TypeId) (hg : w.heap.size = g) : MapF (w.alloc (.map #[] 0)) P k g 0 (fun _ => none) := by subst hg; exact MapF.made w P k
theorem MapF.lt (h : MapF w P k b n F) : b < w.heap.size := by obtain ⟨D, h, _⟩ := h; exact h.lt
theorem MapF.mono (h : MapF w P k b n F) {n' : Nat} (hn : n ≤ n') : MapF w P k b n' F := by obtain ⟨D, h, r⟩ := h; exact ⟨D, h.mono hn, r⟩
theorem MapF.grown (h : MapF w P k b n F) {row : Option Nat} (hg : w.grownBy w' row) (hne : some b ≠ row) : MapF w' P k b n F := by obtain ⟨D, h, r⟩ := h; exact ⟨D, h.kept hg hne, r⟩
theorem MapF.alloc (h : MapF w P k b n F) (o : Obj) : MapF (w.alloc o) P k b n F := by obtain ⟨D, h, r⟩ := h; exact ⟨D, h.alloc o, r⟩
theorem MapF.drewN (h : MapF w P k b n F) (q : Nat) : MapF (w.drewN q) P k b n F := h
theorem MapF.drew (h : MapF w P k b n F) : MapF w.drew P k b n F := h
theorem MapF.setCell (h : MapF w P k b n F) {a : Addr} (ha : b ≠ a.block) (u : Value) : MapF (w.setCell a u) P k b n F := by obtain ⟨D, h, r⟩ := h; exact ⟨D, h.setCell ha u, r⟩
theorem MapF.below (h : MapF w P k b n F) {B : Nat} (hb : Below B w w') (hB : b < B) : MapF w' P k b n F := by
  obtain ⟨D, ⟨es, clock, he, r⟩, q⟩ := h
  exact ⟨D, ⟨es, clock, (hb.block b hB).trans he, r⟩, q⟩
theorem MapF.ext (h : MapF w P k b n F) {G : Lit → Option Value} (he : ∀ kl, WideAt.IsKeyLit kl → G kl = F kl) : MapF w P k b n G := by
  obtain ⟨D, h, r⟩ := h
  exact ⟨D, h, fun kl hk => by rw [he kl hk]; exact r kl hk⟩

/-- v, ok := m[k]. -/
theorem wpList_look_ok {ops : Array Oper} {rest : List Oper} {o : Oper} {a : Act} {Q : Exit → Act → World → Prop}
    (hg : o.guard = none) (m x : Operand) (t : TypeId) (hop : o.op = Op.lookup t m x true)
    (e : TypeId) (K : Maps.Keyed P k) (ht : P.underlying t = some (.map k e)) (z : Value) (hz : (zeroValue e).run P w = .ok z w)
    (hm : a.eval m = .map (some b)) (hown : MapF w P k b n F) (key : Value) (kl : Lit) (hx : a.eval x = key) (hkey : keyOf P k key = some kl)
    (hK : wpList P ops Q rest (a.put o.dst (.tuple #[(F kl).getD z, .bool (F kl).isSome])) w) :
    wpList P ops Q (o :: rest) a w := by
  obtain ⟨D, h, r⟩ := hown
  obtain ⟨r1, r2⟩ := r kl (K.key hkey)
  refine wpList_lookup_own_ok w hg m x t hop k e K ht heldR hz (.held z) [] rfl b n D hm h key kl hx hkey (fun v ps hv => ?_)
  have hv' : v = (F kl).getD z := by
    rw [r1] at hv
    unfold heldR at hv
    simp only [Option.some.injEq, Prod.mk.injEq] at hv
    cases hF : F kl with
    | none => rw [hF] at hv; simpa using hv.1
    | some u => rw [hF] at hv; simpa using hv.1
  rw [r2, hv']
  exact hK
/-- m[k] = v. -/
theorem wpList_store {ops : Array Oper} {rest : List Oper} {o : Oper} {a : Act} {Q : Exit → Act → World → Prop}
    (hg : o.guard = none) (m x v : Operand) (t : TypeId) (hop : o.op = Op.mapUpdate t m x v)
    (e : TypeId) (K : Maps.Keyed P k) (ht : P.underlying t = some (.map k e)) (hm : a.eval m = .map (some b)) (hown : MapF w P k b n F) (hn : n < maxLen) (key val : Value) (kl : Lit)
    (hx : a.eval x = key) (hv : a.eval v = val) (hkey : keyOf P k key = some kl)
    (hK : ∀ w', MapF w' P k b (n + 1) (fun q => if q.sameKey kl = true then some val else F q) → w.grownBy w' (some b) → wpList P ops Q rest (a.put o.dst undef) w') :
    wpList P ops Q (o :: rest) a w := by
  obtain ⟨D, h, r⟩ := hown
  refine wpList_mapUpdate_own w hg m x v t hop k e K ht heldR b n D hm h hn key val kl hx hv hkey (.held val) [] rfl ?_
  intro w' h' hgr
  refine hK w' ⟨_, h', fun q hq => ?_⟩ hgr
  by_cases hqk : q = kl
  · subst hqk
    dsimp only
    rw [if_pos (WideAt.sameKey_self hq)]
    exact ⟨fun z => Maps.atKey_put_same h.isMap hq _ z, Maps.has_put_same h.isMap hq _⟩
  · dsimp only
    rw [if_neg (fun h => hqk (WideAt.sameKey_eq h))]
    obtain ⟨r1, r2⟩ := r q hq
    exact ⟨fun z => by rw [Maps.atKey_put_other hqk]; exact r1 z, by rw [Maps.has_put_other hqk]; exact r2⟩
/-- m[k]. -/
theorem wpList_look {ops : Array Oper} {rest : List Oper} {o : Oper} {a : Act} {Q : Exit → Act → World → Prop}
    (hg : o.guard = none) (m x : Operand) (t : TypeId) (hop : o.op = Op.lookup t m x false)
    (e : TypeId) (K : Maps.Keyed P k) (ht : P.underlying t = some (.map k e)) (z : Value) (hz : (zeroValue e).run P w = .ok z w)
    (hm : a.eval m = .map (some b)) (hown : MapF w P k b n F) (key : Value) (kl : Lit) (hx : a.eval x = key) (hkey : keyOf P k key = some kl)
    (hK : wpList P ops Q rest (a.put o.dst ((F kl).getD z)) w) :
    wpList P ops Q (o :: rest) a w := by
  refine wpList_plain hg fun K' hK' => ?_
  obtain ⟨D, h, r⟩ := hown
  obtain ⟨r1, r2⟩ := r kl (K.key hkey)
  obtain ⟨v, ps, hrun, hv⟩ := h.lookup K ht hz (zd := .held z) (zp := []) rfl hkey
  have hv' : v = (F kl).getD z := by
    rw [r1] at hv
    unfold heldR at hv
    simp only [Option.some.injEq, Prod.mk.injEq] at hv
    cases hF : F kl with
    | none => rw [hF] at hv; simpa using hv.1
    | some u => rw [hF] at hv; simpa using hv.1
  subst hv'
  unfold Oper.wp
  simp [execOp, hop, hm, hx, hrun, Result.andThen]
  exact hK' _ _ hK

/-- The same, told by keys of a type of one's own. -/
def MapT {κ : Type} (f : κ → Value) (w : World) (P : Program) (k : TypeId) (b n : Nat) (G : κ → Option Value) : Prop :=
  ∃ F, MapF w P k b n F ∧ ∀ x kl, keyOf P k (f x) = some kl → F kl = G x
variable {κ : Type} {f : κ → Value} {G : κ → Option Value}
theorem MapT.made (w : World) (P : Program) (k : TypeId) : MapT f (w.alloc (.map #[] 0)) P k w.heap.size 0 (fun _ => none) := ⟨_, MapF.made w P k, fun _ _ _ => rfl⟩
theorem MapT.madeAt {g : Nat} (w : World) (P : Program) (k : TypeId) (hg : w.heap.size = g) : MapT f (w.alloc (.map #[] 0)) P k g 0 (fun _ => none) := ⟨_, MapF.madeAt w P k hg, fun _ _ _ => rfl⟩
theorem MapT.lt (h : MapT f w P k b n G) : b < w.heap.size := by obtain ⟨F, h, _⟩ := h; exact h.lt
theorem MapT.mono (h : MapT f w P k b n G) {n' : Nat} (hn : n ≤ n') : MapT f w P k b n' G := by obtain ⟨F, h, r⟩ := h; exact ⟨F, h.mono hn, r⟩
theorem MapT.grown (h : MapT f w P k b n G) {row : Option Nat} (hg : w.grownBy w' row) (hne : some b ≠ row) : MapT f w' P k b n G := by obtain ⟨F, h, r⟩ := h; exact ⟨F, h.grown hg hne, r⟩
theorem MapT.alloc (h : MapT f w P k b n G) (o : Obj) : MapT f (w.alloc o) P k b n G := by obtain ⟨F, h, r⟩ := h; exact ⟨F, h.alloc o, r⟩
theorem MapT.drewN (h : MapT f w P k b n G) (q : Nat) : MapT f (w.drewN q) P k b n G := h
theorem MapT.drew (h : MapT f w P k b n G) : MapT f w.drew P k b n G := h
theorem MapT.setCell (h : MapT f w P k b n G) {a : Addr} (ha : b ≠ a.block) (u : Value) : MapT f (w.setCell a u) P k b n G := by obtain ⟨F, h, r⟩ := h; exact ⟨F, h.setCell ha u, r⟩
theorem MapT.below (h : MapT f w P k b n G) {B : Nat} (hb : Below B w w') (hB : b < B) : MapT f w' P k b n G := by obtain ⟨F, h, r⟩ := h; exact ⟨F, h.below hb hB, r⟩
theorem MapT.ext (h : MapT f w P k b n G) {G' : κ → Option Value} (he : ∀ x, G' x = G x) : MapT f w P k b n G' := by obtain ⟨F, h, r⟩ := h; exact ⟨F, h, fun x kl hk => (r x kl hk).trans (he x).symm⟩

theorem wpList_lookT_ok {ops : Array Oper} {rest : List Oper} {o : Oper} {a : Act} {Q : Exit → Act → World → Prop}
    (hg : o.guard = none) (m x : Operand) (t : TypeId) (hop : o.op = Op.lookup t m x true)
    (e : TypeId) (K : Maps.Keyed P k) (ht : P.underlying t = some (.map k e)) (z : Value) (hz : (zeroValue e).run P w = .ok z w)
    (hm : a.eval m = .map (some b)) (hown : MapT f w P k b n G) (y : κ) (kl : Lit) (hx : a.eval x = f y) (hkey : keyOf P k (f y) = some kl)
    (hK : wpList P ops Q rest (a.put o.dst (.tuple #[(G y).getD z, .bool (G y).isSome])) w) :
    wpList P ops Q (o :: rest) a w := by
  obtain ⟨F, h, r⟩ := hown
  exact wpList_look_ok hg m x t hop e K ht z hz hm h (f y) kl hx hkey (by rw [r y kl hkey]; exact hK)
theorem wpList_lookV_ok {ops : Array Oper} {rest : List Oper} {o : Oper} {a : Act} {Q : Exit → Act → World → Prop}
    (hg : o.guard = none) (m x : Operand) (t : TypeId) (hop : o.op = Op.lookup t m x true)
    (e : TypeId) (K : Maps.Keyed P k) (ht : P.underlying t = some (.map k e)) (z : Value) (hz : (zeroValue e).run P w = .ok z w)
    (hm : a.eval m = .map (some b)) (hown : MapT f w P k b n G) (y : κ) (kl : Lit) (hx : a.eval x = f y) (hkey : keyOf P k (f y) = some kl) (v : Value) (ok : Bool) (hv : (G y).getD z = v) (hb : (G y).isSome = ok)
    (hK : wpList P ops Q rest (a.put o.dst (.tuple #[v, .bool ok])) w) :
    wpList P ops Q (o :: rest) a w := by
  subst hv
  subst hb
  exact wpList_lookT_ok hg m x t hop e K ht z hz hm hown y kl hx hkey hK
theorem wpList_lookT {ops : Array Oper} {rest : List Oper} {o : Oper} {a : Act} {Q : Exit → Act → World → Prop}
    (hg : o.guard = none) (m x : Operand) (t : TypeId) (hop : o.op = Op.lookup t m x false)
    (e : TypeId) (K : Maps.Keyed P k) (ht : P.underlying t = some (.map k e)) (z : Value) (hz : (zeroValue e).run P w = .ok z w)
    (hm : a.eval m = .map (some b)) (hown : MapT f w P k b n G) (y : κ) (kl : Lit) (hx : a.eval x = f y) (hkey : keyOf P k (f y) = some kl)
    (hK : wpList P ops Q rest (a.put o.dst ((G y).getD z)) w) :
    wpList P ops Q (o :: rest) a w := by
  obtain ⟨F, h, r⟩ := hown
  exact wpList_look hg m x t hop e K ht z hz hm h (f y) kl hx hkey (by rw [r y kl hkey]; exact hK)
theorem wpList_storeT [DecidableEq κ] {ops : Array Oper} {rest : List Oper} {o : Oper} {a : Act} {Q : Exit → Act → World → Prop}
    (hg : o.guard = none) (m x v : Operand) (t : TypeId) (hop : o.op = Op.mapUpdate t m x v)
    (e : TypeId) (K : Maps.Keyed P k) (ht : P.underlying t = some (.map k e)) (hm : a.eval m = .map (some b)) (hown : MapT f w P k b n G) (hinj : ∀ x y, f x = f y → x = y) (hn : n < maxLen) (y : κ) (val : Value) (kl : Lit)
    (hx : a.eval x = f y) (hv : a.eval v = val) (hkey : keyOf P k (f y) = some kl)
    (hK : ∀ w', MapT f w' P k b (n + 1) (fun q => if q = y then some val else G q) → w.grownBy w' (some b) → wpList P ops Q rest (a.put o.dst undef) w') :
    wpList P ops Q (o :: rest) a w := by
  obtain ⟨F, h, r⟩ := hown
  refine wpList_store hg m x v t hop e K ht hm h hn (f y) val kl hx hv hkey ?_
  intro w' h' hgr
  refine hK w' ⟨_, h', fun q ql hq => ?_⟩ hgr
  dsimp only
  by_cases hqy : q = y
  · subst hqy
    rw [hkey] at hq
    injection hq with hq
    subst hq
    rw [if_pos (WideAt.sameKey_self (K.key hkey)), if_pos rfl]
  · have hne : ¬ ql.sameKey kl = true := fun hs => by
      have := WideAt.sameKey_eq hs
      subst this
      exact hqy (hinj _ _ (K.inj hq hkey))
    rw [if_neg hne, if_neg hqy]
    exact r q ql hq
end
end Go.Proofs.YtokojichjliieaaDoor
namespace Go.Proofs.YtokojichjliieaaDoor
open Go.RowKit

/-- Block b is a map in which the entry of key kl stands open under the stamp st: a value that is stored there makes of it what G says. -/
def OpenF (w : World) (P : Program) (k : TypeId) (b n : Nat) (F : Lit → Option Value) (kl : Lit) (st : Nat) : Prop :=
  ∃ es clock, w.heap[b]? = some (.map es clock) ∧ ∃ i, es.findIdx? (fun e => (e.born : Int) == (st : Int)) = some i ∧
    ∀ (val : Value) (w' : World), w'.heap[b]? = some (.map (es.modify i fun e => { e with val := val }) clock) → MapF w' P k b n (fun q => if q.sameKey kl = true then some val else F q)
section
variable {P : Program} {k : TypeId} {w w' : World} {b n st : Nat} {F : Lit → Option Value} {kl : Lit}
theorem MapF.same (h : MapF w P k b n F) (hb : w'.heap[b]? = w.heap[b]?) : MapF w' P k b n F := by
  obtain ⟨D, ⟨es, clock, he, r⟩, q⟩ := h
  exact ⟨D, ⟨es, clock, hb.trans he, r⟩, q⟩
theorem OpenF.same (h : OpenF w P k b n F kl st) (hb : w'.heap[b]? = w.heap[b]?) : OpenF w' P k b n F kl st := by
  obtain ⟨es, clock, he, r⟩ := h
  exact ⟨es, clock, hb.trans he, r⟩
theorem OpenF.lt (h : OpenF w P k b n F kl st) : b < w.heap.size := by
  obtain ⟨es, clock, he, _⟩ := h
  rcases Nat.lt_or_ge b w.heap.size with hlt | hge
  · exact hlt
  · rw [Array.getElem?_eq_none hge] at he; cases he
theorem findIdx_born {es : Array MapEntry} {i : Nat} {e : MapEntry} (hn : (es.toList.map (·.born)).Nodup) (hi : es[i]? = some e) : es.findIdx? (fun x => (x.born : Int) == (e.born : Int)) = some i := by
  obtain ⟨hil, hie⟩ := Array.getElem?_eq_some_iff.1 hi
  rw [Array.findIdx?_eq_some_iff_getElem]
  refine ⟨hil, by simp [hie], fun j hj => ?_⟩
  have hjl : j < es.size := by omega
  have hne : es[j].born ≠ es[i].born := by
    have := (List.pairwise_iff_getElem.1 hn) j i (by simpa using hjl) (by simpa using hil) hj
    simpa using this
  rw [← hie]
  simp
  omega
theorem MapF.put {t e : TypeId} {key val : Value} (h : MapF w P k b n F) (K : Maps.Keyed P k) (ht : P.underlying t = some (.map k e)) (hn : n < maxLen) (hkey : keyOf P k key = some kl) :
    ∃ w', (Instr.mapUpdate t (.map (some b)) key val).run P w = .ok () w' ∧ MapF w' P k b (n + 1) (fun q => if q.sameKey kl = true then some val else F q) := by
  obtain ⟨D, hown, r⟩ := h
  obtain ⟨w', hrun, h', _⟩ := hown.update K ht hn hkey (show heldR val = some (.held val, []) from rfl)
  refine ⟨w', hrun, _, h', fun q hq => ?_⟩
  by_cases hqk : q = kl
  · subst hqk
    dsimp only
    rw [if_pos (WideAt.sameKey_self hq)]
    exact ⟨fun z => Maps.atKey_put_same hown.isMap hq _ z, Maps.has_put_same hown.isMap hq _⟩
  · dsimp only
    rw [if_neg (fun h => hqk (WideAt.sameKey_eq h))]
    obtain ⟨r1, r2⟩ := r q hq
    exact ⟨fun z => by rw [Maps.atKey_put_other hqk]; exact r1 z, by rw [Maps.has_put_other hqk]; exact r2⟩
theorem heap_set_at {w : World} {b : Nat} {o o' : Obj} (hb : w.heap[b]? = some o) : (w.heap.setIfInBounds b o')[b]? = some o' := (MapKept.heap_set hb).1
theorem gb_heap {w : World} {b : Nat} (o : Obj) : w.grownBy { w with heap := w.heap.setIfInBounds b o } (some b) :=
  ⟨rfl, rfl, rfl, by simp, fun i _ hi => by
    show (w.heap.setIfInBounds b o)[i]? = _
    rw [Array.getElem?_setIfInBounds_ne]
    exact fun e => hi (by rw [e])⟩
theorem MapF.entry {t e : TypeId} {z key : Value} (h : MapF w P k b n F) (K : Maps.Keyed P k) (ht : P.underlying t = some (.map k e)) (hz : (zeroValue e).run P w = .ok z w) (hn : n < maxLen) (hkey : keyOf P k key = some kl) :
    ∃ (v : Value) (st : Nat) (w1 : World), (Instr.mapEntry t (.map (some b)) key).run P w = .ok (.tuple #[v, .int .i64 (st : Int)]) w1 ∧ w.grownBy w1 (some b) ∧ OpenF w1 P k b (n + 1) F kl st := by
  have hmf := h
  obtain ⟨D, hown, hr⟩ := h
  obtain ⟨es, clock, hb, FT, hsz, hD⟩ := hown
  have hst := FT.stamped
  have hks : ∀ x ∈ es.toList, ∃ l, keyOf P k x.key = some l := fun x hx => by
    obtain ⟨y, hy⟩ := FT.reads x hx
    exact ⟨_, WideElems.rd_key hy⟩
  have hgo : (getObj b).run P w = .ok (.map es clock) w := MapKept.run_getObj_map hb
  have hset : ∀ o, (setObj b o).run P w = .ok () { w with heap := w.heap.setIfInBounds b o } := fun o => MapKept.run_setObj_map o hb
  have hck := K.check w false hkey
  rcases K.find w hkey es.toList hks with ⟨h1, h2⟩ | ⟨j, e0, h1, h2, h3⟩
  · refine ⟨z, clock, { w with heap := w.heap.setIfInBounds b (.map (es.push { key := key, val := z, born := clock }) (clock + 1)) }, ?_, gb_heap _, ?_⟩
    · simp only [Instr.mapEntry, Sem.run_bind, run_underlying ht, hgo, Result.andThen]
      simp [Sem.run_bind, hck, h1, hz, hset, Result.andThen, goInt]
    · refine ⟨_, _, heap_set_at hb, es.size, ?_, fun val w' hw' => ?_⟩
      · rw [Array.findIdx?_eq_some_iff_getElem]
        refine ⟨by simp, by simp, fun i hi => ?_⟩
        have := hst.1 es[i] (by simp)
        simp [Array.getElem_push, hi]
        omega
      · obtain ⟨wu, hrun, hmu⟩ := hmf.put (t := t) (val := val) K ht hn hkey
        have hrun2 : (Instr.mapUpdate t (.map (some b)) key val).run P w = .ok () { w with heap := w.heap.setIfInBounds b (.map (es.push { key := key, val := val, born := clock }) (clock + 1)) } := by
          simp only [Instr.mapUpdate, Sem.run_bind, run_underlying ht, hgo, Result.andThen]
          simp [hck, h1, hset]
        rw [hrun2] at hrun
        injection hrun with _ hwu
        subst hwu
        refine hmu.same ?_
        rw [hw']
        show _ = (w.heap.setIfInBounds b _)[b]?
        rw [heap_set_at hb]
        congr 2
        apply Array.ext'
        simp [Array.toList_modify, List.modify_eq_set]
  · have hj : es[j]? = some e0 := by simpa using h2
    have hjl := (Array.getElem?_eq_some_iff.1 hj).1
    have hje := (Array.getElem?_eq_some_iff.1 hj).2
    have hky := K.stays w hkey
    have hsame : (es.modify j fun e => { e with key := key }) = es := by
      apply Array.ext
      · simp
      · intro i h1 h2'
        rw [Array.getElem_modify]
        split
        · rename_i e; subst e; rw [hje, ← h3]
        · rfl
    refine ⟨e0.val, e0.born, { w with heap := w.heap.setIfInBounds b (.map es clock) }, ?_, gb_heap _, ?_⟩
    · simp only [Instr.mapEntry, Sem.run_bind, run_underlying ht, hgo, Result.andThen]
      simp [hck, h1, hj, h3, hky, hset, hsame, goInt]
    · refine ⟨_, _, heap_set_at hb, j, findIdx_born hst.2.1 hj, fun val w' hw' => ?_⟩
      obtain ⟨wu, hrun, hmu⟩ := hmf.put (t := t) (val := val) K ht hn hkey
      have hrun2 : (Instr.mapUpdate t (.map (some b)) key val).run P w = .ok () { w with heap := w.heap.setIfInBounds b (.map (es.modify j fun e => { e with key := key, val := val }) clock) } := by
        simp only [Instr.mapUpdate, Sem.run_bind, run_underlying ht, hgo, Result.andThen]
        simp [hck, h1, hj, h3, hky, hset]
      rw [hrun2] at hrun
      injection hrun with _ hwu
      subst hwu
      refine hmu.same ?_
      rw [hw']
      show _ = (w.heap.setIfInBounds b _)[b]?
      rw [heap_set_at hb]
      congr 2
      apply Array.ext
      · simp
      · intro i h1 h2'
        rw [Array.getElem_modify, Array.getElem_modify]
        split
        · rename_i e; subst e; rw [hje, ← h3]
        · rfl
theorem OpenF.store {t : TypeId} (h : OpenF w P k b n F kl st) (val : Value) : ∃ w', (Instr.entryStore t (.map (some b)) (.int .i64 (st : Int)) val).run P w = .ok () w' ∧ w.grownBy w' (some b) ∧ MapF w' P k b n (fun q => if q.sameKey kl = true then some val else F q) := by
  obtain ⟨es, clock, hb, i, hi, hv⟩ := h
  have hgo : (getObj b).run P w = .ok (.map es clock) w := MapKept.run_getObj_map hb
  have hset : ∀ o, (setObj b o).run P w = .ok () { w with heap := w.heap.setIfInBounds b o } := fun o => MapKept.run_setObj_map o hb
  refine ⟨{ w with heap := w.heap.setIfInBounds b (.map (es.modify i fun e => { e with val := val }) clock) }, ?_, gb_heap _, hv val _ (heap_set_at hb)⟩
  simp only [Instr.entryStore, Sem.run_bind, hgo, Result.andThen]
  simp [asInt, asIntOf, hi, hset]
/-- The two at a list of operations. -/
theorem wpList_entry {ops : Array Oper} {rest : List Oper} {o : Oper} {a : Act} {Q : Exit → Act → World → Prop}
    (hg : o.guard = none) (m x : Operand) (t : TypeId) (hop : o.op = Op.mapEntry t m x)
    (e : TypeId) (K : Maps.Keyed P k) (ht : P.underlying t = some (.map k e)) (z : Value) (hz : (zeroValue e).run P w = .ok z w) (hm : a.eval m = .map (some b)) (hown : MapF w P k b n F) (hn : n < maxLen) (key : Value) (kl : Lit)
    (hx : a.eval x = key) (hkey : keyOf P k key = some kl)
    (hK : ∀ (v : Value) (st : Nat) (w' : World), OpenF w' P k b (n + 1) F kl st → w.grownBy w' (some b) → wpList P ops Q rest (a.put o.dst (.tuple #[v, .int .i64 (st : Int)])) w') :
    wpList P ops Q (o :: rest) a w := by
  refine wpList_plain hg fun K' hK' => ?_
  obtain ⟨v, st, w1, hrun, h1, h2⟩ := hown.entry K ht hz hn hkey
  unfold Oper.wp
  simp [execOp, hop, hm, hx, hrun, Result.andThen]
  exact hK' _ _ (hK v st w1 h2 h1)
theorem wpList_entryStore {ops : Array Oper} {rest : List Oper} {o : Oper} {a : Act} {Q : Exit → Act → World → Prop}
    (hg : o.guard = none) (m s v : Operand) (t : TypeId) (hop : o.op = Op.entryStore t m s v)
    (hm : a.eval m = .map (some b)) (h : OpenF w P k b n F kl st) (hs : a.eval s = .int .i64 (st : Int)) (val : Value) (hv : a.eval v = val)
    (hK : ∀ w', MapF w' P k b n (fun q => if q.sameKey kl = true then some val else F q) → w.grownBy w' (some b) → wpList P ops Q rest (a.put o.dst undef) w') :
    wpList P ops Q (o :: rest) a w := by
  refine wpList_plain hg fun K' hK' => ?_
  obtain ⟨w1, hrun, h1, h2⟩ := h.store (t := t) val
  unfold Oper.wp
  simp [execOp, hop, hm, hs, hv, hrun, Result.andThen]
  exact hK' _ _ (hK w1 h2 h1)
/-- v, ok := m[k], the run itself. -/
theorem MapT.run_ok {κ : Type} {f : κ → Value} {G : κ → Option Value} {t e : TypeId} {z : Value} (hown : MapT f w P k b n G) (K : Maps.Keyed P k) (ht : P.underlying t = some (.map k e)) (hz : (zeroValue e).run P w = .ok z w) {y : κ} {kl : Lit} (hkey : keyOf P k (f y) = some kl) :
    (Instr.lookup t (.map (some b)) (f y) true).run P w = .ok (.tuple #[(G y).getD z, .bool (G y).isSome]) w := by
  obtain ⟨F, ⟨D, h, r⟩, rG⟩ := hown
  obtain ⟨r1, r2⟩ := r kl (K.key hkey)
  have hF := rG y kl hkey
  obtain ⟨v, ps, hrun, hv⟩ := h.look_ok K ht hz (zd := .held z) (zp := []) rfl hkey
  have hv' : v = (F kl).getD z := by
    rw [r1] at hv
    unfold heldR at hv
    simp only [Option.some.injEq, Prod.mk.injEq] at hv
    cases hF : F kl with
    | none => rw [hF] at hv; simpa using hv.1
    | some u => rw [hF] at hv; simpa using hv.1
  rw [hrun, r2, hv', hF]
end
end Go.Proofs.YtokojichjliieaaDoor
namespace Go.Proofs.YtokojichjliieaaDoor

theorem cntP_take {l : List Nat} {k m : Nat} (hk : l[k]? = some m) (i : Nat) : cntP (l.take (k + 1)) i = if i = m ∧ m ≠ 0 then cntP (l.take k) i + 1 else cntP (l.take k) i := by
  have hkl : k < l.length := by
    rcases Nat.lt_or_ge k l.length with h | h
    · exact h
    · rw [List.getElem?_eq_none h] at hk; cases hk
  unfold cntP
  rw [List.take_add_one, hk]
  by_cases h0 : i = 0
  · subst h0
    by_cases hm : 0 = m
    · subst hm; simp
    · simp [hm]
  · rw [if_neg h0, if_neg h0, Option.toList_some, List.count_append, List.count_singleton]
    by_cases h : i = m
    · subst h; simp [h0]
    · have h' : ¬ m = i := fun e => h e.symm
      simp [h, h']
theorem cntP_le (l : List Nat) (i : Nat) : cntP l i ≤ l.length := by
  unfold cntP; split
  · omega
  · exact List.count_le_length
theorem usedP_take {l : List Nat} {k m : Nat} (hk : l[k]? = some m) : usedP (l.take (k + 1)) = if m ≠ 0 then usedP (l.take k) + 1 else usedP (l.take k) := by
  unfold usedP
  rw [List.take_add_one, hk, Option.toList_some, List.filter_append, List.length_append]
  by_cases h : m = 0 <;> simp [h]
theorem usedP_le (l : List Nat) : usedP l ≤ l.length := List.length_filter_le _ _
theorem kraft_le_over {l : List Nat} {n : Nat} (hn : n ≤ 15) (h : 32768 < kraftTo l n * 2 ^ (15 - n)) : 32768 < kraftTo l 15 := by
  have h1 := kraft_mono l n (15 - n)
  rw [show n + (15 - n) = 15 by omega] at h1
  omega
theorem count_pos_used {l : List Nat} {n : Nat} (hn : n ≠ 0) : l.count n ≤ usedP l := by
  unfold usedP
  induction l with
  | nil => simp
  | cons a l ih =>
    rw [List.count_cons, List.filter_cons]
    by_cases ha : a = 0
    · subst ha
      have : ¬ (0 : Nat) = n := fun e => hn e.symm
      simpa [this] using ih
    · simp only [bne_iff_ne, ne_eq, ha, not_false_eq_true, if_true, List.length_cons]
      split <;> omega
theorem used_sum {l : List Nat} {a b : Nat} (ha : a ≠ 0) (hb : b ≠ 0) (hab : a ≠ b) : l.count a + l.count b ≤ usedP l := by
  unfold usedP
  induction l with
  | nil => simp
  | cons c l ih =>
    rw [List.count_cons, List.count_cons, List.filter_cons]
    by_cases hc : c = 0
    · subst hc
      have h1 : ¬ (0 : Nat) = a := fun e => ha e.symm
      have h2 : ¬ (0 : Nat) = b := fun e => hb e.symm
      simpa [h1, h2] using ih
    · simp only [bne_iff_ne, ne_eq, hc, not_false_eq_true, if_true, List.length_cons, beq_iff_eq]
      split <;> split <;> omega
/-- Few symbols: the sum is small. -/
theorem kraft_lone {l : List Nat} (h : usedP l = 0 ∨ (usedP l = 1 ∧ l.count 1 = 1)) : kraftTo l 15 ≤ 32768 := by
  have hz : ∀ n, 2 ≤ n → l.count n = 0 := fun n hn => by
    rcases h with h | ⟨h, h1⟩
    · have := count_pos_used (l := l) (n := n) (by omega); omega
    · have := used_sum (l := l) (a := 1) (b := n) (by omega) (by omega) (by omega); omega
  have h1 : l.count 1 ≤ 1 := by
    rcases h with h | ⟨_, h1⟩
    · have := count_pos_used (l := l) (n := 1) (by omega); omega
    · omega
  simp only [kraftTo, cntP]
  simp only [hz 2 (by omega), hz 3 (by omega), hz 4 (by omega), hz 5 (by omega), hz 6 (by omega), hz 7 (by omega), hz 8 (by omega), hz 9 (by omega), hz 10 (by omega), hz 11 (by omega), hz 12 (by omega), hz 13 (by omega), hz 14 (by omega), hz 15 (by omega)]
  simp
  omega
theorem code_over {l : List Nat} {lone : Bool} (h : 32768 < kraftTo l 15) : codeB l lone = false := by
  unfold codeB
  have h1 : ¬ kraftTo l 15 = 32768 := by omega
  have h2 : ¬ usedP l = 0 := fun e => by have := kraft_lone (l := l) (.inl e); omega
  have h3 : ¬ (usedP l = 1 ∧ l.count 1 = 1) := fun e => by have := kraft_lone (l := l) (.inr e); omega
  have h4 : ¬ usedP l = 1 ∨ ¬ l.count 1 = 1 := by omega
  simp only [h1, h2, decide_false, Bool.false_or, Bool.and_eq_false_iff]
  right
  rcases h4 with h4 | h4 <;> simp [h4]
theorem code_kraft {l : List Nat} {lone : Bool} (h : codeB l lone = true) : kraftTo l 15 ≤ 32768 := by
  rcases Nat.lt_or_ge 32768 (kraftTo l 15) with h' | h'
  · rw [code_over h'] at h; cases h
  · exact h'
/-- What is left behind n lengths. -/
def leftP (l : List Nat) (n : Nat) : Nat := 32768 - kraftTo l n * 2 ^ (15 - n)
theorem left_succ {l : List Nat} {n : Nat} (hn : n < 15) (h : kraftTo l n * 2 ^ (15 - n) ≤ 32768) :
    leftP l n + kraftTo l n * 2 ^ (15 - n) = 32768 ∧ kraftTo l (n + 1) * 2 ^ (15 - (n + 1)) = kraftTo l n * 2 ^ (15 - n) + cntP l (n + 1) * 2 ^ (15 - (n + 1)) := by
  refine ⟨by unfold leftP; omega, ?_⟩
  have e : 15 - n = (15 - (n + 1)) + 1 := by omega
  rw [e, Nat.pow_succ, kraftTo, Nat.add_mul]
  congr 1
  rw [← Nat.mul_assoc]; rw [Nat.mul_comm 2, Nat.mul_assoc, Nat.mul_assoc, Nat.mul_comm 2]
theorem mostP_le {l : List Nat} (h : ∀ x ∈ l, x ≤ 15) : mostP l ≤ 15 := by
  unfold mostP
  suffices ∀ a, a ≤ 15 → List.foldl max a l ≤ 15 from this 0 (by omega)
  induction l with
  | nil => intro a ha; exact ha
  | cons b l ih =>
    intro a ha
    rw [List.foldl_cons]
    exact ih (fun x hx => h x (List.mem_cons_of_mem _ hx)) _ (by have := h b (List.mem_cons_self ..); omega)
theorem mostP_take {l : List Nat} {k m : Nat} (hk : l[k]? = some m) : mostP (l.take (k + 1)) = max (mostP (l.take k)) m := by
  unfold mostP
  rw [List.take_add_one, hk, Option.toList_some, List.foldl_append]
  rfl
theorem symsP_len_succ {l : List Nat} {k m : Nat} (hk : l[k]? = some m) (i : Nat) : (symsP l (k + 1) i).length = if i = m then (symsP l k i).length + 1 else (symsP l k i).length := by
  rw [symsP_succ, List.length_append, hk]
  by_cases h : i = m
  · subst h; simp
  · have h' : ¬ m = i := fun e => h e.symm
    simp [h, h']
/-- A word fits its bits. -/
theorem word_fits {l : List Nat} (h : kraftTo l 15 ≤ 32768) {k m : Nat} (hk : l[k]? = some m) (hm : m ≠ 0) (hm15 : m ≤ 15) : firstP l m + (symsP l k m).length < 2 ^ m := by
  have h1 := first_bound h hm15
  have hkl : k < l.length := by
    rcases Nat.lt_or_ge k l.length with h | h
    · exact h
    · rw [List.getElem?_eq_none h] at hk; cases hk
  have h2 := count_take l (k + 1) m (by omega)
  have h3 := symsP_len_succ hk m
  rw [if_pos rfl] at h3
  have h4 : (l.take (k + 1)).count m ≤ l.count m := (List.take_sublist _ _).count_le _
  unfold cntP at h1
  rw [if_neg hm] at h1
  omega
end Go.Proofs.YtokojichjliieaaDoor
namespace Go.Proofs.YtokojichjliieaaDoor
open Go.RowKit

/-- A fact that no tactic sees through (Hid is a definition, and 'assumption' opens it). -/
structure Bx (p : Prop) : Prop where out : p
theorem bx {p : Prop} (h : p) : Bx p := ⟨h⟩
/-- A row of the call's own is a slice, its length behind a letter. -/
theorem OwL.sl {α : Type} {f : α → Value} {w : World} {base : Nat} {e : TypeId} {v : Value} {l : List α} (h : OwL f w base e v l) : ∃ A n c, v = .slice A n c ∧ Bx (n = l.length) ∧ RL f w w.heap.size A l := by
  obtain ⟨A, c, h1, h2, _⟩ := h.rd
  exact ⟨A, _, c, h1, ⟨rfl⟩, h2⟩
def Rw (w : World) (g : Nat) (t : TypeId) (n : Nat) (C : Nat → Value) : Prop := ∃ cs, Bk w g t cs ∧ cs.size = n ∧ ∀ i, i < n → cs[i]? = some (C i)
section
variable {w w' : World} {g : Nat} {t : TypeId} {n : Nat} {C : Nat → Value}
theorem Rw.lt (h : Rw w g t n C) : g < w.heap.size := by obtain ⟨_, h, _⟩ := h; exact h.lt
theorem Rw.cell (h : Rw w g t n C) {i : Nat} (hi : i < n) : w.cell? ⟨g, i, none⟩ = some (C i) := by
  obtain ⟨cs, hb, _, hc⟩ := h
  rw [hb.cell, hc i hi]
theorem Rw.frz (h : Rw w g t n C) (i : Nat) : w.frozen? ⟨g, i, none⟩ = false := by obtain ⟨_, h, _⟩ := h; exact h.frz i
theorem Rw.of {cs : Array Value} (h : Bk w g t cs) (hn : cs.size = n) (hc : ∀ i, i < n → cs[i]? = some (C i)) : Rw w g t n C := ⟨cs, h, hn, hc⟩
theorem Rw.ext (h : Rw w g t n C) {D : Nat → Value} (hD : ∀ i, i < n → D i = C i) : Rw w g t n D := by
  obtain ⟨cs, h1, h2, h3⟩ := h
  exact ⟨cs, h1, h2, fun i hi => by rw [hD i hi]; exact h3 i hi⟩
theorem Rw.set (h : Rw w g t n C) (i : Nat) (u : Value) : Rw (w.setCell ⟨g, i, none⟩ u) g t n (fun j => if j = i then u else C j) := by
  obtain ⟨cs, h1, h2, h3⟩ := h
  refine ⟨_, h1.set i u, by simpa using h2, fun j hj => ?_⟩
  rw [Array.getElem?_setIfInBounds]
  by_cases e : i = j
  · subst e; simp [h2, hj]
  · have e' : ¬ j = i := fun x => e x.symm
    simp [e, e', h3 j hj]
theorem Rw.keep (h : Rw w g t n C) (hk : w'.heap[g]? = w.heap[g]?) : Rw w' g t n C := by
  obtain ⟨cs, h1, r⟩ := h
  exact ⟨cs, hk.trans h1, r⟩
theorem Rw.alloc (h : Rw w g t n C) (o : Obj) : Rw (w.alloc o) g t n C := h.keep (Below.heap_alloc w o g h.lt)
theorem Rw.far (h : Rw w g t n C) {p : Addr} (hp : g ≠ p.block) (u : Value) : Rw (w.setCell p u) g t n C := h.keep (Below.heap_setCell w p u g hp)
theorem Rw.below {B : Nat} (h : Rw w g t n C) (hb : Below B w w') (hg : g < B) : Rw w' g t n C := h.keep (hb.block g hg)
theorem Rw.grown {row : Option Nat} (h : Rw w g t n C) (hb : w.grownBy w' row) (hg : some g ≠ row) : Rw w' g t n C := h.keep (hb.block g h.lt hg)
end
end Go.Proofs.YtokojichjliieaaDoor
namespace Go.Proofs.YtokojichjliieaaDoor
open Go.RowKit

/-- Block b is a map told by G in which the entry of key y stands open under the stamp st. -/
def OpenT {κ : Type} (f : κ → Value) (w : World) (P : Program) (k : TypeId) (b n : Nat) (G : κ → Option Value) (y : κ) (st : Nat) : Prop :=
  ∃ F kl, OpenF w P k b n F kl st ∧ keyOf P k (f y) = some kl ∧ ∀ x ql, keyOf P k (f x) = some ql → F ql = G x
section
variable {κ : Type} {f : κ → Value} {P : Program} {k : TypeId} {w w' : World} {b n st : Nat} {G : κ → Option Value} {y : κ}
theorem OpenT.lt (h : OpenT f w P k b n G y st) : b < w.heap.size := by obtain ⟨F, kl, h, _⟩ := h; exact h.lt
theorem OpenT.grown (h : OpenT f w P k b n G y st) {row : Option Nat} (hg : w.grownBy w' row) (hne : some b ≠ row) : OpenT f w' P k b n G y st := by
  have hl := h.lt
  obtain ⟨F, kl, h, r⟩ := h
  exact ⟨F, kl, h.same (hg.block b hl hne), r⟩
theorem MapT.entry {t e : TypeId} {z : Value} (h : MapT f w P k b n G) (K : Maps.Keyed P k) (ht : P.underlying t = some (.map k e)) (hz : (zeroValue e).run P w = .ok z w) (hn : n < maxLen) {kl : Lit} (hkey : keyOf P k (f y) = some kl) :
    ∃ (v : Value) (st : Nat) (w1 : World), (Instr.mapEntry t (.map (some b)) (f y)).run P w = .ok (.tuple #[v, .int .i64 (st : Int)]) w1 ∧ w.grownBy w1 (some b) ∧ OpenT f w1 P k b (n + 1) G y st := by
  obtain ⟨F, h, r⟩ := h
  obtain ⟨v, st, w1, h1, h2, h3⟩ := h.entry K ht hz hn hkey
  exact ⟨v, st, w1, h1, h2, F, kl, h3, hkey, r⟩
theorem OpenT.store [DecidableEq κ] {t : TypeId} (h : OpenT f w P k b n G y st) (K : Maps.Keyed P k) (hinj : ∀ x y, f x = f y → x = y) (val : Value) : ∃ w', (Instr.entryStore t (.map (some b)) (.int .i64 (st : Int)) val).run P w = .ok () w' ∧ w.grownBy w' (some b) ∧ MapT f w' P k b n (fun q => if q = y then some val else G q) := by
  obtain ⟨F, kl, h, hkey, r⟩ := h
  obtain ⟨w1, h1, h2, h3⟩ := h.store (t := t) val
  refine ⟨w1, h1, h2, _, h3, fun q ql hq => ?_⟩
  dsimp only
  by_cases hqy : q = y
  · subst hqy
    rw [hkey] at hq
    injection hq with hq
    subst hq
    rw [if_pos (WideAt.sameKey_self (K.key hkey)), if_pos rfl]
  · have hne : ¬ ql.sameKey kl = true := fun hs => by
      have := WideAt.sameKey_eq hs
      subst this
      exact hqy (hinj _ _ (K.inj hq hkey))
    rw [if_neg hne, if_neg hqy]
    exact r q ql hq
theorem step_entryT {ops : Array Oper} {o : Oper} {a : Act} {K' : Act → World → Prop} {Q : Exit → Act → World → Prop} {E : Prop} (hgd : o.guard = none) (m x : Operand) (t : TypeId) (hop : o.op = Op.mapEntry t m x)
    (e : TypeId) (K : Maps.Keyed P k) (ht : P.underlying t = some (.map k e)) (z : Value) (hz : (zeroValue e).run P w = .ok z w) (hm : a.eval m = .map (some b)) (hown : MapT f w P k b n G) (hn : n < maxLen) (y : κ) (kl : Lit)
    (hx : a.eval x = f y) (hkey : keyOf P k (f y) = some kl)
    (h : ∀ (v : Value) (st : Nat) (w' : World), OpenT f w' P k b (n + 1) G y st → w.grownBy w' (some b) → K' (a.put o.dst (.tuple #[v, .int .i64 (st : Int)])) w') :
    if Region.wanted o (yielded ops a.tmps) = true then Oper.wp P o a w K' Q else E := by
  have hw : Region.wanted o (yielded ops a.tmps) = true := by simp [Region.wanted, hgd]
  rw [if_pos hw]
  obtain ⟨v, st, w1, hrun, h1, h2⟩ := hown.entry K ht hz hn hkey
  unfold Oper.wp
  simp [execOp, hop, hm, hx, hrun, Result.andThen]
  exact h v st w1 h2 h1
theorem step_entryStoreT [DecidableEq κ] {ops : Array Oper} {o : Oper} {a : Act} {K' : Act → World → Prop} {Q : Exit → Act → World → Prop} {E : Prop} (hgd : o.guard = none) (m s v : Operand) (t : TypeId) (hop : o.op = Op.entryStore t m s v)
    (K : Maps.Keyed P k) (hinj : ∀ x y, f x = f y → x = y) (hm : a.eval m = .map (some b)) (h : OpenT f w P k b n G y st) (hs : a.eval s = .int .i64 (st : Int)) (val : Value) (hv : a.eval v = val)
    (hK : ∀ w', MapT f w' P k b n (fun q => if q = y then some val else G q) → w.grownBy w' (some b) → K' (a.put o.dst undef) w') :
    if Region.wanted o (yielded ops a.tmps) = true then Oper.wp P o a w K' Q else E := by
  have hw : Region.wanted o (yielded ops a.tmps) = true := by simp [Region.wanted, hgd]
  rw [if_pos hw]
  obtain ⟨w1, hrun, h1, h2⟩ := h.store (t := t) K hinj val
  unfold Oper.wp
  simp [execOp, hop, hm, hs, hv, hrun, Result.andThen]
  exact hK w1 h2 h1
end
end Go.Proofs.YtokojichjliieaaDoor
namespace Go.Proofs.YtokojichjliieaaDoor

/-- A reader of bits: its answer, and where it stands behind it. -/
abbrev Ps (α : Type) := List UInt8 → Nat → Rz (α × Nat)
structure Good {α : Type} (P : Ps α) : Prop where
  mono : ∀ b p a p', p ≤ 8 * b.length → P b p = .ok (a, p') → p ≤ p' ∧ p' ≤ 8 * b.length
  agree : ∀ b c p a p', p ≤ 8 * b.length → P b p = .ok (a, p') → (∀ i, i < p' → bitAt b i = bitAt c i) → p' ≤ 8 * c.length → P c p = .ok (a, p')
  cut : ∀ b k p a p', k ≤ b.length → p ≤ 8 * k → P b p = .ok (a, p') → 8 * k < p' → P (b.take k) p = .err 2
theorem bitAt_take {b : List UInt8} {k i : Nat} (h : i < 8 * k) : bitAt (b.take k) i = bitAt b i := by
  unfold bitAt
  rw [List.getD_eq_getElem?_getD, List.getD_eq_getElem?_getD, List.getElem?_take, if_pos (by omega)]
theorem takeN_agree {b c : List UInt8} {p n : Nat} (h : ∀ i, i < p + n → bitAt b i = bitAt c i) : takeN b p n = takeN c p n := by
  induction n with
  | zero => rfl
  | succ n ih => unfold takeN; rw [ih (fun i hi => h i (by omega)), h (p + n) (by omega)]
theorem Good.ret {α : Type} (a : α) : Good (fun _ p => .ok (a, p)) :=
  ⟨fun b p a' p' hp h => by injection h with h; injection h with h1 h2; omega,
   fun b c p a' p' _ h _ _ => h,
   fun b k p a' p' _ hp h hk => by injection h with h; injection h with h1 h2; omega⟩
theorem Good.fail {α : Type} (e : Int) : Good (fun _ _ => (.err e : Rz (α × Nat))) :=
  ⟨fun _ _ _ _ _ h => (by cases h), fun _ _ _ _ _ _ h _ _ => (by cases h), fun _ _ _ _ _ _ _ h _ => (by cases h)⟩
theorem Good.bits (n : Nat) : Good (fun b p => tk b p n) := by
  refine ⟨fun b p a p' hp h => ?_, fun b c p a p' hp h ha hc => ?_, fun b k p a p' hk hp h hl => ?_⟩
  · unfold tk at h
    split at h
    · injection h with h; injection h with h1 h2; omega
    · cases h
  · unfold tk at h ⊢
    split at h
    · injection h with h; injection h with h1 h2
      subst h1; subst h2
      rw [if_pos (by omega), takeN_agree ha]
    · cases h
  · unfold tk at h ⊢
    split at h
    · injection h with h; injection h with h1 h2
      rw [if_neg (by rw [List.length_take]; omega)]
    · cases h
theorem bind_ok {α β : Type} {x : Rz α} {f : α → Rz β} {r : β} (h : x.bind f = .ok r) : ∃ a, x = .ok a ∧ f a = .ok r := by
  cases x with
  | ok a => exact ⟨a, rfl, h⟩
  | err e => cases h
theorem Good.bind {α β : Type} {A : Ps α} {F : α → Ps β} (hA : Good A) (hF : ∀ a, Good (F a)) : Good (fun b p => (A b p).bind fun x => F x.1 b x.2) := by
  refine ⟨fun b p a p' hp h => ?_, fun b c p a p' hp h ha hc => ?_, fun b k p a p' hk hp h hl => ?_⟩
  · obtain ⟨⟨x, p1⟩, h1, h2⟩ := bind_ok h
    have m1 := hA.mono b p x p1 hp h1
    have m2 := (hF x).mono b p1 a p' m1.2 h2
    omega
  · obtain ⟨⟨x, p1⟩, h1, h2⟩ := bind_ok h
    have m1 := hA.mono b p x p1 hp h1
    have m2 := (hF x).mono b p1 a p' m1.2 h2
    have e1 := hA.agree b c p x p1 hp h1 (fun i hi => ha i (by omega)) (by omega)
    have e2 := (hF x).agree b c p1 a p' m1.2 h2 ha hc
    show (A c p).bind _ = _
    rw [e1]; exact e2
  · obtain ⟨⟨x, p1⟩, h1, h2⟩ := bind_ok h
    have m1 := hA.mono b p x p1 (by omega) h1
    show (A (b.take k) p).bind _ = _
    by_cases hk1 : p1 ≤ 8 * k
    · have e1 := hA.agree b (b.take k) p x p1 (by omega) h1 (fun i hi => (bitAt_take (by omega)).symm) (by rw [List.length_take]; omega)
      rw [e1]
      exact (hF x).cut b k p1 a p' hk hk1 h2 hl
    · rw [hA.cut b k p x p1 hk hp h1 (by omega)]; rfl
theorem Good.ite {α : Type} {c : Prop} [Decidable c] {A B : Ps α} (hA : Good A) (hB : Good B) : Good (fun b p => if c then A b p else B b p) := by
  by_cases h : c
  · have e : (fun b p => if c then A b p else B b p) = A := by funext b p; rw [if_pos h]
    rw [e]; exact hA
  · have e : (fun b p => if c then A b p else B b p) = B := by funext b p; rw [if_neg h]
    rw [e]; exact hB
theorem good_nextF (l : List Nat) : ∀ f n c, Good (fun b p => nextF l b f n c p) := by
  intro f
  induction f with
  | zero => intro n c; exact Good.fail 6
  | succ f ih =>
    intro n c
    refine ⟨fun b p a p' hp h => ?_, fun b d p a p' hp h ha hc => ?_, fun b k p a p' hk hp h hl => ?_⟩
    · simp only [nextF] at h
      split at h
      · split at h
        · injection h with h; injection h with h1 h2; omega
        · have := (ih _ _).mono b (p + 1) a p' (by omega) h; omega
      · cases h
    · simp only [nextF] at h ⊢
      split at h
      · rename_i h1
        have hb : p + 1 ≤ p' := by
          split at h
          · injection h with h; injection h with h2 h3; omega
          · have := (ih _ _).mono b (p + 1) a p' (by omega) h; omega
        rw [if_pos (by omega), ← ha p (by omega)]
        split at h
        · exact h
        · exact (ih _ _).agree b d (p + 1) a p' (by omega) h ha hc
      · cases h
    · simp only [nextF] at h ⊢
      split at h
      · rename_i h1
        by_cases hk1 : p + 1 ≤ 8 * k
        · rw [if_pos (by rw [List.length_take]; omega), bitAt_take (by omega)]
          split at h
          · injection h with h; injection h with h2 h3; omega
          · exact (ih _ _).cut b k (p + 1) a p' hk hk1 h hl
        · rw [if_neg (by rw [List.length_take]; omega)]
      · cases h
theorem good_next (l : List Nat) : Good (fun b p => nextP l b p) := good_nextF l _ 0 0
theorem good_sym (lit dist : List Nat) (lim : Nat) : ∀ f out, Good (fun b p => symF lit dist b lim f p out) := by
  intro f
  induction f with
  | zero => intro out; exact Good.fail 0
  | succ f ih =>
    intro out
    have h4 : ∀ s k t u, Good (fun b p => if out.length < (dstP t).1 + u then (.err 7 : Rz (List UInt8 × Nat)) else if lim < out.length + ((lenP s).1 + k) then .err 8 else symF lit dist b lim f p (copyN ((dstP t).1 + u) ((lenP s).1 + k) out)) :=
      fun s k t u => Good.ite (Good.fail 7) (Good.ite (Good.fail 8) (ih _))
    have h3 : ∀ s k t, Good (fun b p => if 29 < t then (.err 6 : Rz (List UInt8 × Nat)) else (tk b p (dstP t).2).bind fun u => if out.length < (dstP t).1 + u.1 then (.err 7 : Rz (List UInt8 × Nat)) else if lim < out.length + ((lenP s).1 + k) then .err 8 else symF lit dist b lim f u.2 (copyN ((dstP t).1 + u.1) ((lenP s).1 + k) out)) :=
      fun s k t => Good.ite (Good.fail 6) (Good.bind (F := fun u b p => if out.length < (dstP t).1 + u then (.err 7 : Rz (List UInt8 × Nat)) else if lim < out.length + ((lenP s).1 + k) then .err 8 else symF lit dist b lim f p (copyN ((dstP t).1 + u) ((lenP s).1 + k) out)) (Good.bits _) (h4 s k t))
    have h2 : ∀ s k, Good (fun b p => (nextP dist b p).bind fun z => if 29 < z.1 then (.err 6 : Rz (List UInt8 × Nat)) else (tk b z.2 (dstP z.1).2).bind fun u => if out.length < (dstP z.1).1 + u.1 then (.err 7 : Rz (List UInt8 × Nat)) else if lim < out.length + ((lenP s).1 + k) then .err 8 else symF lit dist b lim f u.2 (copyN ((dstP z.1).1 + u.1) ((lenP s).1 + k) out)) :=
      fun s k => Good.bind (F := fun t b p => if 29 < t then (.err 6 : Rz (List UInt8 × Nat)) else (tk b p (dstP t).2).bind fun u => if out.length < (dstP t).1 + u.1 then (.err 7 : Rz (List UInt8 × Nat)) else if lim < out.length + ((lenP s).1 + k) then .err 8 else symF lit dist b lim f u.2 (copyN ((dstP t).1 + u.1) ((lenP s).1 + k) out)) (good_next dist) (h3 s k)
    have h1 : ∀ s, Good (fun b p => (tk b p (lenP s).2).bind fun y => (nextP dist b y.2).bind fun z => if 29 < z.1 then (.err 6 : Rz (List UInt8 × Nat)) else (tk b z.2 (dstP z.1).2).bind fun u => if out.length < (dstP z.1).1 + u.1 then (.err 7 : Rz (List UInt8 × Nat)) else if lim < out.length + ((lenP s).1 + y.1) then .err 8 else symF lit dist b lim f u.2 (copyN ((dstP z.1).1 + u.1) ((lenP s).1 + y.1) out)) :=
      fun s => Good.bind (F := fun k b p => (nextP dist b p).bind fun z => if 29 < z.1 then (.err 6 : Rz (List UInt8 × Nat)) else (tk b z.2 (dstP z.1).2).bind fun u => if out.length < (dstP z.1).1 + u.1 then (.err 7 : Rz (List UInt8 × Nat)) else if lim < out.length + ((lenP s).1 + k) then .err 8 else symF lit dist b lim f u.2 (copyN ((dstP z.1).1 + u.1) ((lenP s).1 + k) out)) (Good.bits _) (h2 s)
    exact Good.bind (F := fun s b p => if s = 256 then .ok (out, p)
      else if s < 256 then (if lim ≤ out.length then .err 8 else symF lit dist b lim f p (out ++ [UInt8.ofNat s]))
      else if 285 < s then .err 6
      else (tk b p (lenP s).2).bind fun y => (nextP dist b y.2).bind fun z => if 29 < z.1 then (.err 6 : Rz (List UInt8 × Nat)) else (tk b z.2 (dstP z.1).2).bind fun u => if out.length < (dstP z.1).1 + u.1 then (.err 7 : Rz (List UInt8 × Nat)) else if lim < out.length + ((lenP s).1 + y.1) then .err 8 else symF lit dist b lim f u.2 (copyN ((dstP z.1).1 + u.1) ((lenP s).1 + y.1) out))
      (good_next lit) fun s => Good.ite (Good.ret _) (Good.ite (Good.ite (Good.fail 8) (ih _)) (Good.ite (Good.fail 6) (h1 s)))
theorem good_lens : ∀ ks l, Good (fun b p => lensF b ks l p) := by
  intro ks
  induction ks with
  | nil => intro l; exact Good.ret l
  | cons k r ih => intro l; exact Good.bind (F := fun x b p => lensF b r (l.set k x) p) (Good.bits 3) fun x => ih _
theorem good_allF (lens : List Nat) (total : Nat) : ∀ f all, Good (fun b p => allF lens b total f p all) := by
  intro f
  induction f with
  | zero => intro all; exact Good.fail 0
  | succ f ih =>
    intro all
    have h1 : ∀ s, Good (fun b p => (tk b p (runP s all).2.2).bind fun y => if total < all.length + ((runP s all).2.1 + y.1) then (.err 6 : Rz (List Nat × Nat)) else allF lens b total f y.2 (all ++ List.replicate ((runP s all).2.1 + y.1) (runP s all).1)) :=
      fun s => Good.bind (F := fun y b p => if total < all.length + ((runP s all).2.1 + y) then (.err 6 : Rz (List Nat × Nat)) else allF lens b total f p (all ++ List.replicate ((runP s all).2.1 + y) (runP s all).1)) (Good.bits _) fun y => Good.ite (Good.fail 6) (ih _)
    exact Good.ite (Good.ret _) (Good.bind (F := fun s b p => if s = 16 ∧ all = [] then (.err 6 : Rz (List Nat × Nat)) else (tk b p (runP s all).2.2).bind fun y => if total < all.length + ((runP s all).2.1 + y.1) then (.err 6 : Rz (List Nat × Nat)) else allF lens b total f y.2 (all ++ List.replicate ((runP s all).2.1 + y.1) (runP s all).1)) (good_next lens) fun s => Good.ite (Good.fail 6) (h1 s))
/-- A symbol takes a bit. -/
theorem nextF_more {l : List Nat} {b : List UInt8} : ∀ {f n c p s p'}, nextF l b f n c p = .ok (s, p') → p < p' ∧ p' ≤ 8 * b.length := by
  intro f
  induction f with
  | zero => intro n c p s p' h; cases h
  | succ f ih =>
    intro n c p s p' h
    simp only [nextF] at h
    split at h
    · split at h
      · injection h with h; injection h with h1 h2; omega
      · have := ih h; omega
    · cases h
theorem nextP_more {l : List Nat} {b : List UInt8} {p s p' : Nat} (h : nextP l b p = .ok (s, p')) : p < p' ∧ p' ≤ 8 * b.length := nextF_more h
theorem tk_more {b : List UInt8} {p n v p' : Nat} (h : tk b p n = .ok (v, p')) : p' = p + n ∧ p' ≤ 8 * b.length ∧ v = takeN b p n := by
  unfold tk at h
  split at h
  · injection h with h; injection h with h1 h2; exact ⟨by omega, by omega, h1.symm⟩
  · cases h
theorem bind_congr {α β : Type} {x : Rz α} {f g : α → Rz β} (h : ∀ a, x = .ok a → f a = g a) : x.bind f = x.bind g := by
  cases x with
  | ok a => exact h a rfl
  | err e => rfl
/-- More rounds than bits make no difference. -/
theorem sym_fuel (lit dist : List Nat) (b : List UInt8) (lim : Nat) : ∀ f g p out, p ≤ 8 * b.length → 8 * b.length - p < f → 8 * b.length - p < g → symF lit dist b lim f p out = symF lit dist b lim g p out := by
  intro f
  induction f with
  | zero => intro g p out _ h; omega
  | succ f ih =>
    intro g p out hp hf hg
    obtain ⟨g, rfl⟩ : ∃ k, g = k + 1 := ⟨g - 1, by omega⟩
    simp only [symF]
    refine bind_congr fun x hx => ?_
    have m1 := nextP_more (s := x.1) (p' := x.2) hx
    split
    · rfl
    · split
      · split
        · rfl
        · exact ih g x.2 _ (by omega) (by omega) (by omega)
      · split
        · rfl
        · refine bind_congr fun y hy => bind_congr fun z hz => ?_
          have m2 := tk_more (v := y.1) (p' := y.2) hy
          have m3 := nextP_more (s := z.1) (p' := z.2) hz
          split
          · rfl
          · refine bind_congr fun u hu => ?_
            have m4 := tk_more (v := u.1) (p' := u.2) hu
            split
            · rfl
            · split
              · rfl
              · exact ih g u.2 _ (by omega) (by omega) (by omega)
theorem allF_fuel (lens : List Nat) (b : List UInt8) (total : Nat) : ∀ f g p all, p ≤ 8 * b.length → 8 * b.length - p < f → 8 * b.length - p < g → allF lens b total f p all = allF lens b total g p all := by
  intro f
  induction f with
  | zero => intro g p all _ h; omega
  | succ f ih =>
    intro g p all hp hf hg
    obtain ⟨g, rfl⟩ : ∃ k, g = k + 1 := ⟨g - 1, by omega⟩
    simp only [allF]
    split
    · rfl
    · refine bind_congr fun x hx => ?_
      have m1 := nextP_more (s := x.1) (p' := x.2) hx
      split
      · rfl
      · refine bind_congr fun y hy => ?_
        have m2 := tk_more (v := y.1) (p' := y.2) hy
        split
        · rfl
        · exact ih g y.2 _ (by omega) (by omega) (by omega)
/-- A reader whose number of rounds is of the bytes' length. -/
theorem Good.fuel {α : Type} {P : Nat → Ps α} (h : ∀ f, Good (P f)) (hf : ∀ b f g p, p ≤ 8 * b.length → 8 * b.length - p < f → 8 * b.length - p < g → P f b p = P g b p) : Good (fun b p => P (8 * b.length + 1) b p) := by
  refine ⟨fun b p a p' hp he => (h _).mono b p a p' hp he, fun b c p a p' hp he ha hc => ?_, fun b k p a p' hk hp he hl => ?_⟩
  · have m := (h _).mono b p a p' hp he
    have e1 := hf b (8 * b.length + 1) (8 * b.length + 8 * c.length + 1) p hp (by omega) (by omega)
    have e2 := hf c (8 * c.length + 1) (8 * b.length + 8 * c.length + 1) p (by omega) (by omega) (by omega)
    have he' : P (8 * b.length + 1) b p = .ok (a, p') := he
    show P (8 * c.length + 1) c p = _
    rw [e2]
    exact (h _).agree b c p a p' hp (by rw [← e1]; exact he') ha hc
  · have hl2 : (b.take k).length = k := by rw [List.length_take]; omega
    have e1 := hf b (8 * b.length + 1) (8 * b.length + 8 * k + 1) p (by omega) (by omega) (by omega)
    have e2 := hf (b.take k) (8 * (b.take k).length + 1) (8 * b.length + 8 * k + 1) p (by omega) (by omega) (by omega)
    have he' : P (8 * b.length + 1) b p = .ok (a, p') := he
    show P (8 * (b.take k).length + 1) (b.take k) p = _
    rw [e2]
    exact (h _).cut b k p a p' hk hp (by rw [← e1]; exact he') hl
theorem good_allP0 (lens : List Nat) (total : Nat) : Good (fun b p => allP0 lens total b p) :=
  Good.fuel (P := fun f b p => allF lens b total f p []) (fun f => good_allF lens total f []) (fun b f g p hp hf hg => allF_fuel lens b total f g p [] hp hf hg)
theorem good_symP (lit dist : List Nat) (lim : Nat) (out : List UInt8) : Good (fun b p => symP lit dist lim out b p) :=
  Good.fuel (P := fun f b p => symF lit dist b lim f p out) (fun f => good_sym lit dist lim f out) (fun b f g p hp hf hg => sym_fuel lit dist b lim f g p out hp hf hg)
theorem good_coded (lim : Nat) (out : List UInt8) (lit dist : List Nat) : Good (fun b p => codedP lim out lit dist b p) :=
  Good.ite (Good.fail 5) (Good.ite (Good.fail 5) (good_symP lit dist lim out))
theorem good_told : Good (fun b p => toldP b p) := by
  have h1 : ∀ (x y : Nat) (u : List Nat), Good (fun b p => (allP0 u (x + 257 + (y + 1)) b p).bind fun v => if v.1.getD 256 0 = 0 then (.err 5 : Rz ((List Nat × List Nat) × Nat)) else .ok ((v.1.take (x + 257), v.1.drop (x + 257)), v.2)) :=
    fun x y u => Good.bind (F := fun v _ p => if v.getD 256 0 = 0 then (.err 5 : Rz ((List Nat × List Nat) × Nat)) else .ok ((v.take (x + 257), v.drop (x + 257)), p)) (good_allP0 _ _) fun v => Good.ite (Good.fail 5) (Good.ret _)
  have h2 : ∀ (x y z : Nat), Good (fun b p => if 286 < x + 257 ∨ 30 < y + 1 then (.err 5 : Rz ((List Nat × List Nat) × Nat)) else (lensF b (ordL.take (z + 4)) (List.replicate 19 0) p).bind fun u => if codeB u.1 false = false then (.err 5 : Rz ((List Nat × List Nat) × Nat)) else (allP0 u.1 (x + 257 + (y + 1)) b u.2).bind fun v => if v.1.getD 256 0 = 0 then (.err 5 : Rz ((List Nat × List Nat) × Nat)) else .ok ((v.1.take (x + 257), v.1.drop (x + 257)), v.2)) :=
    fun x y z => Good.ite (Good.fail 5) (Good.bind (F := fun u b p => if codeB u false = false then (.err 5 : Rz ((List Nat × List Nat) × Nat)) else (allP0 u (x + 257 + (y + 1)) b p).bind fun v => if v.1.getD 256 0 = 0 then (.err 5 : Rz ((List Nat × List Nat) × Nat)) else .ok ((v.1.take (x + 257), v.1.drop (x + 257)), v.2)) (good_lens _ _) fun u => Good.ite (Good.fail 5) (h1 x y u))
  exact Good.bind (F := fun x b p => (tk b p 5).bind fun y => (tk b y.2 4).bind fun z => if 286 < x + 257 ∨ 30 < y.1 + 1 then (.err 5 : Rz ((List Nat × List Nat) × Nat)) else (lensF b (ordL.take (z.1 + 4)) (List.replicate 19 0) z.2).bind fun u => if codeB u.1 false = false then (.err 5 : Rz ((List Nat × List Nat) × Nat)) else (allP0 u.1 (x + 257 + (y.1 + 1)) b u.2).bind fun v => if v.1.getD 256 0 = 0 then (.err 5 : Rz ((List Nat × List Nat) × Nat)) else .ok ((v.1.take (x + 257), v.1.drop (x + 257)), v.2)) (Good.bits 5) fun x =>
    Good.bind (F := fun y b p => (tk b p 4).bind fun z => if 286 < x + 257 ∨ 30 < y + 1 then (.err 5 : Rz ((List Nat × List Nat) × Nat)) else (lensF b (ordL.take (z.1 + 4)) (List.replicate 19 0) z.2).bind fun u => if codeB u.1 false = false then (.err 5 : Rz ((List Nat × List Nat) × Nat)) else (allP0 u.1 (x + 257 + (y + 1)) b u.2).bind fun v => if v.1.getD 256 0 = 0 then (.err 5 : Rz ((List Nat × List Nat) × Nat)) else .ok ((v.1.take (x + 257), v.1.drop (x + 257)), v.2)) (Good.bits 5) fun y =>
      Good.bind (F := fun z b p => if 286 < x + 257 ∨ 30 < y + 1 then (.err 5 : Rz ((List Nat × List Nat) × Nat)) else (lensF b (ordL.take (z + 4)) (List.replicate 19 0) p).bind fun u => if codeB u.1 false = false then (.err 5 : Rz ((List Nat × List Nat) × Nat)) else (allP0 u.1 (x + 257 + (y + 1)) b u.2).bind fun v => if v.1.getD 256 0 = 0 then (.err 5 : Rz ((List Nat × List Nat) × Nat)) else .ok ((v.1.take (x + 257), v.1.drop (x + 257)), v.2)) (Good.bits 4) (h2 x y)
/-- Bytes out of bits. -/
theorem byteN_bits (b : List UInt8) (k : Nat) : takeN b (8 * k) 8 = byteN b k := by
  have h : ∀ j, j < 8 → bitAt b (8 * k + j) = (b.getD k 0).toNat / 2 ^ j % 2 := fun j hj => by
    unfold bitAt; rw [show (8 * k + j) / 8 = k by omega, show (8 * k + j) % 8 = j by omega]
  have hb := (b.getD k 0).toNat_lt
  unfold byteN
  simp only [takeN, h 0 (by omega), h 1 (by omega), h 2 (by omega), h 3 (by omega), h 4 (by omega), h 5 (by omega), h 6 (by omega), h 7 (by omega), Nat.reducePow]
  omega
theorem byteN_agree {b c : List UInt8} {m k : Nat} (h : ∀ i, i < 8 * m → bitAt b i = bitAt c i) (hk : k < m) : byteN b k = byteN c k := by
  rw [← byteN_bits, ← byteN_bits]; exact takeN_agree fun i hi => h i (by omega)
theorem take_agree {b c : List UInt8} {m : Nat} (h : ∀ i, i < 8 * m → bitAt b i = bitAt c i) (hb : m ≤ b.length) (hc : m ≤ c.length) : b.take m = c.take m := by
  apply List.ext_getElem?
  intro i
  rw [List.getElem?_take, List.getElem?_take]
  split
  · rename_i hi
    have := byteN_agree h hi
    unfold byteN at this
    rw [List.getD_eq_getElem?_getD, List.getD_eq_getElem?_getD, List.getElem?_eq_getElem (by omega), List.getElem?_eq_getElem (by omega)] at this
    rw [List.getElem?_eq_getElem (by omega), List.getElem?_eq_getElem (by omega)]
    exact congrArg some (UInt8.toNat_inj.1 this)
  · rfl
theorem piece_agree {b c : List UInt8} {s n m : Nat} (h : b.take m = c.take m) (hs : s + n ≤ m) : (b.drop s).take n = (c.drop s).take n := by
  have e : ∀ (x : List UInt8), (x.drop s).take n = ((x.take m).drop s).take n := fun x => by
    apply List.ext_getElem?
    intro i
    rw [List.getElem?_take, List.getElem?_take]
    split
    · rw [List.getElem?_drop, List.getElem?_drop, List.getElem?_take, if_pos (by omega)]
    · rfl
  rw [e b, e c, h]
theorem good_stored (lim : Nat) (out : List UInt8) : Good (fun b p => storedP b lim p out) := by
  refine ⟨fun b p a p' hp h => ?_, fun b c p a p' hp h ha hc => ?_, fun b k p a p' hk hp h hl => ?_⟩
  · unfold storedP at h
    generalize byteN b ((p + 7) / 8) + 256 * byteN b ((p + 7) / 8 + 1) = n at h
    split at h
    · cases h
    · split at h
      · cases h
      · split at h
        · cases h
        · split at h
          · cases h
          · injection h with h; injection h with h1 h2; omega
  · unfold storedP at h
    split at h
    · cases h
    · split at h
      · cases h
      · split at h
        · cases h
        · split at h
          · cases h
          · rename_i g1 g2 g3 g4
            injection h with h; injection h with h1 h2
            have hA : ∀ i, i < 8 * ((p + 7) / 8 + 4) → bitAt b i = bitAt c i := fun i hi => ha i (by omega)
            have e0 := byteN_agree hA (k := (p + 7) / 8) (by omega)
            have e1 := byteN_agree hA (k := (p + 7) / 8 + 1) (by omega)
            have e2 := byteN_agree hA (k := (p + 7) / 8 + 2) (by omega)
            have e3 := byteN_agree hA (k := (p + 7) / 8 + 3) (by omega)
            rw [e0, e1] at g3 g4 h1 h2
            rw [e0, e1, e2, e3] at g2
            show storedP c lim p out = _
            unfold storedP
            rw [if_neg (by omega), if_neg g2, if_neg g3, if_neg (by omega), ← h1, ← h2]
            have ht := take_agree (m := (p + 7) / 8 + 4 + (byteN c ((p + 7) / 8) + 256 * byteN c ((p + 7) / 8 + 1))) (b := b) (c := c) (fun i hi => ha i (by omega)) (by omega) (by omega)
            rw [piece_agree ht (Nat.le_refl _)]
  · unfold storedP at h
    split at h
    · cases h
    · split at h
      · cases h
      · split at h
        · cases h
        · split at h
          · cases h
          · rename_i g1 g2 g3 g4
            injection h with h; injection h with h1 h2
            show storedP (b.take k) lim p out = _
            unfold storedP
            by_cases hk4 : k < (p + 7) / 8 + 4
            · rw [if_pos (by rw [List.length_take]; omega)]
            · have hA : ∀ i, i < 8 * k → bitAt b i = bitAt (b.take k) i := fun i hi => (bitAt_take hi).symm
              have e0 := byteN_agree hA (k := (p + 7) / 8) (by omega)
              have e1 := byteN_agree hA (k := (p + 7) / 8 + 1) (by omega)
              have e2 := byteN_agree hA (k := (p + 7) / 8 + 2) (by omega)
              have e3 := byteN_agree hA (k := (p + 7) / 8 + 3) (by omega)
              rw [← e0, ← e1, ← e2, ← e3, if_neg (by rw [List.length_take]; omega), if_neg g2, if_neg g3, if_pos (by rw [List.length_take]; omega)]
theorem good_body (lim : Nat) (out : List UInt8) (k : Nat) : Good (fun b p => bodyP lim out k b p) := by
  have h1 := good_stored lim out
  have h2 : Good (fun b p => (toldP b p).bind fun u => codedP lim out u.1.1 u.1.2 b u.2) := Good.bind (A := fun b p => toldP b p) (F := fun u b p => codedP lim out u.1 u.2 b p) good_told (fun u => good_coded lim out u.1 u.2)
  have h3 := good_coded lim out fixLit fixDist
  unfold bodyP
  generalize fixLit = A at h3 ⊢
  generalize fixDist = B at h3 ⊢
  exact Good.ite h1 (Good.ite (Good.fail 3) (Good.ite h2 h3))
theorem good_blk (lim : Nat) (out : List UInt8) : Good (fun b p => blkP lim out b p) :=
  Good.bind (F := fun x b p => (tk b p 2).bind fun y => (bodyP lim out y.1 b y.2).bind fun z => .ok ((decide (x = 1), z.1), z.2)) (Good.bits 1) fun x =>
    Good.bind (F := fun y b p => (bodyP lim out y b p).bind fun z => .ok ((decide (x = 1), z.1), z.2)) (Good.bits 2) fun y =>
      Good.bind (F := fun z _ p => .ok ((decide (x = 1), z), p)) (good_body lim out y) fun _ => Good.ret _
theorem blk_more {lim : Nat} {out : List UInt8} {b : List UInt8} {p : Nat} {a : Bool × List UInt8} {p' : Nat} (h : blkP lim out b p = .ok (a, p')) : p + 3 ≤ p' ∧ p' ≤ 8 * b.length := by
  unfold blkP at h
  obtain ⟨⟨x, p1⟩, h1, h⟩ := bind_ok h
  obtain ⟨⟨y, p2⟩, h2, h⟩ := bind_ok h
  obtain ⟨⟨z, p3⟩, h3, h⟩ := bind_ok h
  have m1 := tk_more h1
  have m2 := tk_more h2
  have m3 := (good_body lim out y).mono b p2 z p3 (by omega) h3
  injection h with h; injection h with h4 h5
  omega
theorem good_allB (lim : Nat) : ∀ f out, Good (fun b p => allB lim b f p out) := by
  intro f
  induction f with
  | zero => intro out; exact Good.fail 0
  | succ f ih => intro out; exact Good.bind (F := fun x b p => if x.1 = true then .ok (x.2, p) else allB lim b f p x.2) (good_blk lim out) fun x => Good.ite (Good.ret _) (ih _)
theorem allB_fuel (lim : Nat) (b : List UInt8) : ∀ f g p out, p ≤ 8 * b.length → 8 * b.length - p < f → 8 * b.length - p < g → allB lim b f p out = allB lim b g p out := by
  intro f
  induction f with
  | zero => intro g p out _ h; omega
  | succ f ih =>
    intro g p out hp hf hg
    obtain ⟨g, rfl⟩ : ∃ k, g = k + 1 := ⟨g - 1, by omega⟩
    simp only [allB]
    refine bind_congr fun x hx => ?_
    have m1 := blk_more (a := x.1) (p' := x.2) hx
    split
    · rfl
    · exact ih g x.2 _ (by omega) (by omega) (by omega)
theorem good_allP (lim : Nat) : Good (fun b p => allP lim b p) :=
  Good.fuel (P := fun f b p => allB lim b f p []) (fun f => good_allB lim f []) (fun b f g p hp hf hg => allB_fuel lim b f g p [] hp hf hg)
theorem allP_more {lim : Nat} {b : List UInt8} {out : List UInt8} {p' : Nat} (h : allP lim b 0 = .ok (out, p')) : 3 ≤ p' ∧ p' ≤ 8 * b.length := by
  have m := (good_allP lim).mono b 0 out p' (by omega) h
  unfold allP at h
  rw [allB] at h
  obtain ⟨⟨x, p1⟩, h1, h⟩ := bind_ok h
  have m1 := blk_more h1
  split at h
  · injection h with h; injection h with h2 h3; omega
  · have := (good_allB lim _ _).mono b p1 out p' (by omega) h; omega
/-- What stands behind changes nothing; what is cut off is missed. -/
theorem infl_ok {b : List UInt8} {lim : Int} {out : List UInt8} {n : Nat} (h : inflP b lim = .ok (out, n)) : ∃ p, allP lim.toNat b 0 = .ok (out, p) ∧ n = (p + 7) / 8 ∧ ¬ (lim < 0 ∨ 32768 < lim) ∧ 1 ≤ n ∧ n ≤ b.length := by
  unfold inflP at h
  split at h
  · cases h
  · rename_i hl
    obtain ⟨⟨x, p⟩, h1, h2⟩ := bind_ok h
    injection h2 with h2; injection h2 with h3 h4
    have m := allP_more h1
    simp only at h3 h4
    exact ⟨p, by rw [h1, h3], h4.symm, hl, by omega, by omega⟩
theorem infl_behind {b more : List UInt8} {lim : Int} {out : List UInt8} {n : Nat} (h : inflP b lim = .ok (out, n)) : inflP (b.take n ++ more) lim = .ok (out, n) := by
  obtain ⟨p, h1, h2, h3, h4, h5⟩ := infl_ok h
  have m := allP_more h1
  have e := (good_allP lim.toNat).agree b (b.take n ++ more) 0 out p (by omega) h1 (fun i hi => by
    rw [bitAt_app _ _ _ (by rw [List.length_take]; omega), bitAt_take (by omega)]) (by rw [List.length_append, List.length_take]; omega)
  have e' : allP lim.toNat (b.take n ++ more) 0 = .ok (out, p) := e
  unfold inflP
  rw [if_neg h3, e', h2]; rfl
theorem infl_cut {b : List UInt8} {lim : Int} {out : List UInt8} {n k : Nat} (h : inflP b lim = .ok (out, n)) (hk : k < n) : inflP (b.take k) lim = .err 2 := by
  obtain ⟨p, h1, h2, h3, h4, h5⟩ := infl_ok h
  have m := allP_more h1
  have e := (good_allP lim.toNat).cut b k 0 out p (by omega) (by omega) h1 (by omega)
  have e' : allP lim.toNat (b.take k) 0 = .err 2 := e
  unfold inflP
  rw [if_neg h3, e']; rfl
end Go.Proofs.YtokojichjliieaaDoor
namespace Go.Proofs.YtokojichjliieaaDoor
open Go.RowKit
theorem Bk.setRow {w : World} {g : Nat} {t : TypeId} {old : Array Value} (h : Bk w g t old) (cs : Array Value) : Bk (w.setRow g cs) g t cs := by
  unfold Bk at h ⊢
  simp [World.setRow, Array.getElem?_modify, h]
theorem heap_setRow (w : World) (g : Nat) (cs : Array Value) (k : Nat) (h : k ≠ g) : (w.setRow g cs).heap[k]? = w.heap[k]? := by
  have h' : ¬ g = k := fun e => h e.symm
  simp [World.setRow, Array.getElem?_modify, h']
theorem bl_setRow {B : Nat} {a w : World} (h : Below B a w) {g : Nat} (hg : B ≤ g) (cs : Array Value) : Below B a (w.setRow g cs) :=
  ⟨h.os, h.tape, h.output, by simpa using h.size, fun k hk => (heap_setRow w g cs k (by omega)).trans (h.block k hk)⟩
end Go.Proofs.YtokojichjliieaaDoor
namespace Go.Proofs.YtokojichjliieaaDoor
open Go.Lib

theorem pre_ne {a c : UInt8} {l r : List UInt8} (h : ¬ a = c) : (a :: l).isPrefixOf (c :: r) = false := by
  have : (a == c) = false := by simpa using h
  show (a == c && _) = false
  rw [this]; rfl
theorem idx_zero {s old : List UInt8} (h : old.isPrefixOf s = true) : index s old = 0 := by
  cases s with
  | nil => cases old with
    | nil => rfl
    | cons a t => simp at h
  | cons c r => unfold index; rw [if_pos h]
theorem idx_miss {c : UInt8} {r old : List UInt8} (h : old.isPrefixOf (c :: r) = false) : (index r old = -1 ∧ index (c :: r) old = -1) ∨ ∃ i : Nat, index r old = i ∧ index (c :: r) old = (i + 1 : Nat) := by
  have hge := index_ge r old
  have e : index (c :: r) old = if old.isPrefixOf (c :: r) then 0 else if index r old == -1 then -1 else index r old + 1 := rfl
  rw [e, if_neg (by rw [h]; decide)]
  by_cases h1 : index r old = -1
  · exact .inl ⟨h1, by rw [h1]; rfl⟩
  · refine .inr ⟨(index r old).toNat, by omega, ?_⟩
    rw [if_neg (by simpa using h1)]; omega
theorem cnt_zero {s old : List UInt8} (ho : old ≠ []) (h : old.isPrefixOf s = true) : count s old = 1 + count (s.drop old.length) old := by
  rw [count_hit (i := 0) ho (by rw [idx_zero h]; rfl), Nat.zero_add]
theorem cnt_miss {c : UInt8} {r old : List UInt8} (ho : old ≠ []) (h : old.isPrefixOf (c :: r) = false) : count (c :: r) old = count r old := by
  rcases idx_miss h with ⟨h1, h2⟩ | ⟨i, h1, h2⟩
  · rw [count_miss h1, count_miss h2]
  · rw [count_hit ho h1, count_hit ho h2]
    congr 2
    rw [show i + 1 + old.length = (i + old.length) + 1 by omega]; rfl
theorem rep_eq {s old new : List UInt8} (hn : (old == new) = false) : replaceAll s old new = replaceK old new (count s old) s := by
  unfold replaceAll replace replaceNum
  rw [hn]; simp
theorem rep_hit {s old new : List UInt8} (ho : old ≠ []) (hn : (old == new) = false) (h : old.isPrefixOf s = true) : replaceAll s old new = new ++ replaceAll (s.drop old.length) old new := by
  rw [rep_eq hn, rep_eq hn, cnt_zero ho h, Nat.add_comm, replaceK_hit _ _ _ _ 0 (by rw [idx_zero h]; rfl)]
  simp
theorem repK_miss {c : UInt8} {r old new : List UInt8} (h : old.isPrefixOf (c :: r) = false) (k : Nat) : replaceK old new k (c :: r) = c :: replaceK old new k r := by
  cases k with
  | zero => rfl
  | succ k =>
    rcases idx_miss h with ⟨h1, h2⟩ | ⟨i, h1, h2⟩
    · simp only [replaceK, h1, h2]; simp
    · rw [replaceK_hit _ _ _ _ i h1, replaceK_hit _ _ _ _ (i + 1) h2]
      rw [show i + 1 + old.length = (i + old.length) + 1 by omega]
      simp
theorem rep_miss {c : UInt8} {r old new : List UInt8} (ho : old ≠ []) (hn : (old == new) = false) (h : old.isPrefixOf (c :: r) = false) : replaceAll (c :: r) old new = c :: replaceAll r old new := by
  rw [rep_eq hn, rep_eq hn, cnt_miss ho h, repK_miss h]
theorem rep_nil {old new : List UInt8} (ho : old ≠ []) (hn : (old == new) = false) : replaceAll [] old new = [] := by
  rw [rep_eq hn, count_miss (by cases old with | nil => exact absurd rfl ho | cons a t => rfl)]; rfl
/-- One sign for another. -/
theorem rep_one (a b : UInt8) (h : a ≠ b) (s : List UInt8) : replaceAll s [a] [b] = s.map fun c => if c = a then b else c := by
  have hn : ([a] == [b]) = false := by simpa using h
  induction s with
  | nil => exact rep_nil (by simp) hn
  | cons c r ih =>
    by_cases hc : c = a
    · subst hc
      rw [rep_hit (by simp) hn (by simp)]
      simp [ih]
    · rw [rep_miss (by simp) hn (pre_ne fun e => hc e.symm), ih]
      simp [hc]
/-- The ends of lines made one: a line feed behind a carriage return is none of its own. -/
def normF : Bool → List UInt8 → List UInt8
  | _, [] => []
  | p, c :: r => if c = 10 ∧ p = true then normF false r else (if c = 13 then 10 else c) :: normF (c == 13) r
theorem normF_flag {r : List UInt8} (h : r.head? ≠ some 10) : normF true r = normF false r := by
  cases r with
  | nil => rfl
  | cons c r =>
    have : c ≠ 10 := fun e => h (by rw [e]; rfl)
    simp [normF, this]
theorem norm_rep (s : List UInt8) : replaceAll (replaceAll s [13, 10] [10]) [13] [10] = normF false s := by
  have key : ∀ (n : Nat) (s : List UInt8), s.length ≤ n → replaceAll (replaceAll s [13, 10] [10]) [13] [10] = normF false s := by
    intro n
    induction n with
    | zero =>
      intro s hs
      obtain rfl := List.eq_nil_of_length_eq_zero (Nat.le_zero.1 hs)
      rw [rep_nil (by simp) (by decide), rep_nil (by simp) (by decide)]; rfl
    | succ n ih =>
      intro s hs
      cases s with
      | nil => rw [rep_nil (by simp) (by decide), rep_nil (by simp) (by decide)]; rfl
      | cons c r =>
        simp only [List.length_cons] at hs
        by_cases hc : c = 13
        · subst hc
          cases r with
          | nil =>
            rw [rep_miss (by simp) (by decide) (by decide), rep_nil (by simp) (by decide)]
            decide
          | cons d r =>
            by_cases hd : d = 10
            · subst hd
              have e1 : replaceAll (13 :: 10 :: r) [13, 10] [10] = [10] ++ replaceAll r [13, 10] [10] := rep_hit (by simp) (by decide) (by simp)
              rw [e1, List.singleton_append, rep_miss (by simp) (by decide) (pre_ne (by decide)), ih r (by simp only [List.length_cons] at hs; omega)]
              simp [normF]
            · have e1 : replaceAll (13 :: d :: r) [13, 10] [10] = 13 :: replaceAll (d :: r) [13, 10] [10] := rep_miss (by simp) (by decide) (by
                have : (10 == d) = false := by simpa using fun e : 10 = d => hd e.symm
                show (13 == 13 && (10 == d && _)) = false
                rw [this]; rfl)
              rw [e1, rep_hit (by simp) (by decide) (by simp)]
              show [10] ++ replaceAll (replaceAll (d :: r) [13, 10] [10]) [13] [10] = _
              rw [ih (d :: r) (by omega)]
              simp [normF, hd]
        · have e1 : replaceAll (c :: r) [13, 10] [10] = c :: replaceAll r [13, 10] [10] := rep_miss (by simp) (by decide) (pre_ne fun e => hc e.symm)
          rw [e1, rep_miss (by simp) (by decide) (pre_ne fun e => hc e.symm), ih r (by omega)]
          have : (c == 13) = false := by simpa using hc
          simp [normF, hc, this]
  exact key s.length s (Nat.le_refl _)
/-- Cut at a sign. -/
def cutL (a : UInt8) : List UInt8 → List (List UInt8)
  | [] => [[]]
  | c :: r => if c = a then [] :: cutL a r else match cutL a r with
    | [] => [[c]]
    | x :: xs => (c :: x) :: xs
theorem cutL_ne (a : UInt8) (s : List UInt8) : cutL a s ≠ [] := by
  cases s with
  | nil => simp [cutL]
  | cons c r =>
    unfold cutL
    split
    · simp
    · split <;> simp
theorem splitK_hit' (sep : List UInt8) (k : Nat) (s : List UInt8) (i : Nat) (h : index s sep = i) : splitK sep 0 (k + 1) s = s.take i :: splitK sep 0 k (s.drop (i + sep.length)) := by
  have hm : ¬ (index s sep == -1) = true := fun e => by have := beq_iff_eq.1 e; omega
  have e : (index s sep).toNat = i := by omega
  rw [splitK, if_neg hm, e, Nat.add_zero]
theorem splitK_miss {c : UInt8} {r sep : List UInt8} (h : sep.isPrefixOf (c :: r) = false) (k : Nat) : ∃ x xs, splitK sep 0 k r = x :: xs ∧ splitK sep 0 k (c :: r) = (c :: x) :: xs := by
  cases k with
  | zero => exact ⟨r, [], rfl, rfl⟩
  | succ k =>
    rcases idx_miss h with ⟨h1, h2⟩ | ⟨i, h1, h2⟩
    · refine ⟨r, [], ?_, ?_⟩
      · simp only [splitK, h1]; simp
      · simp only [splitK, h2]; simp
    · rw [splitK_hit' _ _ _ i h1, splitK_hit' _ _ _ (i + 1) h2]
      refine ⟨_, _, rfl, ?_⟩
      rw [show i + 1 + sep.length = (i + sep.length) + 1 by omega]
      simp
theorem split_cut (a : UInt8) (s : List UInt8) : split s [a] = cutL a s := by
  unfold split
  induction s with
  | nil => rfl
  | cons c r ih =>
    by_cases hc : c = a
    · subst hc
      rw [cnt_zero (by simp) (by simp), Nat.add_comm, splitK_hit' _ _ _ 0 (by rw [idx_zero (by simp)]; rfl)]
      simp only [List.take_zero, List.length_singleton, Nat.zero_add, List.drop_succ_cons, List.drop_zero]
      rw [ih]; simp [cutL]
    · have hp : ([a] : List UInt8).isPrefixOf (c :: r) = false := pre_ne fun e => hc e.symm
      rw [cnt_miss (by simp) hp]
      obtain ⟨x, xs, h1, h2⟩ := splitK_miss hp (count r [a])
      rw [ih] at h1
      rw [h2]
      unfold cutL
      rw [if_neg hc, h1]
/-- The lines ahead of the first empty one. -/
def linesOf (s : List UInt8) : List (List UInt8) := (cutL 10 s).takeWhile fun l => !l.isEmpty
def linesM (s : List UInt8) : List (List UInt8) := linesOf (normF false s)
theorem cutL_app (a : UInt8) {x : List UInt8} (h : ∀ c ∈ x, c ≠ a) (y : List UInt8) : cutL a (x ++ a :: y) = x :: cutL a y := by
  induction x with
  | nil => simp [cutL]
  | cons c r ih =>
    have hc : c ≠ a := h c (by simp)
    rw [List.cons_append, cutL, if_neg hc, ih (fun d hd => h d (by simp [hd]))]
theorem cutL_end (a : UInt8) {x : List UInt8} (h : ∀ c ∈ x, c ≠ a) : cutL a x = [x] := by
  induction x with
  | nil => rfl
  | cons c r ih =>
    unfold cutL
    rw [if_neg (h c (by simp)), ih (fun d hd => h d (by simp [hd]))]
theorem normF_app {x : List UInt8} (h : ∀ c ∈ x, c ≠ 13 ∧ c ≠ 10) (y : List UInt8) (hx : x ≠ []) (p : Bool) : normF p (x ++ y) = x ++ normF false y := by
  induction x generalizing p with
  | nil => exact absurd rfl hx
  | cons c r ih =>
    obtain ⟨h1, h2⟩ := h c (by simp)
    have e : (c == 13) = false := by simpa using h1
    simp only [List.cons_append, normF, h1, h2, false_and, if_false, e]
    congr 1
    cases r with
    | nil => rfl
    | cons d r => exact ih (fun q hq => h q (by simp [hq])) (by simp) false
theorem normF_app0 {x : List UInt8} (h : ∀ c ∈ x, c ≠ 13 ∧ c ≠ 10) (y : List UInt8) : normF false (x ++ y) = x ++ normF false y := by
  cases x with
  | nil => rfl
  | cons c r => exact normF_app h y (by simp) false
theorem linesOf_cons {x : List UInt8} (h : ∀ c ∈ x, c ≠ 10) (hx : x ≠ []) (y : List UInt8) : linesOf (x ++ 10 :: y) = x :: linesOf y := by
  unfold linesOf
  rw [cutL_app 10 h, List.takeWhile_cons, if_pos (by cases x with | nil => exact absurd rfl hx | cons => rfl)]
theorem linesOf_nil (y : List UInt8) : linesOf (10 :: y) = [] := by simp [linesOf, cutL]
theorem linesM_nil : linesM [] = [] := rfl
section
variable {x : List UInt8} (h : ∀ c ∈ x, c ≠ 13 ∧ c ≠ 10)
include h
theorem linesM_end (hx : x ≠ []) : linesM x = [x] := by
  have := normF_app0 h []
  rw [List.append_nil] at this
  unfold linesM
  rw [this, show normF false [] = [] from rfl, List.append_nil]
  unfold linesOf
  rw [cutL_end 10 (fun c hc => (h c hc).2), List.takeWhile_cons, if_pos (by cases x with | nil => exact absurd rfl hx | cons => rfl)]; rfl
theorem linesM_lf (hx : x ≠ []) (y : List UInt8) : linesM (x ++ 10 :: y) = x :: linesM y := by
  unfold linesM
  rw [normF_app0 h]
  show linesOf (x ++ normF false (10 :: y)) = _
  rw [show normF false (10 :: y) = 10 :: normF false y by simp [normF], linesOf_cons (fun c hc => (h c hc).2) hx]
theorem linesM_crlf (hx : x ≠ []) (y : List UInt8) : linesM (x ++ 13 :: 10 :: y) = x :: linesM y := by
  unfold linesM
  rw [normF_app0 h, show normF false (13 :: 10 :: y) = 10 :: normF false y by simp [normF], linesOf_cons (fun c hc => (h c hc).2) hx]
theorem linesM_cr (hx : x ≠ []) (y : List UInt8) (hy : y.head? ≠ some 10) : linesM (x ++ 13 :: y) = x :: linesM y := by
  unfold linesM
  rw [normF_app0 h, show normF false (13 :: y) = 10 :: normF true y by simp [normF], normF_flag hy, linesOf_cons (fun c hc => (h c hc).2) hx]
end
theorem linesM_empty {c : UInt8} (h : c = 10 ∨ c = 13) (y : List UInt8) : linesM (c :: y) = [] := by
  unfold linesM
  rcases h with rfl | rfl
  · rw [show normF false (10 :: y) = 10 :: normF false y by simp [normF]]; exact linesOf_nil _
  · rw [show normF false (13 :: y) = 10 :: normF true y by simp [normF]]; exact linesOf_nil _
end Go.Proofs.YtokojichjliieaaDoor
namespace Go.Proofs.YtokojichjliieaaDoor

def numA (b : List UInt8) (p n : Nat) : Nat := leN ((b.drop p).take n)
def signA (b : List UInt8) (p : Nat) (x y : UInt8) : Bool := decide (b.getD p 0 = 80 ∧ b.getD (p + 1) 0 = 75 ∧ b.getD (p + 2) 0 = x ∧ b.getD (p + 3) 0 = y)
/-- Does the end record stand at p? -/
def endA (b : List UInt8) (p : Nat) : Bool := signA b p 5 6 && decide (numA b (p + 20) 2 = b.length - p - 22)
def endsA (b : List UInt8) : List Nat := (List.range (b.length - 21)).filter (endA b)
def endP (b : List UInt8) : Option Nat := match endsA b with
  | [p] => some p
  | _ => none
/-- Names: cut at the slashes. -/
def partOk (p : List UInt8) : Bool := !(p == [46]) && !(p == [46, 46])
def partsOk : List (List UInt8) → Bool
  | [] => true
  | [p] => partOk p
  | p :: r => partOk p && !p.isEmpty && partsOk r
def nameA (s : List UInt8) : Bool := !s.isEmpty && decide (s.length ≤ 64) && !s.contains 0 && !s.contains 92 && (match cutL 47 s with
  | [] => false
  | p :: r => !p.isEmpty && partsOk (p :: r))
structure Rec where
  name : List UInt8
  method : Nat
  packed : Nat
  size : Nat
  sum : Nat
  head : Nat
deriving DecidableEq
/-- What of the flags is not left aside. -/
def flagsA (v : Nat) : Nat := v - 2 * (v / 2 % 2) - 4 * (v / 4 % 2) - 2048 * (v / 2048 % 2)
/-- One central record, and the place behind it. -/
def recA (b : List UInt8) (p border : Nat) (seen : List (List UInt8)) : Rz (Rec × Nat) :=
  if border < p + 46 ∨ signA b p 1 2 = false then .err 11
  else if border < p + 46 + numA b (p + 28) 2 + numA b (p + 30) 2 + numA b (p + 32) 2 ∨ numA b (p + 34) 2 ≠ 0 then .err 11
  else if 20 < numA b (p + 6) 2 ∨ flagsA (numA b (p + 8) 2) ≠ 0 ∨ (numA b (p + 10) 2 ≠ 0 ∧ numA b (p + 10) 2 ≠ 8) then .err 12
  else if nameA ((b.drop (p + 46)).take (numA b (p + 28) 2)) = false then .err 13
  else if ((b.drop (p + 46)).take (numA b (p + 28) 2)) ∈ seen then .err 14
  else .ok (⟨(b.drop (p + 46)).take (numA b (p + 28) 2), numA b (p + 10) 2, numA b (p + 20) 4, numA b (p + 24) 4, numA b (p + 16) 4, numA b (p + 42) 4⟩, p + 46 + numA b (p + 28) 2 + numA b (p + 30) 2 + numA b (p + 32) 2)
/-- The records behind those that were read. -/
def centA (b : List UInt8) (border : Nat) : Nat → Nat → List (Rec × Nat) → Rz (List (Rec × Nat) × Nat)
  | 0, p, acc => .ok (acc, p)
  | n + 1, p, acc => (recA b p border (acc.map (·.1.name))).bind fun x => centA b border n x.2 (acc ++ [(x.1, p)])
/-- Where the packed bytes begin. -/
def localA (b : List UInt8) (dir : Nat) (x : Rec × Nat) : Option Nat :=
  if dir < x.1.head + 30 ∨ signA b x.1.head 3 4 = false ∨ (b.drop (x.1.head + 4)).take 24 ≠ (b.drop (x.2 + 6)).take 24 then none
  else if dir < x.1.head + 30 + x.1.name.length + numA b (x.1.head + 28) 2 ∨ dir < x.1.head + 30 + x.1.name.length + numA b (x.1.head + 28) 2 + x.1.packed ∨ (b.drop (x.1.head + 30)).take x.1.name.length ≠ x.1.name then none
  else some (x.1.head + 30 + x.1.name.length + numA b (x.1.head + 28) 2)
def localsA (b : List UInt8) (dir : Nat) : List (Rec × Nat) → Option (List (Rec × Nat))
  | [] => some []
  | x :: r => match localA b dir x, localsA b dir r with
    | some a, some l => some ((x.1, a) :: l)
    | _, _ => none
/-- Do two entries lie on one another? -/
def overA (x y : Rec × Nat) : Bool := decide (x.1.head < y.2 + y.1.packed ∧ y.1.head < x.2 + x.1.packed)
def anyOver : List (Rec × Nat) → Bool
  | [] => false
  | x :: r => r.any (overA x) || anyOver r
/-- All entries, each with the place of its bytes; n entries, the directory from dir to p. -/
def bookA (b : List UInt8) (dir p n : Nat) : Rz (List (Rec × Nat)) :=
  (centA b p n dir []).bind fun x => if x.2 ≠ p then .err 11 else match localsA b dir x.1 with
    | none => .err 15
    | some l => if anyOver l = true then .err 16 else .ok l
def dirA (b : List UInt8) : Rz (List (Rec × Nat)) :=
  if 65536 < b.length then .err 8
  else match endP b with
    | none => .err 9
    | some p => if numA b (p + 4) 4 ≠ 0 ∨ numA b (p + 10) 2 ≠ numA b (p + 8) 2 ∨ 64 < numA b (p + 8) 2 ∨ numA b (p + 16) 4 + numA b (p + 12) 4 ≠ p then .err 10
      else bookA b (numA b (p + 16) 4) p (numA b (p + 8) 2)
theorem getD_numA {b c : List UInt8} {p n : Nat} (h : ∀ i, p ≤ i → i < p + n → b[i]? = c[i]?) : numA b p n = numA c p n := by
  unfold numA
  congr 1
  apply List.ext_getElem?
  intro i
  rw [List.getElem?_take, List.getElem?_take]
  split
  · rw [List.getElem?_drop, List.getElem?_drop]; exact h _ (by omega) (by omega)
  · rfl
theorem piece_eq {b c : List UInt8} {p n : Nat} (h : ∀ i, p ≤ i → i < p + n → b[i]? = c[i]?) : (b.drop p).take n = (c.drop p).take n := by
  apply List.ext_getElem?
  intro i
  rw [List.getElem?_take, List.getElem?_take]
  split
  · rw [List.getElem?_drop, List.getElem?_drop]; exact h _ (by omega) (by omega)
  · rfl
theorem getD_eq {b c : List UInt8} {p : Nat} (h : b[p]? = c[p]?) : b.getD p 0 = c.getD p 0 := by rw [List.getD_eq_getElem?_getD, List.getD_eq_getElem?_getD, h]
theorem signA_eq {b c : List UInt8} {p : Nat} {x y : UInt8} (h : ∀ i, p ≤ i → i < p + 4 → b[i]? = c[i]?) : signA b p x y = signA c p x y := by
  unfold signA
  rw [getD_eq (h p (by omega) (by omega)), getD_eq (h (p + 1) (by omega) (by omega)), getD_eq (h (p + 2) (by omega) (by omega)), getD_eq (h (p + 3) (by omega) (by omega))]
section
variable {b c : List UInt8} {k border : Nat}
/-- What is read hangs on the bytes from k on. -/
theorem recA_eq (h : ∀ i, k ≤ i → b[i]? = c[i]?) {p : Nat} (hp : k ≤ p) (seen : List (List UInt8)) : recA b p border seen = recA c p border seen := by
  have hn : ∀ j n, numA b (p + j) n = numA c (p + j) n := fun j n => getD_numA fun i h1 _ => h i (by omega)
  have hs : signA b p 1 2 = signA c p 1 2 := signA_eq fun i h1 _ => h i (by omega)
  have hd : ∀ n, (b.drop (p + 46)).take n = (c.drop (p + 46)).take n := fun n => piece_eq fun i h1 _ => h i (by omega)
  unfold recA
  simp only [hn, hs, hd]
theorem centA_eq (h : ∀ i, k ≤ i → b[i]? = c[i]?) : ∀ n p acc, k ≤ p → centA b border n p acc = centA c border n p acc := by
  intro n
  induction n with
  | zero => intro p acc _; rfl
  | succ n ih =>
    intro p acc hp
    rw [centA, centA, recA_eq h hp]
    cases hr : recA c p border (acc.map (·.1.name)) with
    | err e => rfl
    | ok x =>
      show centA b border n x.2 _ = centA c border n x.2 _
      have : p ≤ x.2 := by
        unfold recA at hr
        split at hr
        · cases hr
        · split at hr
          · cases hr
          · split at hr
            · cases hr
            · split at hr
              · cases hr
              · split at hr
                · cases hr
                · injection hr with hr
                  rw [← hr]; show p ≤ p + 46 + _ + _ + _; omega
      exact ih _ _ (by omega)
theorem localA_eq (h : ∀ i, k ≤ i → b[i]? = c[i]?) {dir : Nat} {x : Rec × Nat} (hh : k ≤ x.1.head) (hp : k ≤ x.2) : localA b dir x = localA c dir x := by
  have h1 : signA b x.1.head 3 4 = signA c x.1.head 3 4 := signA_eq fun i h1 _ => h i (by omega)
  have h2 : (b.drop (x.1.head + 4)).take 24 = (c.drop (x.1.head + 4)).take 24 := piece_eq fun i h1 _ => h i (by omega)
  have h3 : (b.drop (x.2 + 6)).take 24 = (c.drop (x.2 + 6)).take 24 := piece_eq fun i h1 _ => h i (by omega)
  have h4 : numA b (x.1.head + 28) 2 = numA c (x.1.head + 28) 2 := getD_numA fun i h1 _ => h i (by omega)
  have h5 : (b.drop (x.1.head + 30)).take x.1.name.length = (c.drop (x.1.head + 30)).take x.1.name.length := piece_eq fun i h1 _ => h i (by omega)
  unfold localA
  rw [h1, h2, h3, h4, h5]
end
end Go.Proofs.YtokojichjliieaaDoor
namespace Go.Proofs.YtokojichjliieaaDoor

theorem overA_comm (x y : Rec × Nat) : overA x y = overA y x := by unfold overA; exact decide_eq_decide.2 And.comm
theorem anyOver_iff (l : List (Rec × Nat)) : anyOver l = false ↔ l.Pairwise (fun x y => overA x y = false) := by
  induction l with
  | nil => simp [anyOver]
  | cons x r ih =>
    rw [anyOver, Bool.or_eq_false_iff, List.pairwise_cons, ih, List.any_eq_false]
    simp
/-- Do neighbours lie on one another? -/
def adjA : List (Rec × Nat) → Bool
  | x :: y :: r => decide (y.1.head < x.2 + x.1.packed) || adjA (y :: r)
  | _ => false
theorem adjA_pair {s : List (Rec × Nat)} (hs : s.Pairwise (fun x y => x.1.head ≤ y.1.head)) (hw : ∀ x ∈ s, x.1.head < x.2 + x.1.packed) : adjA s = false ↔ s.Pairwise (fun x y => overA x y = false) := by
  induction s with
  | nil => simp [adjA]
  | cons x r ih =>
    cases r with
    | nil => simp [adjA]
    | cons y r =>
      rw [List.pairwise_cons] at hs
      have ih := ih hs.2 (fun z hz => hw z (List.mem_cons_of_mem _ hz))
      rw [adjA, Bool.or_eq_false_iff, ih, List.pairwise_cons (a := x)]
      have hxy := hs.1 y List.mem_cons_self
      have hwy := hw y (List.mem_cons_of_mem _ List.mem_cons_self)
      constructor
      · rintro ⟨h1, h2⟩
        refine ⟨fun z hz => ?_, h2⟩
        have h1 := of_decide_eq_false h1
        unfold overA
        rw [decide_eq_false_iff_not]
        have hyz : y.1.head ≤ z.1.head := by
          rcases List.mem_cons.1 hz with e | e
          · rw [e]; exact Nat.le_refl _
          · exact (List.pairwise_cons.1 hs.2).1 z e
        omega
      · rintro ⟨h1, h2⟩
        refine ⟨?_, h2⟩
        have := h1 y List.mem_cons_self
        unfold overA at this
        rw [decide_eq_false_iff_not] at this ⊢
        omega
theorem over_sorted {l s : List (Rec × Nat)} (hp : s.Perm l) (hs : s.Pairwise (fun x y => x.1.head ≤ y.1.head)) (hw : ∀ x ∈ l, x.1.head < x.2 + x.1.packed) : adjA s = anyOver l := by
  have h1 := adjA_pair hs (fun x hx => hw x (hp.mem_iff.1 hx))
  have h2 := anyOver_iff l
  have h3 : s.Pairwise (fun x y => overA x y = false) ↔ l.Pairwise (fun x y => overA x y = false) := hp.pairwise_iff (fun {x y} h => by rw [overA_comm]; exact h)
  cases ha : adjA s with
  | false => rw [h2.2 (h3.1 (h1.1 ha))]
  | true =>
    cases hb : anyOver l with
    | true => rfl
    | false => rw [h1.2 (h3.2 (h2.1 hb))] at ha; cases ha
theorem recA_ok {b : List UInt8} {p border q : Nat} {seen : List (List UInt8)} {r : Rec} (h : recA b p border seen = .ok (r, q)) :
    p + 46 ≤ q ∧ q ≤ border ∧ nameA r.name = true ∧ r.name ∉ seen ∧ (r.method = 0 ∨ r.method = 8) := by
  unfold recA at h
  split at h
  · cases h
  · rename_i h1
    split at h
    · cases h
    · rename_i h2
      split at h
      · cases h
      · rename_i h3
        split at h
        · cases h
        · rename_i h4
          split at h
          · cases h
          · rename_i h5
            injection h with h
            injection h with h6 h7
            subst h6
            refine ⟨by omega, by omega, by simpa using h4, h5, ?_⟩
            show numA b (p + 10) 2 = 0 ∨ numA b (p + 10) 2 = 8
            omega
structure CenOk (border : Nat) (p : Nat) (l : List (Rec × Nat)) : Prop where
  names : (l.map (·.1.name)).Nodup
  good : ∀ x ∈ l, nameA x.1.name = true ∧ (x.1.method = 0 ∨ x.1.method = 8) ∧ p ≤ x.2 ∧ x.2 + 46 ≤ border
theorem centA_ok {b : List UInt8} {border p0 : Nat} : ∀ n p acc l q, p0 ≤ p → CenOk border p0 acc → centA b border n p acc = .ok (l, q) → CenOk border p0 l ∧ l.length = acc.length + n ∧ p ≤ q ∧ (∃ t, l = acc ++ t) := by
  intro n
  induction n with
  | zero =>
    intro p acc l q _ hacc h
    rw [centA] at h
    injection h with h
    injection h with h1 h2
    subst h1
    exact ⟨hacc, rfl, by omega, [], by simp⟩
  | succ n ih =>
    intro p acc l q hp hacc h
    rw [centA] at h
    cases hr : recA b p border (acc.map (·.1.name)) with
    | err e => rw [hr] at h; cases h
    | ok x =>
      rw [hr] at h
      obtain ⟨r, q1⟩ := x
      have h : centA b border n q1 (acc ++ [(r, p)]) = .ok (l, q) := h
      obtain ⟨a1, a2, a3, a4, a5⟩ := recA_ok hr
      obtain ⟨h1, h2, h3, t, h4⟩ := ih q1 (acc ++ [(r, p)]) l q (by omega) ⟨by
        rw [List.map_append, List.nodup_append]
        refine ⟨hacc.names, by simp, ?_⟩
        intro x hx y hy e
        simp at hy
        subst e
        subst hy
        exact a4 hx, fun x hx => by
          rcases List.mem_append.1 hx with h | h
          · exact hacc.good x h
          · simp at h; subst h; exact ⟨a3, a5, hp, by show p + 46 ≤ border; omega⟩⟩ h
      refine ⟨h1, by rw [h2, List.length_append]; simp; omega, by omega, (r, p) :: t, by rw [h4]; simp⟩
theorem localA_ok {b : List UInt8} {dir a : Nat} {x : Rec × Nat} (h : localA b dir x = some a) : x.1.head + 30 + x.1.name.length ≤ a ∧ a + x.1.packed ≤ dir ∧ (b.drop (x.1.head + 30)).take x.1.name.length = x.1.name := by
  unfold localA at h
  split at h
  · cases h
  · split at h
    · cases h
    · rename_i h2
      injection h with h
      refine ⟨by omega, by omega, ?_⟩
      exact Decidable.byContradiction fun hn => h2 (.inr (.inr hn))
theorem localsA_ok {b : List UInt8} {dir : Nat} : ∀ (l r : List (Rec × Nat)), localsA b dir l = some r → r.map (·.1) = l.map (·.1) ∧ ∀ x ∈ r, x.1.head + 30 + x.1.name.length ≤ x.2 ∧ x.2 + x.1.packed ≤ dir ∧ (b.drop (x.1.head + 30)).take x.1.name.length = x.1.name := by
  intro l
  induction l with
  | nil => intro r h; injection h with h; subst h; simp
  | cons y l ih =>
    intro r h
    rw [localsA] at h
    cases h1 : localA b dir y with
    | none => rw [h1] at h; cases h
    | some a =>
      cases h2 : localsA b dir l with
      | none => rw [h1, h2] at h; cases h
      | some t =>
        rw [h1, h2] at h
        injection h with h
        subst h
        obtain ⟨i1, i2⟩ := ih t h2
        refine ⟨by simp [i1], fun x hx => ?_⟩
        rcases List.mem_cons.1 hx with e | e
        · subst e; exact localA_ok (x := y) h1
        · exact i2 x e
theorem endP_some {b : List UInt8} {p : Nat} (h : endP b = some p) : p + 22 ≤ b.length ∧ endA b p = true ∧ ∀ q, q + 22 ≤ b.length → endA b q = true → q = p := by
  unfold endP at h
  cases he : endsA b with
  | nil => rw [he] at h; cases h
  | cons x r =>
    cases r with
    | cons y r => rw [he] at h; cases h
    | nil =>
      rw [he] at h
      injection h with h
      subst h
      have hm : ∀ q, q ∈ endsA b ↔ q + 22 ≤ b.length ∧ endA b q = true := fun q => by
        unfold endsA
        rw [List.mem_filter, List.mem_range]
        constructor
        · rintro ⟨h1, h2⟩; exact ⟨by omega, h2⟩
        · rintro ⟨h1, h2⟩; exact ⟨by omega, h2⟩
      have h0 := (hm x).1 (by rw [he]; simp)
      refine ⟨h0.1, h0.2, fun q h1 h2 => ?_⟩
      have := (hm q).2 ⟨h1, h2⟩
      rw [he] at this
      simpa using this
/-- What is known of a directory that is accepted. -/
structure DirOk (b : List UInt8) (p dir : Nat) (l : List (Rec × Nat)) : Prop where
  fin : endP b = some p
  len : l.length ≤ 64
  nums : numA b (p + 4) 4 = 0 ∧ numA b (p + 10) 2 = numA b (p + 8) 2 ∧ numA b (p + 8) 2 = l.length ∧ numA b (p + 16) 4 = dir ∧ dir + numA b (p + 12) 4 = p
  book : bookA b dir p l.length = .ok l
  names : (l.map (·.1.name)).Nodup
  good : ∀ x ∈ l, nameA x.1.name = true ∧ (x.1.method = 0 ∨ x.1.method = 8) ∧ x.1.head + 30 + x.1.name.length ≤ x.2 ∧ x.2 + x.1.packed ≤ dir ∧ (b.drop (x.1.head + 30)).take x.1.name.length = x.1.name
  apart : anyOver l = false
theorem bookA_ok {b : List UInt8} {dir p n : Nat} {l : List (Rec × Nat)} (h : bookA b dir p n = .ok l) : l.length = n ∧ (l.map (·.1.name)).Nodup ∧
    (∀ x ∈ l, nameA x.1.name = true ∧ (x.1.method = 0 ∨ x.1.method = 8) ∧ x.1.head + 30 + x.1.name.length ≤ x.2 ∧ x.2 + x.1.packed ≤ dir ∧ (b.drop (x.1.head + 30)).take x.1.name.length = x.1.name) ∧ anyOver l = false := by
  unfold bookA at h
  cases hc : centA b p n dir [] with
  | err e => rw [hc] at h; cases h
  | ok x =>
    rw [hc] at h
    obtain ⟨t, q⟩ := x
    have h : (if q ≠ p then Rz.err 11 else match localsA b dir t with
      | none => .err 15
      | some l => if anyOver l = true then .err 16 else .ok l) = .ok l := h
    obtain ⟨c1, c2, c3, _⟩ := centA_ok (p0 := dir) n dir [] t q (Nat.le_refl _) ⟨by simp, by simp⟩ hc
    split at h
    · cases h
    · cases hl : localsA b dir t with
      | none => rw [hl] at h; cases h
      | some r =>
        rw [hl] at h
        have h : (if anyOver r = true then Rz.err 16 else .ok r) = .ok l := h
        split at h
        · cases h
        · rename_i ho
          injection h with h
          subst h
          obtain ⟨l1, l2⟩ := localsA_ok t r hl
          have hlen : r.length = t.length := by have := congrArg List.length l1; simpa using this
          have hnm : r.map (·.1.name) = t.map (·.1.name) := by
            have := congrArg (List.map Rec.name) l1
            rw [List.map_map, List.map_map] at this
            exact this
          refine ⟨by rw [hlen, c2]; simp, by rw [hnm]; exact c1.names, fun x hx => ?_, by simpa using ho⟩
          have hx1 : x.1 ∈ t.map (·.1) := by rw [← l1]; exact List.mem_map_of_mem hx
          obtain ⟨y, hy, e⟩ := List.mem_map.1 hx1
          have hg := c1.good y hy
          rw [e] at hg
          exact ⟨hg.1, hg.2.1, l2 x hx⟩
theorem dirA_ok {b : List UInt8} {l : List (Rec × Nat)} (h : dirA b = .ok l) : b.length ≤ 65536 ∧ ∃ p dir, DirOk b p dir l := by
  unfold dirA at h
  split at h
  · cases h
  · rename_i h64
    cases he : endP b with
    | none => rw [he] at h; cases h
    | some p =>
      rw [he] at h
      have h : (if numA b (p + 4) 4 ≠ 0 ∨ numA b (p + 10) 2 ≠ numA b (p + 8) 2 ∨ 64 < numA b (p + 8) 2 ∨ numA b (p + 16) 4 + numA b (p + 12) 4 ≠ p then Rz.err 10
        else bookA b (numA b (p + 16) 4) p (numA b (p + 8) 2)) = .ok l := h
      split at h
      · cases h
      · rename_i hn
        obtain ⟨b1, b2, b3, b4⟩ := bookA_ok h
        exact ⟨by omega, p, numA b (p + 16) 4, ⟨he, by omega, ⟨by omega, by omega, b1.symm, rfl, by omega⟩, by rw [b1]; exact h, b2, b3, b4⟩⟩
theorem endA_eq {b c : List UInt8} {k p : Nat} (hlen : b.length = c.length) (h : ∀ i, k ≤ i → b[i]? = c[i]?) (hp : k ≤ p) : endA b p = endA c p := by
  unfold endA
  rw [signA_eq (b := b) (c := c) (fun i h1 _ => h i (by omega)), getD_numA (b := b) (c := c) (p := p + 20) (fun i h1 _ => h i (by omega)), hlen]
/-- A byte ahead of all entries that is another one. -/
theorem dirA_turn {b c : List UInt8} {k : Nat} (hlen : b.length = c.length) (h : ∀ i, k ≤ i → b[i]? = c[i]?) {l : List (Rec × Nat)} (hb : dirA b = .ok l) (hk : ∀ x ∈ l, k ≤ x.1.head) (hne : l ≠ []) :
    (endP c = none → dirA c = .err 9) ∧ (∀ p, endP c = some p → dirA c = .ok l) := by
  obtain ⟨h64, p, dir, D⟩ := dirA_ok hb
  obtain ⟨x0, hx0⟩ := List.exists_mem_of_ne_nil l hne
  have hg := D.good x0 hx0
  have hk0 := hk x0 hx0
  obtain ⟨n1, n2, n3, n4, n5⟩ := D.nums
  obtain ⟨e1, e2, e3⟩ := endP_some D.fin
  refine ⟨fun hn => by unfold dirA; rw [if_neg (by omega), hn], fun q hq => ?_⟩
  obtain ⟨f1, f2, f3⟩ := endP_some hq
  have hqp : p = q := f3 p (by omega) (by rw [← endA_eq hlen h (by omega)]; exact e2)
  subst hqp
  have nm : ∀ j m, numA c (p + j) m = numA b (p + j) m := fun j m => (getD_numA fun i h1 _ => h i (by omega)).symm
  have key : bookA c dir p l.length = bookA b dir p l.length := by
    have hbk := D.book
    unfold bookA at hbk ⊢
    rw [← centA_eq (b := b) (c := c) (border := p) h l.length dir [] (by omega)]
    cases hc : centA b p l.length dir [] with
    | err e => rfl
    | ok x =>
      obtain ⟨t, qq⟩ := x
      rw [hc] at hbk
      show (if qq ≠ p then Rz.err 11 else _) = (if qq ≠ p then Rz.err 11 else _)
      have hbk : (if qq ≠ p then Rz.err 11 else match localsA b dir t with
        | none => .err 15
        | some l => if anyOver l = true then .err 16 else .ok l) = .ok l := hbk
      have hloc : localsA c dir t = localsA b dir t := by
        obtain ⟨c1, _, _, _⟩ := centA_ok (p0 := dir) l.length dir [] t qq (Nat.le_refl _) ⟨by simp, by simp⟩ hc
        split at hbk
        · cases hbk
        · cases hl : localsA b dir t with
          | none => rw [hl] at hbk; cases hbk
          | some r =>
            rw [hl] at hbk
            have hbk : (if anyOver r = true then Rz.err 16 else .ok r) = .ok l := hbk
            split at hbk
            · cases hbk
            · injection hbk with hbk
              subst hbk
              rw [← hl]
              have hheads : ∀ y ∈ t, k ≤ y.1.head := fun y hy => by
                have l1 := (localsA_ok t r hl).1
                have : y.1 ∈ r.map (·.1) := by rw [l1]; exact List.mem_map_of_mem hy
                obtain ⟨z, hz, e⟩ := List.mem_map.1 this
                rw [← e]; exact hk z hz
              have hpl : ∀ y ∈ t, k ≤ y.2 := fun y hy => by have := (c1.good y hy).2.2.1; omega
              clear hl hbk c1 hc hk hne hb hx0 hg hk0
              have hgen : ∀ t : List (Rec × Nat), (∀ y ∈ t, k ≤ y.1.head) → (∀ y ∈ t, k ≤ y.2) → localsA c dir t = localsA b dir t := by
               intro t
               induction t with
               | nil => intro _ _; rfl
               | cons y t ih =>
                intro hh hp
                rw [localsA, localsA, ← localA_eq h (hh y List.mem_cons_self) (hp y List.mem_cons_self), ih (fun z hz => hh z (List.mem_cons_of_mem _ hz)) (fun z hz => hp z (List.mem_cons_of_mem _ hz))]
              exact hgen t hheads hpl
      rw [hloc]
  unfold dirA
  rw [if_neg (by omega), hq]
  show (if _ then _ else bookA c (numA c (p + 16) 4) p (numA c (p + 8) 2)) = _
  have hl64 := D.len
  rw [nm, nm, nm, nm, nm, if_neg (by omega), n4, n3, key]
  exact D.book
end Go.Proofs.YtokojichjliieaaDoor
namespace Go.Proofs.YtokojichjliieaaDoor
open Go.RowKit
theorem MapT.run_is {κ : Type} {f : κ → Value} {P : Program} {k : TypeId} {w : World} {b n : Nat} {G : κ → Option Value} {t e : TypeId} {z v : Value} (hown : MapT f w P k b n G) (K : Maps.Keyed P k) (ht : P.underlying t = some (.map k e)) (hz : (zeroValue e).run P w = .ok z w) {y : κ} {kl : Lit} (hkey : keyOf P k (f y) = some kl) (hG : (G y).getD z = v) :
    (Instr.lookup t (.map (some b)) (f y) false).run P w = .ok v w := by
  obtain ⟨F, ⟨D, h, r⟩, rG⟩ := hown
  obtain ⟨r1, r2⟩ := r kl (K.key hkey)
  have hF := rG y kl hkey
  obtain ⟨u, ps, hrun, hv⟩ := h.lookup K ht hz (zd := .held z) (zp := []) rfl hkey
  have hv' : u = (F kl).getD z := by
    rw [r1] at hv
    unfold heldR at hv
    simp only [Option.some.injEq, Prod.mk.injEq] at hv
    cases hF : F kl with
    | none => rw [hF] at hv; simpa using hv.1
    | some u => rw [hF] at hv; simpa using hv.1
  rw [hrun, hv', hF, hG]
/-- m[k] = v, as an equation. -/
theorem MapT.storeRun {κ : Type} [DecidableEq κ] {f : κ → Value} {P : Program} {k : TypeId} {w : World} {b n : Nat} {G : κ → Option Value} {t e : TypeId} (h : MapT f w P k b n G) (K : Maps.Keyed P k) (ht : P.underlying t = some (.map k e)) (hinj : ∀ x y, f x = f y → x = y) (hn : n < maxLen) (y : κ) (val : Value) {kl : Lit} (hkey : keyOf P k (f y) = some kl) :
    ∃ w', (Instr.mapUpdate t (.map (some b)) (f y) val).run P w = .ok () w' ∧ w.grownBy w' (some b) ∧ MapT f w' P k b (n + 1) (fun q => if q = y then some val else G q) := by
  obtain ⟨F, ⟨D, h, r⟩, rG⟩ := h
  obtain ⟨w1, h1, h2, h3⟩ := h.update K ht hn hkey (val := val) (d := .held val) (ps := []) rfl
  refine ⟨w1, h1, h3, fun q => if q.sameKey kl = true then some val else F q, ⟨_, h2, fun q hq => ?_⟩, fun x ql hx => ?_⟩
  · by_cases hqk : q = kl
    · subst hqk
      dsimp only
      rw [if_pos (WideAt.sameKey_self hq)]
      exact ⟨fun z => Maps.atKey_put_same h.isMap hq _ z, Maps.has_put_same h.isMap hq _⟩
    · dsimp only
      rw [if_neg (fun h => hqk (WideAt.sameKey_eq h))]
      obtain ⟨r1, r2⟩ := r q hq
      exact ⟨fun z => by rw [Maps.atKey_put_other hqk]; exact r1 z, by rw [Maps.has_put_other hqk]; exact r2⟩
  · dsimp only
    by_cases hqy : x = y
    · subst hqy
      rw [hkey] at hx
      injection hx with hx
      subst hx
      rw [if_pos (WideAt.sameKey_self (K.key hkey)), if_pos rfl]
    · have hne : ¬ ql.sameKey kl = true := fun hs => by
        have := WideAt.sameKey_eq hs
        subst this
        exact hqy (hinj _ _ (K.inj hx hkey))
      rw [if_neg hne, if_neg hqy]
      exact rG x ql hx
end Go.Proofs.YtokojichjliieaaDoor
namespace Go.Proofs.YtokojichjliieaaDoor
/-- The first record of that name, unpacked. -/
def findL (b nm : List UInt8) : List (Rec × Nat) → Rz (List UInt8)
  | [] => .err 21
  | x :: r => if x.1.name = nm then unpA x.1.method x.1.packed x.1.size x.1.sum ((b.drop x.2).take x.1.packed) else findL b nm r
def findP (b nm : List UInt8) : Rz (List UInt8) := (dirA b).bind (findL b nm)
theorem findL_at {b nm : List UInt8} {L : List (Rec × Nat)} {t : Nat} {x : Rec × Nat} (h : L[t]? = some x) : findL b nm (L.drop t) = if x.1.name = nm then unpA x.1.method x.1.packed x.1.size x.1.sum ((b.drop x.2).take x.1.packed) else findL b nm (L.drop (t + 1)) := by
  obtain ⟨h1, h2⟩ := List.getElem?_eq_some_iff.1 h
  rw [List.drop_eq_getElem_cons h1, h2, findL]
end Go.Proofs.YtokojichjliieaaDoor
namespace Go.Proofs.YtokojichjliieaaDoor

/-- The document's way through a name: the part that is being read, the rest. -/
def nmF : List UInt8 → List UInt8 → Bool
  | part, [] => partOk part
  | part, c :: r => if c = 47 then (partOk part && !part.isEmpty && nmF [] r) else if c = 0 ∨ c = 92 then false else nmF (part ++ [c]) r
theorem cutL_form (a : UInt8) (s : List UInt8) : ∃ x xs, cutL a s = x :: xs := by
  cases h : cutL a s with
  | nil => exact absurd h (cutL_ne a s)
  | cons x xs => exact ⟨x, xs, rfl⟩
theorem partsOk_cons {p : List UInt8} {q : List UInt8} {r : List (List UInt8)} : partsOk (p :: q :: r) = (partOk p && !p.isEmpty && partsOk (q :: r)) := rfl
theorem nmF_eq (s : List UInt8) : ∀ part x xs, cutL 47 s = x :: xs → nmF part s = (!s.contains 0 && !s.contains 92 && partsOk ((part ++ x) :: xs)) := by
  induction s with
  | nil =>
    intro part x xs h
    have h : [[]] = x :: xs := h
    injection h with h1 h2
    subst h1 h2
    simp [nmF, partsOk]
  | cons c r ih =>
    intro part x xs h
    obtain ⟨y, ys, hy⟩ := cutL_form 47 r
    rw [nmF]
    rw [cutL] at h
    by_cases hc : c = 47
    · rw [if_pos hc] at h ⊢
      injection h with h1 h2
      subst h1
      rw [hy] at h2
      subst h2
      rw [ih [] y ys hy, List.append_nil, partsOk_cons, List.nil_append]
      subst hc
      simp only [List.contains_cons]
      have e1 : ((0 : UInt8) == 47) = false := by decide
      have e2 : ((92 : UInt8) == 47) = false := by decide
      rw [e1, e2, Bool.false_or, Bool.false_or]
      cases partOk part <;> cases part.isEmpty <;> cases r.contains 0 <;> cases r.contains 92 <;> simp
    · rw [if_neg hc] at h ⊢
      rw [hy] at h
      injection h with h1 h2
      subst h1 h2
      by_cases hb : c = 0 ∨ c = 92
      · rw [if_pos hb]
        rcases hb with e | e <;> subst e <;> simp
      · rw [if_neg hb, ih (part ++ [c]) y ys hy, List.append_assoc, List.singleton_append]
        simp only [List.contains_cons]
        have e1 : ((0 : UInt8) == c) = false := by rw [beq_eq_false_iff_ne]; exact fun e => hb (.inl e.symm)
        have e2 : ((92 : UInt8) == c) = false := by rw [beq_eq_false_iff_ne]; exact fun e => hb (.inr e.symm)
        rw [e1, e2, Bool.false_or, Bool.false_or]
theorem nameA_nmF (s : List UInt8) : nameA s = (!s.isEmpty && decide (s.length ≤ 64) && nmF [] s) := by
  obtain ⟨x, xs, hx⟩ := cutL_form 47 s
  rw [nmF_eq s [] x xs hx, List.nil_append]
  unfold nameA
  rw [hx]
  cases s with
  | nil => rfl
  | cons c r =>
    show (true && decide _ && _ && _ && (!x.isEmpty && partsOk (x :: xs))) = (true && decide _ && (_ && _ && partsOk (x :: xs)))
    have hxe : x.isEmpty = true → partsOk (x :: xs) = false := by
      intro he
      have hx0 : x = [] := List.isEmpty_iff.1 he
      subst hx0
      rw [cutL] at hx
      by_cases hc : c = 47
      · rw [if_pos hc] at hx
        injection hx with _ h2
        obtain ⟨y, ys, hy⟩ := cutL_form 47 r
        rw [← h2, hy, partsOk_cons]; rfl
      · rw [if_neg hc] at hx
        obtain ⟨y, ys, hy⟩ := cutL_form 47 r
        rw [hy] at hx
        injection hx with h1 _
        cases h1
    cases hp : partsOk (x :: xs) with
    | false => simp
    | true =>
      cases he : x.isEmpty with
      | true => rw [hxe he] at hp; cases hp
      | false => simp [Bool.and_assoc]
/-- What a name begins with. -/
theorem nmF_first {c : UInt8} {r : List UInt8} (h : nmF [] (c :: r) = true) : c ≠ 47 := by
  intro e
  rw [nmF, if_pos e] at h
  simp at h
theorem flags_parts (v : Nat) : flagsA v = v - 2 * (v / 2 % 2) - 4 * (v / 4 % 2) - 2048 * (v / 2048 % 2) := rfl
end Go.Proofs.YtokojichjliieaaDoor
namespace Go.Proofs.YtokojichjliieaaDoor
open Go.RowKit
open Go.Lib (replaceAll countB splitB splitK splitB_data splitB_all countB_le)

/-- A text's cell. -/
def sV (x : List UInt8) : Value := .string ⟨x.toArray⟩
theorem sV_one (x : List UInt8) : (sV x).oneCell' = true := rfl
theorem str_info : ∃ i, Tryd.prog.info? 9 = some i ∧ i.zero = some (.string .empty) ∧ i.size = 1 ∧ i.bytes = 16 := info_parts (by kernel_rfl)
theorem strTy : ETy Tryd.prog 70 9 (.string .empty) 1 16 := ⟨Tryd.underlying70, str_info, rfl, by decide⟩
/-- What Split lays. -/
theorem split_row (s : ByteArray) (a : UInt8) : countB s ⟨#[a]⟩ + 1 = (cutL a s.data.toList).length ∧ (splitB ⟨#[a]⟩ 0 (countB s ⟨#[a]⟩) s).map Value.string = (cutL a s.data.toList).map sV := by
  have h := splitB_data ⟨#[a]⟩ 0 (countB s ⟨#[a]⟩) s
  have e : splitK (⟨#[a]⟩ : ByteArray).data.toList 0 (countB s ⟨#[a]⟩) s.data.toList = cutL a s.data.toList := split_cut a s.data.toList
  rw [e] at h
  refine ⟨?_, ?_⟩
  · rw [← h, List.length_map, splitB_all ⟨#[a]⟩ (Nat.le_refl 1) 0 _ s rfl]
  · rw [← h, List.map_map]; rfl
theorem idx_has {l : List UInt8} {x : UInt8} (h : l.contains x = true) : 0 ≤ Lib.indexByte l x := by
  have hge := Lib.indexByte_ge l x
  rcases Decidable.em (Lib.indexByte l x = -1) with h1 | h1
  · obtain ⟨i, hi⟩ := List.getElem?_of_mem (List.contains_iff_mem.1 h)
    exact absurd hi (Lib.indexByte_none h1 i)
  · omega
theorem idx_lacks {l : List UInt8} {x : UInt8} (h : l.contains x = false) : Lib.indexByte l x = -1 := by
  have hge := Lib.indexByte_ge l x
  rcases Decidable.em (Lib.indexByte l x = -1) with h1 | h1
  · exact h1
  · obtain ⟨hi, _⟩ := Lib.indexByte_some (l := l) (c := x) (o := (Lib.indexByte l x).toNat) (by omega)
    have := List.contains_iff_mem.2 (List.mem_of_getElem? hi)
    rw [h] at this; cases this
end Go.Proofs.YtokojichjliieaaDoor
namespace Go.Proofs.YtokojichjliieaaDoor
open Go.RowKit
/-- string(b) of whatever row of bytes. -/
theorem run_conv_str {P : Program} {w : World} {B : Nat} {A : Option Addr} {l : List UInt8} {n c : Nat} {src dst e : TypeId} (hs : P.underlying src = some (.slice e)) (he : P.underlying e = some (.int .u8)) (hd : P.underlying dst = some .string)
    (hn : l.length = n) (hr : RB w B A l) : (convert src dst (.slice A n c)).run P w = .ok (.string ⟨l.toArray⟩) w := by
  subst hn
  rcases A with _ | ad
  · have hl : l = [] := by
      rcases Decidable.em (l.map bV = []) with h | h
      · simpa using h
      · obtain ⟨_, h', _⟩ := hr h; cases h'
    subst hl
    exact Lib.run_convert_nil_bytes w src dst e c hs he hd
  · refine run_convert_bytes_back w src dst e ad c l hs he hd fun j hj => ?_
    obtain ⟨ad', h', _, hc⟩ := hr (fun h => by simp at h; subst h; simp at hj)
    injection h' with h'
    subst h'
    exact hc j _ (by simp [hj]; rfl)
end Go.Proofs.YtokojichjliieaaDoor
namespace Go.Proofs.YtokojichjliieaaDoor
section
variable {P : Program} {ops : Array Oper} {md : Region.Mode} {Q : Exit → Act → World → Prop} {F : Nat → World}

/-- In every world of the row the operation leaves v, and that very world. -/
def SameAt (P : Program) (o : Oper) (a : Act) (F : Nat → World) (v : Value) : Prop := ∀ n, Oper.quietUpon P (fun w' => w' = F n) (F n) v ((execOp a.eval o).run P (F n))
def InRow (F : Nat → World) (w : World) : Prop := ∃ n, w = F n
def YldS (P : Program) (ops : Array Oper) (F : Nat → World) (o : Oper) (v : Value) (a : Act) : Prop :=
  (Region.wanted o (yielded ops a.tmps) = true ∧ SameAt P o a F v) ∨ (Region.wanted o (yielded ops a.tmps) = false ∧ v = undef)
theorem wp_of_sameAt {o : Oper} {a : Act} {v : Value} {K : Act → World → Prop} {n : Nat} (h : SameAt P o a F v) (hk : K (a.put o.dst v) (F n)) : o.wp P a (F n) K Q := by
  have h3 := h n
  unfold Oper.wp
  generalize (execOp a.eval o).run P (F n) = r at *
  cases r with
  | ok x w' =>
    cases x <;> simp only [Oper.quietUpon] at h3 <;> simp only [Oper.upon]
    case value u =>
      obtain ⟨e1, e2⟩ := h3
      rw [e1, e2]; exact hk
    case skip =>
      obtain ⟨e1, e2⟩ := h3
      rw [e1, ← e2]; exact hk
    case enter f args =>
      obtain ⟨e1, hc⟩ := h3
      rw [e1]
      exact hc.mono fun e w'' ⟨he, hw''⟩ => by subst he; subst hw''; exact hk
  | halt x w' => simp only [Oper.quietUpon] at h3
theorem YldS.wpOp {i : Nat} {o : Oper} {v : Value} {a : Act} (hi : ops[i]? = some o) (hy : YldS P ops F o v a) {K : Act → World → Prop} {w : World} (hS : InRow F w) (h : K (a.put o.dst v) w) : wpOp P ops Q i K a w := by
  obtain ⟨n, rfl⟩ := hS
  unfold Go.wpOp
  simp only [hi]
  rcases hy with ⟨hw, hv⟩ | ⟨hw, rfl⟩
  · simp only [hw, if_true]; exact .inl (wp_of_sameAt hv h)
  · simp only [hw, Bool.false_eq_true, if_false]; exact h
theorem YldS.of_same {o : Oper} {v : Value} {a a' : Act} (hy : YldS P ops F o v a) (he : execOp a'.eval o = execOp a.eval o)
    (hw : Region.wanted o (yielded ops a'.tmps) = Region.wanted o (yielded ops a.tmps)) : YldS P ops F o v a' := by
  unfold YldS SameAt at *
  rw [he, hw]
  exact hy
theorem wpOp_putS {j : Nat} {oi oj : Oper} {v : Value} (hj : ops[j]? = some oj) (hap : oi.apart ops oj = true)
    (hsi : ∀ cs b, oi.op ≠ .select cs b) (hsj : ∀ cs b, oj.op ≠ .select cs b)
    (hQ : ∀ c a w d u, Q (.panic c) (a.put d u) w → Q (.panic c) a w) {K : Act → World → Prop} {a : Act} {w : World}
    (hy : YldS P ops F oi v a) (h : wpOp P ops Q j K (a.put oi.dst v) w) :
    wpOp P ops Q j (fun a' w' => YldS P ops F oi v a' ∧ K (a'.put oi.dst v) w') a w := by
  obtain ⟨h1, h2, h3⟩ := Oper.apart_spec hap
  have keep : ∀ (a : Act), YldS P ops F oi v a → ∀ u, YldS P ops F oi v (a.put oj.dst u) := fun a hy u =>
    hy.of_same (execOp_put oi hsi a oj.dst u h3) (wanted_put oi a oj.dst u h3)
  have keepD : ∀ d, YldS P ops F oi v { a with defers := d :: a.defers } := fun d => hy.of_same rfl rfl
  unfold wpOp at *
  simp only [hj] at *
  rw [wanted_put oj a oi.dst v h1] at h
  split
  · rename_i hw
    simp only [hw, if_true] at h
    rcases h with h | ⟨hasks, hlets⟩
    case inr => exact .inr ⟨by unfold Oper.asks at *; rw [execOp_put oj hsj a oi.dst v h1] at hasks; exact hasks, hlets⟩
    refine .inl ?_
    unfold Oper.wp at *
    rw [execOp_put oj hsj a oi.dst v h1] at h
    generalize (execOp a.eval oj).run P w = r at *
    cases r with
    | ok n w' =>
      cases n <;> simp only [Oper.upon] at h ⊢
      case value u => exact ⟨keep a hy u, by rw [← Act.put_comm a v u h2]; exact h⟩
      case skip => exact ⟨keep a hy _, by rw [← Act.put_comm a v undef h2]; exact h⟩
      case defer d =>
        refine ⟨keep _ (keepD d) _, ?_⟩
        rw [← Act.put_comm _ v undef h2, ← Act.put_defers]
        exact h
      case enter f args =>
        refine Calls.mono h fun e w'' he => ?_
        cases e with
        | returned u => exact ⟨keep a hy u, by rw [← Act.put_comm a v u h2]; exact he⟩
        | panicked c => exact hQ _ _ _ _ _ he
        | outgrown => exact he
      case row row args => exact Rows.mono h fun u w'' he => ⟨keep a hy u, by rw [← Act.put_comm a v u h2]; exact he⟩
    | halt x w' =>
      cases x <;> simp only [Oper.upon] at h ⊢
      case panic u => exact hQ _ _ _ _ _ h
  · rename_i hw
    simp only [hw] at h
    exact ⟨keep a hy _, by rw [← Act.put_comm a v undef h2]; exact h⟩
theorem wpAnyS_first {i : Nat} {oi : Oper} {v : Value} (hi : ops[i]? = some oi) (hsel : ∀ (j : Nat) (o : Oper) cs b, ops[j]? = some o → o.op ≠ .select cs b)
    (hQ : ∀ c a w d u, Q (.panic c) (a.put d u) w → Q (.panic c) a w) :
    ∀ (fuel : Nat) (listed : Array Bool) (a : Act) (w : World),
      (∀ j oj, ops[j]? = some oj → j ≠ i → listed.getD j true = false → (∀ e ∈ oj.after, Region.binds md e = true → e.on ≠ i) → oi.apart ops oj = true) →
      i ∈ Region.ready md ops listed → YldS P ops F oi v a → InRow F w →
      wpAnyH P md ops Q (InRow F) fuel (listed.setIfInBounds i true) (a.put oi.dst v) w → wpAnyH P md ops Q (InRow F) (fuel + 1) listed a w := by
  intro fuel
  induction fuel with
  | zero =>
    intro listed a w _ hr hy hS H
    refine ⟨fun h => (by rw [h] at hr; cases hr), fun j hj => ?_⟩
    by_cases hji : j = i
    · subst hji; exact hy.wpOp hi hS ⟨hS, H⟩
    · have := ready_mono hj hji
      rw [H.1] at this
      cases this
  | succ fuel ih =>
    intro listed a w hfree hr hy hS H
    refine ⟨fun h => (by rw [h] at hr; cases hr), fun j hj => ?_⟩
    by_cases hji : j = i
    · subst hji; exact hy.wpOp hi hS ⟨hS, H⟩
    · have h1 := H.2 j (ready_mono hj hji)
      obtain ⟨hjun, oj, hoj, hall⟩ := mem_ready.1 hj
      have hnot : ∀ e ∈ oj.after, Region.binds md e = true → e.on ≠ i := fun e he hb heq => by
        have h1 := hall e he hb
        have h0 := (mem_ready.1 hr).1
        rw [heq] at h1
        rcases Nat.lt_or_ge i listed.size with h' | h'
        · simp [h'] at h0 h1; rw [h0] at h1; cases h1
        · simp [Array.getElem?_eq_none h'] at h1
      have h2 := wpOp_putS hoj (hfree j oj hoj hji hjun hnot) (fun cs b => hsel i oi cs b hi) (fun cs b => hsel j oj cs b hoj) hQ hy h1
      have hfree' : ∀ k ok, ops[k]? = some ok → k ≠ i → (listed.setIfInBounds j true).getD k true = false →
          (∀ e ∈ ok.after, Region.binds md e = true → e.on ≠ i) → oi.apart ops ok = true := fun k ok hk hki hun hno => by
        refine hfree k ok hk hki ?_ hno
        by_cases hjk : j = k
        · subst hjk; exact hjun
        · rw [getD_set_ne true hjk] at hun; exact hun
      refine wpOp_mono (fun a' w' h3 => ⟨h3.2.1, ih (listed.setIfInBounds j true) a' w' hfree' (ready_mono hr (Ne.symm hji)) h3.1 h3.2.1 ?_⟩) h2
      rw [Array.setIfInBounds_comm _ _ hji]
      exact h3.2.2
/-- The walk of the head, in the order of the text. -/
def wpSame (P : Program) (ops : Array Oper) (F : Nat → World) (R : Act → Prop) : List Oper → Act → Prop
  | [], a => R a
  | o :: rest, a => if Region.wanted o (yielded ops a.tmps) then ∃ v, SameAt P o a F v ∧ wpSame P ops F R rest (a.put o.dst v) else wpSame P ops F R rest (a.put o.dst undef)
theorem wpSame_nil {R : Act → Prop} {a : Act} (h : R a) : wpSame P ops F R [] a := h
theorem wpSame_step {R : Act → Prop} {a : Act} {o : Oper} {rest : List Oper}
    (h : ∀ K : Act → Prop, (∀ a, wpSame P ops F R rest a → K a) → if Region.wanted o (yielded ops a.tmps) then ∃ v, SameAt P o a F v ∧ K (a.put o.dst v) else K (a.put o.dst undef)) : wpSame P ops F R (o :: rest) a :=
  h _ (fun _ h => h)
/-- A copy of a slot. -/
theorem wpSame_move {R : Act → Prop} {a : Act} {o : Oper} {rest : List Oper} (x : Operand) (h : o.op = .move x) (hw : o.guard = none) (hk : wpSame P ops F R rest (a.put o.dst (a.eval x))) : wpSame P ops F R (o :: rest) a :=
  wpSame_step fun K hK => by
    rw [if_pos (by simp [Region.wanted, hw])]
    exact ⟨_, fun n => by rw [BigFrame.run_move x h]; exact ⟨rfl, rfl⟩, hK _ hk⟩
def headB (md : Region.Mode) (ops : Array Oper) : Nat → Nat → Array Bool → Bool
  | 0, _, _ => true
  | c + 1, i, l => Region.free md ops l i && (Region.ready md ops l).contains i && headB md ops c (i + 1) (l.setIfInBounds i true)
def marks : Nat → Nat → Array Bool → Array Bool
  | 0, _, l => l
  | c + 1, i, l => marks c (i + 1) (l.setIfInBounds i true)
theorem wpAnyH_head (hs : Region.noSelect ops = true) (hQ : ∀ c a w d u, Q (.panic c) (a.put d u) w → Q (.panic c) a w) {f : Nat} {w : World} (hS : InRow F w) :
    ∀ (c i : Nat) (listed : Array Bool) (a : Act) (rest : List Oper), (∀ j, j < c → ops[i + j]? = rest[j]?) → rest.length = c → headB md ops c i listed = true →
      wpSame P ops F (fun a' => wpAnyH P md ops Q (InRow F) f (marks c i listed) a' w) rest a → wpAnyH P md ops Q (InRow F) (f + c) listed a w := by
  intro c
  induction c with
  | zero =>
    intro i listed a rest _ hl _ h
    have : rest = [] := List.eq_nil_of_length_eq_zero hl
    subst this; exact h
  | succ c ih =>
    intro i listed a rest ho hl hb h
    cases rest with
    | nil => cases hl
    | cons o rest =>
      simp only [headB, Bool.and_eq_true] at hb
      obtain ⟨⟨h1, h2⟩, h3⟩ := hb
      have hi : ops[i]? = some o := by have := ho 0 (by omega); simpa using this
      have ho' : ∀ j, j < c → ops[i + 1 + j]? = rest[j]? := fun j hj => by
        have := ho (j + 1) (by omega)
        rw [show i + 1 + j = i + (j + 1) by omega, this]; rfl
      have hl' : rest.length = c := by simpa using hl
      have key : ∀ v, YldS P ops F o v a → wpSame P ops F (fun a' => wpAnyH P md ops Q (InRow F) f (marks c (i + 1) (listed.setIfInBounds i true)) a' w) rest (a.put o.dst v) → wpAnyH P md ops Q (InRow F) (f + (c + 1)) listed a w := fun v hy hk => by
        rw [← Nat.add_assoc]
        exact wpAnyS_first hi (Region.noSelect_spec hs) hQ _ _ _ _ (Region.free_spec hi h1) (by simpa using h2) hy hS (ih (i + 1) _ _ rest ho' hl' h3 hk)
      unfold wpSame at h
      by_cases hw : Region.wanted o (yielded ops a.tmps) = true
      · simp only [hw, if_true] at h
        obtain ⟨v, hv, hk⟩ := h
        exact key v (.inl ⟨hw, hv⟩) hk
      · simp only [hw] at h
        exact key undef (.inr ⟨by simpa using hw, rfl⟩) h
/-- What is left, one by one: behind each the world is one of the row. -/
def wpChain (P : Program) (ops : Array Oper) (F : Nat → World) (Q : Exit → Act → World → Prop) : List Oper → Act → World → Prop
  | [], a, w => Q .normal a w
  | o :: rest, a, w => if Region.wanted o (yielded ops a.tmps) then o.wp P a w (fun a' w' => InRow F w' ∧ wpChain P ops F Q rest a' w') Q else InRow F w ∧ wpChain P ops F Q rest (a.put o.dst undef) w
theorem wpChain_nil {a : Act} {w : World} (h : Q .normal a w) : wpChain P ops F Q [] a w := h
theorem wpChain_step {o : Oper} {rest : List Oper} {a : Act} {w : World} (hg : o.guard = none)
    (h : ∀ K : Act → World → Prop, (∀ a w, InRow F w → wpChain P ops F Q rest a w → K a w) → o.wp P a w K Q) : wpChain P ops F Q (o :: rest) a w := by
  unfold wpChain
  rw [if_pos (by simp [Region.wanted, hg])]
  exact h _ fun _ _ h1 h2 => ⟨h1, h2⟩
def chainB (md : Region.Mode) (ops : Array Oper) : Nat → Nat → Array Bool → Bool
  | 0, _, l => (Region.ready md ops l).isEmpty
  | c + 1, i, l => Region.ready md ops l == [i] && chainB md ops c (i + 1) (l.setIfInBounds i true)
theorem wpAnyH_chain : ∀ (c i : Nat) (listed : Array Bool) (a : Act) (w : World) (rest : List Oper), (∀ j, j < c → ops[i + j]? = rest[j]?) → rest.length = c → chainB md ops c i listed = true →
    wpChain P ops F Q rest a w → wpAnyH P md ops Q (InRow F) c listed a w := by
  intro c
  induction c with
  | zero =>
    intro i listed a w rest _ hl hb h
    have : rest = [] := List.eq_nil_of_length_eq_zero hl
    subst this
    exact wpAnyH_done (by simpa [chainB] using hb) h _
  | succ c ih =>
    intro i listed a w rest ho hl hb h
    cases rest with
    | nil => cases hl
    | cons o rest =>
      simp only [chainB, Bool.and_eq_true, beq_iff_eq] at hb
      have hi : ops[i]? = some o := by have := ho 0 (by omega); simpa using this
      have ho' : ∀ j, j < c → ops[i + 1 + j]? = rest[j]? := fun j hj => by
        have := ho (j + 1) (by omega)
        rw [show i + 1 + j = i + (j + 1) by omega, this]; rfl
      have hl' : rest.length = c := by simpa using hl
      refine wpAnyH_all hb.1 (by simp) fun k hk => ?_
      have : k = i := by simpa using hk
      subst this
      unfold wpChain at h
      unfold wpOp
      simp only [hi]
      by_cases hw : Region.wanted o (yielded ops a.tmps) = true
      · simp only [hw, if_true] at h ⊢
        exact .inl (Oper.wp_mono (fun a' w' h' => ⟨h'.1, ih (k + 1) _ _ _ rest ho' hl' hb.2 h'.2⟩) h)
      · simp only [hw] at h ⊢
        exact ⟨h.1, ih (k + 1) _ _ _ rest ho' hl' hb.2 h.2⟩
/-- A region: the first n operations are quiet, in every world of the row; what is left comes in its order. -/
theorem wp_region_same {id : Nat} {a : Act} {w : World} {l : List Oper} (n : Nat) (F : Nat → World) (hm : P.follows .mixedOrders = true) (hs : Region.noSelect l.toArray = true)
    (hB : headB .any l.toArray n 0 (Array.replicate l.toArray.size false) = true) (hC : chainB .any l.toArray (l.length - n) n (marks n 0 (Array.replicate l.toArray.size false)) = true) (hn : n ≤ l.length) (hS : w.drew = F 0) (hQ : ∀ c a w d u, Q (.panic c) (a.put d u) w → Q (.panic c) a w)
    (h : wpSame P l.toArray F (fun a' => wpChain P l.toArray F Q (l.drop n) a' (F 0)) (l.take n) a) : (Code.region id l.toArray true).wp P Q a w := by
  rw [← hS] at h
  have hS' : InRow F w.drew := ⟨0, hS⟩
  refine wp_region_held_drew (S := InRow F) hm hS' (fun _ => ?_)
  have hmono : ∀ (rest : List Oper) (a : Act), wpSame P l.toArray F (fun a' => wpChain P l.toArray F Q (l.drop n) a' w.drew) rest a →
      wpSame P l.toArray F (fun a' => wpAnyH P .any l.toArray Q (InRow F) (l.length - n) (marks n 0 (Array.replicate l.toArray.size false)) a' w.drew) rest a := by
    intro rest
    induction rest with
    | nil => intro a h; exact wpAnyH_chain (l.length - n) n _ a w.drew (l.drop n) (fun j hj => by simp) (by simp) hC h
    | cons o rest ih =>
      intro a h
      unfold wpSame at h ⊢
      split
      · rename_i hw
        simp only [hw, if_true] at h
        obtain ⟨v, hv, hk⟩ := h
        exact ⟨v, hv, ih _ hk⟩
      · rename_i hw
        simp only [hw] at h
        exact ih _ h
  have := wpAnyH_head (md := .any) (f := l.length - n) hs hQ hS' n 0 (Array.replicate l.toArray.size false) a (l.take n) (fun j hj => by simp [hj]) (by simp; omega) hB (hmono _ _ h)
  rwa [show l.length - n + n = l.toArray.size by simp; omega] at this
end
/-- The worlds of a region that ends in one store. -/
def cellF (W : World) (a : Addr) (v : Value) : Nat → World
  | 0 => W
  | _ => W.setCell a v
/-- The worlds of a region that makes one struct: ahead, behind its making, behind its store. -/
def rowF (W : World) (t : TypeId) (z cs : Array Value) : Nat → World
  | 0 => W
  | 1 => W.alloc (.cells z t)
  | _ => (W.alloc (.cells z t)).setRow W.heap.size cs
open Go.RowKit in
theorem rowF_below (W : World) (t : TypeId) (z cs : Array Value) (n : Nat) : Below W.heap.size W (rowF W t z cs n) := by
  have h1 : Below W.heap.size W (W.alloc (.cells z t)) := bl_alloc (Below.refl _ _) (Nat.le_refl _) _
  match n with
  | 0 => exact Below.refl _ _
  | 1 => exact h1
  | _ + 2 => exact bl_setRow h1 (Nat.le_refl _) cs
end Go.Proofs.YtokojichjliieaaDoor
namespace Go.Proofs.YtokojichjliieaaDoor
open Go.RowKit

def Apt (a b : Value) : Prop := a.ownBlock = none ∨ b.ownBlock = none ∨ a.ownBlock ≠ b.ownBlock
theorem Apt.symm {a b : Value} (h : Apt a b) : Apt b a := by
  rcases h with h | h | h
  · exact .inr (.inl h)
  · exact .inl h
  · exact .inr (.inr fun e => h e.symm)
structure Tri {α : Type} (f : α → Value) (w : World) (base : Nat) (e : TypeId) (v1 : Value) (l1 : List α) (v2 : Value) (l2 : List α) (v3 : Value) (l3 : List α) : Prop where
  o1 : OwL f w base e v1 l1
  o2 : OwL f w base e v2 l2
  o3 : OwL f w base e v3 l3
  a12 : Apt v1 v2
  a13 : Apt v1 v3
  a23 : Apt v2 v3
section
variable {α : Type} {f : α → Value} {w w' : World} {base : Nat} {e : TypeId} {v1 v2 v3 v' : Value} {l1 l2 l3 n : List α}
theorem Tri.nil : Tri f w base e (.slice none 0 0) [] (.slice none 0 0) [] (.slice none 0 0) [] :=
  ⟨OwL.nil, OwL.nil, OwL.nil, .inl rfl, .inl rfl, .inl rfl⟩
theorem Tri.rot (h : Tri f w base e v1 l1 v2 l2 v3 l3) : Tri f w base e v2 l2 v3 l3 v1 l1 := ⟨h.o2, h.o3, h.o1, h.a23, h.a12.symm, h.a13.symm⟩
theorem Tri.alloc (h : Tri f w base e v1 l1 v2 l2 v3 l3) (o : Obj) : Tri f (w.alloc o) base e v1 l1 v2 l2 v3 l3 := ⟨h.o1.alloc o, h.o2.alloc o, h.o3.alloc o, h.a12, h.a13, h.a23⟩
theorem apt_kept {v : Value} {l : List α} (ho : OwL f w base e v l) (ha : Apt v1 v) (g : w.grownBy w' v1.ownBlock) : OwL f w' base e v l := by
  refine World.ownsRow.kept ho g ?_
  rcases ha with h | h | h
  · rw [h]
    cases hv : v.ownBlock with
    | none => exact .inl rfl
    | some b => exact .inr (by simp)
  · exact .inl h
  · exact .inr fun e => h e.symm
theorem apt_new {v : Value} {l : List α} (ho : OwL f w base e v l) (ha : Apt v1 v) (k : v'.ownBlock = v1.ownBlock ∨ v'.ownBlock = some w.heap.size) : Apt v' v := by
  rcases k with k | k
  · unfold Apt; rw [k]; exact ha
  · unfold Apt
    rw [k]
    cases hv : v.ownBlock with
    | none => exact .inr (.inl rfl)
    | some b =>
      have := (World.ownsRow.lt ho b hv).2
      exact .inr (.inr (by intro e; injection e with e; omega))
theorem Tri.app (h : Tri f w base e v1 l1 v2 l2 v3 l3) (o : OwL f w' base e v' (l1 ++ n)) (g : w.grownBy w' v1.ownBlock) (k : v'.ownBlock = v1.ownBlock ∨ v'.ownBlock = some w.heap.size) :
    Tri f w' base e v' (l1 ++ n) v2 l2 v3 l3 := ⟨o, apt_kept h.o2 h.a12 g, apt_kept h.o3 h.a13 g, apt_new h.o2 h.a12 k, apt_new h.o3 h.a13 k, h.a23⟩
end
end Go.Proofs.YtokojichjliieaaDoor
namespace Go.Proofs.YtokojichjliieaaDoor
open Go.RowKit
section
variable {P : Program} (w : World)
theorem run_append_mk (t u ty e : TypeId) (i : TypeInfo) (z : Value) (ht : P.underlying t = some (.slice e)) (hu : P.underlying u = some (.int .i64)) (hi : P.info? e = some i) (hz : i.zero = some z) (hs1 : i.size = 1)
    (b : Addr) (sLen sCap : Nat) (olds : List Value) (hlo : olds.length = sLen * i.size) (holds : ∀ j v, olds[j]? = some v → w.cell? (b.add j) = some v)
    (k : Nat) (hk : 0 < k) (hkb : k ≤ 1000000000) (hby : i.bytes ≤ 1000) (hg : sCap < sLen + k) (h63 : ((sLen + k : Nat) : Int) ≤ 9223372036854775807) (hfit : Builtin.nextslicecap (sLen + k) sCap * i.bytes ≤ 281474976710656) :
    (Builtin.append_ #[t, u] ty #[.slice (some b) sLen sCap, .int .i64 (k : Int)]).run P w =
      .ok (.slice (some ⟨w.heap.size, 0, none⟩) (sLen + k) (grownCap w (sLen + k) sCap e))
        (w.drew.alloc (.cells (olds.toArray ++ Builtin.zeroCells z.cells k ++ Builtin.zeroCells z.cells (grownCap w (sLen + k) sCap e - (sLen + k))) e)) := by
  have hn : ¬ (sLen + k ≤ sCap) := by omega
  have h63' : ¬ (9223372036854775807 < ((sLen : Int) + (k : Int))) := by omega
  have h48' : ¬ (281474976710656 < Builtin.nextslicecap (sLen + k) sCap * i.bytes) := by omega
  have hwr : IntKind.i64.wrap (k : Int) = (k : Int) := IntWalk.i64_in _ (by omega)
  have hneg : ¬ (k : Int) < 0 := by omega
  have hkk : (k : Int) * (i.bytes : Int) ≤ 281474976710656 := by
    have : k * i.bytes ≤ 1000000000 * 1000 := Nat.mul_le_mul hkb hby
    have h2 : ((k * i.bytes : Nat) : Int) ≤ 1000000000000 := by omega
    rw [Int.natCast_mul] at h2; omega
  have hkk' : ¬ (281474976710656 < (k : Int) * (i.bytes : Int)) := by omega
  have hk0 : ¬ k = 0 := by omega
  have hmax : max (k : Int) 0 = (k : Int) := by omega
  have hfo := run_firstCells_some (P := P) w.drew i.size sLen b sLen sCap olds hlo (by simpa using holds)
  rw [hs1] at hfo
  simp [Builtin.append_, run_underlying ht, run_underlying hu, sizeOf, typeInfo, zeroValue, hi, hz, hs1, asInt, asIntOf, hmax, hwr, hneg, hkk', hk0, hn, h63', h48', Question.forced, hfo, newRow, grownCap]
theorem zeroCells_one (z : Value) (n : Nat) : (Builtin.zeroCells #[z] n).toList = List.replicate n z := by
  unfold Builtin.zeroCells
  apply List.ext_getElem?
  intro i
  by_cases h : i < n
  · simp [h, Nat.mod_one]
  · simp [h]
theorem wpList_appMk {ops : Array Oper} {rest : List Oper} {o : Oper} {a : Act} {Q : Exit → Act → World → Prop} (hgd : o.guard = none) (s x : Operand) {t u e : TypeId}
    (ho : o.op = .call { callee := .builtin .append, args := #[s, x], argTypes := #[t, u] }) (hE : ETy P t e (.int .u8 0) 1 1) (hu : P.underlying u = some (.int .i64))
    (l : List UInt8) (ad : Addr) (n : Nat) (hl : l.length = n) (hs : a.eval s = .slice (some ad) n n) (B : Nat) (hr : RB w B (some ad) l) (k : Nat) (hk : 0 < k) (hkb : k ≤ 1000000) (hn : n ≤ 1000000) (hx : a.eval x = .int .i64 (k : Int))
    (h : ∀ v' w', OwB w' w.heap.size e v' (l ++ List.replicate k 0) → Below w.heap.size w w' → wpList P ops Q rest (a.put o.dst v') w') : wpList P ops Q (o :: rest) a w :=
  wpList_plain hgd fun K hK => by
    obtain ⟨i, hi, hz, hsz, hb⟩ := hE.info
    have hcells : ∀ j v, (l.map bV)[j]? = some v → w.cell? (ad.add j) = some v := fun j v hv => by
      obtain ⟨ad', h1, _, hc⟩ := hr (fun e => by simp at e; subst e; simp at hv)
      injection h1 with h1
      subst h1
      exact hc j v hv
    have hrun := run_append_mk (P := P) w t u o.type e i (.int .u8 0) hE.sl hu hi hz hsz ad n n (l.map bV) (by rw [hsz]; simpa using hl) hcells k hk (by omega) (by omega) (by omega) (by omega) (growslice_fits (by omega) (by rw [hb]; omega))
    unfold Oper.wp execOp
    simp only [ho, resolve, invoke, builtin, Sem.run_bind, Sem.run_pure, Result.andThen_ok, List.map_toArray, List.map_cons, List.map_nil, hs, hx, hrun]
    have hge := grownCap_ge w (n + k) n e
    have hcm : grownCap w (n + k) n e ≤ maxLen := grownCap_le_maxLen w (n + k) n e (by unfold maxLen; omega)
    have hzc : (Value.cells (.int .u8 0)) = #[.int .u8 0] := rfl
    refine hK _ _ (h _ _ ⟨by simp, .inr ⟨w.heap.size, _, _, by rw [List.length_append, List.length_replicate, hl], Nat.le_refl _, heap_alloc_new w.drew _, by rw [List.length_append, List.length_replicate, hl]; exact hge, hcm, ?_, ?_⟩⟩ (bl_alloc (below_drewN (Below.refl _ _) 1) (Nat.le_refl _) _))
    · simp only [Array.size_append, List.size_toArray, size_zeroCells, List.length_map, hl, hzc]
      simp; omega
    · simp only [Array.toList_append, hzc, zeroCells_one, List.map_append, List.map_replicate]
      rw [List.take_append_of_le_length (by simp [hl])]
      rw [List.take_of_length_le (by simp [hl])]
      rfl
end
end Go.Proofs.YtokojichjliieaaDoor
namespace Go.Proofs.YtokojichjliieaaDoor
open Go.RowKit

theorem take_snocS {α : Type} {l : List α} {k : Nat} {x : α} (h : l[k]? = some x) : l.take (k + 1) = l.take k ++ [x] := by
  rw [List.take_add_one, h]; rfl
set_option maxHeartbeats 400000 in
theorem same_any (A C : Option Addr) (n c m d : Nat) (w : World) (l r : List UInt8) (hn : l.length = n) (hm : r.length = m) (hl : (n : Int) ≤ 140737488355328) (hr : (m : Int) ≤ 140737488355328)
    (ha : RB w w.heap.size A l) (hc : RB w w.heap.size C r) :
    Calls Tryd.prog 16 #[.slice A n c, .slice C m d] w fun e w' => e = .returned (.bool (decide (l = r))) ∧ Below w.heap.size w w' := by
  subst hn
  subst hm
  by_cases he : l.length = r.length
  · go_enter Tryd.func16, Tryd.ntmps16
    have he1 : ((l.length : Int) != (r.length : Int)) = false := by simp [he]
    have HE := Lib.hid he
    clear he
    go_wp2
    go_loopw [5] (fun i wr => ∃ k m : Nat, k ≤ l.length ∧ i = .int .i64 (k : Int) ∧ l.take k = r.take k ∧ wr = w.drewN m) (fun i _ => l.length - (intOf i).toNat)
    case atStart => exact ⟨0, 0, by omega, rfl, rfl, rfl⟩
    case round =>
      obtain ⟨k, m, hk, rfl, heq, rfl⟩ := hrel
      have HQ := Lib.hid heq
      clear heq
      by_cases hk0 : k < l.length
      · have hk1 : k < r.length := by have := HE.out; omega
        obtain ⟨ad, x, rfl, _, hx, hcx⟩ := ha.byte hk0
        obtain ⟨bd, y, rfl, _, hy, hcy⟩ := hc.byte hk1
        by_cases hxy : x = y
        · subst hxy
          have hb1 : ((x.toNat : Int) != (x.toNat : Int)) = false := by simp
          go_wp2
          go_quiet (fail)
          go_wp2
          go_roundw
          case rel => exact ⟨k + 1, _, by omega, by go_num, by rw [take_snocS hx.out, take_snocS hy.out, HQ.out], rfl⟩
          case measure => simp [intOf]; omega
        · have hb1 : ((x.toNat : Int) != (y.toNat : Int)) = true := by
            simp only [bne_iff_ne, ne_eq, Int.natCast_inj]
            exact fun e => hxy (UInt8.toNat_inj.1 e)
          have HN : Hid (decide (l = r) = false) := by
            unfold Hid
            simp only [decide_eq_false_iff_not]
            rintro rfl
            have := hx.out.symm.trans hy.out
            exact hxy (by injection this)
          clear hxy
          go_wp2
          go_quiet (fail)
          go_wp2
          go_ret
          exact ⟨by rw [HN.out]; rfl, below_drewN (below_drewN (Below.refl _ _) _) _⟩
      · obtain rfl : k = l.length := by omega
        have HN : Hid (decide (l = r) = true) := by
          have h1 := HQ.out
          rw [List.take_length, List.take_of_length_le (by have := HE.out; omega)] at h1
          unfold Hid; simp [h1]
        go_wp2
        go_ret
        exact ⟨by rw [HN.out]; rfl, below_drewN (Below.refl _ _) _⟩
  · have he1 : ((l.length : Int) != (r.length : Int)) = true := by simp; omega
    have hne : decide (l = r) = false := by simp; rintro rfl; exact he rfl
    rw [hne]
    go_enter Tryd.func16, Tryd.ntmps16
    go_wp2
    go_ret
    exact ⟨rfl, Below.refl _ _⟩
end Go.Proofs.YtokojichjliieaaDoor
namespace Go.Proofs.YtokojichjliieaaDoor
open Go.ChangeShapes Go.WideShapes Go.ChangeAt Go.RowKit

section
variable {H : Type} {enc : TypeId × Value → H} {P : Program} {w : World} {base : Nat} {spare : Nat → Bool} {held : Bool} {r : Reach} {b0 : Nat}
/-- What the datum of a slice says of the elements. -/
def DAll {α : Type} (Q : α → DataW H → Prop) (d : DataW H) (l : List α) : Prop :=
  (d = .nil ∧ l = []) ∨ ∃ es sp, d = .slice es sp ∧ es.length = l.length ∧ ∀ (i : Nat) (x : α) (y : DataW H), l[i]? = some x → es[i]? = some y → Q x y
theorem flat_one {α : Type} (f : α → Value) (l : List α) : l.flatMap (fun x => [f x]) = l.map f := by
  induction l with
  | nil => rfl
  | cons x r ih => rw [List.flatMap_cons, ih]; rfl
theorem open_one {α : Type} [Inhabited α] {t e : TypeId} {v : Value} {d : DataW H} {ps : List MemPlace} (f : α → Value) (Q : α → DataW H → Prop) (ht : P.underlying t = some (.slice e)) (hC : P.cellsOf e = 1)
    (hel : ∀ (n : Nat) (v0 : Value) (y : DataW H × List MemPlace), DataW.trod enc P w base spare held n e [v0] = some y → ∃ x, v0 = f x ∧ Q x y.1)
    (hv : Value.okWide P w r b0 t v) (h : DataW.Trod enc P w base spare held t v d ps) :
    ∃ (A : Option Addr) (n c : Nat) (l : List α), v = .slice A n c ∧ l.length = n ∧ n ≤ c ∧ (c : Int) ≤ 9223372036854775807 ∧ RL f w w.heap.size A l ∧ DAll Q d l := by
  obtain ⟨A, n, c, l, hv, hl, hc, hm, hr, hd⟩ := open_rows 1 (fun x => [f x]) Q ht hC (by decide) (fun _ => rfl) (by
    intro n cs y hcs hy
    match cs, hcs with
    | [v0], _ =>
      obtain ⟨x, rfl, hq⟩ := hel n v0 y hy
      exact ⟨x, rfl, hq⟩) hv h
  refine ⟨A, n, c, l, hv, hl, hc, hm, by unfold RL; rw [← flat_one]; exact hr, ?_⟩
  rcases hd with h | ⟨es, sp, h1, h2, h3⟩
  · exact .inl h
  · exact .inr ⟨es, sp, h1, by rw [h2, hl], h3⟩
theorem open_words {t e : TypeId} {v : Value} {d : DataW H} {ps : List MemPlace} (ht : P.underlying t = some (.slice e)) (he : P.underlying e = some (.int .u16)) (hC : P.cellsOf e = 1)
    (hv : Value.okWide P w r b0 t v) (h : DataW.Trod enc P w base spare held t v d ps) :
    ∃ (A : Option Addr) (n c : Nat) (l : List UInt16), v = .slice A n c ∧ l.length = n ∧ n ≤ c ∧ (c : Int) ≤ 9223372036854775807 ∧ RL (fun x : UInt16 => Value.int .u16 (x.toNat : Int)) w w.heap.size A l ∧ DAll (fun _ _ => True) d l :=
  open_one _ _ ht hC (fun n v0 y hy => by
    obtain ⟨a, ha, _, wa⟩ := DataW.trod_int he hy
    have hb := bounds_u16 wa
    injection ha with ha
    refine ⟨UInt16.ofNat a.toNat, ?_, trivial⟩
    rw [ha]
    congr 1
    rw [UInt16.toNat_ofNat']
    omega) hv h
theorem open_texts {t e : TypeId} {v : Value} {d : DataW H} {ps : List MemPlace} (ht : P.underlying t = some (.slice e)) (he : P.underlying e = some .string) (hC : P.cellsOf e = 1)
    (hv : Value.okWide P w r b0 t v) (h : DataW.Trod enc P w base spare held t v d ps) :
    ∃ (A : Option Addr) (n c : Nat) (l : List (List UInt8)), v = .slice A n c ∧ l.length = n ∧ n ≤ c ∧ (c : Int) ≤ 9223372036854775807 ∧ RL (fun x : List UInt8 => Value.string ⟨x.toArray⟩) w w.heap.size A l ∧ DAll (fun x y => y = .lit (.string x)) d l :=
  open_one _ _ ht hC (fun n v0 y hy => by
    obtain ⟨s, hs, hy, _⟩ := DataW.trod_string he hy
    injection hs with hs
    exact ⟨s.data.toList, hs, by rw [hy]⟩) hv h
end
section
variable {H : Type} {P : Program} {ts : List TypeId} {ds : List (DataW H)}
theorem mem_weightsAll {e : TypeId} : ∀ {l : List (DataW H)} {d : DataW H}, d ∈ l → ∀ n ∈ d.weights P e, n ∈ DataW.weightsAll P e l
  | x :: r, d, hd, n, hn => by
    simp only [DataW.weightsAll, List.mem_append]
    rcases List.mem_cons.1 hd with h | h
    · subst h; exact .inl hn
    · exact .inr (mem_weightsAll h n hn)
/-- The length of a slice, whatever its elements. -/
theorem sized_row {α : Type} {Q : α → DataW H → Prop} {l : List α} {d : DataW H} (h : (DataW.weightsEach P ts ds).all (· ≤ reachBytes) = true) {j : Nat} {t e : TypeId} (ht : ts[j]? = some t) (hd : ds[j]? = some d) (hu : P.underlying t = some (.slice e))
    (hb : 1 ≤ P.bytesOf e) (hl : DAll Q d l) : l.length ≤ 140737488351232 := by
  rcases hl with ⟨_, rfl⟩ | ⟨es, sp, rfl, hn, _⟩
  · simp
  · have h1 := sized_slice h ht hd hu
    have h2 : (es.length + sp.length) * 1 ≤ (es.length + sp.length) * P.bytesOf e := Nat.mul_le_mul (Nat.le_refl _) hb
    simp only [reachBytes] at h1
    omega
/-- What an element weighs. -/
theorem sized_elem {α : Type} {Q : α → DataW H → Prop} {l : List α} {d : DataW H} (h : (DataW.weightsEach P ts ds).all (· ≤ reachBytes) = true) {j : Nat} {t e : TypeId} (ht : ts[j]? = some t) (hd : ds[j]? = some d) (hu : P.underlying t = some (.slice e))
    (hl : DAll Q d l) {x : α} (hx : x ∈ l) : ∃ y, Q x y ∧ ∀ n ∈ DataW.weights P e y, n ≤ reachBytes := by
  rcases hl with ⟨_, rfl⟩ | ⟨es, sp, rfl, hn, hq⟩
  · cases hx
  · obtain ⟨i, hi⟩ := List.getElem?_of_mem hx
    have hil := (List.getElem?_eq_some_iff.1 hi).1
    have hei : es[i]? = some es[i] := List.getElem?_eq_getElem (by omega)
    refine ⟨es[i], hq i x _ hi hei, fun n hn => ?_⟩
    have hm : n ∈ DataW.weights P t (.slice es sp : DataW H) := by
      simp only [DataW.weights, hu, List.mem_cons, List.mem_append]
      exact .inr (.inl (mem_weightsAll (List.mem_of_getElem? hei) _ hn))
    simpa using List.all_eq_true.1 h _ (DataW.weights_mem_each ht hd _ hm)
theorem sized_texts {l : List (List UInt8)} {d : DataW H} (h : (DataW.weightsEach P ts ds).all (· ≤ reachBytes) = true) {j : Nat} {t e : TypeId} (ht : ts[j]? = some t) (hd : ds[j]? = some d) (hu : P.underlying t = some (.slice e))
    (hl : DAll (fun x y => y = .lit (.string x)) d l) : ∀ p ∈ l, p.length ≤ 140737488351232 := by
  intro p hp
  rcases hl with ⟨_, rfl⟩ | ⟨es, sp, rfl, hn, hq⟩
  · cases hp
  · obtain ⟨i, hi⟩ := List.getElem?_of_mem hp
    have hil := (List.getElem?_eq_some_iff.1 hi).1
    have hei : es[i]? = some es[i] := List.getElem?_eq_getElem (by omega)
    have hy := hq i p _ hi hei
    have hm : p.length ∈ DataW.weights P t (.slice es sp : DataW H) := by
      simp only [DataW.weights, hu, List.mem_cons, List.mem_append]
      refine .inr (.inl (mem_weightsAll (List.mem_of_getElem? hei) _ ?_))
      rw [hy]; simp [DataW.weights]
    have h9 : p.length ≤ reachBytes := by simpa using List.all_eq_true.1 h _ (DataW.weights_mem_each ht hd _ hm)
    simp only [reachBytes] at h9
    omega
end
/-- The cells that a datum of numbers lays, at most two aggregates deep. -/
def flat2 (d : DataW Unit) : List Value := match d with
  | .agg ps => ps.flatMap fun p => match p with
    | .lit (.int k n) => [.int k n]
    | .agg qs => qs.flatMap fun q => match q with
      | .lit (.int k n) => [.int k n]
      | _ => []
    | _ => []
  | .lit (.int k n) => [.int k n]
  | _ => []
/-- Block g holds the cells cs instead. -/
def layAt (h : Array Obj) (g : Nat) (cs : List Value) : Array Obj := h.modify g fun o => match o with
  | .cells _ t fr => .cells cs.toArray t fr
  | o => o
end Go.Proofs.YtokojichjliieaaDoor
namespace Go.Proofs.YtokojichjliieaaDoor
open Go.ChangeShapes Go.WideShapes Go.ChangeAt Go.RowKit
section
variable {H : Type} {enc : TypeId × Value → H} {w : World} {base : Nat} {spare : Nat → Bool} {held : Bool} {r : Reach} {b0 : Nat}
theorem array7 {α : Type} {cs : Array α} (h : cs.size = 7) : ∃ c0 c1 c2 c3 c4 c5 c6, cs = #[c0, c1, c2, c3, c4, c5, c6] := by
  obtain ⟨l⟩ := cs
  match l, h with
  | [a, b, c, d, e, f, g], _ => exact ⟨a, b, c, d, e, f, g, rfl⟩
theorem i64_of {x : Int} (h : (Lit.int .i64 x).wf = true) : -9223372036854775808 ≤ x ∧ x ≤ 9223372036854775807 := bounds_i64 h
set_option maxRecDepth 20000 in
theorem open_record {v : Value} {d : DataW H} {ps : List MemPlace} (hv : Value.okWide Tryd.prog w r b0 33 v) (h : DataW.Trod enc Tryd.prog w base spare held 33 v d ps) :
    ∃ (s : ByteArray) (me pk si su at_ hd : Int), v = .agg #[.string s, .int .i64 me, .int .i64 pk, .int .i64 si, .int .i64 su, .int .i64 at_, .int .i64 hd] ∧ -9223372036854775808 ≤ me ∧ me ≤ 9223372036854775807 ∧ -9223372036854775808 ≤ si ∧ si ≤ 9223372036854775807 := by
  obtain ⟨cs, rfl, hsz⟩ := okWide_struct Tryd.underlying33 hv
  have hC : Tryd.prog.cellsOf 33 = 7 := by kernel_rfl
  rw [hC] at hsz
  obtain ⟨c0, c1, c2, c3, c4, c5, c6, rfl⟩ := array7 hsz
  obtain ⟨fuel, hf⟩ := h
  obtain ⟨ys, n', _, _, _, hf⟩ := open_fields Tryd.underlying33 (by kernel_rfl) (by kernel_rfl) hf
  obtain ⟨v0, z0, hc0, _, h0⟩ := hf 0 _ rfl
  obtain ⟨v1, z1, hc1, _, h1⟩ := hf 1 _ rfl
  obtain ⟨v2, z2, hc2, _, h2⟩ := hf 2 _ rfl
  obtain ⟨v3, z3, hc3, _, h3⟩ := hf 3 _ rfl
  obtain ⟨v4, z4, hc4, _, h4⟩ := hf 4 _ rfl
  obtain ⟨v5, z5, hc5, _, h5⟩ := hf 5 _ rfl
  obtain ⟨v6, z6, hc6, _, h6⟩ := hf 6 _ rfl
  obtain ⟨s, hs, _, _⟩ := DataW.trod_string Tryd.underlying9 h0
  obtain ⟨a1, ha1, _, w1⟩ := DataW.trod_int Tryd.underlying3 h1
  obtain ⟨a2, ha2, _, w2⟩ := DataW.trod_int Tryd.underlying3 h2
  obtain ⟨a3, ha3, _, w3⟩ := DataW.trod_int Tryd.underlying3 h3
  obtain ⟨a4, ha4, _, w4⟩ := DataW.trod_int Tryd.underlying3 h4
  obtain ⟨a5, ha5, _, w5⟩ := DataW.trod_int Tryd.underlying3 h5
  obtain ⟨a6, ha6, _, w6⟩ := DataW.trod_int Tryd.underlying3 h6
  simp [Value.cells] at hs ha1 ha2 ha3 ha4 ha5 ha6 hc0 hc1 hc2 hc3 hc4 hc5 hc6
  subst hs; subst ha1; subst ha2; subst ha3; subst ha4; subst ha5; subst ha6
  subst hc0; subst hc1; subst hc2; subst hc3; subst hc4; subst hc5; subst hc6
  exact ⟨s, a1, a2, a3, a4, a5, a6, rfl, (i64_of w1).1, (i64_of w1).2, (i64_of w3).1, (i64_of w3).2⟩
end
end Go.Proofs.YtokojichjliieaaDoor
namespace Go.Proofs.YtokojichjliieaaDoor
open Go.ChangeShapes Go.WideShapes Go.ChangeAt Go.RowKit
section
variable {H : Type} {enc : TypeId × Value → H} {P : Program} {w : World} {base : Nat} {spare : Nat → Bool} {held : Bool} {r : Reach} {b0 : Nat}
theorem okWide_array {t e : TypeId} {n : Nat} {v : Value} (ht : P.underlying t = some (.array n e)) (h : Value.okWide P w r b0 t v) : ∃ cs, v = .agg cs ∧ cs.size = P.cellsOf t := by
  simp only [Value.okWide, ht] at h
  obtain ⟨cs, h1, h2, _⟩ := h
  exact ⟨cs, h1, h2⟩
theorem u8_of {a : Int} (h : (Lit.int .u8 a).wf = true) : ∃ y : UInt8, a = (y.toNat : Int) := by
  have := bounds_u8 h
  exact ⟨UInt8.ofNat a.toNat, by rw [UInt8.toNat_ofNat']; omega⟩
theorem open_arr4 {t e : TypeId} {v : Value} {d : DataW H} {ps : List MemPlace} (ht : P.underlying t = some (.array 4 e)) (he : P.underlying e = some (.int .u8)) (hce : P.cellsOf e = 1) (hC : P.cellsOf t = 4)
    (hv : Value.okWide P w r b0 t v) (h : DataW.Trod enc P w base spare held t v d ps) :
    ∃ y0 y1 y2 y3 : UInt8, v = .agg #[.int .u8 (y0.toNat : Int), .int .u8 (y1.toNat : Int), .int .u8 (y2.toNat : Int), .int .u8 (y3.toNat : Int)] := by
  obtain ⟨cs, rfl, hsz⟩ := okWide_array ht hv
  obtain ⟨c0, c1, c2, c3, rfl⟩ := Go.Joins.array4 (hsz.trans hC)
  obtain ⟨fuel, hf⟩ := h
  obtain ⟨z0, z1, z2, z3, n, _, h0, h1, h2, h3⟩ := trod_array4 ht hce (show DataW.trod enc P w base spare held fuel t [c0, c1, c2, c3] = some (d, ps) from hf)
  obtain ⟨a0, ha0, _, w0⟩ := DataW.trod_int he h0
  obtain ⟨a1, ha1, _, w1⟩ := DataW.trod_int he h1
  obtain ⟨a2, ha2, _, w2⟩ := DataW.trod_int he h2
  obtain ⟨a3, ha3, _, w3⟩ := DataW.trod_int he h3
  obtain ⟨y0, rfl⟩ := u8_of w0
  obtain ⟨y1, rfl⟩ := u8_of w1
  obtain ⟨y2, rfl⟩ := u8_of w2
  obtain ⟨y3, rfl⟩ := u8_of w3
  simp at ha0 ha1 ha2 ha3
  subst ha0; subst ha1; subst ha2; subst ha3
  exact ⟨y0, y1, y2, y3, rfl⟩
end
end Go.Proofs.YtokojichjliieaaDoor
