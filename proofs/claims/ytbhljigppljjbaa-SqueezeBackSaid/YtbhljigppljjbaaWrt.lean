/- Contract: (*bits.Writer).Put. -/
import Derived.Test.YtbhljigppljjbaaBitB
import Derived.Test.YtbhljigppljjbaaSqzP
import Derived.Test.YtbhljigppljjbaaRow
import Derived.Outline
import Derived.Deep.DeepCutAuto
namespace Go.Proofs.Ytbhljigppljjbaa
open Go.RowKit

theorem u8_mod {x y : Nat} (h : x % 256 = y % 256) : UInt8.ofNat x = UInt8.ofNat y := by
  rw [← UInt8.toNat_inj, UInt8.toNat_ofNat', UInt8.toNat_ofNat']; exact h
theorem bytesV_get {V k i : Nat} (h : i < k) : (bytesV V k)[i]? = some (UInt8.ofNat (V / 256 ^ i)) := by
  unfold bytesV
  rw [List.getElem?_map, List.getElem?_range h]; rfl
theorem bytesV_snoc {V k : Nat} (h : V < 256 ^ k) : bytesV V (k + 1) = bytesV V k ++ [0] := by
  unfold bytesV
  rw [List.range_succ, List.map_append]
  congr 1
  rw [List.map_singleton, Nat.div_eq_of_lt h]; rfl
theorem bytesV_set {V V' k a x : Nat} (e : V' = V + a * 256 ^ k) (hx : x = V / 256 ^ k + a) : (bytesV V (k + 1)).set k (UInt8.ofNat x) = bytesV V' (k + 1) := by
  apply List.ext_getElem?
  intro i
  rw [List.getElem?_set]
  rcases Nat.lt_or_ge i (k + 1) with hi | hi
  · rw [bytesV_len]
    by_cases hk : k = i
    · subst hk
      rw [if_pos rfl, if_pos (by omega), bytesV_get hi]
      congr 2
      rw [hx, e, Nat.add_mul_div_right _ _ (Nat.pow_pos (by decide))]
    · rw [if_neg hk, bytesV_get hi, bytesV_get hi]
      congr 1
      refine u8_mod ?_
      obtain ⟨d, hd⟩ : ∃ d, k = i + (d + 1) := ⟨k - i - 1, by omega⟩
      rw [e, hd, Nat.pow_add, Nat.pow_succ]
      have : a * (256 ^ i * (256 ^ d * 256)) = (a * 256 ^ d * 256) * 256 ^ i := by
        rw [Nat.mul_comm (256 ^ i), ← Nat.mul_assoc, ← Nat.mul_assoc]
      rw [this, Nat.add_mul_div_right _ _ (Nat.pow_pos (by decide)), Nat.add_mul_mod_self_right]
  · have h1 : (bytesV V' (k + 1))[i]? = none := List.getElem?_eq_none (by rw [bytesV_len]; exact hi)
    have h2 : (bytesV V (k + 1))[i]? = none := List.getElem?_eq_none (by rw [bytesV_len]; exact hi)
    rw [h1, h2, if_neg (by omega)]
/-- What stays: the blocks that are to be kept, the outer world. -/
structure Kp (Av : Nat → Prop) (w w' : World) : Prop where
  os : w'.os = w.os
  tape : w'.tape = w.tape
  output : w'.output = w.output
  size : w.heap.size ≤ w'.heap.size
  same : ∀ k, Av k → w'.heap[k]? = w.heap[k]?
section
variable {Av : Nat → Prop} {a b c : World}
theorem Kp.refl (w : World) : Kp Av w w := ⟨rfl, rfl, rfl, Nat.le_refl _, fun _ _ => rfl⟩
theorem Kp.trans (h : Kp Av a b) (k : Kp Av b c) : Kp Av a c := ⟨k.os.trans h.os, k.tape.trans h.tape, k.output.trans h.output, Nat.le_trans h.size k.size, fun i hi => (k.same i hi).trans (h.same i hi)⟩
theorem Kp.drewN (h : Kp Av a b) (n : Nat) : Kp Av a (b.drewN n) := ⟨h.os, h.tape, h.output, h.size, h.same⟩
theorem Kp.alloc (h : Kp Av a b) (hA : ∀ k, Av k → k < a.heap.size) (o : Obj) : Kp Av a (b.alloc o) :=
  ⟨h.os, h.tape, h.output, Nat.le_trans h.size (by simp), fun k hk => (Below.heap_alloc b o k (Nat.lt_of_lt_of_le (hA k hk) h.size)).trans (h.same k hk)⟩
theorem Kp.setCell (h : Kp Av a b) {p : Addr} (hp : ¬ Av p.block) (u : Value) : Kp Av a (b.setCell p u) :=
  ⟨h.os, h.tape, h.output, by simpa [World.setCell] using h.size, fun k hk => (Below.heap_setCell b p u k (fun e => hp (e ▸ hk))).trans (h.same k hk)⟩
theorem Kp.grown {row : Option Nat} (h : Kp Av a b) (hA : ∀ k, Av k → k < a.heap.size) (hg : b.grownBy c row) (hr : ∀ k, row = some k → ¬ Av k) : Kp Av a c :=
  ⟨hg.os.trans h.os, hg.tape.trans h.tape, hg.output.trans h.output, Nat.le_trans h.size hg.size, fun k hk => (hg.block k (Nat.lt_of_lt_of_le (hA k hk) h.size) (fun e => hr k e.symm hk)).trans (h.same k hk)⟩
theorem Kp.below {B : Nat} (h : Kp (fun k => k < B) a b) : Below B a b := ⟨h.os, h.tape, h.output, h.size, h.same⟩
end
/-- What was put, in block g: its row of bytes in none of the blocks that are to be kept. -/
def WrS (Av : Nat → Prop) (w : World) (g : Nat) (C D : Value) (S : Pt) : Prop :=
  ∃ v, Bk w g 71 #[v, .int .i64 (S.2 : Int), C, D] ∧ OwB w (g + 1) 5 v (bytesV S.1 ((S.2 + 7) / 8)) ∧ (∀ k, v.ownBlock = some k → ¬ Av k) ∧ ¬ Av g ∧ (∀ k, Av k → k < w.heap.size) ∧ S.ok ∧ S.2 ≤ 400000
theorem OwL.frm {α : Type} {f : α → Value} {w : World} {base : Nat} {e : TypeId} {v : Value} {l : List α} (h : OwL f w base e v l) (hl : 0 < l.length) :
    ∃ gg n c, v = .slice (some ⟨gg, 0, none⟩) n c ∧ Bx (n = l.length) ∧ base ≤ gg ∧ gg < w.heap.size ∧ (∀ k x, l[k]? = some x → w.cell? ⟨gg, k, none⟩ = some (f x)) ∧ (∀ j, w.frozen? ⟨gg, j, none⟩ = false) := by
  obtain ⟨gg, cap, hv, hb, hlt⟩ := World.ownsRow.form h hl
  subst hv
  exact ⟨gg, _, cap, rfl, ⟨rfl⟩, hb, hlt, fun k x hx => h.cell hx, fun j => h.frz j⟩
theorem u8_or_low (a y i : Nat) (ha : a < 2 ^ i) (hy : y % 2 ^ i = 0) (hy1 : y < 256) (hi : i ≤ 8) : bits .or .u8 (a : Int) (y : Int) = ((a + y : Nat) : Int) := by
  have ha' : a < 2 ^ 8 := Nat.lt_of_lt_of_le ha (Nat.pow_le_pow_right (by decide) hi)
  rw [(bits_nat .u8 8 (by decide) wraps_u8 a y ha' hy1).2]
  have hq : y = 2 ^ i * (y / 2 ^ i) := by have := Nat.div_add_mod y (2 ^ i); omega
  rw [Nat.or_comm, hq, ← Nat.two_pow_add_eq_or_of_lt ha]
  rw [Nat.add_comm]
theorem acc_val (v n m : Nat) (hv : v < 1048576) (hn : n ≤ 16) (hm : m < 8) : bits .and .u32 (v : Int) ((2 ^ n - 1) % 4294967296) * 2 ^ m % 4294967296 = ((v % 2 ^ n * 2 ^ m : Nat) : Int) := by
  have h2 : (2 : Nat) ^ n ≤ 2 ^ 16 := Nat.pow_le_pow_right (by decide) hn
  have h3 : 0 < (2 : Nat) ^ n := Nat.two_pow_pos n
  have e1 : ((2 : Int) ^ n - 1) % 4294967296 = 2 ^ n - 1 := by
    have : ((2 : Int) ^ n) = ((2 ^ n : Nat) : Int) := by simp
    rw [this]; omega
  rw [e1, bits_mask .u32 32 (by decide) wraps_u32 n (by omega) _ (by omega) (by omega)]
  have e3 : (v : Int) % 2 ^ n = ((v % 2 ^ n : Nat) : Int) := by simp
  rw [e3]
  have h5 : v % 2 ^ n < 2 ^ n := Nat.mod_lt _ h3
  have h6 : (2 : Nat) ^ m ≤ 2 ^ 7 := Nat.pow_le_pow_right (by decide) (by omega)
  have h7 : v % 2 ^ n * 2 ^ m ≤ 2 ^ 16 * 2 ^ 7 := Nat.mul_le_mul (by omega) h6
  have e4 : ((v % 2 ^ n : Nat) : Int) * 2 ^ m = ((v % 2 ^ n * 2 ^ m : Nat) : Int) := by simp
  rw [e4]; omega
/-- The bytes behind i rounds. -/
def putV (V A q i : Nat) : Nat := V + A % 256 ^ i * 256 ^ q
theorem putV_succ (V A q i : Nat) : putV V A q (i + 1) = putV V A q i + A / 2 ^ (8 * i) % 256 * 256 ^ (q + i) := by
  unfold putV
  have e : (2 : Nat) ^ (8 * i) = 256 ^ i := by rw [Nat.pow_mul]
  rw [e, Nat.pow_succ, Nat.mod_mul, Nat.add_mul, Nat.add_assoc]
  congr 2
  rw [Nat.pow_add, Nat.mul_comm (256 ^ i), Nat.mul_assoc, Nat.mul_comm (256 ^ q)]
/-- What is known of one round. -/
theorem put_round {V L n x A q m K i : Nat} (hV : V < 2 ^ L) (hA : A = x * 2 ^ m) (hx : x < 2 ^ n) (hq : q = L / 8) (hm : m = L % 8) (hK : K = (L + n + 7) / 8) :
    (K ≤ q + i → putV V A q (i + 1) = putV V A q i) ∧ (1 ≤ i → putV V A q i < 256 ^ (q + i)) ∧
      (m = 0 → putV V A q 0 < 256 ^ q) ∧ putV V A q i / 256 ^ (q + i) < 2 ^ (if i = 0 then m else 0) ∧ (A / 2 ^ (8 * i) % 256) % 2 ^ (if i = 0 then m else 0) = 0 := by
  have hm8 : m < 8 := by omega
  have hLe : L = 8 * q + m := by omega
  have hV1 : V / 256 ^ q < 2 ^ m := by
    rw [Nat.div_lt_iff_lt_mul (Nat.pow_pos (by decide))]
    rw [show (256 : Nat) = 2 ^ 8 by decide, ← Nat.pow_mul, ← Nat.pow_add, show m + 8 * q = L by omega]; exact hV
  have hAm : A % 2 ^ m = 0 := by rw [hA]; exact Nat.mul_mod_left _ _
  have hAl : A < 2 ^ (n + m) := by
    rw [hA, Nat.pow_add]
    exact Nat.mul_lt_mul_of_pos_right hx (Nat.two_pow_pos m)
  have hdvd : 2 ^ m ∣ 256 := by
    rw [show (256 : Nat) = 2 ^ m * 2 ^ (8 - m) by rw [← Nat.pow_add, show m + (8 - m) = 8 by omega]]
    exact Nat.dvd_mul_right _ _
  have hA256 : A % 256 % 2 ^ m = 0 := by rw [Nat.mod_mod_of_dvd _ hdvd]; exact hAm
  have hsum : V / 256 ^ q + A % 256 < 256 := by
    have h1 : A % 256 < 256 := Nat.mod_lt _ (by decide)
    have e1 : A % 256 = 2 ^ m * (A % 256 / 2 ^ m) := by have := Nat.div_add_mod (A % 256) (2 ^ m); omega
    have h2 : A % 256 / 2 ^ m < 2 ^ (8 - m) := by
      rw [Nat.div_lt_iff_lt_mul (Nat.two_pow_pos m), ← Nat.pow_add, show 8 - m + m = 8 by omega]; exact h1
    have h3 : 2 ^ m * (A % 256 / 2 ^ m + 1) ≤ 2 ^ m * 2 ^ (8 - m) := Nat.mul_le_mul (Nat.le_refl _) h2
    rw [← Nat.pow_add, show m + (8 - m) = 8 by omega, Nat.mul_succ] at h3
    omega
  have h0 : putV V A q 0 = V := by unfold putV; rw [Nat.pow_zero, Nat.mod_one, Nat.zero_mul, Nat.add_zero]
  have h1 : putV V A q 1 < 256 ^ (q + 1) := by
    unfold putV
    rw [Nat.pow_one, Nat.pow_succ]
    have hP : 0 < 256 ^ q := Nat.pow_pos (by decide)
    generalize 256 ^ q = P at hsum hP ⊢
    · have e1 := Nat.div_add_mod V P
      have e2 := Nat.mod_lt V hP
      have e3 : P * (V / P + A % 256) ≤ P * 255 := Nat.mul_le_mul (Nat.le_refl _) (by omega)
      rw [Nat.mul_add] at e3
      rw [Nat.mul_comm (A % 256) P]; omega
  have hlt : 1 ≤ i → putV V A q i < 256 ^ (q + i) := by
    intro hi
    induction i with
    | zero => omega
    | succ i ih =>
      rcases Nat.eq_zero_or_pos i with e | e
      · subst e; exact h1
      · have h2 := ih e
        rw [putV_succ, ← Nat.add_assoc, Nat.pow_succ]
        have h3 : A / 2 ^ (8 * i) % 256 * 256 ^ (q + i) ≤ 255 * 256 ^ (q + i) := Nat.mul_le_mul (by have := Nat.mod_lt (A / 2 ^ (8 * i)) (show 0 < 256 by decide); omega) (Nat.le_refl _)
        omega
  refine ⟨fun hk => ?_, hlt, fun h => ?_, ?_, ?_⟩
  · rw [putV_succ]
    have hle : 2 ^ (n + m) ≤ 2 ^ (8 * i) := Nat.pow_le_pow_right (by decide) (by omega)
    rw [Nat.div_eq_of_lt (Nat.lt_of_lt_of_le hAl hle)]; simp
  · rw [h0]
    rw [show (256 : Nat) = 2 ^ 8 by decide, ← Nat.pow_mul, show 8 * q = L by omega]; exact hV
  · by_cases h : i = 0
    · subst h; rw [if_pos rfl, h0]; exact hV1
    · rw [if_neg h, Nat.div_eq_of_lt (hlt (by omega))]; exact Nat.one_pos
  · by_cases h : i = 0
    · subst h; rw [if_pos rfl, Nat.mul_zero, Nat.pow_zero, Nat.div_one]; exact hA256
    · rw [if_neg h, Nat.pow_zero, Nat.mod_one]
set_option maxRecDepth 100000 in
set_option maxHeartbeats 1000000 in
theorem wput_any (Av : Nat → Prop) (g : Nat) (C D : Value) (S : Pt) (n v : Nat) (w : World) (h : WrS Av w g C D S) (hn : n ≤ 16) (hv : v < 1048576) (hS : S.2 + n ≤ 400000) :
    Calls Try.prog 29 #[.pointer (some ⟨g, 0, none⟩), .int .i64 (n : Int), .int .i64 (v : Int)] w fun e w' => e = .returned (.int .i64 0) ∧ WrS Av w' g C D (putN S n v) ∧ Kp Av w w' := by
  obtain ⟨V, L⟩ := S
  obtain ⟨u, hK, hO, hu, hg, hA, hok, hL⟩ := h
  simp only at hK hO hL hS
  have c1 : w.cell? ⟨g, 1, none⟩ = some (.int .i64 (L : Int)) := (hK.cell 1).trans rfl
  have h7 := and7 L (by omega)
  obtain ⟨q, hq⟩ : ∃ q, L / 8 = q := ⟨_, rfl⟩
  obtain ⟨m, hm⟩ : ∃ m, L % 8 = m := ⟨_, rfl⟩
  obtain ⟨K, hKK⟩ : ∃ K, (L + n + 7) / 8 = K := ⟨_, rfl⟩
  obtain ⟨K0, hK0⟩ : ∃ K0, (L + 7) / 8 = K0 := ⟨_, rfl⟩
  have hm8 : m < 8 := by omega
  have hacc := acc_val v n m hv hn hm8
  obtain ⟨A, hAA⟩ : ∃ A, v % 2 ^ n * 2 ^ m = A := ⟨_, rfl⟩
  rw [hAA] at hacc
  rw [hm] at h7
  have hA24 : A < 16777216 := by
    have h1 : v % 2 ^ n < 2 ^ n := Nat.mod_lt _ (Nat.two_pow_pos n)
    have h2 : (2 : Nat) ^ n ≤ 2 ^ 16 := Nat.pow_le_pow_right (by decide) hn
    have h6 : (2 : Nat) ^ m ≤ 2 ^ 7 := Nat.pow_le_pow_right (by decide) (by omega)
    have h7 : v % 2 ^ n * 2 ^ m ≤ 2 ^ 16 * 2 ^ 7 := Nat.mul_le_mul (by omega) h6
    omega
  have hrnd := fun i => put_round (V := V) (L := L) (n := n) (x := v % 2 ^ n) (A := A) (q := q) (m := m) (K := K) (i := i) hok hAA.symm (Nat.mod_lt _ (Nat.two_pow_pos n)) hq.symm hm.symm hKK.symm
  have hKb : K0 ≤ K ∧ K ≤ q + 3 ∧ q ≤ K0 ∧ K0 ≤ q + 1 ∧ (m = 0 → K0 = q) ∧ (K0 = q → m = 0) := by omega
  have hqb : q ≤ 50000 := by omega
  have HM := bx hm
  have HRN := bx hrnd
  have HAA := bx hAA
  have HKK := bx hKK
  have hqI : (L : Int) / 8 = (q : Int) := by omega
  have hKI : ((L : Int) + (n : Int) + 7) / 8 = (K : Int) := by omega
  rw [hK0] at hO
  have HK0 := bx hK0
  have HQ := bx hq
  have hO0 : OwB w (g + 1) 5 u (bytesV (putV V A q 0) (max K0 (min K (q + 0)))) := by
    have e1 : putV V A q 0 = V := by unfold putV; rw [Nat.pow_zero, Nat.mod_one, Nat.zero_mul, Nat.add_zero]
    have e2 : max K0 (min K (q + 0)) = K0 := by omega
    rw [e1, e2]; exact hO
  clear hm hrnd hAA hKK hK0 hq hO
  go_enter Try.func29, Try.ntmps29
  go_wp2_with fail

  rw [hacc]
  clear hacc h7
  generalize ((2 : Int) ^ n % 4294967296 - 1) % 4294967296 = z0
  generalize (2 : Int) ^ n % 4294967296 = z1
  generalize bits .and .u32 (v : Int) ((2 ^ n - 1) % 4294967296) = z2
  generalize decide ((n : Int) < 0) = z3
  generalize decide (16 < (n : Int)) = z4
  go_loopg [8] 3 (fun κ ii wr => ∃ (i : Nat) (u : Value), κ = 3 - i ∧ i ≤ 3 ∧ ii = .int .i64 (i : Int) ∧ Bk wr g 71 #[u, .int .i64 (L : Int), C, D] ∧ OwB wr (g + 1) 5 u (bytesV (putV V A q i) (max K0 (min K (q + i)))) ∧ (∀ k, u.ownBlock = some k → ¬ Av k) ∧ Kp Av w wr)
  case atStart => exact ⟨0, u, by omega, by omega, rfl, hK, hO0, hu, Kp.refl w⟩
  case round =>
    clear hK hO0 hu c1
    obtain ⟨i, u, hgk, hi, rfl, hK, hO, hu, hKp⟩ := hrel
    have huu := hu
    have c1 : wr.cell? ⟨g, 1, none⟩ = some (.int .i64 (L : Int)) := (hK.cell 1).trans rfl
    have f0 := hK.frz 0
    have f1 := hK.frz 1
    by_cases hi3 : i < 3
    · have hr := HRN.out i
      obtain ⟨Au, nu, cu, rfl, hnu, hru⟩ := OwL.sl hO
      have hnl : nu = max K0 (min K (q + i)) := by rw [hnu.out, bytesV_len]
      have c0 : wr.cell? ⟨g, 0, none⟩ = some (.slice Au nu cu) := (hK.cell 0).trans rfl
      by_cases hkK : q + i < K
      · have hnu2 : nu ≤ q + i + 1 := by omega
        have HN := bx hnl
        go_upto_region 8 with (fail)
        go_cut [63] (fun v wx => v = .bool (decide (nu ≤ q + i)) ∧ wr = wx)
        case first =>
          by_cases hap : nu ≤ q + i
          · have hap1 : (nu : Int) ≤ (q : Int) + (i : Int) := by omega
            have hkk1 : (q : Int) + (i : Int) < (K : Int) := by omega
            have HD : Bx (decide (nu ≤ q + i) = true) := bx (decide_eq_true hap)
            clear hnl
            go_wp2
            go_meet
            case rel => exact ⟨by rw [HD.out], rfl⟩
          · have hap1 : ¬ (nu : Int) ≤ (q : Int) + (i : Int) := by omega
            have HD : Bx (decide (nu ≤ q + i) = false) := bx (decide_eq_false hap)
            clear hnl
            go_wp2
            go_meet
            case rel => exact ⟨by rw [HD.out], rfl⟩
        case rest =>
        obtain ⟨rfl, rfl⟩ := hcut
        go_upto_if 63 with (fail)
        go_cut [63] (fun _ wx => ∃ u, Bk wx g 71 #[u, .int .i64 (L : Int), C, D] ∧ OwB wx (g + 1) 5 u (bytesV (putV V A q i) (q + i + 1)) ∧ (∀ k, u.ownBlock = some k → ¬ Av k) ∧ Kp Av w wx)
        case first =>
          by_cases hap : nu ≤ q + i
          · have hlk : nu = q + i := by omega
            have hV : putV V A q i < 256 ^ (q + i) := by
              rcases Nat.eq_zero_or_pos i with e | e
              · subst e
                exact hr.2.2.1 (by have := HN.out; omega)
              · exact hr.2.1 e
            have hsn := bytesV_snoc hV
            have hlist : max K0 (min K (q + i)) = q + i := by rw [← HN.out]; exact hlk
            rw [hlist] at hO
            have HSN := bx hsn
            have HL : Bx (((bytesV (putV V A q i) (q + i)).length + ([0] : List UInt8).length) * 1 ≤ 140737488355328) := bx (by rw [bytesV_len]; simp; omega)
            have hgz := hK.lt
            have c0a : (wr.alloc (.cells #[.int .u8 0] 5)).cell? ⟨g, 0, none⟩ = some (.slice Au nu cu) := (World.cell?_alloc_lt _ _ _ hgz).trans c0
            have f0a : (wr.alloc (.cells #[.int .u8 0] 5)).frozen? ⟨g, 0, none⟩ = false := (Below.frozen (bl_alloc (Below.refl wr.heap.size wr) (Nat.le_refl _) _) hgz).trans f0
            clear hlk hsn hlist hnl
            go_wp2_with (at_builtin; refine wpList_appL _ bV_one rfl (.tmp 68) (.tmp 69) rfl byteTy (by decide) (g + 1) _ _ rfl (hO.alloc _) _ _ 1 1 [0] rfl rfl (RL.freshe _ _ rfl _) HL.out (le_alloc0 hgz _) ?_; intro v5 w5 hO5 hg5 hk5 hb5; obtain ⟨A5, n5, c5, rfl, hn5, hr5⟩ := OwL.sl hO5; have e1 := (hb5.cell (p := ⟨g, 0, none⟩) (Nat.lt_succ_self g)).trans c0a; have e2 := (hb5.frozen (p := ⟨g, 0, none⟩) (Nat.lt_succ_self g)).trans f0a)
            go_meet
            case rel =>
              have hAr : ∀ k, Av k → k < wr.heap.size := fun k hk => Nat.lt_of_lt_of_le (hA k hk) hKp.size
              have hK5 : Bk (w5.setCell ⟨g, 0, none⟩ (.slice A5 n5 c5)) g 71 #[.slice A5 n5 c5, .int .i64 (L : Int), C, D] := by
                have := (((hK.alloc (.cells #[.int .u8 0] 5)).below hb5 (Nat.lt_succ_self g))).set 0 (.slice A5 n5 c5)
                simpa using this
              have hu5 : ∀ k, (Value.slice A5 n5 c5).ownBlock = some k → ¬ Av k := by
                intro k hk
                rcases hk5 with e | e
                · exact hu k (e.symm.trans hk)
                · rw [hk] at e
                  injection e with e
                  intro hav
                  have := hAr k hav
                  simp at e; omega
              refine ⟨_, hK5, ?_, hu5, ?_⟩
              · rw [HSN.out]
                exact hO5.agree fun k hk1 _ => Below.heap_setCell w5 ⟨g, 0, none⟩ _ k (by show k ≠ g; omega)
              · exact ((hKp.alloc hA _).grown (fun k hk => hA k hk) hg5 (fun k hk => hu k hk)).setCell (by exact hg) _
          · have hlk : max K0 (min K (q + i)) = q + i + 1 := by rw [← HN.out]; omega
            rw [hlk] at hO
            have hap2 : ¬ (nu : Int) ≤ (q : Int) + (i : Int) := by omega
            clear hlk hnl
            go_wp2
            go_meet
            case rel => exact ⟨_, hK, hO, hu, hKp⟩
        case rest =>
          clear hK hO hu hKp c0 c1 f0 f1 hru hnl
          obtain ⟨u, hK, hO, hu, hKp⟩ := hcut
          obtain ⟨gg, n5, c5, rfl, hn5, hgg1, hgg2, hcl, hfr⟩ := OwL.frm hO (by rw [bytesV_len]; omega)
          have hn5e : n5 = q + i + 1 := by rw [hn5.out, bytesV_len]
          have c0 : wc.cell? ⟨g, 0, none⟩ = some (.slice (some ⟨gg, 0, none⟩) n5 c5) := (hK.cell 0).trans rfl
          obtain ⟨old, hold⟩ : ∃ old, putV V A q i / 256 ^ (q + i) = old := ⟨_, rfl⟩
          obtain ⟨a, ha⟩ : ∃ a, A / 2 ^ (8 * i) % 256 = a := ⟨_, rfl⟩
          have hr4 := hr.2.2.2.1
          have hr5 := hr.2.2.2.2
          rw [hold] at hr4
          rw [ha] at hr5
          have ha8 : a < 256 := by omega
          have hmi : (if i = 0 then m else 0) ≤ 8 := by split <;> omega
          have hold8 : old < 256 := by
            have h1 : 2 ^ (if i = 0 then m else 0) ≤ 2 ^ 8 := Nat.pow_le_pow_right (by decide) hmi
            omega
          have hcc : wc.cell? ⟨gg, q + i, none⟩ = some (.int .u8 (old : Int)) := by
            rw [hcl (q + i) _ (bytesV_get (by omega)), hold]
            unfold bV
            rw [UInt8.toNat_ofNat', Nat.mod_eq_of_lt hold8]
          have hff := hfr (q + i)
          have hor := u8_or_low old a (if i = 0 then m else 0) hr4 hr5 ha8 hmi
          have haI : (A : Int) / 2 ^ (8 * i) % 256 = (a : Int) := by
            rw [← ha]; simp
          have hset := bytesV_set (V := putV V A q i) (V' := putV V A q (i + 1)) (k := q + i) (a := a) (x := old + a) (by rw [putV_succ, ha]) (by rw [hold])
          have hsum : old + a < 256 := by
            have e1 : a = 2 ^ (if i = 0 then m else 0) * (a / 2 ^ (if i = 0 then m else 0)) := by have := Nat.div_add_mod a (2 ^ (if i = 0 then m else 0)); omega
            generalize (if i = 0 then m else 0) = j at hr4 hr5 hmi e1
            have h2 : a / 2 ^ j < 2 ^ (8 - j) := by
              rw [Nat.div_lt_iff_lt_mul (Nat.two_pow_pos j), ← Nat.pow_add, show 8 - j + j = 8 by omega]; exact ha8
            have h3 : 2 ^ j * (a / 2 ^ j + 1) ≤ 2 ^ j * 2 ^ (8 - j) := Nat.mul_le_mul (Nat.le_refl _) h2
            rw [← Nat.pow_add, show j + (8 - j) = 8 by omega, Nat.mul_succ] at h3
            omega
          have hOs := hO.set (q + i) (UInt8.ofNat (old + a))
          rw [hset] at hOs
          have hbv : bV (UInt8.ofNat (old + a)) = .int .u8 ((old + a : Nat) : Int) := by unfold bV; rw [UInt8.toNat_ofNat', Nat.mod_eq_of_lt hsum]
          rw [hbv] at hOs
          have hmx : max K0 (min K (q + (i + 1))) = q + i + 1 := by omega
          have HFIN : Bx (Bk (wc.setCell ⟨gg, q + i, none⟩ (.int .u8 ((old + a : Nat) : Int))) g 71 #[.slice (some ⟨gg, 0, none⟩) n5 c5, .int .i64 (L : Int), C, D] ∧ OwB (wc.setCell ⟨gg, q + i, none⟩ (.int .u8 ((old + a : Nat) : Int))) (g + 1) 5 (.slice (some ⟨gg, 0, none⟩) n5 c5) (bytesV (putV V A q (i + 1)) (max K0 (min K (q + (i + 1))))) ∧
              Kp Av w (wc.setCell ⟨gg, q + i, none⟩ (.int .u8 ((old + a : Nat) : Int)))) := bx (by
            rw [hmx]
            exact ⟨hK.far (by show g ≠ gg; omega) _, hOs, hKp.setCell (by exact hu gg rfl) _⟩)
          have HU := bx hu
          clear hold ha hr4 hr5 hset hOs hbv hmx hcl hfr hK hO hu hKp hr hn5
          go_wp2
          go_roundg (3 - (i + 1))
          case rel => exact ⟨i + 1, _, rfl, by omega, by go_num, HFIN.out.1, HFIN.out.2.1, HU.out, HFIN.out.2.2⟩
          case measure => omega
      · have hr1 := hr.1 (by omega)
        have hnk : nu = K := by omega
        have hmx : max K0 (min K (q + (i + 1))) = max K0 (min K (q + i)) := by omega
        have hge : (nu : Int) ≤ (q : Int) + (i : Int) := by omega
        have hkn : ¬ (q : Int) + (i : Int) < (K : Int) := by omega
        have hkn2 : ¬ (q : Int) + (i : Int) < (nu : Int) := by omega
        have HFIN : Bx (OwB wr (g + 1) 5 (.slice Au nu cu) (bytesV (putV V A q (i + 1)) (max K0 (min K (q + (i + 1)))))) := bx (by rw [hr1, hmx]; exact hO)
        clear hnk hnl hmx hr1
        go_wp2
        go_roundg (3 - (i + 1))
        case rel => exact ⟨i + 1, _, rfl, by omega, by go_num, hK, HFIN.out, hu, hKp⟩
        case measure => omega
    · obtain rfl : i = 3 := by omega
      have hmx : max K0 (min K (q + 3)) = K := by omega
      have hfv : putV V A q 3 = (putN (V, L) n v).1 := by
        unfold putV putN
        simp only
        rw [Nat.mod_eq_of_lt (show A < 256 ^ 3 by omega), ← HAA.out, Nat.mul_assoc]
        congr 2
        rw [show (256 : Nat) = 2 ^ 8 by decide, ← Nat.pow_mul, ← Nat.pow_add]
        congr 1
        have := HM.out; have := HQ.out; omega
      rw [hmx, hfv] at hO
      have HFIN : Bx (WrS Av (wr.setCell ⟨g, 1, none⟩ (.int .i64 ((L : Int) + (n : Int)))) g C D (putN (V, L) n v) ∧ Kp Av w (wr.setCell ⟨g, 1, none⟩ (.int .i64 ((L : Int) + (n : Int))))) := bx (by
        have e : (((putN (V, L) n v).2 : Nat) : Int) = (L : Int) + (n : Int) := by unfold putN; simp
        have hKx := hKp.setCell (p := ⟨g, 1, none⟩) hg (.int .i64 ((L : Int) + (n : Int)))
        refine ⟨⟨u, ?_, ?_, hu, hg, fun k hk => Nat.lt_of_lt_of_le (hA k hk) hKx.size, putN_ok hok n v, ?_⟩, hKx⟩
        · rw [e]
          have := hK.set 1 (.int .i64 ((L : Int) + (n : Int)))
          simpa using this
        · have hl : ((putN (V, L) n v).2 + 7) / 8 = K := HKK.out
          rw [hl]
          exact hO.agree fun k hk1 _ => Below.heap_setCell wr ⟨g, 1, none⟩ _ k (by show k ≠ g; omega)
        · exact hS)
      clear hmx hfv hK hO hKp
      go_wp2
      go_ret
      exact ⟨rfl, HFIN.out⟩
end Go.Proofs.Ytbhljigppljjbaa
