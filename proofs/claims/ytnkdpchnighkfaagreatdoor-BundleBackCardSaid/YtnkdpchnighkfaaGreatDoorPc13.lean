/- Contract: (*bits.Writer).Put. Contracts: (*prefix.Code).Word, squeeze.class, (*squeeze.out).put. Contract: (*squeeze.out).copy. Contract: (*bits.Writer).Bytes. Three bytes as a key. What squeezing keeps while it goes; its greedy choice, step by step. Contract: squeeze.All. -/
import Derived.Test.YtnkdpchnighkfaaGreatDoorPc5
import Derived.Test.YtnkdpchnighkfaaGreatDoorPc3
import Derived.Test.YtnkdpchnighkfaaGreatDoorPc4
import Derived.Outline
import Derived.Deep.DeepCutAuto
namespace Go.Proofs.YtnkdpchnighkfaaGreatDoor
open Go.RowKit

theorem u8_mod {x y : Nat} (h : x % 256 = y % 256) : UInt8.ofNat x = UInt8.ofNat y := by
  rw [← UInt8.toNat_inj, UInt8.toNat_ofNat', UInt8.toNat_ofNat']; exact h
theorem bytesV_get {V k i : Nat} (h : i < k) : (bytesV V k)[i]? = some (UInt8.ofNat (V / 256 ^ i)) := by
  unfold bytesV
  rw [List.getElem?_map, List.getElem?_range h]; rfl
theorem bytesV_snoc {V k : Nat} (h : V < 256 ^ k) : bytesV V (k + 1) = bytesV V k ++ [0] := by
  unfold bytesV
  rw [List.range_succ, List.map_append]
  congr 1
  rw [List.map_singleton, Nat.div_eq_of_lt h]; rfl
theorem bytesV_set {V V' k a x : Nat} (e : V' = V + a * 256 ^ k) (hx : x = V / 256 ^ k + a) : (bytesV V (k + 1)).set k (UInt8.ofNat x) = bytesV V' (k + 1) := by
  apply List.ext_getElem?
  intro i
  rw [List.getElem?_set]
  rcases Nat.lt_or_ge i (k + 1) with hi | hi
  · rw [bytesV_len]
    by_cases hk : k = i
    · subst hk
      rw [if_pos rfl, if_pos (by omega), bytesV_get hi]
      congr 2
      rw [hx, e, Nat.add_mul_div_right _ _ (Nat.pow_pos (by decide))]
    · rw [if_neg hk, bytesV_get hi, bytesV_get hi]
      congr 1
      refine u8_mod ?_
      obtain ⟨d, hd⟩ : ∃ d, k = i + (d + 1) := ⟨k - i - 1, by omega⟩
      rw [e, hd, Nat.pow_add, Nat.pow_succ]
      have : a * (256 ^ i * (256 ^ d * 256)) = (a * 256 ^ d * 256) * 256 ^ i := by
        rw [Nat.mul_comm (256 ^ i), ← Nat.mul_assoc, ← Nat.mul_assoc]
      rw [this, Nat.add_mul_div_right _ _ (Nat.pow_pos (by decide)), Nat.add_mul_mod_self_right]
  · have h1 : (bytesV V' (k + 1))[i]? = none := List.getElem?_eq_none (by rw [bytesV_len]; exact hi)
    have h2 : (bytesV V (k + 1))[i]? = none := List.getElem?_eq_none (by rw [bytesV_len]; exact hi)
    rw [h1, h2, if_neg (by omega)]
/-- What stays: the blocks that are to be kept, the outer world. -/
structure Kp (Av : Nat → Prop) (w w' : World) : Prop where
  os : w'.os = w.os
  tape : w'.tape = w.tape
  output : w'.output = w.output
  size : w.heap.size ≤ w'.heap.size
  same : ∀ k, Av k → w'.heap[k]? = w.heap[k]?
section
variable {Av : Nat → Prop} {a b c : World}
theorem Kp.refl (w : World) : Kp Av w w := ⟨rfl, rfl, rfl, Nat.le_refl _, fun _ _ => rfl⟩
theorem Kp.trans (h : Kp Av a b) (k : Kp Av b c) : Kp Av a c := ⟨k.os.trans h.os, k.tape.trans h.tape, k.output.trans h.output, Nat.le_trans h.size k.size, fun i hi => (k.same i hi).trans (h.same i hi)⟩
theorem Kp.drewN (h : Kp Av a b) (n : Nat) : Kp Av a (b.drewN n) := ⟨h.os, h.tape, h.output, h.size, h.same⟩
theorem Kp.alloc (h : Kp Av a b) (hA : ∀ k, Av k → k < a.heap.size) (o : Obj) : Kp Av a (b.alloc o) :=
  ⟨h.os, h.tape, h.output, Nat.le_trans h.size (by simp), fun k hk => (Below.heap_alloc b o k (Nat.lt_of_lt_of_le (hA k hk) h.size)).trans (h.same k hk)⟩
theorem Kp.setCell (h : Kp Av a b) {p : Addr} (hp : ¬ Av p.block) (u : Value) : Kp Av a (b.setCell p u) :=
  ⟨h.os, h.tape, h.output, by simpa [World.setCell] using h.size, fun k hk => (Below.heap_setCell b p u k (fun e => hp (e ▸ hk))).trans (h.same k hk)⟩
theorem Kp.grown {row : Option Nat} (h : Kp Av a b) (hA : ∀ k, Av k → k < a.heap.size) (hg : b.grownBy c row) (hr : ∀ k, row = some k → ¬ Av k) : Kp Av a c :=
  ⟨hg.os.trans h.os, hg.tape.trans h.tape, hg.output.trans h.output, Nat.le_trans h.size hg.size, fun k hk => (hg.block k (Nat.lt_of_lt_of_le (hA k hk) h.size) (fun e => hr k e.symm hk)).trans (h.same k hk)⟩
theorem Kp.below {B : Nat} (h : Kp (fun k => k < B) a b) : Below B a b := ⟨h.os, h.tape, h.output, h.size, h.same⟩
end
/-- What was put, in block g: its row of bytes in none of the blocks that are to be kept. -/
def WrS (Av : Nat → Prop) (w : World) (g : Nat) (C D : Value) (S : Pt) : Prop :=
  ∃ v, Bk w g 80 #[v, .int .i64 (S.2 : Int), C, D] ∧ OwB w (g + 1) 5 v (bytesV S.1 ((S.2 + 7) / 8)) ∧ (∀ k, v.ownBlock = some k → ¬ Av k) ∧ ¬ Av g ∧ (∀ k, Av k → k < w.heap.size) ∧ S.ok ∧ S.2 ≤ 400000
theorem OwL.frm {α : Type} {f : α → Value} {w : World} {base : Nat} {e : TypeId} {v : Value} {l : List α} (h : OwL f w base e v l) (hl : 0 < l.length) :
    ∃ gg n c, v = .slice (some ⟨gg, 0, none⟩) n c ∧ Bx (n = l.length) ∧ base ≤ gg ∧ gg < w.heap.size ∧ (∀ k x, l[k]? = some x → w.cell? ⟨gg, k, none⟩ = some (f x)) ∧ (∀ j, w.frozen? ⟨gg, j, none⟩ = false) := by
  obtain ⟨gg, cap, hv, hb, hlt⟩ := World.ownsRow.form h hl
  subst hv
  exact ⟨gg, _, cap, rfl, ⟨rfl⟩, hb, hlt, fun k x hx => h.cell hx, fun j => h.frz j⟩
theorem u8_or_low (a y i : Nat) (ha : a < 2 ^ i) (hy : y % 2 ^ i = 0) (hy1 : y < 256) (hi : i ≤ 8) : bits .or .u8 (a : Int) (y : Int) = ((a + y : Nat) : Int) := by
  have ha' : a < 2 ^ 8 := Nat.lt_of_lt_of_le ha (Nat.pow_le_pow_right (by decide) hi)
  rw [(bits_nat .u8 8 (by decide) wraps_u8 a y ha' hy1).2]
  have hq : y = 2 ^ i * (y / 2 ^ i) := by have := Nat.div_add_mod y (2 ^ i); omega
  rw [Nat.or_comm, hq, ← Nat.two_pow_add_eq_or_of_lt ha]
  rw [Nat.add_comm]
theorem acc_val (v n m : Nat) (hv : v < 1048576) (hn : n ≤ 16) (hm : m < 8) : bits .and .u32 (v : Int) ((2 ^ n - 1) % 4294967296) * 2 ^ m % 4294967296 = ((v % 2 ^ n * 2 ^ m : Nat) : Int) := by
  have h2 : (2 : Nat) ^ n ≤ 2 ^ 16 := Nat.pow_le_pow_right (by decide) hn
  have h3 : 0 < (2 : Nat) ^ n := Nat.two_pow_pos n
  have e1 : ((2 : Int) ^ n - 1) % 4294967296 = 2 ^ n - 1 := by
    have : ((2 : Int) ^ n) = ((2 ^ n : Nat) : Int) := by simp
    rw [this]; omega
  rw [e1, bits_mask .u32 32 (by decide) wraps_u32 n (by omega) _ (by omega) (by omega)]
  have e3 : (v : Int) % 2 ^ n = ((v % 2 ^ n : Nat) : Int) := by simp
  rw [e3]
  have h5 : v % 2 ^ n < 2 ^ n := Nat.mod_lt _ h3
  have h6 : (2 : Nat) ^ m ≤ 2 ^ 7 := Nat.pow_le_pow_right (by decide) (by omega)
  have h7 : v % 2 ^ n * 2 ^ m ≤ 2 ^ 16 * 2 ^ 7 := Nat.mul_le_mul (by omega) h6
  have e4 : ((v % 2 ^ n : Nat) : Int) * 2 ^ m = ((v % 2 ^ n * 2 ^ m : Nat) : Int) := by simp
  rw [e4]; omega
/-- The bytes behind i rounds. -/
def putV (V A q i : Nat) : Nat := V + A % 256 ^ i * 256 ^ q
theorem putV_succ (V A q i : Nat) : putV V A q (i + 1) = putV V A q i + A / 2 ^ (8 * i) % 256 * 256 ^ (q + i) := by
  unfold putV
  have e : (2 : Nat) ^ (8 * i) = 256 ^ i := by rw [Nat.pow_mul]
  rw [e, Nat.pow_succ, Nat.mod_mul, Nat.add_mul, Nat.add_assoc]
  congr 2
  rw [Nat.pow_add, Nat.mul_comm (256 ^ i), Nat.mul_assoc, Nat.mul_comm (256 ^ q)]
/-- What is known of one round. -/
theorem put_round {V L n x A q m K i : Nat} (hV : V < 2 ^ L) (hA : A = x * 2 ^ m) (hx : x < 2 ^ n) (hq : q = L / 8) (hm : m = L % 8) (hK : K = (L + n + 7) / 8) :
    (K ≤ q + i → putV V A q (i + 1) = putV V A q i) ∧ (1 ≤ i → putV V A q i < 256 ^ (q + i)) ∧
      (m = 0 → putV V A q 0 < 256 ^ q) ∧ putV V A q i / 256 ^ (q + i) < 2 ^ (if i = 0 then m else 0) ∧ (A / 2 ^ (8 * i) % 256) % 2 ^ (if i = 0 then m else 0) = 0 := by
  have hm8 : m < 8 := by omega
  have hLe : L = 8 * q + m := by omega
  have hV1 : V / 256 ^ q < 2 ^ m := by
    rw [Nat.div_lt_iff_lt_mul (Nat.pow_pos (by decide))]
    rw [show (256 : Nat) = 2 ^ 8 by decide, ← Nat.pow_mul, ← Nat.pow_add, show m + 8 * q = L by omega]; exact hV
  have hAm : A % 2 ^ m = 0 := by rw [hA]; exact Nat.mul_mod_left _ _
  have hAl : A < 2 ^ (n + m) := by
    rw [hA, Nat.pow_add]
    exact Nat.mul_lt_mul_of_pos_right hx (Nat.two_pow_pos m)
  have hdvd : 2 ^ m ∣ 256 := by
    rw [show (256 : Nat) = 2 ^ m * 2 ^ (8 - m) by rw [← Nat.pow_add, show m + (8 - m) = 8 by omega]]
    exact Nat.dvd_mul_right _ _
  have hA256 : A % 256 % 2 ^ m = 0 := by rw [Nat.mod_mod_of_dvd _ hdvd]; exact hAm
  have hsum : V / 256 ^ q + A % 256 < 256 := by
    have h1 : A % 256 < 256 := Nat.mod_lt _ (by decide)
    have e1 : A % 256 = 2 ^ m * (A % 256 / 2 ^ m) := by have := Nat.div_add_mod (A % 256) (2 ^ m); omega
    have h2 : A % 256 / 2 ^ m < 2 ^ (8 - m) := by
      rw [Nat.div_lt_iff_lt_mul (Nat.two_pow_pos m), ← Nat.pow_add, show 8 - m + m = 8 by omega]; exact h1
    have h3 : 2 ^ m * (A % 256 / 2 ^ m + 1) ≤ 2 ^ m * 2 ^ (8 - m) := Nat.mul_le_mul (Nat.le_refl _) h2
    rw [← Nat.pow_add, show m + (8 - m) = 8 by omega, Nat.mul_succ] at h3
    omega
  have h0 : putV V A q 0 = V := by unfold putV; rw [Nat.pow_zero, Nat.mod_one, Nat.zero_mul, Nat.add_zero]
  have h1 : putV V A q 1 < 256 ^ (q + 1) := by
    unfold putV
    rw [Nat.pow_one, Nat.pow_succ]
    have hP : 0 < 256 ^ q := Nat.pow_pos (by decide)
    generalize 256 ^ q = P at hsum hP ⊢
    · have e1 := Nat.div_add_mod V P
      have e2 := Nat.mod_lt V hP
      have e3 : P * (V / P + A % 256) ≤ P * 255 := Nat.mul_le_mul (Nat.le_refl _) (by omega)
      rw [Nat.mul_add] at e3
      rw [Nat.mul_comm (A % 256) P]; omega
  have hlt : 1 ≤ i → putV V A q i < 256 ^ (q + i) := by
    intro hi
    induction i with
    | zero => omega
    | succ i ih =>
      rcases Nat.eq_zero_or_pos i with e | e
      · subst e; exact h1
      · have h2 := ih e
        rw [putV_succ, ← Nat.add_assoc, Nat.pow_succ]
        have h3 : A / 2 ^ (8 * i) % 256 * 256 ^ (q + i) ≤ 255 * 256 ^ (q + i) := Nat.mul_le_mul (by have := Nat.mod_lt (A / 2 ^ (8 * i)) (show 0 < 256 by decide); omega) (Nat.le_refl _)
        omega
  refine ⟨fun hk => ?_, hlt, fun h => ?_, ?_, ?_⟩
  · rw [putV_succ]
    have hle : 2 ^ (n + m) ≤ 2 ^ (8 * i) := Nat.pow_le_pow_right (by decide) (by omega)
    rw [Nat.div_eq_of_lt (Nat.lt_of_lt_of_le hAl hle)]; simp
  · rw [h0]
    rw [show (256 : Nat) = 2 ^ 8 by decide, ← Nat.pow_mul, show 8 * q = L by omega]; exact hV
  · by_cases h : i = 0
    · subst h; rw [if_pos rfl, h0]; exact hV1
    · rw [if_neg h, Nat.div_eq_of_lt (hlt (by omega))]; exact Nat.one_pos
  · by_cases h : i = 0
    · subst h; rw [if_pos rfl, Nat.mul_zero, Nat.pow_zero, Nat.div_one]; exact hA256
    · rw [if_neg h, Nat.pow_zero, Nat.mod_one]
set_option maxRecDepth 100000 in
set_option maxHeartbeats 1000000 in
theorem wput_any (Av : Nat → Prop) (g : Nat) (C D : Value) (S : Pt) (n v : Nat) (w : World) (h : WrS Av w g C D S) (hn : n ≤ 16) (hv : v < 1048576) (hS : S.2 + n ≤ 400000) :
    Calls Tryz.prog 37 #[.pointer (some ⟨g, 0, none⟩), .int .i64 (n : Int), .int .i64 (v : Int)] w fun e w' => e = .returned (.int .i64 0) ∧ WrS Av w' g C D (putN S n v) ∧ Kp Av w w' := by
  obtain ⟨V, L⟩ := S
  obtain ⟨u, hK, hO, hu, hg, hA, hok, hL⟩ := h
  simp only at hK hO hL hS
  have c1 : w.cell? ⟨g, 1, none⟩ = some (.int .i64 (L : Int)) := (hK.cell 1).trans rfl
  have h7 := and7 L (by omega)
  obtain ⟨q, hq⟩ : ∃ q, L / 8 = q := ⟨_, rfl⟩
  obtain ⟨m, hm⟩ : ∃ m, L % 8 = m := ⟨_, rfl⟩
  obtain ⟨K, hKK⟩ : ∃ K, (L + n + 7) / 8 = K := ⟨_, rfl⟩
  obtain ⟨K0, hK0⟩ : ∃ K0, (L + 7) / 8 = K0 := ⟨_, rfl⟩
  have hm8 : m < 8 := by omega
  have hacc := acc_val v n m hv hn hm8
  obtain ⟨A, hAA⟩ : ∃ A, v % 2 ^ n * 2 ^ m = A := ⟨_, rfl⟩
  rw [hAA] at hacc
  rw [hm] at h7
  have hA24 : A < 16777216 := by
    have h1 : v % 2 ^ n < 2 ^ n := Nat.mod_lt _ (Nat.two_pow_pos n)
    have h2 : (2 : Nat) ^ n ≤ 2 ^ 16 := Nat.pow_le_pow_right (by decide) hn
    have h6 : (2 : Nat) ^ m ≤ 2 ^ 7 := Nat.pow_le_pow_right (by decide) (by omega)
    have h7 : v % 2 ^ n * 2 ^ m ≤ 2 ^ 16 * 2 ^ 7 := Nat.mul_le_mul (by omega) h6
    omega
  have hrnd := fun i => put_round (V := V) (L := L) (n := n) (x := v % 2 ^ n) (A := A) (q := q) (m := m) (K := K) (i := i) hok hAA.symm (Nat.mod_lt _ (Nat.two_pow_pos n)) hq.symm hm.symm hKK.symm
  have hKb : K0 ≤ K ∧ K ≤ q + 3 ∧ q ≤ K0 ∧ K0 ≤ q + 1 ∧ (m = 0 → K0 = q) ∧ (K0 = q → m = 0) := by omega
  have hqb : q ≤ 50000 := by omega
  have HM := bx hm
  have HRN := bx hrnd
  have HAA := bx hAA
  have HKK := bx hKK
  have hqI : (L : Int) / 8 = (q : Int) := by omega
  have hKI : ((L : Int) + (n : Int) + 7) / 8 = (K : Int) := by omega
  rw [hK0] at hO
  have HK0 := bx hK0
  have HQ := bx hq
  have hO0 : OwB w (g + 1) 5 u (bytesV (putV V A q 0) (max K0 (min K (q + 0)))) := by
    have e1 : putV V A q 0 = V := by unfold putV; rw [Nat.pow_zero, Nat.mod_one, Nat.zero_mul, Nat.add_zero]
    have e2 : max K0 (min K (q + 0)) = K0 := by omega
    rw [e1, e2]; exact hO
  clear hm hrnd hAA hKK hK0 hq hO
  go_enter Tryz.func37, Tryz.ntmps37
  go_wp2_with fail

  rw [hacc]
  clear hacc h7
  generalize ((2 : Int) ^ n % 4294967296 - 1) % 4294967296 = z0
  generalize (2 : Int) ^ n % 4294967296 = z1
  generalize bits .and .u32 (v : Int) ((2 ^ n - 1) % 4294967296) = z2
  generalize decide ((n : Int) < 0) = z3
  generalize decide (16 < (n : Int)) = z4
  go_loopg [8] 3 (fun κ ii wr => ∃ (i : Nat) (u : Value), κ = 3 - i ∧ i ≤ 3 ∧ ii = .int .i64 (i : Int) ∧ Bk wr g 80 #[u, .int .i64 (L : Int), C, D] ∧ OwB wr (g + 1) 5 u (bytesV (putV V A q i) (max K0 (min K (q + i)))) ∧ (∀ k, u.ownBlock = some k → ¬ Av k) ∧ Kp Av w wr)
  case atStart => exact ⟨0, u, by omega, by omega, rfl, hK, hO0, hu, Kp.refl w⟩
  case round =>
    clear hK hO0 hu c1
    obtain ⟨i, u, hgk, hi, rfl, hK, hO, hu, hKp⟩ := hrel
    have huu := hu
    have c1 : wr.cell? ⟨g, 1, none⟩ = some (.int .i64 (L : Int)) := (hK.cell 1).trans rfl
    have f0 := hK.frz 0
    have f1 := hK.frz 1
    by_cases hi3 : i < 3
    · have hr := HRN.out i
      obtain ⟨Au, nu, cu, rfl, hnu, hru⟩ := OwL.sl hO
      have hnl : nu = max K0 (min K (q + i)) := by rw [hnu.out, bytesV_len]
      have c0 : wr.cell? ⟨g, 0, none⟩ = some (.slice Au nu cu) := (hK.cell 0).trans rfl
      by_cases hkK : q + i < K
      · have hnu2 : nu ≤ q + i + 1 := by omega
        have HN := bx hnl
        go_upto_region 8 with (fail)
        go_cut [63] (fun v wx => v = .bool (decide (nu ≤ q + i)) ∧ wr = wx)
        case first =>
          by_cases hap : nu ≤ q + i
          · have hap1 : (nu : Int) ≤ (q : Int) + (i : Int) := by omega
            have hkk1 : (q : Int) + (i : Int) < (K : Int) := by omega
            have HD : Bx (decide (nu ≤ q + i) = true) := bx (decide_eq_true hap)
            clear hnl
            go_wp2
            go_meet
            case rel => exact ⟨by rw [HD.out], rfl⟩
          · have hap1 : ¬ (nu : Int) ≤ (q : Int) + (i : Int) := by omega
            have HD : Bx (decide (nu ≤ q + i) = false) := bx (decide_eq_false hap)
            clear hnl
            go_wp2
            go_meet
            case rel => exact ⟨by rw [HD.out], rfl⟩
        case rest =>
        obtain ⟨rfl, rfl⟩ := hcut
        go_upto_if 63 with (fail)
        go_cut [63] (fun _ wx => ∃ u, Bk wx g 80 #[u, .int .i64 (L : Int), C, D] ∧ OwB wx (g + 1) 5 u (bytesV (putV V A q i) (q + i + 1)) ∧ (∀ k, u.ownBlock = some k → ¬ Av k) ∧ Kp Av w wx)
        case first =>
          by_cases hap : nu ≤ q + i
          · have hlk : nu = q + i := by omega
            have hV : putV V A q i < 256 ^ (q + i) := by
              rcases Nat.eq_zero_or_pos i with e | e
              · subst e
                exact hr.2.2.1 (by have := HN.out; omega)
              · exact hr.2.1 e
            have hsn := bytesV_snoc hV
            have hlist : max K0 (min K (q + i)) = q + i := by rw [← HN.out]; exact hlk
            rw [hlist] at hO
            have HSN := bx hsn
            have HL : Bx (((bytesV (putV V A q i) (q + i)).length + ([0] : List UInt8).length) * 1 ≤ 140737488355328) := bx (by rw [bytesV_len]; simp; omega)
            have hgz := hK.lt
            have c0a : (wr.alloc (.cells #[.int .u8 0] 5)).cell? ⟨g, 0, none⟩ = some (.slice Au nu cu) := (World.cell?_alloc_lt _ _ _ hgz).trans c0
            have f0a : (wr.alloc (.cells #[.int .u8 0] 5)).frozen? ⟨g, 0, none⟩ = false := (Below.frozen (bl_alloc (Below.refl wr.heap.size wr) (Nat.le_refl _) _) hgz).trans f0
            clear hlk hsn hlist hnl
            go_wp2_with (at_builtin; refine wpList_appL _ bV_one rfl (.tmp 68) (.tmp 69) rfl byteTy (by decide) (g + 1) _ _ rfl (hO.alloc _) _ _ 1 1 [0] rfl rfl (RL.freshe _ _ rfl _) HL.out (le_alloc0 hgz _) ?_; intro v5 w5 hO5 hg5 hk5 hb5; obtain ⟨A5, n5, c5, rfl, hn5, hr5⟩ := OwL.sl hO5; have e1 := (hb5.cell (p := ⟨g, 0, none⟩) (Nat.lt_succ_self g)).trans c0a; have e2 := (hb5.frozen (p := ⟨g, 0, none⟩) (Nat.lt_succ_self g)).trans f0a)
            go_meet
            case rel =>
              have hAr : ∀ k, Av k → k < wr.heap.size := fun k hk => Nat.lt_of_lt_of_le (hA k hk) hKp.size
              have hK5 : Bk (w5.setCell ⟨g, 0, none⟩ (.slice A5 n5 c5)) g 80 #[.slice A5 n5 c5, .int .i64 (L : Int), C, D] := by
                have := (((hK.alloc (.cells #[.int .u8 0] 5)).below hb5 (Nat.lt_succ_self g))).set 0 (.slice A5 n5 c5)
                simpa using this
              have hu5 : ∀ k, (Value.slice A5 n5 c5).ownBlock = some k → ¬ Av k := by
                intro k hk
                rcases hk5 with e | e
                · exact hu k (e.symm.trans hk)
                · rw [hk] at e
                  injection e with e
                  intro hav
                  have := hAr k hav
                  simp at e; omega
              refine ⟨_, hK5, ?_, hu5, ?_⟩
              · rw [HSN.out]
                exact hO5.agree fun k hk1 _ => Below.heap_setCell w5 ⟨g, 0, none⟩ _ k (by show k ≠ g; omega)
              · exact ((hKp.alloc hA _).grown (fun k hk => hA k hk) hg5 (fun k hk => hu k hk)).setCell (by exact hg) _
          · have hlk : max K0 (min K (q + i)) = q + i + 1 := by rw [← HN.out]; omega
            rw [hlk] at hO
            have hap2 : ¬ (nu : Int) ≤ (q : Int) + (i : Int) := by omega
            clear hlk hnl
            go_wp2
            go_meet
            case rel => exact ⟨_, hK, hO, hu, hKp⟩
        case rest =>
          clear hK hO hu hKp c0 c1 f0 f1 hru hnl
          obtain ⟨u, hK, hO, hu, hKp⟩ := hcut
          obtain ⟨gg, n5, c5, rfl, hn5, hgg1, hgg2, hcl, hfr⟩ := OwL.frm hO (by rw [bytesV_len]; omega)
          have hn5e : n5 = q + i + 1 := by rw [hn5.out, bytesV_len]
          have c0 : wc.cell? ⟨g, 0, none⟩ = some (.slice (some ⟨gg, 0, none⟩) n5 c5) := (hK.cell 0).trans rfl
          obtain ⟨old, hold⟩ : ∃ old, putV V A q i / 256 ^ (q + i) = old := ⟨_, rfl⟩
          obtain ⟨a, ha⟩ : ∃ a, A / 2 ^ (8 * i) % 256 = a := ⟨_, rfl⟩
          have hr4 := hr.2.2.2.1
          have hr5 := hr.2.2.2.2
          rw [hold] at hr4
          rw [ha] at hr5
          have ha8 : a < 256 := by omega
          have hmi : (if i = 0 then m else 0) ≤ 8 := by split <;> omega
          have hold8 : old < 256 := by
            have h1 : 2 ^ (if i = 0 then m else 0) ≤ 2 ^ 8 := Nat.pow_le_pow_right (by decide) hmi
            omega
          have hcc : wc.cell? ⟨gg, q + i, none⟩ = some (.int .u8 (old : Int)) := by
            rw [hcl (q + i) _ (bytesV_get (by omega)), hold]
            unfold bV
            rw [UInt8.toNat_ofNat', Nat.mod_eq_of_lt hold8]
          have hff := hfr (q + i)
          have hor := u8_or_low old a (if i = 0 then m else 0) hr4 hr5 ha8 hmi
          have haI : (A : Int) / 2 ^ (8 * i) % 256 = (a : Int) := by
            rw [← ha]; simp
          have hset := bytesV_set (V := putV V A q i) (V' := putV V A q (i + 1)) (k := q + i) (a := a) (x := old + a) (by rw [putV_succ, ha]) (by rw [hold])
          have hsum : old + a < 256 := by
            have e1 : a = 2 ^ (if i = 0 then m else 0) * (a / 2 ^ (if i = 0 then m else 0)) := by have := Nat.div_add_mod a (2 ^ (if i = 0 then m else 0)); omega
            generalize (if i = 0 then m else 0) = j at hr4 hr5 hmi e1
            have h2 : a / 2 ^ j < 2 ^ (8 - j) := by
              rw [Nat.div_lt_iff_lt_mul (Nat.two_pow_pos j), ← Nat.pow_add, show 8 - j + j = 8 by omega]; exact ha8
            have h3 : 2 ^ j * (a / 2 ^ j + 1) ≤ 2 ^ j * 2 ^ (8 - j) := Nat.mul_le_mul (Nat.le_refl _) h2
            rw [← Nat.pow_add, show j + (8 - j) = 8 by omega, Nat.mul_succ] at h3
            omega
          have hOs := hO.set (q + i) (UInt8.ofNat (old + a))
          rw [hset] at hOs
          have hbv : bV (UInt8.ofNat (old + a)) = .int .u8 ((old + a : Nat) : Int) := by unfold bV; rw [UInt8.toNat_ofNat', Nat.mod_eq_of_lt hsum]
          rw [hbv] at hOs
          have hmx : max K0 (min K (q + (i + 1))) = q + i + 1 := by omega
          have HFIN : Bx (Bk (wc.setCell ⟨gg, q + i, none⟩ (.int .u8 ((old + a : Nat) : Int))) g 80 #[.slice (some ⟨gg, 0, none⟩) n5 c5, .int .i64 (L : Int), C, D] ∧ OwB (wc.setCell ⟨gg, q + i, none⟩ (.int .u8 ((old + a : Nat) : Int))) (g + 1) 5 (.slice (some ⟨gg, 0, none⟩) n5 c5) (bytesV (putV V A q (i + 1)) (max K0 (min K (q + (i + 1))))) ∧
              Kp Av w (wc.setCell ⟨gg, q + i, none⟩ (.int .u8 ((old + a : Nat) : Int)))) := bx (by
            rw [hmx]
            exact ⟨hK.far (by show g ≠ gg; omega) _, hOs, hKp.setCell (by exact hu gg rfl) _⟩)
          have HU := bx hu
          clear hold ha hr4 hr5 hset hOs hbv hmx hcl hfr hK hO hu hKp hr hn5
          go_wp2
          go_roundg (3 - (i + 1))
          case rel => exact ⟨i + 1, _, rfl, by omega, by go_num, HFIN.out.1, HFIN.out.2.1, HU.out, HFIN.out.2.2⟩
          case measure => omega
      · have hr1 := hr.1 (by omega)
        have hnk : nu = K := by omega
        have hmx : max K0 (min K (q + (i + 1))) = max K0 (min K (q + i)) := by omega
        have hge : (nu : Int) ≤ (q : Int) + (i : Int) := by omega
        have hkn : ¬ (q : Int) + (i : Int) < (K : Int) := by omega
        have hkn2 : ¬ (q : Int) + (i : Int) < (nu : Int) := by omega
        have HFIN : Bx (OwB wr (g + 1) 5 (.slice Au nu cu) (bytesV (putV V A q (i + 1)) (max K0 (min K (q + (i + 1)))))) := bx (by rw [hr1, hmx]; exact hO)
        clear hnk hnl hmx hr1
        go_wp2
        go_roundg (3 - (i + 1))
        case rel => exact ⟨i + 1, _, rfl, by omega, by go_num, hK, HFIN.out, hu, hKp⟩
        case measure => omega
    · obtain rfl : i = 3 := by omega
      have hmx : max K0 (min K (q + 3)) = K := by omega
      have hfv : putV V A q 3 = (putN (V, L) n v).1 := by
        unfold putV putN
        simp only
        rw [Nat.mod_eq_of_lt (show A < 256 ^ 3 by omega), ← HAA.out, Nat.mul_assoc]
        congr 2
        rw [show (256 : Nat) = 2 ^ 8 by decide, ← Nat.pow_mul, ← Nat.pow_add]
        congr 1
        have := HM.out; have := HQ.out; omega
      rw [hmx, hfv] at hO
      have HFIN : Bx (WrS Av (wr.setCell ⟨g, 1, none⟩ (.int .i64 ((L : Int) + (n : Int)))) g C D (putN (V, L) n v) ∧ Kp Av w (wr.setCell ⟨g, 1, none⟩ (.int .i64 ((L : Int) + (n : Int))))) := bx (by
        have e : (((putN (V, L) n v).2 : Nat) : Int) = (L : Int) + (n : Int) := by unfold putN; simp
        have hKx := hKp.setCell (p := ⟨g, 1, none⟩) hg (.int .i64 ((L : Int) + (n : Int)))
        refine ⟨⟨u, ?_, ?_, hu, hg, fun k hk => Nat.lt_of_lt_of_le (hA k hk) hKx.size, putN_ok hok n v, ?_⟩, hKx⟩
        · rw [e]
          have := hK.set 1 (.int .i64 ((L : Int) + (n : Int)))
          simpa using this
        · have hl : ((putN (V, L) n v).2 + 7) / 8 = K := HKK.out
          rw [hl]
          exact hO.agree fun k hk1 _ => Below.heap_setCell wr ⟨g, 1, none⟩ _ k (by show k ≠ g; omega)
        · exact hS)
      clear hmx hfv hK hO hKp
      go_wp2
      go_ret
      exact ⟨rfl, HFIN.out⟩
end Go.Proofs.YtnkdpchnighkfaaGreatDoor
namespace Go.Proofs.YtnkdpchnighkfaaGreatDoor
open Go.RowKit

theorem ret_i3 {a b c d e f : Int} (h1 : a = b) (h2 : c = d) (h3 : e = f) : Ending.returned (.tuple #[.int .i64 a, .int .i64 c, .int .i64 e]) = .returned (.tuple #[.int .i64 b, .int .i64 d, .int .i64 f]) := by rw [h1, h2, h3]
theorem MapT.run_at {κ : Type} {f : κ → Value} {P : Program} {k : TypeId} {w : World} {b n : Nat} {G : κ → Option Value} {t e : TypeId} {z v : Value} (hown : MapT f w P k b n G) (K : Maps.Keyed P k) (ht : P.underlying t = some (.map k e)) (hz : (zeroValue e).run P w = .ok z w) {y : κ} {kl : Lit} (hkey : keyOf P k (f y) = some kl) (hG : (G y).getD z = v) :
    (Instr.lookup t (.map (some b)) (f y) false).run P w = .ok v w := by
  obtain ⟨F, ⟨D, h, r⟩, rG⟩ := hown
  obtain ⟨r1, r2⟩ := r kl (K.key hkey)
  have hF := rG y kl hkey
  obtain ⟨u, ps, hrun, hv⟩ := h.lookup K ht hz (zd := .held z) (zp := []) rfl hkey
  have hv' : u = (F kl).getD z := by
    rw [r1] at hv
    unfold heldR at hv
    simp only [Option.some.injEq, Prod.mk.injEq] at hv
    cases hF : F kl with
    | none => rw [hF] at hv; simpa using hv.1
    | some u => rw [hF] at hv; simpa using hv.1
  rw [hrun, hv', hF, hG]
set_option maxHeartbeats 1000000 in
theorem pword_any (g lo s : Nat) (l : List Nat) (w : World) (hC : PCd w lo g l) (hs : s < l.length) (hm : l.getD s 0 ≠ 0) (h15 : l.getD s 0 ≤ 15) (hl : l.length ≤ 288) (hw : wordP l s < 32768) :
    Calls Tryz.prog 55 #[.pointer (some ⟨g, 0, none⟩), .int .i64 (s : Int)] w fun e w' => e = .returned (.tuple #[.int .i64 (wordP l s : Int), .int .i64 (l.getD s 0 : Int)]) ∧ Below w.heap.size w w' := by
  obtain ⟨ms, mw, n1, n2, hB, _, hM, _, _, _, _⟩ := hC
  have c1 : w.cell? ⟨g, 1, none⟩ = some (.map (some mw)) := (hB.cell 1).trans rfl
  have hki : keyOf Tryz.prog 3 (iV (s : Int)) = some (.int .i64 (s : Int)) := Maps.keyOf_int_mk Tryz.underlying3 (Go.WalkArith.wf_i64 (by omega))
  have hG : (wrdG l l.length (s : Int)).getD (wordV (0, 0)) = .agg #[.int .u8 (l.getD s 0 : Int), .int .u16 (wordP l s : Int)] := by
    unfold wrdG
    rw [if_pos (by omega), Int.toNat_natCast]
    unfold wordOf
    rw [if_neg hm]; rfl
  have hlk := hM.run_at (Maps.int_keyed Tryz.underlying3) Tryz.underlying110 (zero_word w) hki hG
  have hiv : iV (s : Int) = .int .i64 (s : Int) := rfl
  rw [hiv] at hlk
  obtain ⟨m, hmm⟩ : ∃ m, l.getD s 0 = m := ⟨_, rfl⟩
  obtain ⟨W, hWW⟩ : ∃ W, wordP l s = W := ⟨_, rfl⟩
  rw [hmm, hWW] at hlk ⊢
  rw [hmm] at h15
  rw [hWW] at hw
  have hbl := bl_alloc (Below.refl w.heap.size w) (Nat.le_refl _) (.cells #[.int .u8 (m : Int), .int .u16 (W : Int)] 116)
  have HB := bx hbl
  clear hiv hG hki hmm hWW hM hB hbl hm
  go_enter Tryz.func55, Tryz.ntmps55
  go_wp2
  go_quiet (fail)
  rename Nat => nq
  go_wp2
  go_ret2
  exact ⟨rfl, below_drewN HB.out nq⟩
theorem and_mask64 (v n : Nat) (hv : v < 32768) (hn : n ≤ 15) : bits .and .i64 (v : Int) (2 ^ n - 1) = ((v % 2 ^ n : Nat) : Int) := by
  have hk : ∀ x : Int, 0 ≤ x → x < 2 ^ 16 → IntKind.i64.wrap x = x := fun x h0 h1 => IntWalk.i64_in _ (by omega)
  rw [bits_mask .i64 16 (by decide) hk n (by omega) _ (by omega) (by omega)]
  simp
theorem wide_step {f v per k : Nat} (h : 2 * per ≤ v / 2 ^ k) : wideF (f + 1) v per k = wideF f v per (k + 1) := by rw [wideF, if_pos h]
theorem wide_end {f v per k : Nat} (h : ¬ 2 * per ≤ v / 2 ^ k) : wideF f v per k = k := by
  cases f with
  | zero => rfl
  | succ f => rw [wideF, if_neg h]
set_option maxHeartbeats 1000000 in
theorem class_any (a : Int) (v per : Nat) (w : World) (ha : a = (v : Int)) (hv : v < 32768) (hp : per = 2 ∨ per = 4) :
    Calls Tryz.prog 56 #[.int .i64 a, .int .i64 (per : Int)] w fun e w' => e = .returned (.tuple #[.int .i64 ((classP v per).1 : Int), .int .i64 ((classP v per).2.1 : Int), .int .i64 ((classP v per).2.2 : Int)]) ∧ w = w' := by
  subst ha
  obtain ⟨c, hc⟩ : ∃ c, classP v per = c := ⟨_, rfl⟩
  rw [hc]
  have hp2 : 2 ≤ per ∧ per ≤ 4 := by omega
  by_cases h : v < 2 * per
  · have HC : Bx (c = (v, 0, 0)) := bx (by rw [← hc, classP, if_pos h])
    have hI : (v : Int) < 2 * (per : Int) := by omega
    clear hc
    go_enter Tryz.func56, Tryz.ntmps56
    go_wp2
    go_ret3
    rw [HC.out]
    exact ⟨rfl, rfl⟩
  · have HC : Bx (c = (per * (wideP v per + 1) + v / 2 ^ wideP v per - per, v % 2 ^ wideP v per, wideP v per)) := bx (by rw [← hc, classP, if_neg h])
    have hI : ¬ (v : Int) < 2 * (per : Int) := by omega
    clear hc
    go_enter Tryz.func56, Tryz.ntmps56
    go_wp2
    go_loopg [6] v (fun κ kk wr => ∃ k : Nat, κ = v - k ∧ k ≤ 15 ∧ kk = .int .i64 (k : Int) ∧ Bx (2 ^ k ≤ v) ∧ Bx (wideP v per = wideF (v - k) v per k) ∧ w = wr)
    case atStart => exact ⟨0, by omega, by omega, rfl, bx (by simp; omega), bx rfl, rfl⟩
    case round =>
      obtain ⟨k, hgk, hk, rfl, hpw, hwd, rfl⟩ := hrel
      obtain ⟨q, hq⟩ : ∃ q, v / 2 ^ k = q := ⟨_, rfl⟩
      have hqI : (v : Int) / 2 ^ k = (q : Int) := by rw [← hq]; simp
      have hkv : k < v := Nat.lt_of_lt_of_le Nat.lt_two_pow_self hpw.out
      by_cases hgo : 2 * per ≤ q
      · have HW : Bx (wideP v per = wideF (v - (k + 1)) v per (k + 1)) := bx (by
          rw [hwd.out, show v - k = (v - (k + 1)) + 1 by omega, wide_step (by rw [hq]; exact hgo)])
        have h2 : 2 ^ (k + 1) ≤ v := by
          rw [Nat.pow_succ]
          have := Nat.mul_le_of_le_div (2 ^ k) 4 v (by rw [hq]; omega)
          omega
        have h14 : k ≤ 14 := by
          rcases Nat.lt_or_ge 14 k with h | h
          · have : 2 ^ 16 ≤ 2 ^ (k + 1) := Nat.pow_le_pow_right (by decide) (by omega)
            omega
          · exact h
        have hgI : 2 * (per : Int) ≤ (q : Int) := by omega
        have H2 := bx h2
        clear hq h2
        go_wp2
        go_roundg (v - (k + 1))
        case rel => exact ⟨k + 1, rfl, by omega, by go_num, H2, HW, rfl⟩
        case measure => omega
      · have HW : Bx (wideP v per = k) := bx (by rw [hwd.out, wide_end (by rw [hq]; exact hgo)])
        have hgI : ¬ 2 * (per : Int) ≤ (q : Int) := by omega
        have hand := and_mask64 v k hv hk
        have hq32 : q < 32768 := by rw [← hq]; exact Nat.lt_of_le_of_lt (Nat.div_le_self _ _) hv
        have HQ := bx hq
        have hper : per * (k + 1) ≤ 4 * 16 := Nat.mul_le_mul hp2.2 (by omega)
        have hperI : (per : Int) * ((k : Int) + 1) = ((per * (k + 1) : Nat) : Int) := by simp
        obtain ⟨pk, hpk⟩ : ∃ pk, per * (k + 1) = pk := ⟨_, rfl⟩
        rw [hpk] at hper hperI
        have HPK := bx hpk
        have h2k : (2 : Int) ^ k ≤ 32768 ∧ 0 < (2 : Int) ^ k := by
          have h1 : (2 : Nat) ^ k ≤ 2 ^ 15 := Nat.pow_le_pow_right (by decide) hk
          have h2 : 0 < (2 : Nat) ^ k := Nat.two_pow_pos k
          have e : (2 : Int) ^ k = ((2 ^ k : Nat) : Int) := by simp
          rw [e]; omega
        clear hq hpk
        go_wp2
        go_ret3
        have hc1 : c = (pk + q - per, v % 2 ^ k, k) := by rw [HC.out, HW.out, HQ.out, HPK.out]
        have hle : per ≤ pk + q := by
          have h1 := HPK.out
          have h2 : per * 1 ≤ per * (k + 1) := Nat.mul_le_mul (Nat.le_refl _) (by omega)
          omega
        rw [hc1]
        exact ⟨ret_i3 (by show (pk : Int) + (q : Int) - (per : Int) = ((pk + q - per : Nat) : Int); omega) (by simp) rfl, rfl⟩
/-- The code's blocks are among those that stay. -/
def InAv (Av : Nat → Prop) (lo g : Nat) : Prop := ∀ k, lo ≤ k → k ≤ g → Av k
theorem PCd.kp {Av : Nat → Prop} {w w' : World} {lo g : Nat} {l : List Nat} (h : PCd w lo g l) (hk : Kp Av w w') (hA : InAv Av lo g) : PCd w' lo g l := h.keep fun i h1 h2 => hk.same i (hA i h1 h2)
theorem WrS.step {Av : Nat → Prop} {w w' : World} {g : Nat} {C D : Value} {S : Pt} (h : WrS Av w g C D S) (hb : Below w.heap.size w w') : WrS Av w' g C D S := by
  obtain ⟨v, h1, h2, h3, h4, h5, h6⟩ := h
  exact ⟨v, h1.below hb h1.lt, h2.below hb, h3, h4, fun k hk => Nat.lt_of_lt_of_le (h5 k hk) hb.size, h6⟩
theorem Kp.step {Av : Nat → Prop} {a b c : World} (h : Kp Av a b) (hA : ∀ k, Av k → k < a.heap.size) (hb : Below b.heap.size b c) : Kp Av a c :=
  ⟨hb.os.trans h.os, hb.tape.trans h.tape, hb.output.trans h.output, Nat.le_trans h.size hb.size, fun k hk => (hb.block k (Nat.lt_of_lt_of_le (hA k hk) h.size)).trans (h.same k hk)⟩
theorem WrS.av {Av : Nat → Prop} {w : World} {g : Nat} {C D : Value} {S : Pt} (h : WrS Av w g C D S) : ∀ k, Av k → k < w.heap.size := by
  obtain ⟨_, _, _, _, _, h5, _⟩ := h; exact h5
set_option maxHeartbeats 1000000 in
theorem sput_any (Av : Nat → Prop) (g gc lo s : Nat) (C D : Value) (S : Pt) (l : List Nat) (w : World) (hW : WrS Av w g C D S) (hC : PCd w lo gc l) (_hA : InAv Av lo gc) (hs : s < l.length) (hm : l.getD s 0 ≠ 0) (h15 : l.getD s 0 ≤ 15) (hl : l.length ≤ 288) (hw : wordP l s < 32768) (hS : S.2 + 16 ≤ 400000) :
    Calls Tryz.prog 38 #[.pointer (some ⟨g, 0, none⟩), .pointer (some ⟨gc, 0, none⟩), .int .i64 (s : Int)] w fun e w' => e = .returned (.tuple #[]) ∧ WrS Av w' g C D (putSym l S s) ∧ Kp Av w w' := by
  obtain ⟨n, hn⟩ : ∃ n, l.getD s 0 = n := ⟨_, rfl⟩
  obtain ⟨W, hWW⟩ : ∃ W, wordP l s = W := ⟨_, rfl⟩
  have HT : Bx (putSym l S s = putW n S W) := bx (by unfold putSym; rw [hn, hWW])
  have HC1 := bx (pword_any gc lo s l w hC hs hm h15 hl hw)
  rw [hn, hWW] at HC1
  rw [hn] at h15
  rw [hWW] at hw
  rw [HT.out]
  have hAv := hW.av
  clear hn hWW hm hs
  go_enter Tryz.func38, Tryz.ntmps38
  go_wp2_with fail
  refine HC1.out.mono ?_
  rintro e w1 ⟨rfl, hb1⟩
  have hW1 := hW.step hb1
  have hK1 : Kp Av w w1 := (Kp.refl w).step hAv hb1
  clear hb1 hW hC HC1
  go_wp2_with fail
  go_loopg [8] n (fun κ kk wr => ∃ (j : Nat) (T : Pt), κ = n - j ∧ j ≤ n ∧ kk = .int .i64 ((n : Int) - 1 - (j : Int)) ∧ WrS Av wr g C D T ∧ Kp Av w wr ∧ Bx (putW n S W = putW (n - j) T W) ∧ T.2 + (n - j) ≤ 400000)
  case atStart => exact ⟨0, S, by omega, by omega, by go_num, hW1, hK1, bx rfl, by omega⟩
  case round =>
    clear hW1 hK1
    obtain ⟨j, T, hgk, hj, rfl, hWr, hKr, hpw, hT⟩ := hrel
    by_cases hjn : j < n
    · obtain ⟨k, hk⟩ : ∃ k, n - j = k + 1 := ⟨n - j - 1, by omega⟩
      have hkI : (n : Int) - 1 - (j : Int) = (k : Int) := by omega
      rw [hkI]
      have hk15 : k < 15 := by omega
      obtain ⟨x, hx⟩ : ∃ x, W / 2 ^ k = x := ⟨_, rfl⟩
      have hxI : (W : Int) / 2 ^ k = (x : Int) := by rw [← hx]; simp
      have hxb : x < 1048576 := by rw [← hx]; exact Nat.lt_of_le_of_lt (Nat.div_le_self _ _) (by omega)
      have HP : Bx (putW n S W = putW k (putN T 1 x) W) := bx (by rw [hpw.out, hk, putW, hx])
      have HK := bx hk
      have hT2 : (putN T 1 x).2 + k ≤ 400000 := by show T.2 + 1 + k ≤ _; omega
      clear hk hx hpw hkI
      go_wp2_with fail
      refine (wput_any Av g C D T 1 x wr hWr (by omega) hxb (by omega)).mono ?_
      rintro e w2 ⟨rfl, hW2, hK2⟩
      have hK3 := hKr.trans hK2
      go_wp2_with fail
      go_roundg (n - (j + 1))
      case rel => exact ⟨j + 1, _, rfl, by omega, by have := HK.out; go_num, hW2, hK3, by have := HK.out; rw [show n - (j + 1) = k by omega]; exact HP, by have := HK.out; omega⟩
      case measure => omega
    · obtain rfl : j = n := by omega
      have HP : Bx (putW j S W = T) := bx (by rw [hpw.out, Nat.sub_self]; rfl)
      go_wp2_with fail
      go_end0
      rw [HP.out]
      exact ⟨rfl, hWr, hKr⟩
end Go.Proofs.YtnkdpchnighkfaaGreatDoor
namespace Go.Proofs.YtnkdpchnighkfaaGreatDoor
open Go.RowKit

theorem lit_ok {s : Nat} (h : s < 288) : fixLit.getD s 0 ≠ 0 ∧ fixLit.getD s 0 ≤ 15 ∧ wordP fixLit s < 32768 := by
  have e := lit_len s h
  have h1 : fixLit.getD s 0 ≠ 0 ∧ fixLit.getD s 0 ≤ 15 := by rw [e]; split <;> (try split) <;> (try split) <;> omega
  refine ⟨h1.1, h1.2, ?_⟩
  have := word_lt code_lit (by rw [lit_n]; exact h) h1.1 h1.2
  have h2 : 2 ^ fixLit.getD s 0 ≤ 2 ^ 15 := Nat.pow_le_pow_right (by decide) h1.2
  omega
theorem dst_ok {s : Nat} (h : s < 32) : fixDist.getD s 0 ≠ 0 ∧ fixDist.getD s 0 ≤ 15 ∧ wordP fixDist s < 32768 := by
  have e := dst_len s h
  have h1 : fixDist.getD s 0 ≠ 0 ∧ fixDist.getD s 0 ≤ 15 := by rw [e]; omega
  refine ⟨h1.1, h1.2, ?_⟩
  have := word_lt code_dst (by rw [dst_n]; exact h) h1.1 h1.2
  have h2 : 2 ^ fixDist.getD s 0 ≤ 2 ^ 15 := Nat.pow_le_pow_right (by decide) h1.2
  omega
theorem putSym_len (l : List Nat) (S : Pt) (s : Nat) : (putSym l S s).2 = S.2 + l.getD s 0 := putW_len _ _ _
theorem WrS.cells {Av : Nat → Prop} {w : World} {g : Nat} {C D : Value} {S : Pt} (h : WrS Av w g C D S) : w.cell? ⟨g, 2, none⟩ = some C ∧ w.cell? ⟨g, 3, none⟩ = some D := by
  obtain ⟨v, h1, _⟩ := h
  exact ⟨(h1.cell 2).trans rfl, (h1.cell 3).trans rfl⟩
set_option maxHeartbeats 2000000 in
theorem scopy_any (Av : Nat → Prop) (g gl lol gd lod n far : Nat) (S : Pt) (w : World) (hW : WrS Av w g (.pointer (some ⟨gl, 0, none⟩)) (.pointer (some ⟨gd, 0, none⟩)) S) (hC : PCd w lol gl fixLit) (hD : PCd w lod gd fixDist) (hA : InAv Av lol gl) (hB : InAv Av lod gd)
    (h3 : 3 ≤ n) (h258 : n ≤ 258) (hf1 : 1 ≤ far) (hf2 : far ≤ 32768) (hS : S.2 + 80 ≤ 400000) :
    Calls Tryz.prog 39 #[.pointer (some ⟨g, 0, none⟩), .int .i64 (n : Int), .int .i64 (far : Int)] w fun e w' => e = .returned (.tuple #[]) ∧ WrS Av w' g (.pointer (some ⟨gl, 0, none⟩)) (.pointer (some ⟨gd, 0, none⟩)) (putDst (putLen S n) far) ∧ Kp Av w w' := by
  obtain ⟨U, hU⟩ : ∃ U, putLen S n = U := ⟨_, rfl⟩
  obtain ⟨T, hT⟩ : ∃ T, putDst U far = T := ⟨_, rfl⟩
  rw [hU, hT]
  obtain ⟨s1, m1, w1', hc1⟩ : ∃ s1 m1 w1', classP (n - 3) 4 = (s1, m1, w1') := ⟨_, _, _, rfl⟩
  obtain ⟨s2, m2, w2', hc2⟩ : ∃ s2 m2 w2', classP (far - 1) 2 = (s2, m2, w2') := ⟨_, _, _, rfl⟩
  have hcs2 := class_spread (v := far - 1) (per := 2) (by decide)
  have hcd2 := class_dst (v := far - 1) (by omega)
  rw [hc2] at hcs2 hcd2
  simp only at hcs2 hcd2
  have hm2 : m2 < 1048576 := by
    have : 2 ^ w2' ≤ 2 ^ 13 := Nat.pow_le_pow_right (by decide) hcd2.2
    omega
  have HT : Bx (T = putN (putSym fixDist U s2) w2' m2) := bx (by rw [← hT, putDst, hc2])
  have hd2 := dst_ok (s := s2) (by omega)
  have HC2 := bx hc2
  obtain ⟨c2, c3⟩ := hW.cells
  by_cases h8 : n = 258
  · have HU : Bx (U = putSym fixLit S 285) := bx (by rw [← hU, putLen, if_pos h8])
    have hl := lit_ok (s := 285) (by omega)
    have hlen : (putSym fixLit S 285).2 ≤ S.2 + 15 := by rw [putSym_len]; omega
    have H8 := bx h8
    have hnb : ((n : Int) == 258) = true := by rw [h8]; rfl
    have hp := sput_any Av g gl lol 285 (.pointer (some ⟨gl, 0, none⟩)) (.pointer (some ⟨gd, 0, none⟩)) S fixLit w hW hC hA (by rw [lit_n]; omega) hl.1 hl.2.1 (by rw [lit_n]; omega) hl.2.2 (by omega)
    have HP := bx hp
    clear hU hT hc1 hc2 hcs2 hp h8
    go_enter Tryz.func39, Tryz.ntmps39
    go_wp2_with fail
    refine HP.out.mono ?_
    rintro e w1 ⟨rfl, hW1, hK1⟩
    rw [← HU.out] at hW1 hlen
    have hD1 := hD.kp hK1 hB
    obtain ⟨d2, d3⟩ := hW1.cells
    clear c2 c3
    go_wp2_with fail
    refine (class_any ((far : Int) - 1) (far - 1) 2 w1 (by omega) (by omega) (.inl rfl)).mono ?_
    rintro e w2 ⟨rfl, rfl⟩
    rw [HC2.out]
    go_wp2_with fail
    refine (sput_any Av g gd lod s2 _ _ U fixDist w1 hW1 hD1 hB (by rw [dst_n]; omega) hd2.1 hd2.2.1 (by rw [dst_n]; omega) hd2.2.2 (by omega)).mono ?_
    rintro e w3 ⟨rfl, hW3, hK3⟩
    have hlen3 : (putSym fixDist U s2).2 ≤ U.2 + 15 := by rw [putSym_len]; omega
    go_wp2_with fail
    refine (wput_any Av g _ _ (putSym fixDist U s2) w2' m2 w3 hW3 (by omega) hm2 (by omega)).mono ?_
    rintro e w4 ⟨rfl, hW4, hK4⟩
    rw [← HT.out] at hW4
    have hKK := (hK1.trans hK3).trans hK4
    go_wp2_with fail
    go_end0
    exact ⟨rfl, hW4, hKK⟩
  · have HU : Bx (U = putN (putSym fixLit S (257 + s1)) w1' m1) := bx (by rw [← hU, putLen, if_neg h8, hc1])
    have hcs1 := class_spread (v := n - 3) (per := 4) (by decide)
    have hcl1 := class_len (n - 3) (by omega)
    rw [hc1] at hcs1 hcl1
    simp only at hcs1 hcl1
    have hw1 : w1' ≤ 13 := by
      have hx : ∀ v, v < 255 → (classP v 4).2.2 ≤ 13 := by decide +kernel
      have := hx (n - 3) (by omega)
      rw [hc1] at this; exact this
    have hm1 : m1 < 1048576 := by
      have : 2 ^ w1' ≤ 2 ^ 13 := Nat.pow_le_pow_right (by decide) hw1
      omega
    have hl := lit_ok (s := 257 + s1) (by omega)
    have hlen : (putSym fixLit S (257 + s1)).2 ≤ S.2 + 15 := by rw [putSym_len]; omega
    have hnb : ((n : Int) == 258) = false := by rw [beq_eq_false_iff_ne]; omega
    have HC1 := bx hc1
    clear hU hT hc1 hc2 hcs2 hcs1 h8
    go_enter Tryz.func39, Tryz.ntmps39
    go_wp2_with fail
    refine (class_any ((n : Int) - 3) (n - 3) 4 w (by omega) (by omega) (.inr rfl)).mono ?_
    rintro e w0 ⟨rfl, rfl⟩
    rw [HC1.out]
    have hsum : (257 : Int) + (s1 : Int) = ((257 + s1 : Nat) : Int) := by omega
    have HS := bx hsum
    clear hsum
    go_wp2_with fail
    rw [HS.out]
    refine (sput_any Av g gl lol (257 + s1) _ _ S fixLit w hW hC hA (by rw [lit_n]; omega) hl.1 hl.2.1 (by rw [lit_n]; omega) hl.2.2 (by omega)).mono ?_
    rintro e w1 ⟨rfl, hW1, hK1⟩
    have hD1 := hD.kp hK1 hB
    go_wp2_with fail
    refine (wput_any Av g _ _ (putSym fixLit S (257 + s1)) w1' m1 w1 hW1 (by omega) hm1 (by omega)).mono ?_
    rintro e w2 ⟨rfl, hW2, hK2⟩
    rw [← HU.out] at hW2
    have hU2 : U.2 ≤ S.2 + 28 := by rw [HU.out]; show (putSym fixLit S (257 + s1)).2 + w1' ≤ _; omega
    have hD2 := hD1.kp hK2 hB
    obtain ⟨d2, d3⟩ := hW2.cells
    clear c2 c3
    go_wp2_with fail
    refine (class_any ((far : Int) - 1) (far - 1) 2 w2 (by omega) (by omega) (.inl rfl)).mono ?_
    rintro e w3 ⟨rfl, rfl⟩
    rw [HC2.out]
    go_wp2_with fail
    refine (sput_any Av g gd lod s2 _ _ U fixDist w2 hW2 hD2 hB (by rw [dst_n]; omega) hd2.1 hd2.2.1 (by rw [dst_n]; omega) hd2.2.2 (by omega)).mono ?_
    rintro e w4 ⟨rfl, hW4, hK4⟩
    have hlen3 : (putSym fixDist U s2).2 ≤ U.2 + 15 := by rw [putSym_len]; omega
    go_wp2_with fail
    refine (wput_any Av g _ _ (putSym fixDist U s2) w2' m2 w4 hW4 (by omega) hm2 (by omega)).mono ?_
    rintro e w5 ⟨rfl, hW5, hK5⟩
    rw [← HT.out] at hW5
    have hKK := ((hK1.trans hK2).trans hK4).trans hK5
    go_wp2_with fail
    go_end0
    exact ⟨rfl, hW5, hKK⟩
end Go.Proofs.YtnkdpchnighkfaaGreatDoor
namespace Go.Proofs.YtnkdpchnighkfaaGreatDoor
open Go.RowKit

set_option maxHeartbeats 400000 in
theorem wbytes_any (Av : Nat → Prop) (g : Nat) (C D : Value) (S : Pt) (w : World) (hW : WrS Av w g C D S) :
    Calls Tryz.prog 40 #[.pointer (some ⟨g, 0, none⟩)] w fun e w' => ∃ v, e = .returned v ∧ OwB w' w.heap.size 5 v (bytesV S.1 ((S.2 + 7) / 8)) ∧ Below w.heap.size w w' := by
  obtain ⟨u, hK, hO, _, _, _, _, hL⟩ := hW
  obtain ⟨b, hb⟩ : ∃ b, bytesV S.1 ((S.2 + 7) / 8) = b := ⟨_, rfl⟩
  have hbl : b.length ≤ 50001 := by rw [← hb, bytesV_len]; omega
  rw [hb] at hO ⊢
  clear hb hL
  obtain ⟨A, c, rfl, hr, hc, _⟩ := OwL.rd hO
  obtain ⟨n, hn⟩ : ∃ n, b.length = n := ⟨_, rfl⟩
  rw [hn] at hbl hc hK
  have c0 : w.cell? ⟨g, 0, none⟩ = some (.slice A n c) := (hK.cell 0).trans rfl
  have hz : g < w.heap.size := hK.lt
  have HN : Bx ((([] : List UInt8).length + b.length) * 1 ≤ 140737488355328) := bx (by rw [hn]; simp; omega)
  have HL := bx hn
  clear hn hK hO
  go_enter Tryz.func40, Tryz.ntmps40
  go_wp2_with (at_builtin; refine wpList_appL _ bV_one rfl (.tmp 5) (.tmp 9) rfl byteTy (by decide) w.heap.size _ [] rfl (OwL.lit0 w (Nat.le_refl _)) w.heap.size A n c b rfl HL.out (RL.alloc hr (Nat.le_refl _) _) HN.out (le_alloc0 (Nat.le_refl _) _) ?_; intro v1 w1 hown _ _ hb1; rw [List.nil_append] at hown)
  go_ret
  exact ⟨_, rfl, hown, ((Below.refl w.heap.size w).alloc (Nat.le_refl _) _).trans hb1⟩
end Go.Proofs.YtnkdpchnighkfaaGreatDoor
namespace Go.Proofs.YtnkdpchnighkfaaGreatDoor
open Go.RowKit

/-- Three bytes. -/
abbrev Tr3 := UInt8 × UInt8 × UInt8
def triV (x : Tr3) : Value := .agg #[bV x.1, bV x.2.1, bV x.2.2]
def Tr3.list (x : Tr3) : List UInt8 := [x.1, x.2.1, x.2.2]
def triB (b : List UInt8) (i : Nat) : Tr3 := (b.getD i 0, b.getD (i + 1) 0, b.getD (i + 2) 0)
theorem triB_list {b : List UInt8} {i : Nat} (h : i + 3 ≤ b.length) : (triB b i).list = keyB b i := by
  unfold triB Tr3.list keyB
  apply List.ext_getElem?
  intro j
  rw [List.getElem?_take, List.getElem?_drop]
  rcases j with _ | _ | _ | j
  · rw [if_pos (by omega), List.getD_eq_getElem?_getD, List.getElem?_eq_getElem (by omega : i < b.length)]; simp
  · rw [if_pos (by omega), List.getElem?_eq_getElem (by omega : i + 1 < b.length)]; simp [List.getElem?_eq_getElem (by omega : i + 1 < b.length)]
  · rw [if_pos (by omega), List.getElem?_eq_getElem (by omega : i + 2 < b.length)]; simp [List.getElem?_eq_getElem (by omega : i + 2 < b.length)]
  · rw [if_neg (by omega)]; simp
theorem Tr3.list_inj {x y : Tr3} (h : x.list = y.list) : x = y := by
  unfold Tr3.list at h
  simp only [List.cons.injEq, and_true] at h
  exact Prod.ext h.1 (Prod.ext h.2.1 h.2.2)
theorem tri_inj (x y : Tr3) (h : triV x = triV y) : x = y := by
  unfold triV bV at h
  simp only [Value.agg.injEq, Array.mk.injEq, List.cons.injEq, Value.int.injEq, and_true, true_and] at h
  have e : ∀ {p q : UInt8}, (p.toNat : Int) = (q.toNat : Int) → p = q := fun h => UInt8.toNat_inj.1 (by omega)
  exact Prod.ext (e h.1) (Prod.ext (e h.2.1) (e h.2.2))
theorem triLaw : WideMaps.KeyLaw Tryz.prog 85 := deep_law_laid laidOut (m := 2) (by omega) (of_decide_eq_true (by kernel_rfl)) (by kernel_rfl) (by rw [Tryz.underlying85])
theorem triK : Maps.Keyed Tryz.prog 85 := Maps.Keyed.of_law triLaw
theorem tri_key (x : Tr3) : ∃ kl, keyOf Tryz.prog 85 (triV x) = some kl := by
  have hk : Tryz.prog.keyType 85 = true := by kernel_rfl
  have hc : Tryz.prog.cellsOf 85 = 3 := by kernel_rfl
  have hc1 : Tryz.prog.cellsOf 5 = 1 := by kernel_rfl
  have hpos : 0 < Tryz.prog.types.size := of_decide_eq_true (by kernel_rfl)
  obtain ⟨m, hm⟩ : ∃ m, Tryz.prog.types.size = m + 1 := ⟨Tryz.prog.types.size - 1, by omega⟩
  have hw : ∀ y : UInt8, (Lit.int .u8 (y.toNat : Int)).wf = true := fun y => by
    have := y.toNat_lt
    simp [Lit.wf, show IntKind.u8.min = 0 from rfl, show IntKind.u8.max = 255 from rfl]; omega
  have w1 := hw x.1
  have w2 := hw x.2.1
  have w3 := hw x.2.2
  have hcl : (Value.agg #[.int .u8 (x.1.toNat : Int), .int .u8 (x.2.1.toNat : Int), .int .u8 (x.2.2.toNat : Int)]).cells.toList = [.int .u8 (x.1.toNat : Int), .int .u8 (x.2.1.toNat : Int), .int .u8 (x.2.2.toNat : Int)] := rfl
  unfold keyOf triV bV
  rw [hcl, Tryz.underlying85]
  simp [hk, Value.formed, Tryz.underlying85, hc, hm, Program.keyLits, hc1, Tryz.underlying5, show List.range 3 = [0, 1, 2] from rfl, w1, w2, w3]
/-- What the map of the last places holds ahead of place i. -/
def lastG (b : List UInt8) (i : Nat) (x : Tr3) : Option Value := (lastK b i x.list).map fun a => .int .i64 (a : Int)
theorem lastG_succ {b : List UInt8} {i : Nat} (h : i + 3 ≤ b.length) (x : Tr3) : lastG b (i + 1) x = if x = triB b i then some (.int .i64 (i : Int)) else lastG b i x := by
  unfold lastG
  rw [lastK]
  by_cases e : x = triB b i
  · rw [if_pos e, if_pos ⟨h, by rw [e, triB_list h]⟩]; rfl
  · rw [if_neg e, if_neg (fun hh => e (Tr3.list_inj (by rw [triB_list h]; exact hh.2.symm)))]
theorem lastG_late {b : List UInt8} {i : Nat} (h : ¬ i + 3 ≤ b.length) (x : Tr3) : lastG b (i + 1) x = lastG b i x := by
  unfold lastG
  rw [lastK, if_neg (fun hh => h hh.1)]
theorem WrS.start {Av : Nat → Prop} {w : World} {g : Nat} {C D : Value} (h : Bk w g 80 #[.slice none 0 0, .int .i64 0, C, D]) (hg : ¬ Av g) (hA : ∀ k, Av k → k < w.heap.size) : WrS Av w g C D (0, 0) :=
  ⟨.slice none 0 0, h, OwL.nil, fun k (hk : none = some k) => by injection hk, hg, hA, (by show 0 < 2 ^ 0; decide), (by show 0 ≤ 400000; omega)⟩
/-- A block that was made stays too. -/
theorem WrS.wider {Av : Nat → Prop} {w : World} {g : Nat} {C D : Value} {S : Pt} (h : WrS Av w g C D S) (o : Obj) : WrS (fun k => Av k ∨ k = w.heap.size) (w.alloc o) g C D S := by
  obtain ⟨v, h1, h2, h3, h4, h5, h6⟩ := h
  refine ⟨v, h1.alloc o, h2.alloc o, fun k hk => ?_, ?_, ?_, h6⟩
  · rintro (e | e)
    · exact h3 k hk e
    · obtain ⟨A, n, c, rfl, _, _⟩ := OwL.sl h2
      rcases h2.2 with ⟨e2, _⟩ | ⟨gg, cap, cur, e2, _, hh, _⟩
      · rw [e2] at hk; cases hk
      · rw [e2] at hk
        injection hk with hk
        have hk : gg = k := hk
        have : gg < w.heap.size := by
          rcases Nat.lt_or_ge gg w.heap.size with hl | hl
          · exact hl
          · rw [Array.getElem?_eq_none hl] at hh; cases hh
        omega
  · have := h1.lt
    rintro (e | e)
    · exact h4 e
    · omega
  · rintro k (e | e)
    · have := h5 k e; simp; omega
    · simp; omega
theorem toksF_fuel (b : List UInt8) : ∀ f f' i, b.length - i ≤ f → b.length - i ≤ f' → toksF b f i = toksF b f' i := by
  intro f
  induction f with
  | zero =>
    intro f' i h1 h2
    cases f' with
    | zero => rfl
    | succ f' => rw [toksF, toksF, if_neg (by omega)]
  | succ f ih =>
    intro f' i h1 h2
    cases f' with
    | zero => rw [toksF, toksF, if_neg (by omega)]
    | succ f' =>
      rw [toksF, toksF]
      by_cases h : i < b.length
      · rw [if_pos h, if_pos h]
        congr 1
        have hw : 1 ≤ (tokAt b i).wide := by
          unfold tokAt pick
          split
          · split
            · split
              · exact Nat.le_refl _
              · show 1 ≤ matB b i _; omega
            · exact Nat.le_refl _
          · exact Nat.le_refl _
        exact ih f' _ (by omega) (by omega)
      · rw [if_neg h, if_neg h]
theorem toksF_step {b : List UInt8} {i : Nat} (h : i < b.length) : toksF b (b.length - i) i = tokAt b i :: toksF b (b.length - (i + (tokAt b i).wide)) (i + (tokAt b i).wide) := by
  obtain ⟨f, hf⟩ : ∃ f, b.length - i = f + 1 := ⟨b.length - i - 1, by omega⟩
  rw [hf, toksF, if_pos h]
  congr 1
  have hw : 1 ≤ (tokAt b i).wide := by
    unfold tokAt pick
    split
    · split
      · split
        · exact Nat.le_refl _
        · show 1 ≤ matB b i _; omega
      · exact Nat.le_refl _
    · exact Nat.le_refl _
  exact toksF_fuel b _ _ _ (by omega) (by omega)
theorem toksF_done {b : List UInt8} {i : Nat} (h : b.length ≤ i) (f : Nat) : toksF b f i = [] := by
  cases f with
  | zero => rfl
  | succ f => rw [toksF, if_neg (by omega)]
end Go.Proofs.YtnkdpchnighkfaaGreatDoor
namespace Go.Proofs.YtnkdpchnighkfaaGreatDoor
open Go.RowKit

structure SqS (w wr : World) (b : List UInt8) (Av : Nat → Prop) (g mb g1 g2 lo1 lo2 : Nat) (S : Pt) (i : Nat) : Prop where
  wt : WrS Av wr g (.pointer (some ⟨g1, 0, none⟩)) (.pointer (some ⟨g2, 0, none⟩)) S
  c1 : PCd wr lo1 g1 fixLit
  c2 : PCd wr lo2 g2 fixDist
  a1 : InAv Av lo1 g1
  a2 : InAv Av lo2 g2
  am : Av mb
  mp : ∃ n, n ≤ i ∧ MapT triV wr Tryz.prog 85 mb n (lastG b i)
  lo : w.heap.size ≤ mb
  base : ∀ k, k < w.heap.size → Av k
  bl : Below w.heap.size w wr
section
variable {w wr w' : World} {b : List UInt8} {Av : Nat → Prop} {g mb g1 g2 lo1 lo2 : Nat} {S S' : Pt} {i : Nat}
theorem SqS.kp (h : SqS w wr b Av g mb g1 g2 lo1 lo2 S i) (hw : WrS Av w' g (.pointer (some ⟨g1, 0, none⟩)) (.pointer (some ⟨g2, 0, none⟩)) S') (hk : Kp Av wr w') : SqS w w' b Av g mb g1 g2 lo1 lo2 S' i := by
  obtain ⟨n, hn, hm⟩ := h.mp
  exact ⟨hw, h.c1.kp hk h.a1, h.c2.kp hk h.a2, h.a1, h.a2, h.am, ⟨n, hn, hm.same (hk.same _ h.am)⟩, h.lo, h.base,
    h.bl.trans ⟨hk.os, hk.tape, hk.output, hk.size, fun k hkk => hk.same k (h.base k hkk)⟩⟩
theorem SqS.below (h : SqS w wr b Av g mb g1 g2 lo1 lo2 S i) (hb : Below wr.heap.size wr w') : SqS w w' b Av g mb g1 g2 lo1 lo2 S i := by
  obtain ⟨n, hn, hm⟩ := h.mp
  exact ⟨h.wt.step hb, h.c1.below hb h.c1.lt.2, h.c2.below hb h.c2.lt.2, h.a1, h.a2, h.am, ⟨n, hn, hm.below hb hm.lt⟩, h.lo, h.base, h.bl.trans (hb.mono h.bl.size)⟩
theorem WrS.grown {Av : Nat → Prop} {w w' : World} {g mb : Nat} {C D : Value} {S : Pt} (h : WrS Av w g C D S) (hg : w.grownBy w' (some mb)) (ha : Av mb) : WrS Av w' g C D S := by
  obtain ⟨v, h1, h2, h3, h4, h5, h6⟩ := h
  refine ⟨v, h1.grown hg (fun e => ?_), h2.kept hg ?_, h3, h4, fun k hk => Nat.lt_of_lt_of_le (h5 k hk) hg.size, h6⟩
  · injection e with e; subst e; exact h4 ha
  · cases hv : v.ownBlock with
    | none => exact .inl rfl
    | some k => exact .inr (fun e => by injection e with e; subst e; exact h3 _ hv ha)
theorem PCd.map {w w' : World} {lo g mb : Nat} {l : List Nat} (h : PCd w lo g l) (hg : w.grownBy w' (some mb)) (hm : ¬ (lo ≤ mb ∧ mb ≤ g)) : PCd w' lo g l :=
  h.grown hg (fun k e => by injection e with e; subst e; omega)
theorem SqS.grown (h : SqS w wr b Av g mb g1 g2 lo1 lo2 S i) (hg : wr.grownBy w' (some mb)) (h1 : g1 < mb) (h2 : g2 < mb) {j n : Nat} (hn : n ≤ j) (hm : MapT triV w' Tryz.prog 85 mb n (lastG b j)) : SqS w w' b Av g mb g1 g2 lo1 lo2 S j :=
  ⟨h.wt.grown hg h.am, h.c1.map hg (by omega), h.c2.map hg (by omega), h.a1, h.a2, h.am, ⟨n, hn, hm⟩, h.lo, h.base, h.bl.grown hg h.bl.size (fun k e => by injection e with e; subst e; exact h.lo)⟩
theorem SqS.late (h : SqS w wr b Av g mb g1 g2 lo1 lo2 S i) (hl : ¬ i + 3 ≤ b.length) : SqS w wr b Av g mb g1 g2 lo1 lo2 S (i + 1) := by
  obtain ⟨n, hn, hm⟩ := h.mp
  exact ⟨h.wt, h.c1, h.c2, h.a1, h.a2, h.am, ⟨n, by omega, hm.ext (fun x => lastG_late hl x)⟩, h.lo, h.base, h.bl⟩
theorem SqS.drewN (h : SqS w wr b Av g mb g1 g2 lo1 lo2 S i) (q : Nat) : SqS w (wr.drewN q) b Av g mb g1 g2 lo1 lo2 S i := h.below (below_drewN (Below.refl _ _) q)
end
/-- How far bytes are alike, one by one. -/
theorem mat_step {b : List UInt8} {i a n : Nat} (h1 : n < 258) (h2 : i + n < b.length) (h3 : b.getD (i + n) 0 = b.getD (a + n) 0) : matF b i a (258 - n) n = matF b i a (258 - (n + 1)) (n + 1) := by
  obtain ⟨f, hf⟩ : ∃ f, 258 - n = f + 1 := ⟨258 - n - 1, by omega⟩
  rw [hf, matF, if_pos ⟨h2, h3⟩, show f = 258 - (n + 1) by omega]
theorem mat_stop {b : List UInt8} {i a n : Nat} (h : ¬ (n < 258 ∧ i + n < b.length ∧ b.getD (i + n) 0 = b.getD (a + n) 0)) : matF b i a (258 - n) n = n := by
  by_cases h1 : n < 258
  · obtain ⟨f, hf⟩ : ∃ f, 258 - n = f + 1 := ⟨258 - n - 1, by omega⟩
    rw [hf, matF, if_neg (fun hh => h ⟨h1, hh⟩)]
  · rw [show 258 - n = 0 by omega, matF]
theorem tokAt_none {b : List UInt8} {i : Nat} (h : i + 3 ≤ b.length) (hl : lastK b i (keyB b i) = none) : pick b i 0 0 = tokAt b i := by
  unfold tokAt; rw [if_pos h, hl]; rfl
theorem tokAt_some {b : List UInt8} {i a : Nat} (h : i + 3 ≤ b.length) (hl : lastK b i (keyB b i) = some a) : pick b i (matB b i a) (i - a) = tokAt b i := by
  unfold tokAt; rw [if_pos h, hl]
theorem tokAt_late {b : List UInt8} {i : Nat} (h : ¬ i + 3 ≤ b.length) : pick b i 0 0 = tokAt b i := by
  unfold tokAt; rw [if_neg h]; rfl
theorem pick_lit {b : List UInt8} {i n far : Nat} (h : n < 3 ∨ (n = 3 ∧ 4096 < far)) : pick b i n far = .lit (b.getD i 0) := by unfold pick; rw [if_pos h]
theorem pick_cpy {b : List UInt8} {i n far : Nat} (h : ¬ (n < 3 ∨ (n = 3 ∧ 4096 < far))) : pick b i n far = .cpy n far := by unfold pick; rw [if_neg h]
/-- What a step does to all that is still to come. -/
theorem rest_step {b : List UInt8} {i : Nat} {S R : Pt} (h : i < b.length) (hR : R = putAll S (toksF b (b.length - i) i)) :
    R = putAll (putTok S (tokAt b i)) (toksF b (b.length - (i + (tokAt b i).wide)) (i + (tokAt b i).wide)) := by
  rw [hR, toksF_step h]; rfl
/-- Three bytes of a row, as an array. -/
theorem run_tri {P : Program} (w : World) (a : Addr) (T e : TypeId) (c : Nat) (ht : P.underlying T = some (.array 3 e)) : (Instr.arrayAt T (.slice (some a) 3 c)).run P w = .ok (.pointer (some a)) w := by
  simp [Instr.arrayAt, run_underlying ht]
theorem tri_cells {b : List UInt8} {w : World} {B : Nat} {ad : Addr} {i : Nat} (h : RB w B (some ad) b) (hi : i + 3 ≤ b.length) : ∀ j v, [bV (triB b i).1, bV (triB b i).2.1, bV (triB b i).2.2][j]? = some v → w.cell? ((ad.add i).add j) = some v := by
  intro j v hv
  have key : ∀ k, k < b.length → w.cell? (ad.add k) = some (bV (b.getD k 0)) := fun k hk => by
    obtain ⟨ad', x, hA, _, hx, hc⟩ := RL.atl h hk
    injection hA with hA
    subst hA
    rw [hc, List.getD_eq_getElem?_getD, hx.out]; rfl
  rw [addadd]
  unfold triB at hv
  match j, hv with
  | 0, hv => simp at hv; subst hv; exact key i (by omega)
  | 1, hv => simp at hv; subst hv; rw [← List.getD_eq_getElem?_getD]; exact key (i + 1) (by omega)
  | 2, hv => simp at hv; subst hv; rw [← List.getD_eq_getElem?_getD]; exact key (i + 2) (by omega)
theorem tri_three {b : List UInt8} {w : World} {B : Nat} {ad : Addr} {i : Nat} (h : RB w B (some ad) b) (hi : i + 3 ≤ b.length) {x y z : Int} (hx : ((triB b i).1.toNat : Int) = x) (hy : ((triB b i).2.1.toNat : Int) = y) (hz : ((triB b i).2.2.toNat : Int) = z) :
    w.cell? (ad.add i) = some (.int .u8 x) ∧ w.cell? ⟨(ad.add i).block, (ad.add i).off + 1, none⟩ = some (.int .u8 y) ∧ w.cell? ⟨(ad.add i).block, (ad.add i).off + 2, none⟩ = some (.int .u8 z) := by
  subst hx hy hz
  have h0 := tri_cells h hi 0 _ rfl
  have h1 := tri_cells h hi 1 _ rfl
  have h2 := tri_cells h hi 2 _ rfl
  rw [addadd] at h0
  rw [add_pos] at h1 h2
  exact ⟨h0, h1, h2⟩
end Go.Proofs.YtnkdpchnighkfaaGreatDoor
namespace Go.Proofs.YtnkdpchnighkfaaGreatDoor
open Go.RowKit

def AllSPost (b : List UInt8) (w : World) (e : Ending) (w' : World) : Prop :=
  Below w.heap.size w w' ∧ if b.length ≤ 32768 then ∃ v, e = .returned (.tuple #[v, .int .i64 0]) ∧ OwB w' w.heap.size 5 v (sqzP b) else e = .returned (.tuple #[.slice none 0 0, .int .i64 8])
set_option maxRecDepth 100000 in
set_option maxHeartbeats 6000000 in
theorem sall_any (A : Option Addr) (n c : Nat) (b : List UInt8) (w : World) (hn : b.length = n) (hz : n ≤ 1000000000) (hnc : n ≤ c) (hr : RB w w.heap.size A b) :
    Calls Tryz.prog 16 #[.slice A n c] w (AllSPost b w) := by
  by_cases hbig : n ≤ 32768
  · obtain ⟨cs, hcs, hcz, hr1⟩ := mk_row (P := Tryz.prog) 67 3 (.int .i64 0) 8 Tryz.underlying67 info_int rfl 288 (by omega) (by omega)
    obtain ⟨ds, hds, hdz, hr2⟩ := mk_row (P := Tryz.prog) 67 3 (.int .i64 0) 8 Tryz.underlying67 info_int rfl 32 (by omega) (by omega)
    have hm1 : ∀ w : World, (Instr.makeSlice 67 (.int .i64 288) (.int .i64 288)).run Tryz.prog w = .ok (.slice (some ⟨w.heap.size, 0, none⟩) 288 288) (w.alloc (.cells cs 3)) := hr1
    have hm2 : ∀ w : World, (Instr.makeSlice 67 (.int .i64 32) (.int .i64 32)).run Tryz.prog w = .ok (.slice (some ⟨w.heap.size, 0, none⟩) 32 32) (w.alloc (.cells ds 3)) := hr2
    clear hr1 hr2
    have HCS := bx hcs
    have HDS := bx hds
    have HCZ := bx hcz
    have HDZ := bx hdz
    have HL := bx hn
    clear hcs hds hcz hdz hn
    go_enter Tryz.func16, Tryz.ntmps16
    go_upto_region 3 with (fail)
    go_cut [4, 5, 19, 20] (fun v4 v5 v19 v20 wx => ∃ gl gd, v4 = .slice (some ⟨gl, 0, none⟩) 288 288 ∧ v5 = .slice (some ⟨gd, 0, none⟩) 32 32 ∧ v19 = v4 ∧ v20 = v5 ∧ gl ≠ gd ∧ w.heap.size ≤ gl ∧ w.heap.size ≤ gd ∧ Rw wx gl 3 288 (fun _ => nV 0) ∧ Rw wx gd 3 32 (fun _ => nV 0) ∧ Below w.heap.size w wx)
    case first =>
      -- DEV{
      go_region
      · have K : Bx (w.heap.size ≠ (w.heap.size + 1) ∧ w.heap.size ≤ w.heap.size ∧ w.heap.size ≤ (w.heap.size + 1) ∧ Rw (((w.alloc (.cells cs 3)).alloc (.cells ds 3)).drew) w.heap.size 3 288 (fun _ => nV 0) ∧ Rw (((w.alloc (.cells cs 3)).alloc (.cells ds 3)).drew) (w.heap.size + 1) 3 32 (fun _ => nV 0) ∧ Below w.heap.size w (((w.alloc (.cells cs 3)).alloc (.cells ds 3)).drew)) := bx ⟨by omega, by omega, by omega, Rw.of ((Bk.new w 3 cs).alloc _) HCS.out (fun i hi => HCZ.out i hi), Rw.of (Bk.newAt (w.alloc _) 3 ds (by simp)) HDS.out (fun i hi => HDZ.out i hi), below_drewN (bl_alloc (bl_alloc (Below.refl w.heap.size w) (Nat.le_refl _) _) (Nat.le_refl _) _) 1⟩
        go_wp2
        go_meet
        case rel => exact ⟨_, _, rfl, rfl, rfl, rfl, K.out⟩
      · have K : Bx ((w.heap.size + 1) ≠ w.heap.size ∧ w.heap.size ≤ (w.heap.size + 1) ∧ w.heap.size ≤ w.heap.size ∧ Rw (((w.alloc (.cells ds 3)).alloc (.cells cs 3)).drew) (w.heap.size + 1) 3 288 (fun _ => nV 0) ∧ Rw (((w.alloc (.cells ds 3)).alloc (.cells cs 3)).drew) w.heap.size 3 32 (fun _ => nV 0) ∧ Below w.heap.size w (((w.alloc (.cells ds 3)).alloc (.cells cs 3)).drew)) := bx ⟨by omega, by omega, by omega, Rw.of (Bk.newAt (w.alloc _) 3 cs (by simp)) HCS.out (fun i hi => HCZ.out i hi), Rw.of ((Bk.new w 3 ds).alloc _) HDS.out (fun i hi => HDZ.out i hi), below_drewN (bl_alloc (bl_alloc (Below.refl w.heap.size w) (Nat.le_refl _) _) (Nat.le_refl _) _) 1⟩
        go_wp2
        go_meet
        case rel => exact ⟨_, _, rfl, rfl, rfl, rfl, K.out⟩
      -- DEV}
    case rest =>
      clear hm1 hm2 HCS HDS HCZ HDZ
      obtain ⟨gl, gd, rfl, rfl, rfl, rfl, hne, hlo1, hlo2, hL0, hD0, hB0⟩ := hcut
      go_wp2_with fail
      go_loopg [6, 23] 288 (fun κ _ jj wr => ∃ j : Nat, κ = 288 - j ∧ j ≤ 288 ∧ jj = .int .i64 (j : Int) ∧ Rw wr gl 3 288 (fun i => if i < j then nV (litV i) else nV 0) ∧ Rw wr gd 3 32 (fun _ => nV 0) ∧ Below w.heap.size w wr)
      case atStart => exact ⟨0, by omega, by omega, rfl, hL0.ext fun i _ => by rw [if_neg (by omega)], hD0, hB0⟩
      case round =>
        clear hL0 hD0 hB0
        obtain ⟨j, hgk, hj, rfl, hL, hD, hB⟩ := hrel
        by_cases hjn : j < 288
        · have hc0 : wr.cell? ⟨gl, j, none⟩ = some (.int .i64 0) := by rw [hL.cell hjn, if_neg (by omega)]; rfl
          have hf0 := hL.frz j
          -- DEV{
          have key : ∀ v : Nat, litV j = v → Rw (wr.setCell ⟨gl, j, none⟩ (.int .i64 (v : Int))) gl 3 288 (fun i => if i < j + 1 then nV (litV i) else nV 0) ∧ Rw (wr.setCell ⟨gl, j, none⟩ (.int .i64 (v : Int))) gd 3 32 (fun _ => nV 0) ∧ Below w.heap.size w (wr.setCell ⟨gl, j, none⟩ (.int .i64 (v : Int))) := fun v hv => by
            refine ⟨(hL.set j _).ext fun i _ => ?_, hD.far (by exact hne.symm) _, hB.setCell (by exact hlo1) _⟩
            by_cases e : i = j
            · subst e; rw [if_pos (by omega), if_pos rfl, hv]; rfl
            · rw [if_neg e]
              by_cases e2 : i < j
              · rw [if_pos (by omega), if_pos e2]
              · rw [if_neg (by omega), if_neg e2]
          have key2 : ∀ v : Nat, litV j = v → Rw ((wr.setCell ⟨gl, j, none⟩ (.int .i64 8)).setCell ⟨gl, j, none⟩ (.int .i64 (v : Int))) gl 3 288 (fun i => if i < j + 1 then nV (litV i) else nV 0) ∧ Rw ((wr.setCell ⟨gl, j, none⟩ (.int .i64 8)).setCell ⟨gl, j, none⟩ (.int .i64 (v : Int))) gd 3 32 (fun _ => nV 0) ∧ Below w.heap.size w ((wr.setCell ⟨gl, j, none⟩ (.int .i64 8)).setCell ⟨gl, j, none⟩ (.int .i64 (v : Int))) := fun v hv => by
            refine ⟨((hL.set j _).set j _).ext fun i _ => ?_, (hD.far (by exact hne.symm) _).far (by exact hne.symm) _, (hB.setCell (by exact hlo1) _).setCell (by exact hlo1) _⟩
            by_cases e : i = j
            · subst e; rw [if_pos (by omega), if_pos rfl, hv]; rfl
            · rw [if_neg e, if_neg e]
              by_cases e2 : i < j
              · rw [if_pos (by omega), if_pos e2]
              · rw [if_neg (by omega), if_neg e2]
          clear hL hD hB
          by_cases h1 : j < 144
          · have K := bx (key 8 (by unfold litV; rw [if_pos h1]))
            clear key key2
            go_wp2
            go_roundg (288 - (j + 1))
            case rel => exact ⟨j + 1, rfl, by omega, by go_num, K.out⟩
            case measure => omega
          · by_cases h2 : j < 256
            · have K := bx (key2 9 (by unfold litV; rw [if_neg h1, if_pos h2]))
              clear key key2
              go_wp2
              go_roundg (288 - (j + 1))
              case rel => exact ⟨j + 1, rfl, by omega, by go_num, K.out⟩
              case measure => omega
            · by_cases h3 : j < 280
              · have K := bx (key2 7 (by unfold litV; rw [if_neg h1, if_neg h2, if_pos h3]))
                clear key key2
                go_wp2
                go_roundg (288 - (j + 1))
                case rel => exact ⟨j + 1, rfl, by omega, by go_num, K.out⟩
                case measure => omega
              · have K := bx (key 8 (by unfold litV; rw [if_neg h1, if_neg h2, if_neg h3]))
                clear key key2
                go_wp2
                go_roundg (288 - (j + 1))
                case rel => exact ⟨j + 1, rfl, by omega, by go_num, K.out⟩
                case measure => omega
          -- DEV}
        · obtain rfl : j = 288 := by omega
          go_wp2_with fail
          obtain ⟨wo, rfl⟩ : ∃ wo : World, wo = wr := ⟨_, rfl⟩
          go_loopg [7, 50] 32 (fun κ _ jj wr => ∃ j : Nat, κ = 32 - j ∧ j ≤ 32 ∧ jj = .int .i64 (j : Int) ∧ Rw wr gl 3 288 (fun i => if i < 288 then nV (litV i) else nV 0) ∧ Rw wr gd 3 32 (fun i => if i < j then nV 5 else nV 0) ∧ Below w.heap.size w wr)
          case atStart => exact ⟨0, by omega, by omega, rfl, hL, hD.ext fun i _ => by rw [if_neg (by omega)], hB⟩
          case round =>
            clear hL hD hB
            obtain ⟨k, hgk, hk, rfl, hL, hD, hB⟩ := hrel
            by_cases hkn : k < 32
            · have hc0 : wr.cell? ⟨gd, k, none⟩ = some (.int .i64 0) := by rw [hD.cell hkn, if_neg (by omega)]; rfl
              -- DEV{
              have hf0 := hD.frz k
              have K : Bx (Rw (wr.setCell ⟨gd, k, none⟩ (.int .i64 5)) gl 3 288 (fun i => if i < 288 then nV (litV i) else nV 0) ∧ Rw (wr.setCell ⟨gd, k, none⟩ (.int .i64 5)) gd 3 32 (fun i => if i < k + 1 then nV 5 else nV 0) ∧ Below w.heap.size w (wr.setCell ⟨gd, k, none⟩ (.int .i64 5))) := bx (by
                refine ⟨hL.far (by exact hne) _, (hD.set k _).ext fun i _ => ?_, hB.setCell (by exact hlo2) _⟩
                by_cases e : i = k
                · subst e; rw [if_pos (by omega), if_pos rfl]; rfl
                · rw [if_neg e]
                  by_cases e2 : i < k
                  · rw [if_pos (by omega), if_pos e2]
                  · rw [if_neg (by omega), if_neg e2])
              clear hL hD hB
              go_wp2
              go_roundg (32 - (k + 1))
              case rel => exact ⟨k + 1, rfl, by omega, by go_num, K.out⟩
              case measure => omega
              -- DEV}
            · obtain rfl : k = 32 := by omega
              have R1 : RN wr wr.heap.size (some ⟨gl, 0, none⟩) fixLit := RL.more (Rw.read (l := fixLit) (by rw [fixLit_len]; exact hL) (fun i x hx => by
                have hi : i < 288 := by
                  rcases Nat.lt_or_ge i 288 with h | h
                  · exact h
                  · rw [List.getElem?_eq_none (by rw [fixLit_len]; exact h)] at hx; cases hx
                rw [fixLit_all i hi] at hx
                injection hx with hx
                rw [if_pos hi, hx])) (by have := hL.lt; omega)
              have R2 : RN wr wr.heap.size (some ⟨gd, 0, none⟩) fixDist := RL.more (Rw.read (l := fixDist) (by unfold fixDist; rw [List.length_replicate]; exact hD) (fun i x hx => by
                unfold fixDist at hx
                have hi : i < 32 := by
                  rcases Nat.lt_or_ge i 32 with h | h
                  · exact h
                  · rw [List.getElem?_eq_none (by simpa using h)] at hx; cases hx
                rw [List.getElem?_replicate, if_pos hi] at hx
                injection hx with hx
                rw [if_pos hi, hx])) (by have := hD.lt; omega)
              have hgz1 := hL.lt
              have hgz2 := hD.lt
              have hr0 : RB wr wr.heap.size A b := (RL.below hr hB (Nat.le_refl _)).more hB.size
              clear hL hD
              obtain ⟨g, hg⟩ : ∃ g, wr.heap.size = g := ⟨_, rfl⟩
              have hWg : Bk (wr.alloc (.cells #[.slice none 0 0, .int .i64 0, .pointer none, .pointer none] 80)) g 80 #[.slice none 0 0, .int .i64 0, .pointer none, .pointer none] := Bk.newAt _ _ _ hg
              go_wp2_with fail
              have hsz1 : (wr.alloc (.cells #[.slice none 0 0, .int .i64 0, .pointer none, .pointer none] 80)).heap.size = g + 1 := by simp [hg]
              have hBA := bl_alloc hB (Nat.le_refl _) (.cells #[.slice none 0 0, .int .i64 0, .pointer none, .pointer none] 80)
              have R1A := (R1.alloc (Nat.le_refl _) (.cells #[.slice none 0 0, .int .i64 0, .pointer none, .pointer none] 80)).more (B' := g + 1) (by omega)
              have R2A := (R2.alloc (Nat.le_refl _) (.cells #[.slice none 0 0, .int .i64 0, .pointer none, .pointer none] 80)).more (B' := g) (by omega)
              clear R1 R2 hr0 hB
              have hwg : w.heap.size ≤ g := by rw [← hg]; omega
              clear hg
              generalize wr.alloc (.cells #[.slice none 0 0, .int .i64 0, .pointer none, .pointer none] 80) = wA at hWg hsz1 hBA R1A R2A ⊢
              refine (pnew_any (some ⟨gl, 0, none⟩) 288 288 fixLit false _ fixLit_len (by omega) (by decide +kernel) (R1A.more (by omega))).mono ?_
              rintro e w1 ⟨hb1, hp1⟩
              rw [if_pos code_lit] at hp1
              obtain ⟨g1, rfl, hC1⟩ := hp1
              rw [hsz1] at hb1 hC1
              have hW1 := hWg.below hb1 (by omega)
              have f2 := hW1.frz 2
              have c2 : w1.cell? ⟨g, 2, none⟩ = some (.pointer none) := (hW1.cell 2).trans rfl
              have hB1 := hBA.trans (hb1.mono (by omega))
              have R21 := R2A.below hb1 (by omega)
              have hg1 := hC1.lt
              clear hWg hBA R1A R2A hb1
              go_wp2_with fail
              have hW2 : Bk (w1.setCell ⟨g, 2, none⟩ (.pointer (some ⟨g1, 0, none⟩))) g 80 #[.slice none 0 0, .int .i64 0, .pointer (some ⟨g1, 0, none⟩), .pointer none] := by simpa using hW1.set 2 (.pointer (some ⟨g1, 0, none⟩))
              have hC2 : PCd (w1.setCell ⟨g, 2, none⟩ (.pointer (some ⟨g1, 0, none⟩))) (g + 1) g1 fixLit := hC1.keep (fun i h1 h2 => Below.heap_setCell w1 ⟨g, 2, none⟩ _ i (by show i ≠ g; omega))
              have hB2 := hB1.setCell (p := ⟨g, 2, none⟩) (by exact hwg) (.pointer (some ⟨g1, 0, none⟩))
              have R22 : RN (w1.setCell ⟨g, 2, none⟩ (.pointer (some ⟨g1, 0, none⟩))) g (some ⟨gd, 0, none⟩) fixDist := RL.setCell R21 (Nat.le_refl _) _
              have hr2 : RB (w1.setCell ⟨g, 2, none⟩ (.pointer (some ⟨g1, 0, none⟩))) w.heap.size A b := RL.below hr hB2 (Nat.le_refl _)
              clear hW1 hC1 hB1 R21 f2 c2
              have hgs : g1 < (w1.setCell ⟨g, 2, none⟩ (.pointer (some ⟨g1, 0, none⟩))).heap.size := hC2.lt.2
              generalize w1.setCell ⟨g, 2, none⟩ (.pointer (some ⟨g1, 0, none⟩)) = w2 at hW2 hC2 hB2 R22 hr2 hgs ⊢
              refine (pnew_any (some ⟨gd, 0, none⟩) 32 32 fixDist false _ (by rw [dst_n]) (by omega) (by decide +kernel) (R22.more (by omega))).mono ?_
              rintro e w3 ⟨hb3, hp3⟩
              rw [if_pos code_dst0] at hp3
              obtain ⟨g2, rfl, hC3⟩ := hp3
              obtain ⟨lo2, hlo2⟩ : ∃ lo2, w2.heap.size = lo2 := ⟨_, rfl⟩
              rw [hlo2] at hb3 hC3 hgs
              have hW3 := hW2.below hb3 (by omega)
              have f3 := hW3.frz 3
              have c3 : w3.cell? ⟨g, 3, none⟩ = some (.pointer none) := (hW3.cell 3).trans rfl
              have hB3 := hB2.trans (hb3.mono (by omega))
              have hC23 := hC2.below hb3 hgs
              have hg2 := hC3.lt
              clear hW2 hC2 hB2 R22 hr2 hb3
              go_wp2_with fail
              have hW4 : Bk (w3.setCell ⟨g, 3, none⟩ (.pointer (some ⟨g2, 0, none⟩))) g 80 #[.slice none 0 0, .int .i64 0, .pointer (some ⟨g1, 0, none⟩), .pointer (some ⟨g2, 0, none⟩)] := by simpa using hW3.set 3 (.pointer (some ⟨g2, 0, none⟩))
              have hC4 : PCd (w3.setCell ⟨g, 3, none⟩ (.pointer (some ⟨g2, 0, none⟩))) (g + 1) g1 fixLit := hC23.keep (fun i h1 h2 => Below.heap_setCell w3 ⟨g, 3, none⟩ _ i (by show i ≠ g; omega))
              have hD4 : PCd (w3.setCell ⟨g, 3, none⟩ (.pointer (some ⟨g2, 0, none⟩))) lo2 g2 fixDist := hC3.keep (fun i h1 h2 => Below.heap_setCell w3 ⟨g, 3, none⟩ _ i (by show i ≠ g; omega))
              have hB4 := hB3.setCell (p := ⟨g, 3, none⟩) (by exact hwg) (.pointer (some ⟨g2, 0, none⟩))
              have hs4 : g2 < (w3.setCell ⟨g, 3, none⟩ (.pointer (some ⟨g2, 0, none⟩))).heap.size := hD4.lt.2
              clear hW3 hC23 hC3 hB3 f3 c3
              generalize w3.setCell ⟨g, 3, none⟩ (.pointer (some ⟨g2, 0, none⟩)) = w4 at hW4 hC4 hD4 hB4 hs4 ⊢
              have hWS := WrS.start (Av := fun k => k < w4.heap.size ∧ k ≠ g) hW4 (fun h => h.2 rfl) (fun k h => h.1)
              refine (wput_any _ g _ _ (0, 0) 3 3 w4 hWS (by omega) (by omega) (by show 0 + 3 ≤ _; omega)).mono ?_
              rintro e w5 ⟨rfl, hW5, hK5⟩
              have hC5 := hC4.kp hK5 (fun k h1 h2 => ⟨by omega, by omega⟩)
              have hD5 := hD4.kp hK5 (fun k h1 h2 => ⟨by omega, by omega⟩)
              have hS5 : putN (0, 0) 3 3 = startP := by decide
              rw [hS5] at hW5
              have hB5 : Below w.heap.size w w5 := hB4.trans ⟨hK5.os, hK5.tape, hK5.output, hK5.size, fun k hk => hK5.same k ⟨by have := hB4.size; omega, by omega⟩⟩
              obtain ⟨mb, hmb⟩ : ∃ mb, w5.heap.size = mb := ⟨_, rfl⟩
              obtain ⟨Av, hAv⟩ : ∃ Av : Nat → Prop, (fun k => (k < w4.heap.size ∧ k ≠ g) ∨ k = w5.heap.size) = Av := ⟨_, rfl⟩
              have h45 := hK5.size
              have hSS : SqS w (w5.alloc (.map #[] 0)) b Av g mb g1 g2 (g + 1) lo2 startP 0 := by
                subst hAv
                refine ⟨hW5.wider _, hC5.below (bl_alloc (Below.refl w5.heap.size w5) (Nat.le_refl _) _) (by omega), hD5.below (bl_alloc (Below.refl w5.heap.size w5) (Nat.le_refl _) _) (by omega), fun k h1 h2 => .inl ⟨by omega, by omega⟩, fun k h1 h2 => .inl ⟨by omega, by omega⟩, .inr hmb.symm, ⟨0, Nat.le_refl _, ?_⟩, by rw [← hmb]; exact hB5.size, fun k hk => .inl ⟨by have := hB4.size; omega, by omega⟩, bl_alloc hB5 (Nat.le_refl _) _⟩
                exact (MapT.madeAt w5 _ _ hmb).ext (fun x => rfl)
              have hl1 : g1 < mb := by omega
              have hl2 : g2 < mb := by omega
              clear hW4 hC4 hD4 hB4 hWS hW5 hK5 hC5 hD5 hS5 hB5 hAv
              have hmm := @run_makeMap Tryz.prog
              go_wp2_with fail
              clear hmm hmb h45 hs4 hgs hg1 hg2 hlo2
              generalize w5.alloc (.map #[] 0) = w6 at hSS ⊢
              have HL0 := HL.out
              obtain ⟨R, hR⟩ : ∃ R, putAll startP (toksB b) = R := ⟨_, rfl⟩
              have HR0 : Bx (R = putAll startP (toksF b (n - 0) 0)) := bx (by rw [← hR, toksB, HL0]; rfl)
              have HRR : Bx (sqzP b = bytesV (endBits R).1 (((endBits R).2 + 7) / 8)) := bx (by unfold sqzP packP allBits; rw [hR])
              clear hR HL0
              go_loopg [10] n (fun κ v10 wr => ∃ (i : Nat) (S : Pt), κ = n - i ∧ i ≤ n ∧ v10 = .int .i64 (i : Int) ∧ SqS w wr b Av g mb g1 g2 (g + 1) lo2 S i ∧ Bx (R = putAll S (toksF b (n - i) i)) ∧ Bx (S.2 ≤ 3 + 9 * i))
              case atStart => exact ⟨0, startP, by omega, by omega, rfl, hSS, HR0, bx (by decide)⟩
              case round =>
                clear hSS HR0
                obtain ⟨i, S, hgk2, hi, rfl, hSS, HRi, HSi⟩ := hrel
                have hrr : RB wr wr.heap.size A b := (RL.below hr hSS.bl (Nat.le_refl _)).more hSS.bl.size
                by_cases hin : i < n
                · have hni : ¬ n ≤ i := by omega
                  have hbn : i < b.length := by rw [HL.out]; exact hin
                  go_upto_if 88 with (fail)
                  go_cut [11, 12, 13, 14, 15] (fun v11 v12 _ _ _ wx => ∃ N F : Nat, v11 = .int .i64 (N : Int) ∧ v12 = .int .i64 (F : Int) ∧ SqS w wx b Av g mb g1 g2 (g + 1) lo2 S i ∧ Bx (pick b i N F = tokAt b i))
                  case first =>
                    -- DEV{
                    by_cases hk3 : i + 3 ≤ n
                    · have hnk : ¬ (n : Int) < (i : Int) + 3 := by omega
                      obtain ⟨ad, x0, hAd, hadb, hx0, hc0⟩ := RL.byte hrr (k := i) hbn
                      subst hAd
                      have hh1 : (0 : Int) ≤ (i : Int) + 3 := by omega
                      have hh2 : (i : Int) + 3 ≤ (c : Int) := by omega
                      have hh3 : (i : Int) ≤ (i : Int) + 3 := by omega
                      have hh4 : ¬ c = i := by omega
                      have hh5 : (i : Int) + 3 - (i : Int) = 3 := by omega
                      have hTA := run_tri (P := Tryz.prog) wr (ad.add i) 85 5 (c - i) Tryz.underlying85
                      obtain ⟨x, hx⟩ : ∃ x, ((triB b i).1.toNat : Int) = x := ⟨_, rfl⟩
                      obtain ⟨y, hy⟩ : ∃ y, ((triB b i).2.1.toNat : Int) = y := ⟨_, rfl⟩
                      obtain ⟨z, hzz⟩ : ∃ z, ((triB b i).2.2.toNat : Int) = z := ⟨_, rfl⟩
                      obtain ⟨k0, k1, k2⟩ := tri_three hrr (i := i) (by rw [HL.out]; exact hk3) hx hy hzz
                      clear hc0
                      have hSA := hSS.below (bl_alloc (Below.refl wr.heap.size wr) (Nat.le_refl _) (.cells #[.int .u8 x, .int .u8 y, .int .u8 z] 85))
                      obtain ⟨nm, hnm, hmp⟩ := hSA.mp
                      have HX : Bx (Value.agg #[.int .u8 x, .int .u8 y, .int .u8 z] = triV (triB b i)) := bx (by subst hx hy hzz; rfl)
                      obtain ⟨kl, hkl⟩ := tri_key (triB b i)
                      have HKY := bx hkl
                      have hk3b : i + 3 ≤ b.length := by rw [HL.out]; exact hk3
                      have hlg : lastG b i (triB b i) = (lastK b i (keyB b i)).map fun a : Nat => Value.int .i64 (a : Int) := by unfold lastG; rw [triB_list hk3b]; cases lastK b i (keyB b i) <;> rfl
                      cases hlk : lastK b i (keyB b i) with
                      | none =>
                        rw [hlk] at hlg
                        have HV : Bx ((lastG b i (triB b i)).getD (.int .i64 0) = .int .i64 0) := bx (by rw [hlg]; rfl)
                        have HS : Bx ((lastG b i (triB b i)).isSome = false) := bx (by rw [hlg]; rfl)
                        have HT := bx (tokAt_none hk3b hlk)
                        have HSA := bx hSA
                        clear hlg hlk hx hy hzz hkl hSA hSS
                        go_wp2_with (at_lookup; refine wpList_lookV_ok rfl (.tmp 97) (.tmp 98) _ rfl 3 triK Tryz.underlying84 (.int .i64 0) (zero_int _) rfl hmp (triB b i) _ HX.out HKY.out _ _ HV.out HS.out ?_)
                        go_meet
                        case rel => exact ⟨0, 0, rfl, rfl, HSA.out, HT⟩
                      | some a =>
                        obtain ⟨la1, la2, la3⟩ := lastK_some hlk
                        rw [hlk] at hlg
                        have HV : Bx ((lastG b i (triB b i)).getD (.int .i64 0) = .int .i64 (a : Int)) := bx (by rw [hlg]; rfl)
                        have HS : Bx ((lastG b i (triB b i)).isSome = true) := bx (by rw [hlg]; rfl)
                        have HT := bx (tokAt_some hk3b hlk)
                        have hfa : (i : Int) - (a : Int) ≤ 32768 := by omega
                        have hfs : (i : Int) - (a : Int) = ((i - a : Nat) : Int) := by omega
                        have HFS := bx hfs
                        have HSA := bx hSA
                        have HRR2 := bx (RL.alloc hrr (Nat.le_refl _) (.cells #[.int .u8 x, .int .u8 y, .int .u8 z] 85))
                        clear hlg hlk hx hy hzz hkl hSA hSS hfs la3
                        go_wp2_with (at_lookup; refine wpList_lookV_ok rfl (.tmp 97) (.tmp 98) _ rfl 3 triK Tryz.underlying84 (.int .i64 0) (zero_int _) rfl hmp (triB b i) _ HX.out HKY.out _ _ HV.out HS.out ?_)
                        have hSA := HSA.out
                        clear HSA HX HKY HV HS hmp hTA k0 k1 k2 HRR2 hx0 hh1 hh2 hh3 hh4 hh5 hadb hrr hnk
                        generalize wr.alloc (.cells #[.int .u8 x, .int .u8 y, .int .u8 z] 85) = wA2 at hSA ⊢
                        go_loopg [11] 258 (fun κ v11 wy => ∃ N : Nat, κ = 258 - N ∧ N ≤ 258 ∧ i + N ≤ n ∧ v11 = .int .i64 (N : Int) ∧ SqS w wy b Av g mb g1 g2 (g + 1) lo2 S i ∧ Bx (matF b i a (258 - N) N = matB b i a))
                        case atStart => exact ⟨0, by omega, by omega, by omega, rfl, hSA, bx rfl⟩
                        case round =>
                          clear hSA
                          obtain ⟨N, hgN, hN, hiN, rfl, hSA, HM⟩ := hrel
                          have hry : RB wr w.heap.size (some ad) b := RL.below hr hSA.bl (Nat.le_refl _)
                          have stop : ¬ (N < 258 ∧ i + N < b.length ∧ b.getD (i + N) 0 = b.getD (a + N) 0) → ∀ q, ∃ N' F : Nat, Value.int .i64 (N : Int) = .int .i64 (N' : Int) ∧ Value.int .i64 ((i : Int) - (a : Int)) = .int .i64 (F : Int) ∧ SqS w (wr.drewN q) b Av g mb g1 g2 (g + 1) lo2 S i ∧ Bx (pick b i N' F = tokAt b i) := fun hst q =>
                            ⟨N, i - a, rfl, by rw [HFS.out], hSA.drewN q, bx (by rw [← HT.out, ← HM.out, mat_stop hst])⟩
                          have STOP := bx stop
                          have HSA := bx hSA
                          have j0 : IntKind.i64.wrap ((i : Int) + (N : Int)) = (i : Int) + (N : Int) := IntWalk.i64_in _ (by omega)
                          have j1 : IntKind.i64.wrap ((a : Int) + (N : Int)) = (a : Int) + (N : Int) := IntWalk.i64_in _ (by omega)
                          by_cases h258 : N < 258
                          · have hNI : (N : Int) < 258 := by omega
                            by_cases hlt : i + N < n
                            · obtain ⟨ad1, x1, hA1, _, hx1, hc1⟩ := RL.byte hry (k := i + N) (by rw [HL.out]; exact hlt)
                              obtain ⟨ad2, x2, hA2, _, hx2, hc2⟩ := RL.byte hry (k := a + N) (by rw [HL.out]; omega)
                              injection hA1 with hA1
                              injection hA2 with hA2
                              subst hA1 hA2
                              have hlI : (i : Int) + (N : Int) < (n : Int) := by omega
                              have e0 : (0 : Int) ≤ (i : Int) + (N : Int) := by omega
                              have e1 : (0 : Int) ≤ (a : Int) + (N : Int) := by omega
                              have e2 : (a : Int) + (N : Int) < (n : Int) := by omega
                              have e3 : ((i : Int) + (N : Int)).toNat = i + N := by omega
                              have e4 : ((a : Int) + (N : Int)).toNat = a + N := by omega
                              have g1' : b.getD (i + N) 0 = x1 := by rw [List.getD_eq_getElem?_getD, hx1.out]; rfl
                              have g2' : b.getD (a + N) 0 = x2 := by rw [List.getD_eq_getElem?_getD, hx2.out]; rfl
                              by_cases hxx : x1 = x2
                              · have hbe : ((x1.toNat : Int) == (x2.toNat : Int)) = true := by rw [hxx]; exact beq_self_eq_true _
                                have HM2 : Bx (matF b i a (258 - (N + 1)) (N + 1) = matB b i a) := bx (by rw [← HM.out, mat_step h258 (by rw [HL.out]; exact hlt) (by rw [g1', g2', hxx])])
                                clear stop hSA hry g1' g2' hx1 hx2 STOP HM
                                go_upto_region 31 with (fail)
                                go_quiet (fail)
                                rename Nat => nq
                                have HSB := bx (HSA.out.drewN nq)
                                clear hc1 hc2
                                generalize wr.drewN nq = wz at HSB ⊢
                                go_wp2
                                go_roundg (258 - (N + 1))
                                case rel => exact ⟨N + 1, rfl, by omega, by omega, by go_num, HSB.out, HM2⟩
                                case measure => omega
                              · have hbe : ((x1.toNat : Int) == (x2.toNat : Int)) = false := by
                                  rw [beq_eq_false_iff_ne]
                                  exact fun e => hxx (UInt8.toNat_inj.1 (by omega))
                                have ST := bx (STOP.out (fun h => hxx (by rw [← g1', ← g2']; exact h.2.2)))
                                clear stop hSA hry g1' g2' hx1 hx2 STOP HM
                                go_upto_region 31 with (fail)
                                go_quiet (fail)
                                rename Nat => nq
                                clear hc1 hc2
                                have ST2 := bx (ST.out nq)
                                clear ST
                                generalize wr.drewN nq = wz at ST2 ⊢
                                go_wp2
                                go_meet
                                case rel => exact ST2.out
                            · have hlI : ¬ (i : Int) + (N : Int) < (n : Int) := by omega
                              have ST := bx (STOP.out (fun h => hlt (by rw [← HL.out]; exact h.2.1)))
                              clear stop hSA hry STOP HM
                              go_upto_region 31 with (fail)
                              go_quiet (fail)
                              rename Nat => nq
                              have ST2 := bx (ST.out nq)
                              clear ST
                              generalize wr.drewN nq = wz at ST2 ⊢
                              go_wp2
                              go_meet
                              case rel => exact ST2.out
                          · have hNI : ¬ (N : Int) < 258 := by omega
                            have ST := bx (STOP.out (fun h => h258 h.1))
                            clear stop hSA hry STOP HM
                            go_upto_region 31 with (fail)
                            go_quiet (fail)
                            rename Nat => nq
                            have ST2 := bx (ST.out nq)
                            clear ST
                            generalize wr.drewN nq = wz at ST2 ⊢
                            go_wp2
                            go_meet
                            case rel => exact ST2.out
                    · have hkn : (n : Int) < (i : Int) + 3 := by omega
                      go_wp2
                      go_meet
                      case rel => exact ⟨0, 0, rfl, rfl, hSS, bx (tokAt_late (by rw [HL.out]; exact hk3))⟩
                    -- DEV}
                  case rest =>
                    clear hSS hrr
                    obtain ⟨N, F, rfl, rfl, hSA, HT⟩ := hcut
                    obtain ⟨tg, _, tw1, tw2⟩ := tokAt_step (b := b) (i := i) (lim := n) hbn (by rw [HL.out]; exact Nat.le_refl _) (by rw [HL.out]; exact hbig)
                    have tb := tok_bits tg S
                    obtain ⟨T, hT⟩ : ∃ T, putTok S (tokAt b i) = T := ⟨_, rfl⟩
                    obtain ⟨W, hW⟩ : ∃ W, (tokAt b i).wide = W := ⟨_, rfl⟩
                    have HR2 := rest_step (S := S) (R := R) hbn (by rw [HL.out]; exact HRi.out)
                    rw [hT, hW, HL.out] at HR2
                    rw [hT, hW] at tb
                    rw [hW] at tw1 tw2
                    have HR2 := bx HR2
                    have htl : (b.take i).length = i := by rw [List.length_take]; omega
                    rw [← HT.out] at hT hW tg
                    have HS80 : S.2 + 80 ≤ 400000 := by have := HSi.out; omega
                    have HTi : Bx (T.2 ≤ 3 + 9 * (i + W)) := bx (by have := HSi.out; omega)
                    have tw1 : i + W ≤ n := by rw [← HL.out]; exact tw1
                    clear HRi HSi HT tb
                    go_step
                    go_step
                    go_cut [11] (fun v11 wx => v11 = .int .i64 (W : Int) ∧ SqS w wx b Av g mb g1 g2 (g + 1) lo2 T i)
                    case first =>
                      -- DEV{
                      obtain ⟨d2, d3⟩ := hSA.wt.cells
                      have LIT : (N < 3 ∨ (N = 3 ∧ 4096 < F)) → ∃ x, b[i]? = some x ∧ T = putSym fixLit S x.toNat ∧ W = 1 := fun h => by
                        rw [pick_lit h] at hT hW
                        refine ⟨b.getD i 0, by rw [List.getD_eq_getElem?_getD, List.getElem?_eq_getElem hbn]; rfl, hT.symm, hW.symm⟩
                      have CPY : ¬ (N < 3 ∨ (N = 3 ∧ 4096 < F)) → T = putDst (putLen S N) F ∧ W = N ∧ 3 ≤ N ∧ N ≤ 258 ∧ 1 ≤ F ∧ F ≤ 32768 := fun h => by
                        rw [pick_cpy h] at hT hW tg
                        obtain ⟨q1, q2, q3, q4, q5, q6⟩ := tg
                        exact ⟨hT.symm, hW.symm, q1, q2, q3, q5⟩
                      have LITx := bx LIT
                      have CPYx := bx CPY
                      clear LIT CPY tg hT hW
                      have lit : (N < 3 ∨ (N = 3 ∧ 4096 < F)) → ∃ (x : UInt8) (ad : Addr), A = some ad ∧ wc.cell? (ad.add i) = some (.int .u8 (x.toNat : Int)) ∧ T = putSym fixLit S x.toNat ∧ W = 1 ∧ x.toNat < 256 := fun h => by
                        obtain ⟨x, hx, h1, h2⟩ := LITx.out h
                        obtain ⟨ad, x', hA, _, hx', hc⟩ := RL.byte (RL.below hr hSA.bl (Nat.le_refl _)) (k := i) hbn
                        rw [hx] at hx'
                        have hxx := hx'.out
                        injection hxx with hxx
                        subst hxx
                        exact ⟨x, ad, hA, hc, h1, h2, x.toNat_lt⟩
                      have j0 : ∀ x : UInt8, IntKind.i64.wrap (x.toNat : Int) = (x.toNat : Int) := fun x => IntWalk.i64_in _ (by have := x.toNat_lt; omega)
                      have hiI : (i : Int) < (n : Int) := by omega
                      by_cases hN3 : N < 3
                      · have hNI : (N : Int) < 3 := by omega
                        obtain ⟨x, ad, hA, hc, hTT, rfl, hx256⟩ := lit (.inl hN3)
                        have HTT := bx hTT
                        subst hA
                        have HSA := bx hSA
                        clear lit LITx CPYx hTT hSA
                        go_upto_region 35 with (fail)
                        go_still_tail 10, (by kernel_rfl)
                        change wpList _ _ _ _ _ wc.drew
                        have hSB := HSA.out.drewN 1
                        have hlo := lit_ok (s := x.toNat) (by omega)
                        have HLO := bx hlo
                        clear hc d2 d3 HSA hlo
                        change SqS w wc.drew b Av g mb g1 g2 (g + 1) lo2 S i at hSB
                        generalize wc.drew = wB at hSB ⊢
                        go_wp2_with fail
                        refine (sput_any Av g g1 (g + 1) x.toNat _ _ S fixLit wB hSB.wt hSB.c1 hSB.a1 (by rw [lit_n]; omega) HLO.out.1 HLO.out.2.1 (by rw [lit_n]; omega) HLO.out.2.2 (by omega)).mono ?_
                        rintro e wC ⟨rfl, hWC, hKC⟩
                        rw [← HTT.out] at hWC
                        have hSC := hSB.kp hWC hKC
                        clear hWC hKC hSB
                        go_wp2_with fail
                        go_meet
                        case rel => exact ⟨rfl, hSC⟩
                      · have hNI : ¬ (N : Int) < 3 := by omega
                        by_cases hN4 : N = 3
                        · have hNb : ((N : Int) == 3) = true := by rw [hN4]; rfl
                          by_cases hF : 4096 < F
                          · have hFI : (4096 : Int) < (F : Int) := by omega
                            obtain ⟨x, ad, hA, hc, hTT, rfl, hx256⟩ := lit (.inr ⟨hN4, hF⟩)
                            have HTT := bx hTT
                            have HN4 := bx hN4
                            clear hN4
                            subst hA
                            have HSA := bx hSA
                            clear lit LITx CPYx hTT hSA
                            go_upto_region 35 with (fail)
                            go_still_tail 10, (by kernel_rfl)
                            change wpList _ _ _ _ _ wc.drew
                            have hSB := HSA.out.drewN 1
                            have hlo := lit_ok (s := x.toNat) (by omega)
                            have HLO := bx hlo
                            clear hc d2 d3 HSA hlo
                            change SqS w wc.drew b Av g mb g1 g2 (g + 1) lo2 S i at hSB
                            generalize wc.drew = wB at hSB ⊢
                            go_wp2_with fail
                            refine (sput_any Av g g1 (g + 1) x.toNat _ _ S fixLit wB hSB.wt hSB.c1 hSB.a1 (by rw [lit_n]; omega) HLO.out.1 HLO.out.2.1 (by rw [lit_n]; omega) HLO.out.2.2 (by omega)).mono ?_
                            rintro e wC ⟨rfl, hWC, hKC⟩
                            rw [← HTT.out] at hWC
                            have hSC := hSB.kp hWC hKC
                            clear hWC hKC hSB
                            go_wp2_with fail
                            go_meet
                            case rel => exact ⟨rfl, hSC⟩
                          · have hFI : ¬ (4096 : Int) < (F : Int) := by omega
                            obtain ⟨hTT, rfl, c1, c2, c3, c4⟩ := CPYx.out (by omega)
                            have HTT := bx hTT
                            have HN4 := bx hN4
                            clear lit LITx CPYx hTT d2 d3 hN4
                            go_wp2_with fail
                            refine (scopy_any Av g g1 (g + 1) g2 lo2 W F S wc hSA.wt hSA.c1 hSA.c2 hSA.a1 hSA.a2 c1 c2 c3 c4 HS80).mono ?_
                            rintro e wC ⟨rfl, hWC, hKC⟩
                            rw [← HTT.out] at hWC
                            have hSC := hSA.kp hWC hKC
                            clear hWC hKC hSA
                            go_wp2_with fail
                            go_meet
                            case rel => exact ⟨rfl, hSC⟩
                        · have hNb : ((N : Int) == 3) = false := by rw [beq_eq_false_iff_ne]; omega
                          obtain ⟨hTT, rfl, c1, c2, c3, c4⟩ := CPYx.out (by omega)
                          have HTT := bx hTT
                          clear lit LITx CPYx hTT d2 d3
                          go_wp2_with fail
                          refine (scopy_any Av g g1 (g + 1) g2 lo2 W F S wc hSA.wt hSA.c1 hSA.c2 hSA.a1 hSA.a2 c1 c2 c3 c4 HS80).mono ?_
                          rintro e wC ⟨rfl, hWC, hKC⟩
                          rw [← HTT.out] at hWC
                          have hSC := hSA.kp hWC hKC
                          clear hWC hKC hSA
                          go_wp2_with fail
                          go_meet
                          case rel => exact ⟨rfl, hSC⟩
                      -- DEV}
                    case rest =>
                      obtain ⟨rfl, hSC⟩ := hcut
                      clear hSA
                      have hHL := HL
                      go_wp2_with fail
                      go_loopg [10, 11] W (fun κ v10 v11 wr => ∃ I : Nat, κ = i + W - I ∧ i ≤ I ∧ I ≤ i + W ∧ v10 = .int .i64 (I : Int) ∧ v11 = .int .i64 ((i + W - I : Nat) : Int) ∧ SqS w wr b Av g mb g1 g2 (g + 1) lo2 T I)
                      case atStart => exact ⟨i, by omega, by omega, by omega, rfl, by go_num, hSC⟩
                      case round =>
                        clear hSC
                        obtain ⟨I, hgI, hI1, hI2, rfl, rfl, hSC⟩ := hrel
                        by_cases hIW : I < i + W
                        · have hpos : (0 : Int) < ((i + W - I : Nat) : Int) := by omega
                          by_cases hk3 : I + 3 ≤ n
                          · have hnk : ¬ (n : Int) < (I : Int) + 3 := by omega
                            have hrr : RB wr wr.heap.size A b := (RL.below hr hSC.bl (Nat.le_refl _)).more hSC.bl.size
                            obtain ⟨ad, hAd⟩ : ∃ ad, A = some ad := by
                              obtain ⟨ad, _, h, _⟩ := RL.byte hrr (k := I) (by rw [HL.out]; omega)
                              exact ⟨ad, h⟩
                            subst hAd
                            have hh1 : (0 : Int) ≤ (I : Int) + 3 := by omega
                            have hh2 : (I : Int) + 3 ≤ (c : Int) := by omega
                            have hh3 : (I : Int) ≤ (I : Int) + 3 := by omega
                            have hh4 : ¬ c = I := by omega
                            have hh5 : (I : Int) + 3 - (I : Int) = 3 := by omega
                            have hTA := run_tri (P := Tryz.prog) wr (ad.add I) 85 5 (c - I) Tryz.underlying85
                            obtain ⟨x, hx⟩ : ∃ x, ((triB b I).1.toNat : Int) = x := ⟨_, rfl⟩
                            obtain ⟨y, hy⟩ : ∃ y, ((triB b I).2.1.toNat : Int) = y := ⟨_, rfl⟩
                            obtain ⟨z, hzz⟩ : ∃ z, ((triB b I).2.2.toNat : Int) = z := ⟨_, rfl⟩
                            have hk3b : I + 3 ≤ b.length := by rw [HL.out]; exact hk3
                            obtain ⟨k0, k1, k2⟩ := tri_three hrr (i := I) hk3b hx hy hzz
                            obtain ⟨nm, hnm, hmp⟩ := hSC.mp
                            have HX : Bx (Value.agg #[.int .u8 x, .int .u8 y, .int .u8 z] = triV (triB b I)) := bx (by subst hx hy hzz; rfl)
                            obtain ⟨kl, hkl⟩ := tri_key (triB b I)
                            have HKY := bx hkl
                            have HSC := bx hSC
                            have HNM := bx hnm
                            have hnmx : nm < maxLen := by unfold maxLen; omega
                            clear hx hy hzz hkl hrr hSC hnm
                            go_wp2_with (at_mapUpdate; refine wpList_storeT rfl (.tmp 173) (.tmp 180) (.tmp 181) _ rfl 3 triK Tryz.underlying84 rfl hmp tri_inj hnmx (triB b I) (.int .i64 (I : Int)) _ HX.out rfl HKY.out ?_; intro w9 hm9 hg9)
                            have hSD := HSC.out.grown hg9 hl1 hl2 (j := I + 1) (by have := HNM.out; omega) (hm9.ext (fun q => lastG_succ hk3b q))
                            clear hm9 hg9 hmp k0 k1 k2 hTA HSC
                            go_roundg (i + W - (I + 1))
                            case rel => exact ⟨I + 1, rfl, by omega, by omega, by go_num, by go_num, hSD⟩
                            case measure => omega
                          · have hkn : (n : Int) < (I : Int) + 3 := by omega
                            have hSD := hSC.late (by rw [HL.out]; exact hk3)
                            clear hSC
                            go_wp2
                            go_roundg (i + W - (I + 1))
                            case rel => exact ⟨I + 1, rfl, by omega, by omega, by go_num, by go_num, hSD⟩
                            case measure => omega
                        · obtain rfl : I = i + W := by omega
                          have hneg : ¬ (0 : Int) < ((i + W - (i + W) : Nat) : Int) := by omega
                          have hzz0 : i + W - (i + W) = 0 := by omega
                          rw [hzz0] at hneg ⊢
                          obtain ⟨J, hJ⟩ : ∃ J, i + W = J := ⟨_, rfl⟩
                          rw [hJ] at hSC HR2 HTi tw1 ⊢
                          have hiJ : i < J := by omega
                          clear hJ hzz0 hneg
                          go_wp2
                          go_roundg (n - J)
                          case rel => exact ⟨J, T, rfl, by omega, rfl, hSC, HR2, HTi⟩
                          case measure => omega
                · obtain rfl : i = n := by omega
                  -- DEV{
                  have HR3 : Bx (R = S) := bx (by rw [HRi.out, toksF_done (by rw [HL.out]; exact Nat.le_refl _)]; rfl)
                  have HSZ := HSi.out
                  rw [← HR3.out] at HSZ hSS
                  obtain ⟨d2, d3⟩ := hSS.wt.cells
                  have hlo := lit_ok (s := 256) (by omega)
                  have HLO := bx hlo
                  have hni2 : ¬ i < i := by omega
                  clear hlo hrr HRi HSi
                  have HSS := bx hSS
                  clear hSS
                  go_wp2_with fail
                  have hSS := HSS.out
                  refine (sput_any Av g g1 (g + 1) 256 _ _ R fixLit wr hSS.wt hSS.c1 hSS.a1 (by rw [lit_n]; omega) HLO.out.1 HLO.out.2.1 (by rw [lit_n]; omega) HLO.out.2.2 (by omega)).mono ?_
                  rintro e w7 ⟨rfl, hW7, hK7⟩
                  have hS7 := hSS.kp hW7 hK7
                  clear hSS HSS d2 d3 hW7 hK7
                  go_wp2_with fail
                  refine (wbytes_any Av g _ _ (putSym fixLit R 256) w7 hS7.wt).mono ?_
                  rintro e w8 ⟨v8, rfl, hO8, hb8⟩
                  have hB8 := hS7.bl.trans (hb8.mono hS7.bl.size)
                  have hO9 := hO8.low hS7.bl.size
                  have HRR2 : Bx (sqzP b = bytesV (putSym fixLit R 256).1 (((putSym fixLit R 256).2 + 7) / 8)) := bx HRR.out
                  have HB8 := bx hB8
                  have HO9 := bx hO9
                  clear hS7 hO8 hb8 hB8 hO9
                  go_wp2_with fail
                  go_ret2
                  refine ⟨HB8.out, ?_⟩
                  rw [if_pos (by rw [HL.out]; exact hbig)]
                  exact ⟨_, rfl, by rw [HRR2.out]; exact HO9.out⟩
                  -- DEV}
  · have hbI : (32768 : Int) < (n : Int) := by omega
    have HL := bx hn
    clear hn
    go_enter Tryz.func16, Tryz.ntmps16
    go_wp2
    go_ret2
    refine ⟨Below.refl _ _, ?_⟩
    rw [if_neg (by rw [HL.out]; exact hbig)]
    rfl
end Go.Proofs.YtnkdpchnighkfaaGreatDoor
