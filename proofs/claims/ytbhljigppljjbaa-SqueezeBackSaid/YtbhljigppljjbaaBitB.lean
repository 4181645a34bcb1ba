/- Contract: (*bits.Reader).Take. -/
import Derived.Test.YtbhljigppljjbaaBitA
namespace Go.Proofs.Ytbhljigppljjbaa
open Go.RowKit

/-- The first i of three bytes. -/
def accP (b : List UInt8) (k : Nat) : Nat → Nat
  | 0 => 0
  | i + 1 => accP b k i + 256 ^ i * (b.getD (k + i) 0).toNat
theorem wraps_u32 (n : Int) (h₀ : 0 ≤ n) (h₁ : n < 2 ^ 32) : IntKind.u32.wrap n = n := by
  have : IntKind.u32.wrap n = n % 4294967296 := by simp [IntKind.wrap, IntKind.bits, IntKind.signed]
  rw [this]; omega
theorem wraps_u64 (n : Int) (h₀ : 0 ≤ n) (h₁ : n < 2 ^ 64) : IntKind.u64.wrap n = n := by
  have : IntKind.u64.wrap n = n % 18446744073709551616 := by simp [IntKind.wrap, IntKind.bits, IntKind.signed]
  rw [this]; omega
theorem u32_or_low (a y i : Nat) (ha : a < 2 ^ i) (hy : y % 2 ^ i = 0) (hy1 : y < 2 ^ 32) (hi : i ≤ 32) : bits .or .u32 (a : Int) (y : Int) = ((a + y : Nat) : Int) := by
  have ha' : a < 2 ^ 32 := Nat.lt_of_lt_of_le ha (Nat.pow_le_pow_right (by decide) hi)
  rw [(bits_nat .u32 32 (by decide) wraps_u32 a y ha' hy1).2]
  have hq : y = 2 ^ i * (y / 2 ^ i) := by have := Nat.div_add_mod y (2 ^ i); omega
  rw [Nat.or_comm, hq, ← Nat.two_pow_add_eq_or_of_lt ha]
  rw [Nat.add_comm]
theorem accP_lt (b : List UInt8) (j : Nat) : ∀ k, accP b j k < 256 ^ k := by
  intro k
  induction k with
  | zero => simp [accP]
  | succ k ih =>
    unfold accP
    have h := (b.getD (j + k) 0).toNat_lt
    have h2 : 256 ^ k * (b.getD (j + k) 0).toNat ≤ 256 ^ k * 255 := Nat.mul_le_mul (Nat.le_refl _) (by omega)
    rw [Nat.pow_succ]; omega
theorem accP_none (b : List UInt8) (j k : Nat) (h : b.length ≤ j + k) : accP b j (k + 1) = accP b j k := by
  show accP b j k + 256 ^ k * (b.getD (j + k) 0).toNat = _
  rw [List.getD_eq_getElem?_getD, List.getElem?_eq_none h]
  show accP b j k + 256 ^ k * (0 : UInt8).toNat = _
  rw [show (0 : UInt8).toNat = 0 from rfl, Nat.mul_zero, Nat.add_zero]
theorem or_acc {b : List UInt8} {j k : Nat} {x : UInt8} {e : Int} (hk : k ≤ 2) (hx : b[j + k]? = some x) (he : e = (x.toNat : Int) * 256 ^ k) : bits .or .u32 (accP b j k : Int) e = (accP b j (k + 1) : Int) := by
  have h := accP_lt b j k
  have hx8 := x.toNat_lt
  have e1 : e = ((256 ^ k * x.toNat : Nat) : Int) := by rw [he, Int.natCast_mul, Int.natCast_pow, Int.mul_comm]; rfl
  have hp : (256 : Nat) ^ k = 2 ^ (8 * k) := by rw [show (256 : Nat) = 2 ^ 8 by decide, ← Nat.pow_mul]
  have e2 : accP b j (k + 1) = accP b j k + 256 ^ k * x.toNat := by
    show accP b j k + 256 ^ k * (b.getD (j + k) 0).toNat = _
    rw [List.getD_eq_getElem?_getD, hx]; rfl
  rw [e1, e2]
  refine u32_or_low _ _ (8 * k) (by rw [← hp]; exact h) (by rw [hp]; exact Nat.mul_mod_right _ _) ?_ (by omega)
  have : (256 : Nat) ^ k ≤ 256 ^ 2 := Nat.pow_le_pow_right (by decide) hk
  have h3 : 256 ^ k * x.toNat ≤ 256 ^ 2 * 255 := Nat.mul_le_mul this (by omega)
  omega
theorem accP3 (b : List UInt8) (j : Nat) : accP b j 3 = acc3 b j := by
  show 0 + 256 ^ 0 * (b.getD (j + 0) 0).toNat + 256 ^ 1 * (b.getD (j + 1) 0).toNat + 256 ^ 2 * (b.getD (j + 2) 0).toNat = _
  unfold acc3
  rw [show 256 ^ 0 = 1 from rfl, show 256 ^ 1 = 256 from rfl, show 256 ^ 2 = 65536 from rfl, Nat.add_zero]; omega
theorem and7 (p : Nat) (h : p < 2 ^ 63) : bits .and .u64 (p : Int) 7 = ((p % 8 : Nat) : Int) := by
  have := bits_mask .u64 64 (by decide) wraps_u64 3 (by decide) (p : Int) (by omega) (by omega)
  rw [show (2 : Int) ^ 3 - 1 = 7 by decide] at this
  rw [this]; omega
theorem take_val (q m n : Nat) (hq : q < 16777216) (hn : n ≤ 16) : wrap64 (bits .and .u32 ((q : Int) / 2 ^ m) ((2 ^ n - 1) % 4294967296)) = ((q / 2 ^ m % 2 ^ n : Nat) : Int) := by
  have h2 : (2 : Nat) ^ n ≤ 2 ^ 16 := Nat.pow_le_pow_right (by decide) hn
  have h3 : 0 < (2 : Nat) ^ n := Nat.two_pow_pos n
  have h4 : q / 2 ^ m ≤ q := Nat.div_le_self _ _
  have e1 : ((2 : Int) ^ n - 1) % 4294967296 = 2 ^ n - 1 := by
    have : ((2 : Int) ^ n) = ((2 ^ n : Nat) : Int) := by simp
    rw [this]; omega
  have e2 : (q : Int) / 2 ^ m = ((q / 2 ^ m : Nat) : Int) := by simp
  rw [e1, e2]
  generalize q / 2 ^ m = r at h4 ⊢
  rw [bits_mask .u32 32 (by decide) wraps_u32 n (by omega) _ (by omega) (by omega)]
  have e3 : (r : Int) % 2 ^ n = ((r % 2 ^ n : Nat) : Int) := by simp
  rw [e3]
  have h5 : r % 2 ^ n < 2 ^ n := Nat.mod_lt _ h3
  generalize r % 2 ^ n = t at h5 ⊢
  generalize (2 : Nat) ^ n = u at h2 h5
  clear e1 e2 e3 h3
  exact IntWalk.wrap64_in _ ⟨by omega, by omega⟩
set_option maxHeartbeats 2000000 in
theorem btake_ok (g : Nat) (b : List UInt8) (p n : Nat) (w : World) (h : BRd w g b p) (hn : n ≤ 16) (hp : p + n ≤ 8 * b.length) :
    Calls Try.prog 44 #[.pointer (some ⟨g, 0, none⟩), .int .i64 (n : Int)] w fun e w' => e = .returned (.tuple #[.int .i64 (takeN b p n : Int), .int .i64 0]) ∧ BRd w' g b (p + n) ∧ w.grownBy w' (some g) := by
  have hle := h.le
  obtain ⟨A, c, h1, h2, _⟩ := id h
  have c0 : w.cell? ⟨g, 0, none⟩ = some (.slice A b.length c) := (h1.cell 0).trans rfl
  have c1 : w.cell? ⟨g, 1, none⟩ = some (.int .i64 (p : Int)) := (h1.cell 1).trans rfl
  have f1 : w.frozen? ⟨g, 1, none⟩ = false := h1.frz 1
  have i1 : IntKind.i64.wrap (8 * (b.length : Int)) = 8 * (b.length : Int) := IntWalk.i64_in _ (by omega)
  have i2 : IntKind.i64.wrap (8 * (b.length : Int) - (p : Int)) = 8 * (b.length : Int) - (p : Int) := IntWalk.i64_in _ (by omega)
  have i3 : ¬ (8 * (b.length : Int) - (p : Int) < (n : Int)) := by omega
  clear h1
  go_enter Try.func44, Try.ntmps44
  go_wp2
  go_quiet (fail)
  rename_i nq
  clear i1 i2
  have hB := h
  have hgb := gb_drewN (World.grownBy.refl w (some g)) nq
  have d0 : (w.drewN nq).cell? ⟨g, 0, none⟩ = some (.slice A b.length c) := c0
  have d1 : (w.drewN nq).cell? ⟨g, 1, none⟩ = some (.int .i64 (p : Int)) := c1
  have d2 : (w.drewN nq).frozen? ⟨g, 1, none⟩ = false := f1
  have dB : BRd (w.drewN nq) g b p := h
  have dr : RB (w.drewN nq) g A b := h2
  clear c0 c1 f1 hB h h2
  generalize w.drewN nq = w1 at hgb d0 d1 d2 dB dr ⊢
  go_wp2
  go_loop [6, 7, 8] (fun a i _ => ∃ k : Nat, k ≤ 3 ∧ i = .int .i64 (k : Int) ∧ a = .int .u32 (accP b (p / 8) k : Int)) (fun _ i _ => 3 - (intOf i).toNat)
  case atStart => exact ⟨0, by omega, rfl, rfl⟩
  case round =>
    obtain ⟨k, hk, rfl, rfl⟩ := hrel
    have hk4 : k = 0 ∨ k = 1 ∨ k = 2 ∨ k = 3 := by omega
    rcases hk4 with rfl | rfl | rfl | rfl
    · by_cases hb0 : p / 8 < b.length
      · obtain ⟨ad, x, rfl, _, hx, hc⟩ := dr.byte (k := p / 8) hb0
        have hx8 := x.toNat_lt
        go_wp2
        go_round
        case rel => exact ⟨1, by omega, rfl, congrArg (Value.int .u32) (or_acc (by omega) hx.out (by omega))⟩
        case measure => simp [intOf]
      · have HN := Lib.hid (accP_none b (p / 8) 0 (by omega))
        have hb1 : ¬ (p : Int) / 8 < (b.length : Int) := by omega
        go_wp2
        go_round
        case rel => exact ⟨1, by omega, rfl, by rw [HN.out]⟩
        case measure => simp [intOf]
    · by_cases hb0 : p / 8 + 1 < b.length
      · obtain ⟨ad, x, rfl, _, hx, hc⟩ := dr.byte (k := p / 8 + 1) hb0
        have hc' : w1.cell? ⟨ad.block, ad.off + (p / 8 + 1), none⟩ = some (.int .u8 (x.toNat : Int)) := by rw [add_pos] at hc; exact hc
        have hx8 := x.toNat_lt
        go_wp2
        go_round
        case rel => exact ⟨2, by omega, rfl, congrArg (Value.int .u32) (or_acc (by omega) hx.out (by omega))⟩
        case measure => simp [intOf]
      · have HN := Lib.hid (accP_none b (p / 8) 1 (by omega))
        have hb1 : ¬ (p : Int) / 8 + 1 < (b.length : Int) := by omega
        go_wp2
        go_round
        case rel => exact ⟨2, by omega, rfl, by rw [HN.out]⟩
        case measure => simp [intOf]
    · by_cases hb0 : p / 8 + 2 < b.length
      · obtain ⟨ad, x, rfl, _, hx, hc⟩ := dr.byte (k := p / 8 + 2) hb0
        have hc' : w1.cell? ⟨ad.block, ad.off + (p / 8 + 2), none⟩ = some (.int .u8 (x.toNat : Int)) := by rw [add_pos] at hc; exact hc
        have hx8 := x.toNat_lt
        go_wp2
        go_round
        case rel => exact ⟨3, by omega, rfl, congrArg (Value.int .u32) (or_acc (by omega) hx.out (by omega))⟩
        case measure => simp [intOf]
      · have HN := Lib.hid (accP_none b (p / 8) 2 (by omega))
        have hb1 : ¬ (p : Int) / 8 + 2 < (b.length : Int) := by omega
        go_wp2
        go_round
        case rel => exact ⟨3, by omega, rfl, by rw [HN.out]⟩
        case measure => simp [intOf]
    · have ha := acc3_lt b (p / 8)
      have ht := Lib.hid (acc3_take b p n hn)
      rw [accP3]
      obtain ⟨q, hq⟩ : ∃ q, acc3 b (p / 8) = q := ⟨_, rfl⟩
      obtain ⟨mm, hmm⟩ : ∃ mm, p % 8 = mm := ⟨_, rfl⟩
      have hm8 : mm < 8 := by omega
      have hm7 : bits .and .u64 (p : Int) 7 = (mm : Int) := by
        rw [← hmm]; exact and7 p (by omega)
      rw [hq] at ha ht ⊢
      rw [hmm] at ht
      clear hq hmm
      have HV := Lib.hid (take_val q mm n ha hn)
      have HS := Lib.hid (dB.set (q := p + n) hp)
      have HG := Lib.hid (gb_set hgb 1 (.int .i64 ((p + n : Nat) : Int)))
      have HC : Hid (((p + n : Nat) : Int) = (p : Int) + (n : Int)) := Lib.hid (Int.natCast_add p n)
      clear dB hgb
      go_wp2
      go_ret2
      rw [HV.out, ht.out, ← HC.out]
      exact ⟨rfl, HS.out, HG.out⟩
end Go.Proofs.Ytbhljigppljjbaa
