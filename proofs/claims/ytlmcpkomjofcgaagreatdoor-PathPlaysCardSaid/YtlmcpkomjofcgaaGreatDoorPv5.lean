/- Contracts: bits.New, (*bits.Reader).At. Contract: (*bits.Reader).Take. Contracts: (*bits.Reader).Take where bits lack; (*bits.Reader).Bytes. Words as keys; a prefix code in memory. Contract: prefix.New. Contracts: inflate.spread, inflate.fixed. Contract: (*inflate.state).take. Contract: (*prefix.Code).Next. What has been unpacked, in memory; what a step answers. Contract: (*inflate.state).stored. Plain facts on what a block tells. -/
import Derived.Test.YtlmcpkomjofcgaaGreatDoorProg
import Derived.Test.YtlmcpkomjofcgaaGreatDoorPv4
import Derived.Test.YtlmcpkomjofcgaaGreatDoorPv3
import Derived.Deep.RegionHeld3
import Derived.DeepKeys4
import Derived.Outline
import Derived.Deep.DeepCutAuto
import Derived.Deep.OwnRows
import Derived.Deep.RegionLaw
namespace Go.Proofs.YtlmcpkomjofcgaaGreatDoor
open Go.RowKit

theorem byteTy : ETy Tryz.prog 22 5 (.int .u8 0) 1 1 := ⟨Tryz.underlying22, info_parts (by kernel_rfl), rfl, by decide⟩
/-- A reader in block g: its bytes, how many bits were passed. -/
def BRd (w : World) (g : Nat) (b : List UInt8) (p : Nat) : Prop :=
  ∃ A c, Bk w g 164 #[.slice A b.length c, .int .i64 (p : Int)] ∧ RB w g A b ∧ b.length ≤ c ∧ p ≤ 8 * b.length ∧ b.length ≤ 1000000000
theorem BRd.lt {w : World} {g : Nat} {b : List UInt8} {p : Nat} (h : BRd w g b p) : g < w.heap.size := by obtain ⟨A, c, h1, _⟩ := h; exact h1.lt
theorem BRd.le {w : World} {g : Nat} {b : List UInt8} {p : Nat} (h : BRd w g b p) : p ≤ 8 * b.length ∧ b.length ≤ 1000000000 := by obtain ⟨A, c, _, _, _, h1⟩ := h; exact h1
theorem BRd.keep {w w' : World} {g : Nat} {b : List UInt8} {p : Nat} (h : BRd w g b p) (hk : ∀ i, i ≤ g → w'.heap[i]? = w.heap[i]?) : BRd w' g b p := by
  obtain ⟨A, c, h1, h2, r⟩ := h
  exact ⟨A, c, (hk g (Nat.le_refl _)).trans h1, Rd.keep h2 fun q hq => World.cell?_of_block (hk _ (by omega)), r⟩
theorem BRd.below {w w' : World} {g B : Nat} {b : List UInt8} {p : Nat} (h : BRd w g b p) (hb : Below B w w') (hB : g < B) : BRd w' g b p := h.keep fun i hi => hb.block i (by omega)
theorem BRd.step {w w' : World} {g : Nat} {b : List UInt8} {p : Nat} (h : BRd w g b p) (hb : Below w.heap.size w w') : BRd w' g b p := h.below hb h.lt
/-- Where the reader stands is turned. -/
theorem BRd.set {w : World} {g : Nat} {b : List UInt8} {p q : Nat} (h : BRd w g b p) (hq : q ≤ 8 * b.length) : BRd (w.setCell ⟨g, 1, none⟩ (.int .i64 (q : Int))) g b q := by
  obtain ⟨A, c, h1, h2, h3, _, h5⟩ := h
  refine ⟨A, c, ?_, h2.setCell (by exact Nat.le_refl _) _, h3, hq, h5⟩
  have := h1.set 1 (.int .i64 (q : Int))
  simpa using this
set_option maxHeartbeats 400000 in
theorem bnew_any (A : Option Addr) (n c : Nat) (l : List UInt8) (w : World) (hn : l.length = n) (hz : n ≤ 1000000000) (hr : RB w w.heap.size A l) :
    Calls Tryz.prog 72 #[.slice A n c] w fun e w' => ∃ g, e = .returned (.pointer (some ⟨g, 0, none⟩)) ∧ w.heap.size ≤ g ∧ BRd w' g l 0 ∧ Below w.heap.size w w' := by
  have HN : Hid ((([] : List UInt8).length + l.length) * 1 ≤ 140737488355328) := Lib.hid (by simp; omega)
  have HL := Lib.hid hn
  clear hn
  go_enter Tryz.func72, Tryz.ntmps72
  go_wp2_with (at_builtin; refine wpList_appL _ bV_one rfl (.tmp 3) (.tmp 4) rfl byteTy (by decide) w.heap.size _ [] rfl (OwL.lit0 w (Nat.le_refl _)) w.heap.size A n c l rfl HL.out (RL.alloc hr (Nat.le_refl _) _) HN.out (le_alloc0 (Nat.le_refl _) _) ?_; intro v1 w1 hown _ _ hb1; rw [List.nil_append] at hown; obtain ⟨A1, c1, rfl, hr1, hc1, _⟩ := OwL.rd hown)
  have hb2 := ((Below.refl w.heap.size w).alloc (Nat.le_refl _) _).trans hb1
  clear hb1 hown
  go_ret
  refine ⟨w1.heap.size, rfl, hb2.size, ⟨A1, c1, Bk.new _ _ _, hr1.alloc (Nat.le_refl _) _, hc1, by omega, by rw [HL.out]; exact hz⟩, hb2.alloc hb2.size _⟩
set_option maxHeartbeats 400000 in
theorem bat_any (g : Nat) (b : List UInt8) (p : Nat) (w : World) (h : BRd w g b p) :
    Calls Tryz.prog 74 #[.pointer (some ⟨g, 0, none⟩)] w fun e w' => e = .returned (.int .i64 (p : Int)) ∧ w = w' := by
  obtain ⟨A, c, h1, _⟩ := h
  have hc : w.cell? ⟨g, 1, none⟩ = some (.int .i64 (p : Int)) := (h1.cell 1).trans rfl
  clear h1
  go_enter Tryz.func74, Tryz.ntmps74
  go_wp2
  go_ret
  exact ⟨rfl, rfl⟩
end Go.Proofs.YtlmcpkomjofcgaaGreatDoor
namespace Go.Proofs.YtlmcpkomjofcgaaGreatDoor
open Go.RowKit

/-- The first i of three bytes. -/
def accP (b : List UInt8) (k : Nat) : Nat → Nat
  | 0 => 0
  | i + 1 => accP b k i + 256 ^ i * (b.getD (k + i) 0).toNat
theorem wraps_u32 (n : Int) (h₀ : 0 ≤ n) (h₁ : n < 2 ^ 32) : IntKind.u32.wrap n = n := by
  have : IntKind.u32.wrap n = n % 4294967296 := by simp [IntKind.wrap, IntKind.bits, IntKind.signed]
  rw [this]; omega
theorem wraps_u64 (n : Int) (h₀ : 0 ≤ n) (h₁ : n < 2 ^ 64) : IntKind.u64.wrap n = n := by
  have : IntKind.u64.wrap n = n % 18446744073709551616 := by simp [IntKind.wrap, IntKind.bits, IntKind.signed]
  rw [this]; omega
theorem u32_or_low (a y i : Nat) (ha : a < 2 ^ i) (hy : y % 2 ^ i = 0) (hy1 : y < 2 ^ 32) (hi : i ≤ 32) : bits .or .u32 (a : Int) (y : Int) = ((a + y : Nat) : Int) := by
  have ha' : a < 2 ^ 32 := Nat.lt_of_lt_of_le ha (Nat.pow_le_pow_right (by decide) hi)
  rw [(bits_nat .u32 32 (by decide) wraps_u32 a y ha' hy1).2]
  have hq : y = 2 ^ i * (y / 2 ^ i) := by have := Nat.div_add_mod y (2 ^ i); omega
  rw [Nat.or_comm, hq, ← Nat.two_pow_add_eq_or_of_lt ha]
  rw [Nat.add_comm]
theorem accP_lt (b : List UInt8) (j : Nat) : ∀ k, accP b j k < 256 ^ k := by
  intro k
  induction k with
  | zero => simp [accP]
  | succ k ih =>
    unfold accP
    have h := (b.getD (j + k) 0).toNat_lt
    have h2 : 256 ^ k * (b.getD (j + k) 0).toNat ≤ 256 ^ k * 255 := Nat.mul_le_mul (Nat.le_refl _) (by omega)
    rw [Nat.pow_succ]; omega
theorem accP_none (b : List UInt8) (j k : Nat) (h : b.length ≤ j + k) : accP b j (k + 1) = accP b j k := by
  show accP b j k + 256 ^ k * (b.getD (j + k) 0).toNat = _
  rw [List.getD_eq_getElem?_getD, List.getElem?_eq_none h]
  show accP b j k + 256 ^ k * (0 : UInt8).toNat = _
  rw [show (0 : UInt8).toNat = 0 from rfl, Nat.mul_zero, Nat.add_zero]
theorem or_acc {b : List UInt8} {j k : Nat} {x : UInt8} {e : Int} (hk : k ≤ 2) (hx : b[j + k]? = some x) (he : e = (x.toNat : Int) * 256 ^ k) : bits .or .u32 (accP b j k : Int) e = (accP b j (k + 1) : Int) := by
  have h := accP_lt b j k
  have hx8 := x.toNat_lt
  have e1 : e = ((256 ^ k * x.toNat : Nat) : Int) := by rw [he, Int.natCast_mul, Int.natCast_pow, Int.mul_comm]; rfl
  have hp : (256 : Nat) ^ k = 2 ^ (8 * k) := by rw [show (256 : Nat) = 2 ^ 8 by decide, ← Nat.pow_mul]
  have e2 : accP b j (k + 1) = accP b j k + 256 ^ k * x.toNat := by
    show accP b j k + 256 ^ k * (b.getD (j + k) 0).toNat = _
    rw [List.getD_eq_getElem?_getD, hx]; rfl
  rw [e1, e2]
  refine u32_or_low _ _ (8 * k) (by rw [← hp]; exact h) (by rw [hp]; exact Nat.mul_mod_right _ _) ?_ (by omega)
  have : (256 : Nat) ^ k ≤ 256 ^ 2 := Nat.pow_le_pow_right (by decide) hk
  have h3 : 256 ^ k * x.toNat ≤ 256 ^ 2 * 255 := Nat.mul_le_mul this (by omega)
  omega
theorem accP3 (b : List UInt8) (j : Nat) : accP b j 3 = acc3 b j := by
  show 0 + 256 ^ 0 * (b.getD (j + 0) 0).toNat + 256 ^ 1 * (b.getD (j + 1) 0).toNat + 256 ^ 2 * (b.getD (j + 2) 0).toNat = _
  unfold acc3
  rw [show 256 ^ 0 = 1 from rfl, show 256 ^ 1 = 256 from rfl, show 256 ^ 2 = 65536 from rfl, Nat.add_zero]; omega
theorem and7 (p : Nat) (h : p < 2 ^ 63) : bits .and .u64 (p : Int) 7 = ((p % 8 : Nat) : Int) := by
  have := bits_mask .u64 64 (by decide) wraps_u64 3 (by decide) (p : Int) (by omega) (by omega)
  rw [show (2 : Int) ^ 3 - 1 = 7 by decide] at this
  rw [this]; omega
theorem take_val (q m n : Nat) (hq : q < 16777216) (hn : n ≤ 16) : wrap64 (bits .and .u32 ((q : Int) / 2 ^ m) ((2 ^ n - 1) % 4294967296)) = ((q / 2 ^ m % 2 ^ n : Nat) : Int) := by
  have h2 : (2 : Nat) ^ n ≤ 2 ^ 16 := Nat.pow_le_pow_right (by decide) hn
  have h3 : 0 < (2 : Nat) ^ n := Nat.two_pow_pos n
  have h4 : q / 2 ^ m ≤ q := Nat.div_le_self _ _
  have e1 : ((2 : Int) ^ n - 1) % 4294967296 = 2 ^ n - 1 := by
    have : ((2 : Int) ^ n) = ((2 ^ n : Nat) : Int) := by simp
    rw [this]; omega
  have e2 : (q : Int) / 2 ^ m = ((q / 2 ^ m : Nat) : Int) := by simp
  rw [e1, e2]
  generalize q / 2 ^ m = r at h4 ⊢
  rw [bits_mask .u32 32 (by decide) wraps_u32 n (by omega) _ (by omega) (by omega)]
  have e3 : (r : Int) % 2 ^ n = ((r % 2 ^ n : Nat) : Int) := by simp
  rw [e3]
  have h5 : r % 2 ^ n < 2 ^ n := Nat.mod_lt _ h3
  generalize r % 2 ^ n = t at h5 ⊢
  generalize (2 : Nat) ^ n = u at h2 h5
  clear e1 e2 e3 h3
  exact IntWalk.wrap64_in _ ⟨by omega, by omega⟩
set_option maxHeartbeats 2000000 in
theorem btake_ok (g : Nat) (b : List UInt8) (p n : Nat) (w : World) (h : BRd w g b p) (hn : n ≤ 16) (hp : p + n ≤ 8 * b.length) :
    Calls Tryz.prog 108 #[.pointer (some ⟨g, 0, none⟩), .int .i64 (n : Int)] w fun e w' => e = .returned (.tuple #[.int .i64 (takeN b p n : Int), .int .i64 0]) ∧ BRd w' g b (p + n) ∧ w.grownBy w' (some g) := by
  have hle := h.le
  obtain ⟨A, c, h1, h2, _⟩ := id h
  have c0 : w.cell? ⟨g, 0, none⟩ = some (.slice A b.length c) := (h1.cell 0).trans rfl
  have c1 : w.cell? ⟨g, 1, none⟩ = some (.int .i64 (p : Int)) := (h1.cell 1).trans rfl
  have f1 : w.frozen? ⟨g, 1, none⟩ = false := h1.frz 1
  have i1 : IntKind.i64.wrap (8 * (b.length : Int)) = 8 * (b.length : Int) := IntWalk.i64_in _ (by omega)
  have i2 : IntKind.i64.wrap (8 * (b.length : Int) - (p : Int)) = 8 * (b.length : Int) - (p : Int) := IntWalk.i64_in _ (by omega)
  have i3 : ¬ (8 * (b.length : Int) - (p : Int) < (n : Int)) := by omega
  clear h1
  go_enter Tryz.func108, Tryz.ntmps108
  go_wp2
  go_quiet (fail)
  rename_i nq
  clear i1 i2
  have hB := h
  have hgb := gb_drewN (World.grownBy.refl w (some g)) nq
  have d0 : (w.drewN nq).cell? ⟨g, 0, none⟩ = some (.slice A b.length c) := c0
  have d1 : (w.drewN nq).cell? ⟨g, 1, none⟩ = some (.int .i64 (p : Int)) := c1
  have d2 : (w.drewN nq).frozen? ⟨g, 1, none⟩ = false := f1
  have dB : BRd (w.drewN nq) g b p := h
  have dr : RB (w.drewN nq) g A b := h2
  clear c0 c1 f1 hB h h2
  generalize w.drewN nq = w1 at hgb d0 d1 d2 dB dr ⊢
  go_wp2
  go_loop [6, 7, 8] (fun a i _ => ∃ k : Nat, k ≤ 3 ∧ i = .int .i64 (k : Int) ∧ a = .int .u32 (accP b (p / 8) k : Int)) (fun _ i _ => 3 - (intOf i).toNat)
  case atStart => exact ⟨0, by omega, rfl, rfl⟩
  case round =>
    obtain ⟨k, hk, rfl, rfl⟩ := hrel
    have hk4 : k = 0 ∨ k = 1 ∨ k = 2 ∨ k = 3 := by omega
    rcases hk4 with rfl | rfl | rfl | rfl
    · by_cases hb0 : p / 8 < b.length
      · obtain ⟨ad, x, rfl, _, hx, hc⟩ := dr.byte (k := p / 8) hb0
        have hx8 := x.toNat_lt
        go_wp2
        go_round
        case rel => exact ⟨1, by omega, rfl, congrArg (Value.int .u32) (or_acc (by omega) hx.out (by omega))⟩
        case measure => simp [intOf]
      · have HN := Lib.hid (accP_none b (p / 8) 0 (by omega))
        have hb1 : ¬ (p : Int) / 8 < (b.length : Int) := by omega
        go_wp2
        go_round
        case rel => exact ⟨1, by omega, rfl, by rw [HN.out]⟩
        case measure => simp [intOf]
    · by_cases hb0 : p / 8 + 1 < b.length
      · obtain ⟨ad, x, rfl, _, hx, hc⟩ := dr.byte (k := p / 8 + 1) hb0
        have hc' : w1.cell? ⟨ad.block, ad.off + (p / 8 + 1), none⟩ = some (.int .u8 (x.toNat : Int)) := by rw [add_pos] at hc; exact hc
        have hx8 := x.toNat_lt
        go_wp2
        go_round
        case rel => exact ⟨2, by omega, rfl, congrArg (Value.int .u32) (or_acc (by omega) hx.out (by omega))⟩
        case measure => simp [intOf]
      · have HN := Lib.hid (accP_none b (p / 8) 1 (by omega))
        have hb1 : ¬ (p : Int) / 8 + 1 < (b.length : Int) := by omega
        go_wp2
        go_round
        case rel => exact ⟨2, by omega, rfl, by rw [HN.out]⟩
        case measure => simp [intOf]
    · by_cases hb0 : p / 8 + 2 < b.length
      · obtain ⟨ad, x, rfl, _, hx, hc⟩ := dr.byte (k := p / 8 + 2) hb0
        have hc' : w1.cell? ⟨ad.block, ad.off + (p / 8 + 2), none⟩ = some (.int .u8 (x.toNat : Int)) := by rw [add_pos] at hc; exact hc
        have hx8 := x.toNat_lt
        go_wp2
        go_round
        case rel => exact ⟨3, by omega, rfl, congrArg (Value.int .u32) (or_acc (by omega) hx.out (by omega))⟩
        case measure => simp [intOf]
      · have HN := Lib.hid (accP_none b (p / 8) 2 (by omega))
        have hb1 : ¬ (p : Int) / 8 + 2 < (b.length : Int) := by omega
        go_wp2
        go_round
        case rel => exact ⟨3, by omega, rfl, by rw [HN.out]⟩
        case measure => simp [intOf]
    · have ha := acc3_lt b (p / 8)
      have ht := Lib.hid (acc3_take b p n hn)
      rw [accP3]
      obtain ⟨q, hq⟩ : ∃ q, acc3 b (p / 8) = q := ⟨_, rfl⟩
      obtain ⟨mm, hmm⟩ : ∃ mm, p % 8 = mm := ⟨_, rfl⟩
      have hm8 : mm < 8 := by omega
      have hm7 : bits .and .u64 (p : Int) 7 = (mm : Int) := by
        rw [← hmm]; exact and7 p (by omega)
      rw [hq] at ha ht ⊢
      rw [hmm] at ht
      clear hq hmm
      have HV := Lib.hid (take_val q mm n ha hn)
      have HS := Lib.hid (dB.set (q := p + n) hp)
      have HG := Lib.hid (gb_set hgb 1 (.int .i64 ((p + n : Nat) : Int)))
      have HC : Hid (((p + n : Nat) : Int) = (p : Int) + (n : Int)) := Lib.hid (Int.natCast_add p n)
      clear dB hgb
      go_wp2
      go_ret2
      rw [HV.out, ht.out, ← HC.out]
      exact ⟨rfl, HS.out, HG.out⟩
end Go.Proofs.YtlmcpkomjofcgaaGreatDoor
namespace Go.Proofs.YtlmcpkomjofcgaaGreatDoor
open Go.RowKit

theorem gb_past {a b c : World} {row : Option Nat} {B : Nat} (h : a.grownBy b row) (k : Below B b c) (hB : a.heap.size ≤ B) : a.grownBy c row :=
  ⟨k.os.trans h.os, k.tape.trans h.tape, k.output.trans h.output, Nat.le_trans h.size k.size, fun i hi hne => (k.block i (by omega)).trans (h.block i hi hne)⟩
set_option maxHeartbeats 1000000 in
theorem btake_short (g : Nat) (b : List UInt8) (p n : Nat) (w : World) (h : BRd w g b p) (hn : n ≤ 16) (hp : 8 * b.length < p + n) :
    Calls Tryz.prog 108 #[.pointer (some ⟨g, 0, none⟩), .int .i64 (n : Int)] w fun e w' => e = .returned (.tuple #[.int .i64 0, .int .i64 2]) ∧ Below w.heap.size w w' := by
  have hle := h.le
  obtain ⟨A, c, h1, h2, _⟩ := id h
  have c0 : w.cell? ⟨g, 0, none⟩ = some (.slice A b.length c) := (h1.cell 0).trans rfl
  have c1 : w.cell? ⟨g, 1, none⟩ = some (.int .i64 (p : Int)) := (h1.cell 1).trans rfl
  have i1 : IntKind.i64.wrap (8 * (b.length : Int)) = 8 * (b.length : Int) := IntWalk.i64_in _ (by omega)
  have i2 : IntKind.i64.wrap (8 * (b.length : Int) - (p : Int)) = 8 * (b.length : Int) - (p : Int) := IntWalk.i64_in _ (by omega)
  have i3 : 8 * (b.length : Int) - (p : Int) < (n : Int) := by omega
  clear h1 h h2
  go_enter Tryz.func108, Tryz.ntmps108
  go_wp2
  go_quiet (fail)
  clear i1 i2
  go_wp2
  go_ret2
  exact ⟨rfl, below_drewN (Below.refl _ _) _⟩
set_option maxHeartbeats 1000000 in
theorem bbytes_short (g : Nat) (b : List UInt8) (p n : Nat) (w : World) (h : BRd w g b p) (hn : n ≤ 100000) (hp : b.length < (p + 7) / 8 + n) :
    Calls Tryz.prog 109 #[.pointer (some ⟨g, 0, none⟩), .int .i64 (n : Int)] w fun e w' => e = .returned (.tuple #[.slice none 0 0, .int .i64 2]) ∧ Below w.heap.size w w' := by
  have hle := h.le
  obtain ⟨A, c, h1, h2, _⟩ := id h
  have c0 : w.cell? ⟨g, 0, none⟩ = some (.slice A b.length c) := (h1.cell 0).trans rfl
  have c1 : w.cell? ⟨g, 1, none⟩ = some (.int .i64 (p : Int)) := (h1.cell 1).trans rfl
  have i3 : (b.length : Int) - ((p : Int) + 7) / 8 < (n : Int) := by omega
  clear h1 h h2
  go_enter Tryz.func109, Tryz.ntmps109
  go_wp2
  all_goals
    go_ret2
    exact ⟨rfl, Below.refl _ _⟩
set_option maxHeartbeats 2000000 in
theorem bbytes_ok (g : Nat) (b : List UInt8) (p n f : Nat) (w : World) (h : BRd w g b p) (hn : n ≤ 100000) (hf : (p + 7) / 8 = f) (hp : f + n ≤ b.length) :
    Calls Tryz.prog 109 #[.pointer (some ⟨g, 0, none⟩), .int .i64 (n : Int)] w fun e w' => ∃ A c, e = .returned (.tuple #[.slice A n c, .int .i64 0]) ∧ n ≤ c ∧ RB w' w'.heap.size A ((b.drop f).take n) ∧
      (∀ ad, A = some ad → w.heap.size ≤ ad.block) ∧ BRd w' g b (8 * (f + n)) ∧ w.grownBy w' (some g) := by
  have hle := h.le
  obtain ⟨A, c, h1, h2, h3, _⟩ := id h
  have c0 : w.cell? ⟨g, 0, none⟩ = some (.slice A b.length c) := (h1.cell 0).trans rfl
  have c1 : w.cell? ⟨g, 1, none⟩ = some (.int .i64 (p : Int)) := (h1.cell 1).trans rfl
  have f1 : w.frozen? ⟨g, 1, none⟩ = false := h1.frz 1
  have hff : ((p : Int) + 7) / 8 = (f : Int) := by omega
  have hfl : (f : Int) ≤ (b.length : Int) := by omega
  have hgl := h.lt
  have hS : BRd (w.setCell ⟨g, 1, none⟩ (.int .i64 (((f : Int) + (n : Int)) * 8))) g b (8 * (f + n)) := by
    have := h.set (q := 8 * (f + n)) (by omega)
    rwa [show (((8 * (f + n) : Nat)) : Int) = ((f : Int) + (n : Int)) * 8 by omega] at this
  have HG := Lib.hid (gb_set (World.grownBy.refl w (some g)) 1 (.int .i64 (((f : Int) + (n : Int)) * 8)))
  have c2 : ((w.setCell ⟨g, 1, none⟩ (.int .i64 (((f : Int) + (n : Int)) * 8))).alloc (.cells #[] 5)).cell? ⟨g, 0, none⟩ = some (.slice A b.length c) := by
    rw [World.cell?_alloc_lt _ _ _ (by show g < _; simpa [World.setCell] using hgl)]
    exact (World.cell?_setCell_other w ⟨g, 1, none⟩ ⟨g, 0, none⟩ _ (by simp)).trans c0
  have hr2 : RB (w.setCell ⟨g, 1, none⟩ (.int .i64 (((f : Int) + (n : Int)) * 8))) g A b := h2.setCell (by exact Nat.le_refl _) _
  have hsz : (w.setCell ⟨g, 1, none⟩ (.int .i64 (((f : Int) + (n : Int)) * 8))).heap.size = w.heap.size := by simp [World.setCell]
  have hcut := (hr2.cut (k := f) (cap := c) (by omega)).take n
  have HN : Hid ((([] : List UInt8).length + ((b.drop f).take n).length) * 1 ≤ 140737488355328) := Lib.hid (by simp; omega)
  have HL : Hid (((b.drop f).take n).length = n) := Lib.hid (by simp; omega)
  have HSZ := Lib.hid hsz
  clear h1 hr2 hsz
  have HL2 : Hid (((b.drop f).take n).length = f + n - f) := Lib.hid (by simp; omega)
  have HE : Hid (f + n - f = n) := Lib.hid (by omega)
  have hdisj : (c = f ∧ RL bV (w.setCell ⟨g, 1, none⟩ (.int .i64 (((f : Int) + (n : Int)) * 8))) g A ((b.drop f).take n)) ∨ (¬ c = f ∧ RL bV (w.setCell ⟨g, 1, none⟩ (.int .i64 (((f : Int) + (n : Int)) * 8))) g (A.map (·.add f)) ((b.drop f).take n)) := by
    by_cases e : c = f
    · rw [if_pos e] at hcut; exact .inl ⟨e, hcut⟩
    · rw [if_neg e] at hcut; exact .inr ⟨e, hcut⟩
  clear hcut
  have fin : ∀ (v1 : Value) (w1 : World), OwL bV w1 w.heap.size 5 v1 ([] ++ (b.drop f).take n) → Below w.heap.size ((w.setCell ⟨g, 1, none⟩ (.int .i64 (((f : Int) + (n : Int)) * 8))).alloc (.cells #[] 5)) w1 →
      ∃ A c, v1 = .slice A n c ∧ n ≤ c ∧ RB w1 w1.heap.size A ((b.drop f).take n) ∧ (∀ ad, A = some ad → w.heap.size ≤ ad.block) ∧ BRd w1 g b (8 * (f + n)) ∧ w.grownBy w1 (some g) := by
    intro v1 w1 hown hb1
    rw [List.nil_append] at hown
    obtain ⟨A1, c1, rfl, hr1, hc1, _⟩ := OwL.rd hown
    refine ⟨A1, c1, by rw [HL.out], by rw [← HL.out]; exact hc1, hr1, fun ad had => ?_, ?_, ?_⟩
    · subst had; exact (World.ownsRow.lt hown ad.block rfl).1
    · refine BRd.below ?_ hb1 hgl
      exact hS.keep fun i hi => Below.heap_alloc _ _ i (by rw [HSZ.out]; omega)
    · exact gb_past (gb_alloc HG.out _) hb1 (Nat.le_refl _)
  rcases hdisj with ⟨hcf, hcut⟩ | ⟨hcf, hcut⟩
  · go_enter Tryz.func109, Tryz.ntmps109
    go_wp2_with (at_builtin; refine wpList_appL _ bV_one rfl (.tmp 35) (.tmp 44) rfl byteTy (by decide) w.heap.size _ [] rfl ?c0 g _ (f + n - f) _ ((b.drop f).take n) rfl HL2.out ?c1 HN.out ?c2 ?_)
    case c0 => have := OwL.lit0 (f := bV) (e := 5) (base := w.heap.size) (w.setCell ⟨g, 1, none⟩ (.int .i64 (((f : Int) + (n : Int)) * 8))) (by rw [HSZ.out]; exact Nat.le_refl _); rw [HSZ.out] at this; exact this
    case c1 => exact RL.alloc hcut (by rw [HSZ.out]; omega) _
    case c2 => exact le_alloc0 (by rw [HSZ.out]; exact Nat.le_refl _) _
    intro v1 w1 hown _ _ hb1
    obtain ⟨A1, c1, rfl, r⟩ := fin v1 w1 hown hb1
    go_wp2
    go_ret2
    exact ⟨A1, c1, rfl, r⟩
  · go_enter Tryz.func109, Tryz.ntmps109
    go_wp2_with (at_builtin; refine wpList_appL _ bV_one rfl (.tmp 35) (.tmp 44) rfl byteTy (by decide) w.heap.size _ [] rfl ?c3 g _ (f + n - f) _ ((b.drop f).take n) rfl HL2.out ?c4 HN.out ?c5 ?_)
    case c3 => have := OwL.lit0 (f := bV) (e := 5) (base := w.heap.size) (w.setCell ⟨g, 1, none⟩ (.int .i64 (((f : Int) + (n : Int)) * 8))) (by rw [HSZ.out]; exact Nat.le_refl _); rw [HSZ.out] at this; exact this
    case c4 => exact RL.alloc hcut (by rw [HSZ.out]; omega) _
    case c5 => exact le_alloc0 (by rw [HSZ.out]; exact Nat.le_refl _) _
    intro v1 w1 hown _ _ hb1
    obtain ⟨A1, c1, rfl, r⟩ := fin v1 w1 hown hb1
    go_wp2
    go_ret2
    exact ⟨A1, c1, rfl, r⟩
end Go.Proofs.YtlmcpkomjofcgaaGreatDoor
namespace Go.Proofs.YtlmcpkomjofcgaaGreatDoor
open Go.RowKit

/-- A code word: how many bits, which. -/
def wordV (x : Nat × Nat) : Value := .agg #[.int .u8 (x.1 : Int), .int .u16 (x.2 : Int)]
theorem word_inj (x y : Nat × Nat) (h : wordV x = wordV y) : x = y := by
  unfold wordV at h
  simp only [Value.agg.injEq, Array.mk.injEq, List.cons.injEq, Value.int.injEq, and_true, true_and] at h
  exact Prod.ext (by omega) (by omega)
theorem wordLaw : WideMaps.KeyLaw Tryz.prog 199 := deep_law_laid laidOut (m := 2) (by omega) (of_decide_eq_true (by kernel_rfl)) (by kernel_rfl) (by rw [Tryz.underlying199])
theorem wordK : Maps.Keyed Tryz.prog 199 := Maps.Keyed.of_law wordLaw
theorem word_key {x : Nat × Nat} (h1 : x.1 < 256) (h2 : x.2 < 65536) : ∃ kl, keyOf Tryz.prog 199 (wordV x) = some kl := by
  have hk : Tryz.prog.keyType 199 = true := by kernel_rfl
  have hc : Tryz.prog.cellsOf 199 = 2 := by kernel_rfl
  have hc1 : Tryz.prog.cellsOf 5 = 1 := by kernel_rfl
  have hc2 : Tryz.prog.cellsOf 189 = 1 := by kernel_rfl
  have hpos : 0 < Tryz.prog.types.size := of_decide_eq_true (by kernel_rfl)
  obtain ⟨m, hm⟩ : ∃ m, Tryz.prog.types.size = m + 1 := ⟨Tryz.prog.types.size - 1, by omega⟩
  have w1 : (Lit.int .u8 (x.1 : Int)).wf = true := by simp [Lit.wf, show IntKind.u8.min = 0 from rfl, show IntKind.u8.max = 255 from rfl]; omega
  have w2 : (Lit.int .u16 (x.2 : Int)).wf = true := by simp [Lit.wf, show IntKind.u16.min = 0 from rfl, show IntKind.u16.max = 65535 from rfl]; omega
  have hcl : (Value.agg #[.int .u8 (x.1 : Int), .int .u16 (x.2 : Int)]).cells.toList = [.int .u8 (x.1 : Int), .int .u16 (x.2 : Int)] := rfl
  unfold keyOf wordV
  rw [hcl, Tryz.underlying199]
  simp [hk, Value.formed, Tryz.underlying199, hc, hm, Program.keyLits, hc1, hc2, Tryz.underlying5, Tryz.underlying189, w1, w2]
/-- What the code's maps hold of the first k lengths: a word's symbol; a symbol's word. -/
def symG (l : List Nat) (k : Nat) (x : Nat × Nat) : Option Value := (symK l k x.1 x.2).map fun s => .int .i64 (s : Int)
def wordOf (l : List Nat) (s : Nat) : Option (Nat × Nat) := if l.getD s 0 = 0 then none else some (l.getD s 0, firstP l (l.getD s 0) + (symsP l s (l.getD s 0)).length)
def wrdG (l : List Nat) (k : Nat) (s : Int) : Option Value := if 0 ≤ s ∧ s < k then (wordOf l s.toNat).map wordV else none
/-- A prefix code in block g, all of it from block lo on. -/
def PCd (w : World) (lo g : Nat) (l : List Nat) : Prop :=
  ∃ ms mw n1 n2, Bk w g 196 #[.map (some ms), .map (some mw), .int .u8 (mostP l : Int)] ∧ MapT wordV w Tryz.prog 199 ms n1 (symG l l.length) ∧
    MapT iV w Tryz.prog 3 mw n2 (wrdG l l.length) ∧ (lo ≤ ms ∧ ms ≤ g) ∧ (lo ≤ mw ∧ mw ≤ g) ∧ mostP l ≤ 15 ∧ kraftTo l 15 ≤ 32768
theorem PCd.lt {w : World} {lo g : Nat} {l : List Nat} (h : PCd w lo g l) : lo ≤ g ∧ g < w.heap.size := by obtain ⟨_, _, _, _, h1, _, _, h2, _⟩ := h; exact ⟨by omega, h1.lt⟩
theorem MapT.same {κ : Type} {f : κ → Value} {w w' : World} {P : Program} {k : TypeId} {b n : Nat} {G : κ → Option Value} (h : MapT f w P k b n G) (hb : w'.heap[b]? = w.heap[b]?) : MapT f w' P k b n G := by
  obtain ⟨F, h1, h2⟩ := h
  exact ⟨F, h1.same hb, h2⟩
theorem PCd.keep {w w' : World} {lo g : Nat} {l : List Nat} (h : PCd w lo g l) (hk : ∀ i, lo ≤ i → i ≤ g → w'.heap[i]? = w.heap[i]?) : PCd w' lo g l := by
  have hl := h.lt
  obtain ⟨ms, mw, n1, n2, h1, h2, h3, h4, h5, r⟩ := h
  exact ⟨ms, mw, n1, n2, (hk g hl.1 (Nat.le_refl _)).trans h1, h2.same (hk _ h4.1 h4.2), h3.same (hk _ h5.1 h5.2), h4, h5, r⟩
theorem PCd.grown {w w' : World} {lo g : Nat} {l : List Nat} {row : Option Nat} (h : PCd w lo g l) (hb : w.grownBy w' row) (hr : ∀ k, row = some k → k < lo ∨ g < k) : PCd w' lo g l :=
  h.keep fun i h1 h2 => hb.block i (by have := h.lt; omega) (fun e => by have := hr i e.symm; omega)
theorem PCd.below {w w' : World} {lo g B : Nat} {l : List Nat} (h : PCd w lo g l) (hb : Below B w w') (hB : g < B) : PCd w' lo g l := h.keep fun i _ h2 => hb.block i (by omega)
end Go.Proofs.YtlmcpkomjofcgaaGreatDoor
namespace Go.Proofs.YtlmcpkomjofcgaaGreatDoor
open Go.RowKit

def nV (x : Nat) : Value := .int .i64 (x : Int)
def uV (x : Nat) : Value := .int .u32 (x : Int)
abbrev RN := RL nV
/-- What New answers. -/
def PNewPost (l : List Nat) (lone : Bool) (w : World) (e : Ending) (w' : World) : Prop :=
  Below w.heap.size w w' ∧ if codeB l lone = true then ∃ g, e = .returned (.tuple #[.pointer (some ⟨g, 0, none⟩), .int .i64 0]) ∧ PCd w' w.heap.size g l else e = .returned (.tuple #[.pointer none, .int .i64 5])
/-- The next word of each length, behind k symbols. -/
def nextK (l : List Nat) (k q : Nat) : Nat := if q = 0 then 0 else firstP l q + (symsP l k q).length
theorem nextK_same {l : List Nat} {k m : Nat} (hk : l[k]? = some m) (hm : m ≠ 0) : nextK l (k + 1) m = nextK l k m + 1 := by
  unfold nextK
  rw [if_neg hm, if_neg hm, symsP_len_succ hk, if_pos rfl, Nat.add_assoc]
theorem nextK_other {l : List Nat} {k m q : Nat} (hk : l[k]? = some m) (hq : q ≠ m) : nextK l (k + 1) q = nextK l k q := by
  unfold nextK
  rw [symsP_len_succ hk, if_neg hq]
theorem symG_succ {l : List Nat} {k m : Nat} (hk : l[k]? = some m) (hm : m ≠ 0) (q : Nat × Nat) : symG l (k + 1) q = if q = (m, nextK l k m) then some (.int .i64 (k : Int)) else symG l k q := by
  unfold symG nextK
  rw [if_neg hm]
  by_cases e : q = (m, firstP l m + (symsP l k m).length)
  · subst e
    rw [if_pos rfl]
    show ((symK l (k + 1) m (firstP l m + (symsP l k m).length)).map fun s => Value.int .i64 (s : Int)) = _
    rw [symK_same hk hm]; rfl
  · rw [if_neg e, symK_other hk (fun h => e (Prod.ext h.1 h.2))]
theorem wrdG_succ {l : List Nat} {k m : Nat} (hk : l[k]? = some m) (hm : m ≠ 0) (q : Int) : wrdG l (k + 1) q = if q = (k : Int) then some (wordV (m, nextK l k m)) else wrdG l k q := by
  unfold wrdG nextK
  rw [if_neg hm]
  by_cases e : q = (k : Int)
  · subst e
    rw [if_pos rfl, if_pos (by omega)]
    have hgd : l.getD k 0 = m := by rw [List.getD_eq_getElem?_getD, hk]; rfl
    show (wordOf l (k : Int).toNat).map wordV = _
    rw [Int.toNat_natCast]
    unfold wordOf
    rw [hgd, if_neg hm]; rfl
  · rw [if_neg e]
    by_cases h : 0 ≤ q ∧ q < (k : Int)
    · rw [if_pos h, if_pos (by omega)]
    · rw [if_neg h, if_neg (by omega)]
theorem wrdG_skip {l : List Nat} {k : Nat} (hk : l[k]? = some 0) (q : Int) : wrdG l (k + 1) q = wrdG l k q := by
  unfold wrdG
  by_cases e : q = (k : Int)
  · subst e
    rw [if_pos (by omega), if_neg (by omega)]
    have hgd : l.getD k 0 = 0 := by rw [List.getD_eq_getElem?_getD, hk]; rfl
    rw [Int.toNat_natCast]
    unfold wordOf
    rw [hgd, if_pos rfl]; rfl
  · by_cases h : 0 ≤ q ∧ q < (k : Int)
    · rw [if_pos h, if_pos (by omega)]
    · rw [if_neg h, if_neg (by omega)]
theorem iV_inj (x y : Int) (h : iV x = iV y) : x = y := by unfold iV at h; injection h
theorem zero_int (w : World) : (zeroValue 3).run Tryz.prog w = .ok (.int .i64 0) w := by kernel_rfl
theorem zero_word (w : World) : (zeroValue 199).run Tryz.prog w = .ok (wordV (0, 0)) w := by kernel_rfl
/-- What stands beside the two maps while both are stored into. -/
def PnI (w wr : World) (g gw ms : Nat) (C : Nat → Value) (mo m nx : Int) : Prop :=
  Rw wr (g + 1) 197 16 C ∧ Bk wr g 196 #[.map (some ms), .map (some (ms + 1)), .int .u8 mo] ∧ Bk wr gw 199 #[.int .u8 m, .int .u16 nx] ∧ Below w.heap.size w wr
theorem PnI.grown {w wr w' : World} {g gw ms : Nat} {C : Nat → Value} {mo m nx : Int} {b : Nat} (h : PnI w wr g gw ms C mo m nx) (hg : wr.grownBy w' (some b)) (hb : w.heap.size ≤ b) (hbg : b < g) (hgw : g < gw) : PnI w w' g gw ms C mo m nx := by
  obtain ⟨h1, h2, h3, h4⟩ := h
  have e : b < wr.heap.size := by have := h2.lt; omega
  exact ⟨h1.grown hg (fun e => by injection e; omega), h2.grown hg (fun e => by injection e; omega), h3.grown hg (fun e => by injection e; omega), h4.trans (gb_low hg hb e)⟩
theorem PnI.held {w wr : World} {g gw ms : Nat} {C : Nat → Value} {mo m nx : Int} (h : PnI w wr g gw ms C mo m nx) :
    wr.cell? ⟨g, 0, none⟩ = some (.map (some ms)) ∧ wr.cell? ⟨g, 1, none⟩ = some (.map (some (ms + 1))) ∧ wr.cell? ⟨gw, 0, none⟩ = some (.int .u8 m) ∧ wr.cell? ⟨gw, 1, none⟩ = some (.int .u16 nx) := by
  obtain ⟨_, h2, h3, _⟩ := h
  exact ⟨(h2.cell 0).trans rfl, (h2.cell 1).trans rfl, (h3.cell 0).trans rfl, (h3.cell 1).trans rfl⟩
theorem pnew_no {l : List Nat} {lone : Bool} {w w' : World} {e : Ending} (h : codeB l lone = false) (he : e = .returned (.tuple #[.pointer none, .int .i64 5])) (hb : Below w.heap.size w w') : PNewPost l lone w e w' := by
  refine ⟨hb, ?_⟩
  rw [if_neg (by rw [h]; simp)]
  exact he
theorem pnew_yes {l : List Nat} {lone : Bool} {w w' : World} {e : Ending} {g : Nat} (h : codeB l lone = true) (he : e = .returned (.tuple #[.pointer (some ⟨g, 0, none⟩), .int .i64 0])) (hc : PCd w' w.heap.size g l) (hb : Below w.heap.size w w') : PNewPost l lone w e w' := by
  refine ⟨hb, ?_⟩
  rw [if_pos h]
  exact ⟨g, he, hc⟩
theorem shl_small {c i : Nat} (hc : c ≤ 288) (hi : i < 15) : (c : Int) * 2 ^ (14 - i) % 4294967296 = ((c * 2 ^ (14 - i) : Nat) : Int) ∧ 2 ^ (15 - (i + 1)) = 2 ^ (14 - i) ∧ c * 2 ^ (14 - i) < 4294967296 := by
  have h1 : 2 ^ (14 - i) ≤ 2 ^ 14 := Nat.pow_le_pow_right (by decide) (by omega)
  have h2 : c * 2 ^ (14 - i) ≤ 288 * 2 ^ 14 := Nat.mul_le_mul hc h1
  have e : (c : Int) * 2 ^ (14 - i) = ((c * 2 ^ (14 - i) : Nat) : Int) := by simp
  refine ⟨?_, by rw [show 15 - (i + 1) = 14 - i by omega], by omega⟩
  rw [e]; omega
set_option maxRecDepth 100000 in
set_option maxHeartbeats 1000000 in
theorem pnew_any (A : Option Addr) (n c : Nat) (l : List Nat) (lone : Bool) (w : World) (hn : l.length = n) (hz : n ≤ 288) (h15 : ∀ x ∈ l, x ≤ 15) (hr : RN w w.heap.size A l) :
    Calls Tryz.prog 93 #[.slice A n c, .bool lone] w (PNewPost l lone w) := by
  have HL := Lib.hid hn
  have H15 := Lib.hid h15
  have hmm := @run_makeMap Tryz.prog
  obtain ⟨gc, hgc⟩ : ∃ gc, w.heap.size = gc := ⟨_, rfl⟩
  clear hn h15
  go_enter Tryz.func93, Tryz.ntmps93
  go_wp2_with fail
  have hgc' : gc = w.heap.size := hgc.symm
  have hgle : w.heap.size ≤ gc := by omega
  have HGC := Lib.hid hgc'
  have hR0 : Rw (w.alloc (.cells #[.int .u32 0, .int .u32 0, .int .u32 0, .int .u32 0, .int .u32 0, .int .u32 0, .int .u32 0, .int .u32 0, .int .u32 0, .int .u32 0, .int .u32 0, .int .u32 0, .int .u32 0, .int .u32 0, .int .u32 0, .int .u32 0, .int .u32 0] 192)) gc 192 17 (fun i => uV (cntP (l.take 0) i)) :=
    Rw.of (Bk.newAt _ _ _ hgc) rfl (fun i hi => by
      rw [List.take_zero, show cntP [] i = 0 by unfold cntP; split <;> simp]
      match i, hi with
      | 0, _ => rfl
      | 1, _ => rfl
      | 2, _ => rfl
      | 3, _ => rfl
      | 4, _ => rfl
      | 5, _ => rfl
      | 6, _ => rfl
      | 7, _ => rfl
      | 8, _ => rfl
      | 9, _ => rfl
      | 10, _ => rfl
      | 11, _ => rfl
      | 12, _ => rfl
      | 13, _ => rfl
      | 14, _ => rfl
      | 15, _ => rfl
      | 16, _ => rfl
      | i + 17, h => omega)
  have hB0 := bl_alloc (Below.refl w.heap.size w) (Nat.le_refl _) (.cells #[.int .u32 0, .int .u32 0, .int .u32 0, .int .u32 0, .int .u32 0, .int .u32 0, .int .u32 0, .int .u32 0, .int .u32 0, .int .u32 0, .int .u32 0, .int .u32 0, .int .u32 0, .int .u32 0, .int .u32 0, .int .u32 0, .int .u32 0] 192)
  clear hgc hgc'
  generalize w.alloc (.cells #[.int .u32 0, .int .u32 0, .int .u32 0, .int .u32 0, .int .u32 0, .int .u32 0, .int .u32 0, .int .u32 0, .int .u32 0, .int .u32 0, .int .u32 0, .int .u32 0, .int .u32 0, .int .u32 0, .int .u32 0, .int .u32 0, .int .u32 0] 192) = w0 at hR0 hB0 ⊢
  go_loopg [7, 24] n (fun κ used k wr => ∃ j : Nat, κ = n - j ∧ j ≤ n ∧ k = .int .i64 (j : Int) ∧ used = .int .i64 (usedP (l.take j) : Int) ∧ Rw wr gc 192 17 (fun i => uV (cntP (l.take j) i)) ∧ Below w.heap.size w wr)
  case atStart => exact ⟨0, by omega, by omega, rfl, rfl, hR0, hB0⟩
  case round =>
    clear hR0 hB0
    obtain ⟨j, hgk, hj, rfl, rfl, hR, hB⟩ := hrel
    by_cases hjn : j < n
    · obtain ⟨ad, m, rfl, hadb, hm, hc⟩ := RL.atl hr (k := j) (by rw [HL.out]; exact hjn)
      have hc' : wr.cell? (ad.add j) = some (.int .i64 (m : Int)) := by
        rw [hB.cell (by rw [blk_add]; exact hadb)]; exact hc
      have hm15 : m ≤ 15 := H15.out m (List.mem_of_getElem? hm.out)
      have hul := usedP_le (l.take j)
      have hcl := cntP_le (l.take j) m
      have hln : (l.take j).length ≤ j := List.length_take_le _ _
      have hcc : wr.cell? ⟨gc, m, none⟩ = some (.int .u32 (cntP (l.take j) m : Int)) := hR.cell (by omega)
      have hfz := hR.frz m
      have HU := Lib.hid (usedP_take hm.out)
      have HC := Lib.hid (cntP_take hm.out)
      clear hc
      rcases Nat.eq_zero_or_pos m with rfl | hm0
      · go_wp2
        go_roundg (n - (j + 1))
        case rel => exact ⟨j + 1, rfl, by omega, by go_num, by rw [HU.out]; rfl, hR.ext fun i _ => by rw [HC.out]; simp, hB⟩
        case measure => omega
      · have hR2 := hR.set m (.int .u32 ((cntP (l.take j) m : Int) + 1))
        have hB2 := hB.setCell (p := ⟨gc, m, none⟩) (by exact hgle) (.int .u32 ((cntP (l.take j) m : Int) + 1))
        have HR2 := Lib.hid hR2
        have HB2 := Lib.hid hB2
        clear hR2 hB2
        go_wp2
        go_roundg (n - (j + 1))
        case rel =>
          refine ⟨j + 1, rfl, by omega, by go_num, by rw [HU.out, if_pos (by omega)]; go_num, HR2.out.ext fun i _ => ?_, HB2.out⟩
          rw [HC.out]
          by_cases e : i = m
          · subst e; rw [if_pos ⟨rfl, by omega⟩, if_pos rfl]; unfold uV; go_num
          · rw [if_neg (fun x => e x.1), if_neg e]
        case measure => omega
    · obtain rfl : j = n := by omega
      have HJ : Hid (l.take j = l) := Lib.hid (List.take_of_length_le (by rw [HL.out]; exact Nat.le_refl _))
      have hR1 : Rw wr gc 192 17 (fun i => uV (cntP l i)) := hR.ext fun i _ => by rw [HJ.out]
      rw [HJ.out]
      go_wp2_with fail
      clear hR
      obtain ⟨wo, rfl⟩ : ∃ wo : World, wo = wr := ⟨_, rfl⟩
      have hK0 : kraftTo l 0 * 2 ^ (15 - 0) ≤ 32768 := by simp [kraftTo]
      have hL0 : leftP l 0 = 32768 := by simp [leftP, kraftTo]
      have HL0 := bx hL0
      have HK0 := bx hK0
      clear hL0 hK0
      go_loopg [10, 11] 15 (fun κ left nn wr => ∃ i : Nat, κ = 15 - i ∧ i ≤ 15 ∧ nn = .int .i64 ((i : Int) + 1) ∧ left = .int .u32 (leftP l i : Int) ∧ Bx (kraftTo l i * 2 ^ (15 - i) ≤ 32768) ∧ wr = wo)
      case atStart => exact ⟨0, by omega, by omega, rfl, by rw [HL0.out]; rfl, HK0, rfl⟩
      case round =>
        obtain ⟨i, hgk, hi, rfl, rfl, hK, rfl⟩ := hrel
        by_cases hi15 : i < 15
        · obtain ⟨hl1, hl2⟩ := left_succ hi15 hK.out
          have hcl := cntP_le l (i + 1)
          rw [HL.out] at hcl
          have hcc : wr.cell? ⟨gc, i + 1, none⟩ = some (.int .u32 (cntP l (i + 1) : Int)) := hR1.cell (by omega)
          obtain ⟨kk, hkk⟩ : ∃ kk, kraftTo l i * 2 ^ (15 - i) = kk := ⟨_, rfl⟩
          have hKK := hK.out
          rw [hkk] at hl1 hl2 hKK
          have HL1 := bx hl1
          have HL2 := bx hl2
          have HKK := bx hkk
          clear hl1 hl2 hkk
          have HP := bx (shl_small (c := cntP l (i + 1)) (i := i) (by omega) hi15)
          go_wp2_with fail
          · have hgt : (leftP l i : Int) < ((cntP l (i + 1) : Nat) : Int) * 2 ^ (14 - i) % 4294967296 := by assumption
            have HF : Bx (codeB l lone = false) := bx (by
              have h1 := HL1.out
              have h2 := HL2.out
              have h3 := HP.out
              rw [h3.1] at hgt
              refine code_over (kraft_le_over (n := i + 1) (by omega) ?_)
              rw [h2, h3.2.1]; omega)
            go_ret2
            exact pnew_no HF.out rfl hB
          · go_roundg (15 - (i + 1))
            case rel =>
              have hle : ((cntP l (i + 1) : Nat) : Int) * 2 ^ (14 - i) % 4294967296 ≤ (leftP l i : Int) := by assumption
              have h1 := HL1.out
              have h2 := HL2.out
              have h3 := HP.out
              rw [h3.1] at hle
              have hk2 : kraftTo l (i + 1) * 2 ^ (15 - (i + 1)) ≤ 32768 := by rw [h2, h3.2.1]; omega
              refine ⟨i + 1, rfl, by omega, by go_num, ?_, bx hk2, rfl⟩
              have h5 : leftP l (i + 1) = leftP l i - cntP l (i + 1) * 2 ^ (14 - i) := by
                have : leftP l (i + 1) = 32768 - kraftTo l (i + 1) * 2 ^ (15 - (i + 1)) := rfl
                rw [this, h2, h3.2.1]; omega
              rw [h3.1, h5]
              congr 1
              omega
            case measure => omega
        · obtain rfl : i = 15 := by omega
          have HK15 : Bx (kraftTo l 15 ≤ 32768) := bx (by have := hK.out; simpa using this)
          have HL15 : Bx (leftP l 15 = 32768 - kraftTo l 15) := bx (by unfold leftP; simp)
          have hc1 : wr.cell? ⟨gc, 1, none⟩ = some (.int .u32 (cntP l 1 : Int)) := hR1.cell (by omega)
          go_upto_region 22 with (fail)
          go_cut [1, 7, 11, 79] (fun _ _ _ v wx => v = .bool (!codeB l lone) ∧ wx = wr)
          case first =>
            have hul := usedP_le l
            have hcl1 := cntP_le l 1
            rw [HL.out] at hul hcl1
            have hcnt : Bx (cntP l 1 = l.count 1) := bx rfl
            by_cases hk : kraftTo l 15 = 32768
            · have ht : ¬ 0 < leftP l 15 := by rw [HL15.out, hk]; omega
              have HC : Bx (codeB l lone = true) := bx (by unfold codeB; rw [decide_eq_true hk]; rfl)
              have HK := bx hk
              clear hk
              go_wp2
              go_meet
              case rel => exact ⟨by rw [HC.out]; rfl, rfl⟩
            · have ht : 0 < leftP l 15 := by rw [HL15.out]; have := HK15.out; omega
              have HK := bx hk
              clear hk
              cases lone with
              | false =>
                have HC : Bx (codeB l false = false) := bx (by unfold codeB; rw [decide_eq_false HK.out]; rfl)
                go_wp2
                go_meet
                case rel => exact ⟨by rw [HC.out]; rfl, rfl⟩
              | true =>
                by_cases hu0 : usedP l = 0
                · have ht2 : ((usedP l : Int) == 0) = true := by rw [hu0]; rfl
                  have HC : Bx (codeB l true = true) := bx (by unfold codeB; rw [decide_eq_true hu0]; simp)
                  clear hu0
                  go_wp2
                  go_meet
                  case rel => exact ⟨by rw [HC.out]; rfl, rfl⟩
                · have ht2 : ((usedP l : Int) == 0) = false := by rw [beq_eq_false_iff_ne]; omega
                  have HU0 := bx hu0
                  clear hu0
                  by_cases hu1 : usedP l = 1
                  · have ht3 : ((usedP l : Int) == 1) = true := by rw [hu1]; rfl
                    have HU1 := bx hu1
                    clear hu1
                    by_cases hc1 : cntP l 1 = 1
                    · have ht4 : ((cntP l 1 : Int) == 1) = true := by rw [hc1]; rfl
                      have HC : Bx (codeB l true = true) := bx (by unfold codeB; rw [decide_eq_false HK.out, decide_eq_true HU1.out, decide_eq_true (hcnt.out.symm.trans hc1)]; simp)
                      clear hc1
                      go_wp2
                      go_meet
                      case rel => exact ⟨by rw [HC.out]; rfl, rfl⟩
                    · have ht4 : ((cntP l 1 : Int) == 1) = false := by rw [beq_eq_false_iff_ne]; omega
                      have HC : Bx (codeB l true = false) := bx (by unfold codeB; rw [decide_eq_false HK.out, decide_eq_false HU0.out, decide_eq_false (fun e => hc1 (hcnt.out.trans e))]; simp)
                      clear hc1
                      go_wp2
                      go_meet
                      case rel => exact ⟨by rw [HC.out]; rfl, rfl⟩
                  · have ht3 : ((usedP l : Int) == 1) = false := by rw [beq_eq_false_iff_ne]; omega
                    have HC : Bx (codeB l true = false) := bx (by unfold codeB; rw [decide_eq_false HK.out, decide_eq_false HU0.out, decide_eq_false hu1]; simp)
                    clear hu1
                    go_wp2
                    go_meet
                    case rel => exact ⟨by rw [HC.out]; rfl, rfl⟩
          case rest =>
            obtain ⟨rfl, rfl⟩ := hcut
            cases hcb : codeB l lone with
            | false =>
              have HC := bx hcb
              clear hcb
              go_wp2
              go_ret2
              exact pnew_no HC.out rfl hB
            | true =>
              have HC := bx hcb
              clear hcb
              obtain ⟨ms, hms⟩ : ∃ ms, wc.heap.size = ms := ⟨_, rfl⟩
              have hgcms : gc < ms := by have := hR1.lt; omega
              have hlo : w.heap.size ≤ ms := by have := hB.size; omega
              obtain ⟨g, hg⟩ : ∃ g, ms + 1 + 1 = g := ⟨_, rfl⟩
              have hsz1 : (wc.alloc (.map #[] 0)).heap.size = ms + 1 := by simp [hms]
              have hsz2 : ((wc.alloc (.map #[] 0)).alloc (.map #[] 0)).heap.size = g := by simp [hms, hg]
              have hsz3 : (((wc.alloc (.map #[] 0)).alloc (.map #[] 0)).alloc (.cells #[.map (some ms), .map (some (ms + 1)), .int .u8 0] 196)).heap.size = g + 1 := by simp [hms, hg]
              have hMs : MapT wordV ((((wc.alloc (.map #[] 0)).alloc (.map #[] 0)).alloc (.cells #[.map (some ms), .map (some (ms + 1)), .int .u8 0] 196)).alloc (.cells #[.int .u32 0, .int .u32 0, .int .u32 0, .int .u32 0, .int .u32 0, .int .u32 0, .int .u32 0, .int .u32 0, .int .u32 0, .int .u32 0, .int .u32 0, .int .u32 0, .int .u32 0, .int .u32 0, .int .u32 0, .int .u32 0] 197)) Tryz.prog 199 ms 0 (fun _ => none) := (((MapT.madeAt wc _ _ hms).alloc _).alloc _).alloc _
              have hMw : MapT iV ((((wc.alloc (.map #[] 0)).alloc (.map #[] 0)).alloc (.cells #[.map (some ms), .map (some (ms + 1)), .int .u8 0] 196)).alloc (.cells #[.int .u32 0, .int .u32 0, .int .u32 0, .int .u32 0, .int .u32 0, .int .u32 0, .int .u32 0, .int .u32 0, .int .u32 0, .int .u32 0, .int .u32 0, .int .u32 0, .int .u32 0, .int .u32 0, .int .u32 0, .int .u32 0] 197)) Tryz.prog 3 (ms + 1) 0 (fun _ => none) := ((MapT.madeAt _ _ _ hsz1).alloc _).alloc _
              have hCd : Bk ((((wc.alloc (.map #[] 0)).alloc (.map #[] 0)).alloc (.cells #[.map (some ms), .map (some (ms + 1)), .int .u8 0] 196)).alloc (.cells #[.int .u32 0, .int .u32 0, .int .u32 0, .int .u32 0, .int .u32 0, .int .u32 0, .int .u32 0, .int .u32 0, .int .u32 0, .int .u32 0, .int .u32 0, .int .u32 0, .int .u32 0, .int .u32 0, .int .u32 0, .int .u32 0] 197)) g 196 #[.map (some ms), .map (some (ms + 1)), .int .u8 ((0 : Nat) : Int)] := (Bk.newAt _ _ _ hsz2).alloc _
              have hNx : Rw ((((wc.alloc (.map #[] 0)).alloc (.map #[] 0)).alloc (.cells #[.map (some ms), .map (some (ms + 1)), .int .u8 0] 196)).alloc (.cells #[.int .u32 0, .int .u32 0, .int .u32 0, .int .u32 0, .int .u32 0, .int .u32 0, .int .u32 0, .int .u32 0, .int .u32 0, .int .u32 0, .int .u32 0, .int .u32 0, .int .u32 0, .int .u32 0, .int .u32 0, .int .u32 0] 197)) (g + 1) 197 16 (fun q => uV (if q ≤ 0 then firstP l q else 0)) :=
                Rw.of (Bk.newAt _ _ _ hsz3) rfl (fun q hq => by
                  have e : (if q ≤ 0 then firstP l q else 0) = 0 := by
                    split
                    · rename_i h; rw [Nat.le_zero.1 h]; rfl
                    · rfl
                  rw [e]
                  match q, hq with
                  | 0, _ => rfl
                  | 1, _ => rfl
                  | 2, _ => rfl
                  | 3, _ => rfl
                  | 4, _ => rfl
                  | 5, _ => rfl
                  | 6, _ => rfl
                  | 7, _ => rfl
                  | 8, _ => rfl
                  | 9, _ => rfl
                  | 10, _ => rfl
                  | 11, _ => rfl
                  | 12, _ => rfl
                  | 13, _ => rfl
                  | 14, _ => rfl
                  | 15, _ => rfl
                  | q + 16, h => omega)
              have hCt : Rw ((((wc.alloc (.map #[] 0)).alloc (.map #[] 0)).alloc (.cells #[.map (some ms), .map (some (ms + 1)), .int .u8 0] 196)).alloc (.cells #[.int .u32 0, .int .u32 0, .int .u32 0, .int .u32 0, .int .u32 0, .int .u32 0, .int .u32 0, .int .u32 0, .int .u32 0, .int .u32 0, .int .u32 0, .int .u32 0, .int .u32 0, .int .u32 0, .int .u32 0, .int .u32 0] 197)) gc 192 17 (fun i => uV (cntP l i)) := (((hR1.alloc _).alloc _).alloc _).alloc _
              have hB4 : Below w.heap.size w ((((wc.alloc (.map #[] 0)).alloc (.map #[] 0)).alloc (.cells #[.map (some ms), .map (some (ms + 1)), .int .u8 0] 196)).alloc (.cells #[.int .u32 0, .int .u32 0, .int .u32 0, .int .u32 0, .int .u32 0, .int .u32 0, .int .u32 0, .int .u32 0, .int .u32 0, .int .u32 0, .int .u32 0, .int .u32 0, .int .u32 0, .int .u32 0, .int .u32 0, .int .u32 0] 197)) :=
                bl_alloc (bl_alloc (bl_alloc (bl_alloc hB (Nat.le_refl _) _) (Nat.le_refl _) _) (Nat.le_refl _) _) (Nat.le_refl _) _
              have HG := bx hg
              have HMS := bx hms
              have P1 := bx hMs
              have P2 := bx hMw
              have P3 := bx hCd
              have P4 := bx hNx
              have P5 := bx hCt
              have P6 := bx hB4
              clear hsz1 hsz2 hsz3 hMs hMw hCd hNx hCt hB4 hc1 hR1 hB hg
              go_wp2_with fail
              have hg := HG.out
              have hMs := P1.out
              have hMw := P2.out
              have hCd := P3.out
              have hNx := P4.out
              have hCt := P5.out
              have hB4 := P6.out
              rw [hg]
              clear P1 P2 P3 P4 P5 P6 hms
              generalize ((((wc.alloc (.map #[] 0)).alloc (.map #[] 0)).alloc (.cells #[.map (some ms), .map (some (ms + 1)), .int .u8 0] 196)).alloc (.cells #[.int .u32 0, .int .u32 0, .int .u32 0, .int .u32 0, .int .u32 0, .int .u32 0, .int .u32 0, .int .u32 0, .int .u32 0, .int .u32 0, .int .u32 0, .int .u32 0, .int .u32 0, .int .u32 0, .int .u32 0, .int .u32 0] 197)) = w4 at hMs hMw hCd hNx hCt hB4 ⊢
              have hgms : ms + 1 < g := by omega
              have hgwl := hNx.lt
              clear hg
              go_loopg [15] 15 (fun κ nn wr => ∃ i : Nat, κ = 15 - i ∧ i ≤ 15 ∧ nn = .int .i64 ((i : Int) + 1) ∧ Rw wr (g + 1) 197 16 (fun q => uV (if q ≤ i then firstP l q else 0)) ∧ w4.grownBy wr (some (g + 1)))
              case atStart => exact ⟨0, by omega, by omega, rfl, hNx, World.grownBy.refl w4 _⟩
              case round =>
                clear hNx
                obtain ⟨i, hgk, hi, rfl, hNx, hgr⟩ := hrel
                by_cases hi15 : i < 15
                · rcases Nat.eq_zero_or_pos i with rfl | hi0
                  · go_wp2
                    go_roundg 14
                    case rel =>
                      refine ⟨1, rfl, by omega, rfl, hNx.ext fun q _ => ?_, hgr⟩
                      congr 1
                      match q with
                      | 0 => rfl
                      | 1 => rfl
                      | q + 2 => rfl
                    case measure => omega
                  · have ht1 : (1 : Int) < (i : Int) + 1 := by omega
                    have hc1 : wr.cell? ⟨g + 1, i, none⟩ = some (.int .u32 (firstP l i : Int)) := by
                      rw [hNx.cell (i := i) (by omega), if_pos (Nat.le_refl _)]; rfl
                    have hc2 : wr.cell? ⟨gc, i, none⟩ = some (.int .u32 (cntP l i : Int)) := (hCt.grown hgr (fun e => by injection e; omega)).cell (by omega)
                    have hc3 : wr.cell? ⟨g + 1, i + 1, none⟩ = some (.int .u32 0) := by
                      rw [hNx.cell (i := i + 1) (by omega), if_neg (by omega)]; rfl
                    have hf1 := hNx.frz (i + 1)
                    have hb := first_bound (code_kraft HC.out) hi
                    have hb2 : 2 ^ i ≤ 2 ^ 14 := Nat.pow_le_pow_right (by decide) (by omega)
                    have hb3 : firstP l i + cntP l i ≤ 16384 := Nat.le_trans hb hb2
                    have HS := bx (hNx.set (i + 1) (.int .u32 (((firstP l i : Int) + (cntP l i : Int)) * 2)))
                    have HGR := bx (gb_set hgr (i + 1) (.int .u32 (((firstP l i : Int) + (cntP l i : Int)) * 2)))
                    clear hb hb2 hNx hgr
                    go_wp2
                    go_region
                    go_wp2
                    go_roundg (15 - (i + 1))
                    case rel =>
                      refine ⟨i + 1, rfl, by omega, by go_num, ?_, gb_drewN HGR.out 1⟩
                      refine Rw.ext (C := _) HS.out fun q _ => ?_
                      by_cases e : q = i + 1
                      · subst e
                        rw [if_pos (Nat.le_refl _), if_pos rfl]
                        unfold uV
                        rw [firstP]
                        go_num
                      · rw [if_neg e]
                        by_cases e2 : q ≤ i
                        · rw [if_pos e2, if_pos (by omega)]
                        · rw [if_neg e2, if_neg (by omega)]
                    case measure => omega
                · obtain rfl : i = 15 := by omega
                  go_wp2_with fail
                  have hNx2 : Rw wr (g + 1) 197 16 (fun q => uV (nextK l 0 q)) := hNx.ext fun q hq => by
                    rw [if_pos (by omega)]
                    congr 1
                    unfold nextK
                    split
                    · rename_i e; subst e; rfl
                    · simp [symsP]
                  have hMs2 := hMs.grown hgr (fun e => by injection e; omega)
                  have hMw2 := hMw.grown hgr (fun e => by injection e; omega)
                  have hCd2 := hCd.grown hgr (fun e => by injection e; omega)
                  have hB2 := gb_low (B := w.heap.size) hgr (by omega) (by omega)
                  have hMs3 := hMs2.ext (G' := symG l 0) (fun x => by unfold symG; rw [symK_zero]; rfl)
                  have hMw3 := hMw2.ext (G' := wrdG l 0) (fun x => by unfold wrdG; rw [if_neg (by omega)])
                  have hB3 := hB4.trans hB2
                  have hMost : Bx (mostP (l.take 0) = 0) := bx rfl
                  clear hMs hMw hCd hCt hB4 hNx hgr hMs2 hMw2 hB2
                  obtain ⟨w5, rfl⟩ : ∃ w5 : World, w5 = wr := ⟨_, rfl⟩
                  go_loopg [104] j (fun κ kk wr => ∃ k : Nat, κ = j - k ∧ k ≤ j ∧ kk = .int .i64 (k : Int) ∧ Rw wr (g + 1) 197 16 (fun q => uV (nextK l k q)) ∧ MapT wordV wr Tryz.prog 199 ms k (symG l k) ∧
                    MapT iV wr Tryz.prog 3 (ms + 1) k (wrdG l k) ∧ Bk wr g 196 #[.map (some ms), .map (some (ms + 1)), .int .u8 (mostP (l.take k) : Int)] ∧ Below w.heap.size w wr)
                  case atStart => exact ⟨0, by omega, by omega, rfl, hNx2, hMs3, hMw3, hCd2, hB3⟩
                  case round =>
                    clear hNx2 hMs3 hMw3 hCd2 hB3
                    obtain ⟨k, hgk, hk, rfl, hNx, hMs, hMw, hCd, hB⟩ := hrel
                    by_cases hkj : k < j
                    · obtain ⟨ad, m, rfl, hadb, hm, hc⟩ := RL.atl hr (k := k) (by rw [HL.out]; exact hkj)
                      have hc' : wr.cell? (ad.add k) = some (.int .i64 (m : Int)) := by
                        rw [hB.cell (by rw [blk_add]; exact hadb)]; exact hc
                      have hm15 : m ≤ 15 := H15.out m (List.mem_of_getElem? hm.out)
                      clear hc
                      rcases Nat.eq_zero_or_pos m with rfl | hm0
                      · go_wp2
                        go_roundg (j - (k + 1))
                        case rel =>
                          refine ⟨k + 1, rfl, by omega, by go_num, hNx.ext fun q _ => ?_, (hMs.mono (Nat.le_succ _)).ext fun q => ?_, (hMw.mono (Nat.le_succ _)).ext fun q => wrdG_skip hm.out q, ?_, hB⟩
                          · congr 1
                            by_cases e : q = 0
                            · subst e; rfl
                            · exact nextK_other hm.out e
                          · unfold symG; rw [symK_skip hm.out]
                          · have := mostP_take hm.out
                            rw [this, Nat.max_zero]; exact hCd
                        case measure => omega
                      · have hnc : wr.cell? ⟨g + 1, m, none⟩ = some (.int .u32 (nextK l k m : Int)) := hNx.cell (by omega)
                        have hnf := hNx.frz m
                        have hnx : nextK l k m < 32768 := by
                          have h1 := word_fits (code_kraft HC.out) hm.out (by omega) hm15
                          have h2 : 2 ^ m ≤ 2 ^ 15 := Nat.pow_le_pow_right (by decide) hm15
                          unfold nextK
                          rw [if_neg (by omega)]
                          omega
                        obtain ⟨nx, hnxe⟩ : ∃ nx, nextK l k m = nx := ⟨_, rfl⟩
                        rw [hnxe] at hnc hnx
                        have HNX := bx hnxe
                        clear hnxe
                        obtain ⟨gw, hgw⟩ : ∃ gw, wr.heap.size = gw := ⟨_, rfl⟩
                        have hgwlt : g + 1 < gw := by have := hNx.lt; omega
                        obtain ⟨wA, hwA⟩ : ∃ wA, wr.alloc (.cells #[.int .u8 (m : Int), .int .u16 (nx : Int)] 199) = wA := ⟨_, rfl⟩
                        have hNxA : Rw wA (g + 1) 197 16 (fun q => uV (nextK l k q)) := by rw [← hwA]; exact hNx.alloc _
                        have hMsA : MapT wordV wA Tryz.prog 199 ms k (symG l k) := by rw [← hwA]; exact hMs.alloc _
                        have hMwA : MapT iV wA Tryz.prog 3 (ms + 1) k (wrdG l k) := by rw [← hwA]; exact hMw.alloc _
                        have hCdA : Bk wA g 196 #[.map (some ms), .map (some (ms + 1)), .int .u8 (mostP (l.take k) : Int)] := by rw [← hwA]; exact hCd.alloc _
                        have hBA : Below w.heap.size w wA := by rw [← hwA]; exact bl_alloc hB (Nat.le_refl _) _
                        have hWA : Bk wA gw 199 #[.int .u8 (m : Int), .int .u16 (nx : Int)] := by rw [← hwA]; exact Bk.newAt _ _ _ hgw
                        have hncA : wA.cell? ⟨g + 1, m, none⟩ = some (.int .u32 (nx : Int)) := by rw [hNxA.cell (by omega), HNX.out]; rfl
                        have hnfA := hNxA.frz m
                        have hw1A : wA.cell? ⟨gw, 0, none⟩ = some (.int .u8 (m : Int)) := (hWA.cell 0).trans rfl
                        have hw2A : wA.cell? ⟨gw, 1, none⟩ = some (.int .u16 (nx : Int)) := (hWA.cell 1).trans rfl
                        clear hNx hMs hMw hCd hB
                        have PI : PnI w ((wA.setCell ⟨g + 1, m, none⟩ (.int .u32 ((nx : Int) + 1))).drew) g gw ms (fun q => if q = m then .int .u32 ((nx : Int) + 1) else uV (nextK l k q)) (mostP (l.take k)) m nx :=
                          ⟨hNxA.set m _, hCdA.far (by show g ≠ g + 1; omega) _, hWA.far (by show gw ≠ g + 1; omega) _, below_drewN (hBA.setCell (p := ⟨g + 1, m, none⟩) (by show w.heap.size ≤ g + 1; omega) _) 1⟩
                        have P1 : MapT wordV ((wA.setCell ⟨g + 1, m, none⟩ (.int .u32 ((nx : Int) + 1))).drew) Tryz.prog 199 ms k (symG l k) := MapT.drew (hMsA.setCell (a := ⟨g + 1, m, none⟩) (by show ms ≠ g + 1; omega) _)
                        have P2 : MapT iV ((wA.setCell ⟨g + 1, m, none⟩ (.int .u32 ((nx : Int) + 1))).drew) Tryz.prog 3 (ms + 1) k (wrdG l k) := MapT.drew (hMwA.setCell (a := ⟨g + 1, m, none⟩) (by show ms + 1 ≠ g + 1; omega) _)
                        obtain ⟨kl, hkl⟩ := word_key (x := (m, nx)) (by show m < 256; omega) (by show nx < 65536; omega)
                        have hki : keyOf Tryz.prog 3 (iV (k : Int)) = some (.int .i64 (k : Int)) := Maps.keyOf_int_mk Tryz.underlying3 (Go.WalkArith.wf_i64 (by omega))
                        have hkm : k < maxLen := by unfold maxLen; omega
                        have hlo1 : w.heap.size ≤ ms + 1 := by omega
                        have hmsg : ms < g := by omega
                        have hggw : g < gw := by omega
                        have hne1 : some (ms + 1) ≠ some ms := fun e => by injection e; omega
                        have hne2 : some ms ≠ some (ms + 1) := fun e => by injection e; omega
                        have KL := bx hkl
                        have KI := bx hki
                        have PIx := bx PI
                        have P1x := bx P1
                        have P2x := bx P2
                        clear hNxA hMsA hMwA hCdA hBA hWA hkl hki PI P1 P2
                        go_upto_region 37 with (fail)
                        have PI := PIx.out
                        have P1 := P1x.out
                        have P2 := P2x.out
                        clear PIx P1x P2x hwA hgw hnc hncA hnfA hw1A hw2A hnf
                        generalize (wA.setCell ⟨g + 1, m, none⟩ (.int .u32 ((nx : Int) + 1))) = w6 at PI P1 P2 ⊢
                        obtain ⟨v1, s1, wa, r1, g1, O1⟩ := P1.entry wordK Tryz.underlying193 (zero_int _) hkm KL.out
                        obtain ⟨wb, r2, g2, M1⟩ := O1.store (t := 193) wordK word_inj (.int .i64 (k : Int))
                        have Pa := PI.grown g1 hlo hmsg hggw
                        have Pb := Pa.grown g2 hlo hmsg hggw
                        have P2b := (P2.grown g1 hne1).grown g2 hne1
                        obtain ⟨v2, s2, wc2, r3, g3, O2⟩ := P2b.entry (Maps.int_keyed Tryz.underlying3) Tryz.underlying194 (zero_word _) hkm KI.out
                        obtain ⟨wd, r4, g4, M2⟩ := O2.store (t := 194) (Maps.int_keyed Tryz.underlying3) iV_inj (wordV (m, nx))
                        have Pc := Pb.grown g3 hlo1 hgms hggw
                        have Pd := Pc.grown g4 hlo1 hgms hggw
                        have M1d := (M1.grown g3 hne2).grown g4 hne2
                        have hwv : wordV (m, nx) = .agg #[.int .u8 (m : Int), .int .u16 (nx : Int)] := rfl
                        have hiv : iV (k : Int) = .int .i64 (k : Int) := rfl
                        rw [hwv] at r1 r4
                        rw [hiv] at r3
                        have PDx := bx Pd
                        have M1x := bx M1d
                        have M2x := bx M2
                        have PIx := bx PI
                        have Pax := bx Pa
                        have Pbx := bx Pb
                        have Pcx := bx Pc
                        clear hwv hiv g1 g2 g3 g4 O1 O2 M1 M2 M1d P2b P1 P2 PI Pa Pb Pc Pd
                        go_region_held3 (fun w' => w'.cell? ⟨g, 0, none⟩ = some (.map (some ms)) ∧ w'.cell? ⟨g, 1, none⟩ = some (.map (some (ms + 1))) ∧ w'.cell? ⟨gw, 0, none⟩ = some (.int .u8 (m : Int)) ∧ w'.cell? ⟨gw, 1, none⟩ = some (.int .u16 (nx : Int)))
                          (first | exact PnI.held PIx.out | exact PnI.held Pax.out | exact PnI.held Pbx.out | exact PnI.held Pcx.out | exact PnI.held PDx.out) (fail)
                        have Pd := PDx.out
                        obtain ⟨hNxd, hCdd, hWd, hBd⟩ := Pd
                        have c0 : wd.cell? ⟨g, 2, none⟩ = some (.int .u8 (mostP (l.take k) : Int)) := (hCdd.cell 2).trans rfl
                        have f0 := hCdd.frz 2
                        have c1 : wd.cell? ⟨gw, 0, none⟩ = some (.int .u8 (m : Int)) := (hWd.cell 0).trans rfl
                        have HMO := bx (mostP_take hm.out)
                        have HXX := fun mo : Nat => bx (And.intro (hNxd.far (p := ⟨g, 2, none⟩) (by show g + 1 ≠ g; omega) (.int .u8 (mo : Int))) (And.intro (hCdd.set 2 (.int .u8 (mo : Int)))
                          (And.intro (hBd.setCell (p := ⟨g, 2, none⟩) (by show w.heap.size ≤ g; omega) (.int .u8 (mo : Int))) (And.intro (M1x.out.setCell (a := ⟨g, 2, none⟩) (by show ms ≠ g; omega) (.int .u8 (mo : Int))) (M2x.out.setCell (a := ⟨g, 2, none⟩) (by show ms + 1 ≠ g; omega) (.int .u8 (mo : Int)))))))
                        clear hNxd hCdd hWd hBd r1 r2 r3 r4
                        have fin : ∀ mo : Nat, mostP (l.take (k + 1)) = mo → Rw ((wd.setCell ⟨g, 2, none⟩ (.int .u8 (mo : Int))).drew) (g + 1) 197 16 (fun q => uV (nextK l (k + 1) q)) ∧ MapT wordV ((wd.setCell ⟨g, 2, none⟩ (.int .u8 (mo : Int))).drew) Tryz.prog 199 ms (k + 1) (symG l (k + 1)) ∧
                            MapT iV ((wd.setCell ⟨g, 2, none⟩ (.int .u8 (mo : Int))).drew) Tryz.prog 3 (ms + 1) (k + 1) (wrdG l (k + 1)) ∧ Bk ((wd.setCell ⟨g, 2, none⟩ (.int .u8 (mo : Int))).drew) g 196 #[.map (some ms), .map (some (ms + 1)), .int .u8 (mostP (l.take (k + 1)) : Int)] ∧ Below w.heap.size w ((wd.setCell ⟨g, 2, none⟩ (.int .u8 (mo : Int))).drew) := fun mo hmo => by
                          obtain ⟨q1, q2, q3, q4, q5⟩ := (HXX mo).out
                          refine ⟨q1.ext fun q hq => ?_, MapT.drew (q4.ext fun q => ?_), MapT.drew (q5.ext fun q => ?_), ?_, below_drewN q3 1⟩
                          · by_cases e : q = m
                            · subst e
                              rw [if_pos rfl, nextK_same hm.out (by omega), HNX.out]
                              unfold uV
                              go_num
                            · rw [if_neg e, nextK_other hm.out e]
                          · rw [← HNX.out]; exact symG_succ hm.out (by omega) q
                          · rw [← HNX.out]; exact wrdG_succ hm.out (by omega) q
                          · rw [hmo]
                            have : Bk (wd.setCell ⟨g, 2, none⟩ (.int .u8 (mo : Int))) g 196 #[.map (some ms), .map (some (ms + 1)), .int .u8 (mo : Int)] := by simpa using q2
                            exact this
                        rcases Nat.lt_or_ge (mostP (l.take k)) m with hlt | hge
                        · have FN := bx (fin m (by rw [HMO.out]; omega))
                          clear fin HXX
                          go_upto_region 38 with (fail)
                          go_region
                          go_wp2
                          go_roundg (j - (k + 1))
                          case rel => exact ⟨k + 1, rfl, by omega, by go_num, FN.out⟩
                          case measure => omega
                        · have FN := bx (fin (mostP (l.take k)) (by rw [HMO.out]; omega))
                          clear fin HXX
                          have hnl : ¬ mostP (l.take k) < m := by omega
                          go_upto_region 38 with (fail)
                          go_region
                          go_wp2
                          go_roundg (j - (k + 1))
                          case rel => exact ⟨k + 1, rfl, by omega, by go_num, FN.out⟩
                          case measure => omega
                    · obtain rfl : k = j := by omega
                      have HJK : Bx (l.take k = l) := bx (List.take_of_length_le (by rw [HL.out]; exact Nat.le_refl _))
                      have hkr := code_kraft HC.out
                      have hmost := mostP_le H15.out
                      rw [HJK.out] at hCd
                      have FC : Bx (PCd wr w.heap.size g l) := bx (by
                        rw [← HL.out] at hMs hMw
                        exact ⟨ms, ms + 1, _, _, hCd, hMs, hMw, ⟨hlo, by omega⟩, ⟨by omega, by omega⟩, hmost, hkr⟩)
                      have FB := bx hB
                      clear hNx hMs hMw hCd hB hkr hmost
                      go_wp2
                      go_ret2
                      exact pnew_yes HC.out rfl FC.out FB.out
end Go.Proofs.YtlmcpkomjofcgaaGreatDoor
namespace Go.Proofs.YtlmcpkomjofcgaaGreatDoor
open Go.RowKit

theorem spread_fits (c per : Nat) (hc : c ≤ 40) (hp : 2 ≤ per) (hp9 : per ≤ 1000) : wrap64 (((per : Int) + (c : Int) % (per : Int)) * 2 ^ (c / per - 1)) = (((per + c % per) * 2 ^ (c / per - 1) : Nat) : Int) := by
  have e : ((per : Int) + (c : Int) % (per : Int)) * 2 ^ (c / per - 1) = (((per + c % per) * 2 ^ (c / per - 1) : Nat) : Int) := by simp
  rw [e]
  have h1 : c / per ≤ 20 := by
    have : c / per ≤ c / 2 := Nat.div_le_div_left hp (by omega)
    omega
  have h2 : 2 ^ (c / per - 1) ≤ 2 ^ 20 := Nat.pow_le_pow_right (by decide) (by omega)
  have h3 : c % per ≤ c := Nat.mod_le _ _
  have h4 : per + c % per ≤ per + 40 := by omega
  have h6 : (per + c % per) * 2 ^ (c / per - 1) ≤ 1040 * 2 ^ 20 := Nat.mul_le_mul (by omega) h2
  exact IntWalk.wrap64_in _ ⟨by omega, by omega⟩
theorem ret_i2 {a b c d : Int} (h1 : a = b) (h2 : c = d) : Ending.returned (.tuple #[.int .i64 a, .int .i64 c]) = .returned (.tuple #[.int .i64 b, .int .i64 d]) := by rw [h1, h2]
set_option maxHeartbeats 400000 in
theorem spread_any (a : Int) (c per : Nat) (w : World) (ha : a = (c : Int)) (hc : c ≤ 40) (hp : per = 2 ∨ per = 4) :
    Calls Tryz.prog 111 #[.int .i64 a, .int .i64 (per : Int)] w fun e w' => e = .returned (.tuple #[.int .i64 ((spreadP c per).1 : Int), .int .i64 ((spreadP c per).2 : Int)]) ∧ w = w' := by
  subst ha
  rcases hp with rfl | rfl
  · by_cases h : c < 4
    · have HS : Bx (spreadP c 2 = (c, 0)) := bx (by unfold spreadP; rw [if_pos (by omega)])
      go_enter Tryz.func111, Tryz.ntmps111
      go_wp2
      go_ret2
      rw [HS.out]
      exact ⟨rfl, rfl⟩
    · have HS : Bx (spreadP c 2 = ((2 + c % 2) * 2 ^ (c / 2 - 1), c / 2 - 1)) := bx (by unfold spreadP; rw [if_neg (by omega)])
      have HP : Bx (wrap64 ((2 + (c : Int) % 2) * 2 ^ (c / 2 - 1)) = (((2 + c % 2) * 2 ^ (c / 2 - 1) : Nat) : Int)) := bx (spread_fits c 2 hc (by omega) (by omega))
      go_enter Tryz.func111, Tryz.ntmps111
      go_wp2
      go_ret2
      rw [HS.out]
      exact ⟨ret_i2 HP.out (by omega), rfl⟩
  · by_cases h : c < 8
    · have HS : Bx (spreadP c 4 = (c, 0)) := bx (by unfold spreadP; rw [if_pos (by omega)])
      go_enter Tryz.func111, Tryz.ntmps111
      go_wp2
      go_ret2
      rw [HS.out]
      exact ⟨rfl, rfl⟩
    · have HS : Bx (spreadP c 4 = ((4 + c % 4) * 2 ^ (c / 4 - 1), c / 4 - 1)) := bx (by unfold spreadP; rw [if_neg (by omega)])
      have HP : Bx (wrap64 ((4 + (c : Int) % 4) * 2 ^ (c / 4 - 1)) = (((4 + c % 4) * 2 ^ (c / 4 - 1) : Nat) : Int)) := bx (spread_fits c 4 hc (by omega) (by omega))
      go_enter Tryz.func111, Tryz.ntmps111
      go_wp2
      go_ret2
      rw [HS.out]
      exact ⟨ret_i2 HP.out (by omega), rfl⟩
/-- A row of so many equal cells, made of the call's own. -/
theorem mk_row {P : Program} (t e : TypeId) (z : Value) (bytes : Nat) (ht : P.underlying t = some (.slice e)) (hinfo : (P.info? e).map (fun i => (i.zero, i.size, i.bytes)) = some (some z, 1, bytes)) (hz1 : z.cells = #[z])
    (n : Nat) (hbytes : bytes * n ≤ 281474976710656) (h63 : n ≤ 9223372036854775807) :
    ∃ cs : Array Value, cs.size = n ∧ (∀ i, i < n → cs[i]? = some z) ∧ ∀ w : World, (Instr.makeSlice t (.int .i64 (n : Int)) (.int .i64 (n : Int))).run P w = .ok (.slice (some ⟨w.heap.size, 0, none⟩) n n) (w.alloc (.cells cs e)) := by
  refine ⟨madeCells #[z] n, ?_, ?_, fun w => run_make_row' t e z bytes ht hinfo hz1 .i64 .i64 n hbytes h63 w⟩
  · have := congrArg List.length (toList_madeCells_one z n); simpa using this
  · intro i hi
    rw [← Array.getElem?_toList, toList_madeCells_one]; simp [hi]
theorem info_int : (Tryz.prog.info? 3).map (fun i => (i.zero, i.size, i.bytes)) = some (some (.int .i64 0), 1, 8) := by kernel_rfl
theorem Rw.read {w : World} {g : Nat} {t : TypeId} {α : Type} {f : α → Value} {l : List α} {C : Nat → Value} (h : Rw w g t l.length C) (hC : ∀ i x, l[i]? = some x → C i = f x) : RL f w (g + 1) (some ⟨g, 0, none⟩) l := fun _ =>
  ⟨_, rfl, Nat.lt_succ_self _, fun i u hu => by
    rw [Addr.add_lit, Nat.zero_add]
    rw [List.getElem?_map] at hu
    cases hx : l[i]? with
    | none => rw [hx] at hu; cases hu
    | some x =>
      rw [hx] at hu
      injection hu with hu
      rw [h.cell (by rcases Nat.lt_or_ge i l.length with h' | h'; exact h'; rw [List.getElem?_eq_none h'] at hx; cases hx), hC i x hx, hu]⟩
def litV (i : Nat) : Nat := if i < 144 then 8 else if i < 256 then 9 else if i < 280 then 7 else 8
theorem fixLit_all : ∀ i, i < 288 → fixLit[i]? = some (litV i) := by decide +kernel
theorem fixLit_len : fixLit.length = 288 := by decide +kernel
set_option maxRecDepth 100000 in
set_option maxHeartbeats 1000000 in
theorem fixed_any (w : World) : Calls Tryz.prog 91 #[] w fun e w' => ∃ A A' c c', e = .returned (.tuple #[.slice A 288 c, .slice A' 32 c']) ∧ RN w' w'.heap.size A fixLit ∧ RN w' w'.heap.size A' fixDist ∧ Below w.heap.size w w' := by
  obtain ⟨cs, hcs, hcz, hr1⟩ := mk_row (P := Tryz.prog) 41 3 (.int .i64 0) 8 Tryz.underlying41 info_int rfl 288 (by omega) (by omega)
  obtain ⟨ds, hds, hdz, hr2⟩ := mk_row (P := Tryz.prog) 41 3 (.int .i64 0) 8 Tryz.underlying41 info_int rfl 32 (by omega) (by omega)
  have hm1 : ∀ w : World, (Instr.makeSlice 41 (.int .i64 288) (.int .i64 288)).run Tryz.prog w = .ok (.slice (some ⟨w.heap.size, 0, none⟩) 288 288) (w.alloc (.cells cs 3)) := hr1
  have hm2 : ∀ w : World, (Instr.makeSlice 41 (.int .i64 32) (.int .i64 32)).run Tryz.prog w = .ok (.slice (some ⟨w.heap.size, 0, none⟩) 32 32) (w.alloc (.cells ds 3)) := hr2
  clear hr1 hr2
  have HCS := bx hcs
  have HDS := bx hds
  have HCZ := bx hcz
  have HDZ := bx hdz
  clear hcs hds hcz hdz
  go_enter Tryz.func91, Tryz.ntmps91
  go_wp2
  go_region
  · have hL0 : Rw (((w.alloc (.cells cs 3)).alloc (.cells ds 3)).drew) w.heap.size 3 288 (fun _ => nV 0) := Rw.of ((Bk.new w 3 cs).alloc _) HCS.out (fun i hi => HCZ.out i hi)
    have hD0 : Rw (((w.alloc (.cells cs 3)).alloc (.cells ds 3)).drew) (w.heap.size + 1) 3 32 (fun _ => nV 0) := Rw.of (Bk.newAt (w.alloc _) 3 ds (by simp)) HDS.out (fun i hi => HDZ.out i hi)
    have hB0 : Below w.heap.size w (((w.alloc (.cells cs 3)).alloc (.cells ds 3)).drew) := below_drewN (bl_alloc (bl_alloc (Below.refl w.heap.size w) (Nat.le_refl _) _) (Nat.le_refl _) _) 1
    obtain ⟨gl, hgl⟩ : ∃ gl, w.heap.size = gl := ⟨_, rfl⟩
    obtain ⟨gd, hgd⟩ : ∃ gd, (w.heap.size + 1) = gd := ⟨_, rfl⟩
    have hne : gl ≠ gd := by omega
    have hlo : w.heap.size ≤ gl ∧ w.heap.size ≤ gd := by omega
    have HGL := bx hgl
    have HGD := bx hgd
    have HL0 := bx hL0
    have HD0 := bx hD0
    have HB0 := bx hB0
    clear hgl hgd hL0 hD0 hB0
    go_wp2_with fail
    have hL0 := HL0.out
    have hD0 := HD0.out
    have hB0 := HB0.out
    rw [HGD.out] at hD0 ⊢
    rw [HGL.out] at hL0 ⊢
    clear HL0 HD0 HB0 HGL HGD
    generalize ((w.alloc (.cells cs 3)).alloc (.cells ds 3)).drew = w0 at hL0 hD0 hB0 ⊢
    go_loopg [8] 288 (fun κ jj wr => ∃ j : Nat, κ = 288 - j ∧ j ≤ 288 ∧ jj = .int .i64 (j : Int) ∧ Rw wr gl 3 288 (fun i => if i < j then nV (litV i) else nV 0) ∧ Rw wr gd 3 32 (fun _ => nV 0) ∧ Below w.heap.size w wr)
    case atStart => exact ⟨0, by omega, by omega, rfl, hL0.ext fun i _ => by rw [if_neg (by omega)], hD0, hB0⟩
    case round =>
      clear hL0 hD0 hB0
      obtain ⟨j, hgk, hj, rfl, hL, hD, hB⟩ := hrel
      by_cases hjn : j < 288
      · have hc0 : wr.cell? ⟨gl, j, none⟩ = some (.int .i64 0) := by rw [hL.cell hjn, if_neg (by omega)]; rfl
        have hf0 := hL.frz j
        have key : ∀ v : Nat, litV j = v → Rw (wr.setCell ⟨gl, j, none⟩ (.int .i64 (v : Int))) gl 3 288 (fun i => if i < j + 1 then nV (litV i) else nV 0) ∧ Rw (wr.setCell ⟨gl, j, none⟩ (.int .i64 (v : Int))) gd 3 32 (fun _ => nV 0) ∧ Below w.heap.size w (wr.setCell ⟨gl, j, none⟩ (.int .i64 (v : Int))) := fun v hv => by
          refine ⟨(hL.set j _).ext fun i _ => ?_, hD.far (by exact hne.symm) _, hB.setCell (by exact hlo.1) _⟩
          by_cases e : i = j
          · subst e; rw [if_pos (by omega), if_pos rfl, hv]; rfl
          · rw [if_neg e]
            by_cases e2 : i < j
            · rw [if_pos (by omega), if_pos e2]
            · rw [if_neg (by omega), if_neg e2]
        clear hL hD hB
        by_cases h1 : j < 144
        · have K := bx (key 8 (by unfold litV; rw [if_pos h1]))
          clear key
          go_wp2
          go_roundg (288 - (j + 1))
          case rel => exact ⟨j + 1, rfl, by omega, by go_num, K.out⟩
          case measure => omega
        · by_cases h2 : j < 256
          · have K := bx (key 9 (by unfold litV; rw [if_neg h1, if_pos h2]))
            clear key
            go_wp2
            go_roundg (288 - (j + 1))
            case rel => exact ⟨j + 1, rfl, by omega, by go_num, K.out⟩
            case measure => omega
          · by_cases h3 : j < 280
            · have K := bx (key 7 (by unfold litV; rw [if_neg h1, if_neg h2, if_pos h3]))
              clear key
              go_wp2
              go_roundg (288 - (j + 1))
              case rel => exact ⟨j + 1, rfl, by omega, by go_num, K.out⟩
              case measure => omega
            · have K := bx (key 8 (by unfold litV; rw [if_neg h1, if_neg h2, if_neg h3]))
              clear key
              go_wp2
              go_roundg (288 - (j + 1))
              case rel => exact ⟨j + 1, rfl, by omega, by go_num, K.out⟩
              case measure => omega
      · obtain rfl : j = 288 := by omega
        go_wp2_with fail
        obtain ⟨wo, rfl⟩ : ∃ wo : World, wo = wr := ⟨_, rfl⟩
        go_loopg [33] 32 (fun κ jj wr => ∃ j : Nat, κ = 32 - j ∧ j ≤ 32 ∧ jj = .int .i64 (j : Int) ∧ Rw wr gl 3 288 (fun i => if i < 288 then nV (litV i) else nV 0) ∧ Rw wr gd 3 32 (fun i => if i < j then nV 5 else nV 0) ∧ Below w.heap.size w wr)
        case atStart => exact ⟨0, by omega, by omega, rfl, hL, hD.ext fun i _ => by rw [if_neg (by omega)], hB⟩
        case round =>
          clear hL hD hB
          obtain ⟨k, hgk, hk, rfl, hL, hD, hB⟩ := hrel
          by_cases hkn : k < 32
          · have hc0 : wr.cell? ⟨gd, k, none⟩ = some (.int .i64 0) := by rw [hD.cell hkn, if_neg (by omega)]; rfl
            have hf0 := hD.frz k
            have K : Bx (Rw (wr.setCell ⟨gd, k, none⟩ (.int .i64 5)) gl 3 288 (fun i => if i < 288 then nV (litV i) else nV 0) ∧ Rw (wr.setCell ⟨gd, k, none⟩ (.int .i64 5)) gd 3 32 (fun i => if i < k + 1 then nV 5 else nV 0) ∧ Below w.heap.size w (wr.setCell ⟨gd, k, none⟩ (.int .i64 5))) := bx (by
              refine ⟨hL.far (by exact hne) _, (hD.set k _).ext fun i _ => ?_, hB.setCell (by exact hlo.2) _⟩
              by_cases e : i = k
              · subst e; rw [if_pos (by omega), if_pos rfl]; rfl
              · rw [if_neg e]
                by_cases e2 : i < k
                · rw [if_pos (by omega), if_pos e2]
                · rw [if_neg (by omega), if_neg e2])
            clear hL hD hB
            go_wp2
            go_roundg (32 - (k + 1))
            case rel => exact ⟨k + 1, rfl, by omega, by go_num, K.out⟩
            case measure => omega
          · obtain rfl : k = 32 := by omega
            have hgz1 := hL.lt
            have hgz2 := hD.lt
            have R1 : Bx (RN wr wr.heap.size (some ⟨gl, 0, none⟩) fixLit) := bx (RL.more (Rw.read (l := fixLit) (by rw [fixLit_len]; exact hL) (fun i x hx => by
              have hi : i < 288 := by
                rcases Nat.lt_or_ge i 288 with h | h
                · exact h
                · rw [List.getElem?_eq_none (by rw [fixLit_len]; exact h)] at hx; cases hx
              rw [fixLit_all i hi] at hx
              injection hx with hx
              rw [if_pos hi, hx])) (by omega))
            have R2 : Bx (RN wr wr.heap.size (some ⟨gd, 0, none⟩) fixDist) := bx (RL.more (Rw.read (l := fixDist) (by unfold fixDist; rw [List.length_replicate]; exact hD) (fun i x hx => by
              unfold fixDist at hx
              have hi : i < 32 := by
                rcases Nat.lt_or_ge i 32 with h | h
                · exact h
                · rw [List.getElem?_eq_none (by simpa using h)] at hx; cases hx
              rw [List.getElem?_replicate, if_pos hi] at hx
              injection hx with hx
              rw [if_pos hi, hx])) (by omega))
            have HB := bx hB
            clear hL hD hB
            go_wp2
            go_ret2
            exact ⟨_, _, _, _, rfl, R1.out, R2.out, HB.out⟩
  · have hL0 : Rw (((w.alloc (.cells ds 3)).alloc (.cells cs 3)).drew) (w.heap.size + 1) 3 288 (fun _ => nV 0) := Rw.of (Bk.newAt (w.alloc _) 3 cs (by simp)) HCS.out (fun i hi => HCZ.out i hi)
    have hD0 : Rw (((w.alloc (.cells ds 3)).alloc (.cells cs 3)).drew) w.heap.size 3 32 (fun _ => nV 0) := Rw.of ((Bk.new w 3 ds).alloc _) HDS.out (fun i hi => HDZ.out i hi)
    have hB0 : Below w.heap.size w (((w.alloc (.cells ds 3)).alloc (.cells cs 3)).drew) := below_drewN (bl_alloc (bl_alloc (Below.refl w.heap.size w) (Nat.le_refl _) _) (Nat.le_refl _) _) 1
    obtain ⟨gl, hgl⟩ : ∃ gl, (w.heap.size + 1) = gl := ⟨_, rfl⟩
    obtain ⟨gd, hgd⟩ : ∃ gd, w.heap.size = gd := ⟨_, rfl⟩
    have hne : gl ≠ gd := by omega
    have hlo : w.heap.size ≤ gl ∧ w.heap.size ≤ gd := by omega
    have HGL := bx hgl
    have HGD := bx hgd
    have HL0 := bx hL0
    have HD0 := bx hD0
    have HB0 := bx hB0
    clear hgl hgd hL0 hD0 hB0
    go_wp2_with fail
    have hL0 := HL0.out
    have hD0 := HD0.out
    have hB0 := HB0.out
    rw [HGL.out] at hL0 ⊢
    rw [HGD.out] at hD0 ⊢
    clear HL0 HD0 HB0 HGL HGD
    generalize ((w.alloc (.cells ds 3)).alloc (.cells cs 3)).drew = w0 at hL0 hD0 hB0 ⊢
    go_loopg [8] 288 (fun κ jj wr => ∃ j : Nat, κ = 288 - j ∧ j ≤ 288 ∧ jj = .int .i64 (j : Int) ∧ Rw wr gl 3 288 (fun i => if i < j then nV (litV i) else nV 0) ∧ Rw wr gd 3 32 (fun _ => nV 0) ∧ Below w.heap.size w wr)
    case atStart => exact ⟨0, by omega, by omega, rfl, hL0.ext fun i _ => by rw [if_neg (by omega)], hD0, hB0⟩
    case round =>
      clear hL0 hD0 hB0
      obtain ⟨j, hgk, hj, rfl, hL, hD, hB⟩ := hrel
      by_cases hjn : j < 288
      · have hc0 : wr.cell? ⟨gl, j, none⟩ = some (.int .i64 0) := by rw [hL.cell hjn, if_neg (by omega)]; rfl
        have hf0 := hL.frz j
        have key : ∀ v : Nat, litV j = v → Rw (wr.setCell ⟨gl, j, none⟩ (.int .i64 (v : Int))) gl 3 288 (fun i => if i < j + 1 then nV (litV i) else nV 0) ∧ Rw (wr.setCell ⟨gl, j, none⟩ (.int .i64 (v : Int))) gd 3 32 (fun _ => nV 0) ∧ Below w.heap.size w (wr.setCell ⟨gl, j, none⟩ (.int .i64 (v : Int))) := fun v hv => by
          refine ⟨(hL.set j _).ext fun i _ => ?_, hD.far (by exact hne.symm) _, hB.setCell (by exact hlo.1) _⟩
          by_cases e : i = j
          · subst e; rw [if_pos (by omega), if_pos rfl, hv]; rfl
          · rw [if_neg e]
            by_cases e2 : i < j
            · rw [if_pos (by omega), if_pos e2]
            · rw [if_neg (by omega), if_neg e2]
        clear hL hD hB
        by_cases h1 : j < 144
        · have K := bx (key 8 (by unfold litV; rw [if_pos h1]))
          clear key
          go_wp2
          go_roundg (288 - (j + 1))
          case rel => exact ⟨j + 1, rfl, by omega, by go_num, K.out⟩
          case measure => omega
        · by_cases h2 : j < 256
          · have K := bx (key 9 (by unfold litV; rw [if_neg h1, if_pos h2]))
            clear key
            go_wp2
            go_roundg (288 - (j + 1))
            case rel => exact ⟨j + 1, rfl, by omega, by go_num, K.out⟩
            case measure => omega
          · by_cases h3 : j < 280
            · have K := bx (key 7 (by unfold litV; rw [if_neg h1, if_neg h2, if_pos h3]))
              clear key
              go_wp2
              go_roundg (288 - (j + 1))
              case rel => exact ⟨j + 1, rfl, by omega, by go_num, K.out⟩
              case measure => omega
            · have K := bx (key 8 (by unfold litV; rw [if_neg h1, if_neg h2, if_neg h3]))
              clear key
              go_wp2
              go_roundg (288 - (j + 1))
              case rel => exact ⟨j + 1, rfl, by omega, by go_num, K.out⟩
              case measure => omega
      · obtain rfl : j = 288 := by omega
        go_wp2_with fail
        obtain ⟨wo, rfl⟩ : ∃ wo : World, wo = wr := ⟨_, rfl⟩
        go_loopg [33] 32 (fun κ jj wr => ∃ j : Nat, κ = 32 - j ∧ j ≤ 32 ∧ jj = .int .i64 (j : Int) ∧ Rw wr gl 3 288 (fun i => if i < 288 then nV (litV i) else nV 0) ∧ Rw wr gd 3 32 (fun i => if i < j then nV 5 else nV 0) ∧ Below w.heap.size w wr)
        case atStart => exact ⟨0, by omega, by omega, rfl, hL, hD.ext fun i _ => by rw [if_neg (by omega)], hB⟩
        case round =>
          clear hL hD hB
          obtain ⟨k, hgk, hk, rfl, hL, hD, hB⟩ := hrel
          by_cases hkn : k < 32
          · have hc0 : wr.cell? ⟨gd, k, none⟩ = some (.int .i64 0) := by rw [hD.cell hkn, if_neg (by omega)]; rfl
            have hf0 := hD.frz k
            have K : Bx (Rw (wr.setCell ⟨gd, k, none⟩ (.int .i64 5)) gl 3 288 (fun i => if i < 288 then nV (litV i) else nV 0) ∧ Rw (wr.setCell ⟨gd, k, none⟩ (.int .i64 5)) gd 3 32 (fun i => if i < k + 1 then nV 5 else nV 0) ∧ Below w.heap.size w (wr.setCell ⟨gd, k, none⟩ (.int .i64 5))) := bx (by
              refine ⟨hL.far (by exact hne) _, (hD.set k _).ext fun i _ => ?_, hB.setCell (by exact hlo.2) _⟩
              by_cases e : i = k
              · subst e; rw [if_pos (by omega), if_pos rfl]; rfl
              · rw [if_neg e]
                by_cases e2 : i < k
                · rw [if_pos (by omega), if_pos e2]
                · rw [if_neg (by omega), if_neg e2])
            clear hL hD hB
            go_wp2
            go_roundg (32 - (k + 1))
            case rel => exact ⟨k + 1, rfl, by omega, by go_num, K.out⟩
            case measure => omega
          · obtain rfl : k = 32 := by omega
            have hgz1 := hL.lt
            have hgz2 := hD.lt
            have R1 : Bx (RN wr wr.heap.size (some ⟨gl, 0, none⟩) fixLit) := bx (RL.more (Rw.read (l := fixLit) (by rw [fixLit_len]; exact hL) (fun i x hx => by
              have hi : i < 288 := by
                rcases Nat.lt_or_ge i 288 with h | h
                · exact h
                · rw [List.getElem?_eq_none (by rw [fixLit_len]; exact h)] at hx; cases hx
              rw [fixLit_all i hi] at hx
              injection hx with hx
              rw [if_pos hi, hx])) (by omega))
            have R2 : Bx (RN wr wr.heap.size (some ⟨gd, 0, none⟩) fixDist) := bx (RL.more (Rw.read (l := fixDist) (by unfold fixDist; rw [List.length_replicate]; exact hD) (fun i x hx => by
              unfold fixDist at hx
              have hi : i < 32 := by
                rcases Nat.lt_or_ge i 32 with h | h
                · exact h
                · rw [List.getElem?_eq_none (by simpa using h)] at hx; cases hx
              rw [List.getElem?_replicate, if_pos hi] at hx
              injection hx with hx
              rw [if_pos hi, hx])) (by omega))
            have HB := bx hB
            clear hL hD hB
            go_wp2
            go_ret2
            exact ⟨_, _, _, _, rfl, R1.out, R2.out, HB.out⟩
end Go.Proofs.YtlmcpkomjofcgaaGreatDoor
namespace Go.Proofs.YtlmcpkomjofcgaaGreatDoor
open Go.RowKit

/-- Several numbers, one behind the other. -/
def tksF (b : List UInt8) : List Nat → List Nat → Nat → Rz (List Nat × Nat)
  | [], acc, p => .ok (acc, p)
  | n :: r, acc, p => (tk b p n).bind fun x => tksF b r (acc ++ [x.1]) x.2
theorem tksF_step {b : List UInt8} {ws acc : List Nat} {j n p : Nat} (hj : ws[j]? = some n) (hp : p + n ≤ 8 * b.length) : tksF b (ws.drop j) acc p = tksF b (ws.drop (j + 1)) (acc ++ [takeN b p n]) (p + n) := by
  have hjl : j < ws.length := by
    rcases Nat.lt_or_ge j ws.length with h | h
    · exact h
    · rw [List.getElem?_eq_none h] at hj; cases hj
  rw [List.getElem?_eq_getElem hjl] at hj
  injection hj with hj
  rw [List.drop_eq_getElem_cons hjl, tksF, hj, tk, if_pos hp]; rfl
theorem tksF_short {b : List UInt8} {ws acc : List Nat} {j n p : Nat} (hj : ws[j]? = some n) (hp : 8 * b.length < p + n) : tksF b (ws.drop j) acc p = .err 2 := by
  have hjl : j < ws.length := by
    rcases Nat.lt_or_ge j ws.length with h | h
    · exact h
    · rw [List.getElem?_eq_none h] at hj; cases hj
  rw [List.getElem?_eq_getElem hjl] at hj
  injection hj with hj
  rw [List.drop_eq_getElem_cons hjl, tksF, hj, tk, if_neg (by omega)]; rfl
def TksPost (R : Rz (List Nat × Nat)) (w : World) (gr : Nat) (b : List UInt8) (e : Ending) (w' : World) : Prop :=
  w.grownBy w' (some gr) ∧ match R with
    | .ok x => ∃ A c, e = .returned (.tuple #[.slice A x.1.length c, .int .i64 0]) ∧ RN w' w'.heap.size A x.1 ∧ BRd w' gr b x.2
    | .err k => e = .returned (.tuple #[.slice none 0 0, .int .i64 k])
theorem tksPost_ok {R : Rz (List Nat × Nat)} {w w' : World} {gr : Nat} {b : List UInt8} {l : List Nat} {p : Nat} {A : Option Addr} {n c : Nat} (h : R = .ok (l, p)) (hn : l.length = n) (hg : w.grownBy w' (some gr)) (hA : RN w' w'.heap.size A l) (hB : BRd w' gr b p) : TksPost R w gr b (.returned (.tuple #[.slice A n c, .int .i64 0])) w' := by
  subst h; subst hn; exact ⟨hg, A, c, rfl, hA, hB⟩
theorem tksPost_err {R : Rz (List Nat × Nat)} {w w' : World} {gr : Nat} {b : List UInt8} {k : Int} (h : R = .err k) (hg : w.grownBy w' (some gr)) : TksPost R w gr b (.returned (.tuple #[.slice none 0 0, .int .i64 k])) w' := by
  subst h; exact ⟨hg, rfl⟩
theorem nV_one (x : Nat) : (nV x).oneCell' = true := rfl
theorem intTy : ETy Tryz.prog 41 3 (.int .i64 0) 1 8 := ⟨Tryz.underlying41, info_parts (by kernel_rfl), rfl, by decide⟩
set_option maxRecDepth 100000 in
set_option maxHeartbeats 1000000 in
theorem itake_any (gs gr : Nat) (A : Option Addr) (n c : Nat) (ws : List Nat) (b : List UInt8) (p : Nat) (w : World) (hc0 : w.cell? ⟨gs, 0, none⟩ = some (.pointer (some ⟨gr, 0, none⟩))) (hgs : gr < gs) (hgz : gs < w.heap.size)
    (hR : BRd w gr b p) (hn : ws.length = n) (hz : n ≤ 1000) (hw : ∀ x ∈ ws, x ≤ 16) (hW : RN w w.heap.size A ws) (hA : ∀ ad, A = some ad → gs < ad.block) :
    Calls Tryz.prog 89 #[.pointer (some ⟨gs, 0, none⟩), .slice A n c] w (TksPost (tksF b ws [] p) w gr b) := by
  obtain ⟨R, hRR⟩ : ∃ R, tksF b ws [] p = R := ⟨_, rfl⟩
  rw [hRR]
  have HR0 : Bx (R = tksF b (ws.drop 0) [] p) := bx hRR.symm
  have HN := bx hn
  have HW := bx hw
  clear hRR hn hw
  have hG0 := World.grownBy.refl w (some gr)
  go_enter Tryz.func89, Tryz.ntmps89
  go_wp2_with fail
  go_loopg [6, 13] n (fun κ v jj wr => ∃ (j q : Nat) (acc : List Nat), κ = n - j ∧ j ≤ n ∧ jj = .int .i64 (j : Int) ∧ acc.length = j ∧ OwL nV wr w.heap.size 3 v acc ∧ BRd wr gr b q ∧ w.grownBy wr (some gr) ∧ Bx (R = tksF b (ws.drop j) acc q))
  case atStart => exact ⟨0, p, [], by omega, by omega, rfl, rfl, OwL.nil, hR, hG0, HR0⟩
  case round =>
    clear hR hG0
    obtain ⟨j, q, acc, hgk, hj, rfl, hal, hO, hR, hG, hgo⟩ := hrel
    have HAL := bx hal
    clear hal
    by_cases hjn : j < n
    · obtain ⟨ad, m, rfl, hadb, hm, hc⟩ := RL.atl hW (k := j) (by rw [HN.out]; exact hjn)
      have hadg := hA _ rfl
      have hc' : wr.cell? (ad.add j) = some (.int .i64 (m : Int)) := by
        rw [World.cell?_of_block (hG.block _ (by rw [blk_add]; exact hadb) (fun e => by rw [blk_add] at e; injection e; omega))]; exact hc
      have hm16 : m ≤ 16 := HW.out m (List.mem_of_getElem? hm.out)
      have hs0 : wr.cell? ⟨gs, 0, none⟩ = some (.pointer (some ⟨gr, 0, none⟩)) := by
        rw [World.cell?_of_block (hG.block gs hgz (fun e => by injection e; omega))]; exact hc0
      clear hc
      by_cases hq : q + m ≤ 8 * b.length
      · have HGO : Bx (R = tksF b (ws.drop (j + 1)) (acc ++ [takeN b q m]) (q + m)) := bx (hgo.out.trans (tksF_step hm.out hq))
        go_wp2_with fail
        refine (btake_ok gr b q m wr hR hm16 hq).mono ?_
        rintro e w3 ⟨rfl, hR3, hg3⟩
        have hG3 := gb_trans hG hg3
        have hO3 := hO.kept hg3 (by
          rcases hv : u6.ownBlock with _ | k
          · exact .inl rfl
          · refine .inr fun e => ?_
            injection e with e
            have := World.ownsRow.lt hO k hv
            omega)
        have hz3 := hG3.size
        have hal9 : (acc.length + 1) * 8 ≤ 140737488355328 := by rw [HAL.out]; omega
        have HL9 := bx hal9
        clear hO hR hG hg3 hal9
        go_wp2_with (at_builtin; refine wpList_appL _ nV_one rfl (.tmp 29) (.tmp 31) rfl intTy (by decide) w.heap.size _ acc rfl (hO3.alloc _) _ _ 1 1 [takeN b q m] rfl rfl (RL.freshe _ _ rfl _) HL9.out (le_alloc0 hz3 _) ?_; intro v4 w4 hO4 hg4 _ hb4)
        have hb4' : Below w.heap.size w3 w4 := (bl_alloc (Below.refl w.heap.size w3) hz3 _).trans hb4
        have hR4 := (hR3.keep (w' := w3.alloc (.cells #[.int .i64 (takeN b q m : Int)] 3)) (fun i hi => (Below.heap_alloc w3 _ i (by have := hR3.lt; omega)))).below hb4 (by omega)
        have hG4 := gb_past hG3 hb4' (Nat.le_refl _)
        go_wp2
        go_roundg (n - (j + 1))
        case rel => exact ⟨j + 1, q + m, acc ++ [takeN b q m], rfl, by omega, by go_num, by rw [List.length_append, HAL.out]; rfl, hO4, hR4, hG4, HGO⟩
        case measure => omega
      · have HF : Bx (R = .err 2) := bx (hgo.out.trans (tksF_short hm.out (by omega)))
        go_wp2_with fail
        refine (btake_short gr b q m wr hR hm16 (by omega)).mono ?_
        rintro e w3 ⟨rfl, hb3⟩
        have hG3 := gb_then hG hb3
        go_wp2
        go_ret2
        exact tksPost_err HF.out hG3
    · obtain rfl : j = n := by omega
      have HF : Bx (R = .ok (acc, q)) := bx (by rw [hgo.out, List.drop_of_length_le (by rw [HN.out]; exact Nat.le_refl _)]; rfl)
      obtain ⟨A1, c1, rfl, hr1, _⟩ := OwL.rd hO
      rw [HAL.out]
      go_wp2_with fail
      go_ret2
      exact tksPost_ok HF.out HAL.out hG hr1 hR
end Go.Proofs.YtlmcpkomjofcgaaGreatDoor
namespace Go.Proofs.YtlmcpkomjofcgaaGreatDoor
open Go.RowKit

/-- What Next answers. -/
def NextPost (R : Rz (Nat × Nat)) (w : World) (gr : Nat) (b : List UInt8) (e : Ending) (w' : World) : Prop :=
  w.grownBy w' (some gr) ∧ match R with
    | .ok x => e = .returned (.tuple #[.int .i64 (x.1 : Int), .int .i64 0]) ∧ BRd w' gr b x.2
    | .err k => e = .returned (.tuple #[.int .i64 0, .int .i64 k])
theorem nextPost_ok {R : Rz (Nat × Nat)} {w w' : World} {gr : Nat} {b : List UInt8} {s p : Nat} (h : R = .ok (s, p)) (hg : w.grownBy w' (some gr)) (hB : BRd w' gr b p) : NextPost R w gr b (.returned (.tuple #[.int .i64 (s : Int), .int .i64 0])) w' := by
  subst h; exact ⟨hg, rfl, hB⟩
theorem nextPost_err {R : Rz (Nat × Nat)} {w w' : World} {gr : Nat} {b : List UInt8} {k : Int} (h : R = .err k) (hg : w.grownBy w' (some gr)) : NextPost R w gr b (.returned (.tuple #[.int .i64 0, .int .i64 k])) w' := by
  subst h; exact ⟨hg, rfl⟩
theorem nextF_short {l : List Nat} {b : List UInt8} {f n c p : Nat} (h : 8 * b.length < p + 1) : nextF l b (f + 1) n c p = .err 2 := by rw [nextF, if_neg (by omega)]
theorem nextF_hit {l : List Nat} {b : List UInt8} {f n c p s : Nat} (h : p + 1 ≤ 8 * b.length) (hs : symAt l (n + 1) (2 * c + bitAt b p) = some s) : nextF l b (f + 1) n c p = .ok (s, p + 1) := by rw [nextF, if_pos h, hs]
theorem nextF_miss {l : List Nat} {b : List UInt8} {f n c p : Nat} (h : p + 1 ≤ 8 * b.length) (hs : symAt l (n + 1) (2 * c + bitAt b p) = none) : nextF l b (f + 1) n c p = nextF l b f (n + 1) (2 * c + bitAt b p) (p + 1) := by rw [nextF, if_pos h, hs]
theorem bits_word {c d : Nat} (hc : c < 32768) (hd : d < 2) : bits .or .u16 ((c : Int) * 2) (d : Int) = ((2 * c + d : Nat) : Int) := by
  have hk : ∀ n : Int, 0 ≤ n → n < 2 ^ 16 → IntKind.u16.wrap n = n := fun n h0 h1 => by
    have : IntKind.u16.wrap n = n % 65536 := by simp [IntKind.wrap, IntKind.bits, IntKind.signed]
    rw [this]; omega
  rw [bits_join .u16 16 (by decide) hk 1 _ _ (by omega) (by omega) (by omega) (by omega) (by omega) (by omega)]
  omega
set_option maxRecDepth 100000 in
set_option maxHeartbeats 4000000 in
theorem pnext_any (g lo gr : Nat) (l : List Nat) (b : List UInt8) (p : Nat) (w : World) (hC : PCd w lo g l) (hR : BRd w gr b p) (hlo : gr < lo) :
    Calls Tryz.prog 110 #[.pointer (some ⟨g, 0, none⟩), .pointer (some ⟨gr, 0, none⟩)] w (NextPost (nextP l b p) w gr b) := by
  obtain ⟨R, hRR⟩ : ∃ R, nextP l b p = R := ⟨_, rfl⟩
  rw [hRR]
  have HR : Hid (R = nextF l b (mostP l - 0) 0 0 p) := Lib.hid (by rw [← hRR]; rfl)
  obtain ⟨gw, hgw⟩ : ∃ gw, w.heap.size = gw := ⟨_, rfl⟩
  have hlt := hC.lt
  have hglt : g < gw := by omega
  have hgwle : w.heap.size ≤ gw := by omega
  have hB0 : Bk (w.alloc (.cells #[.int .u8 0, .int .u16 0] 199)) gw 199 #[.int .u8 ((0 : Nat) : Int), .int .u16 ((0 : Nat) : Int)] := Bk.newAt _ _ _ hgw
  have hC0 := hC.below (bl_alloc (Below.refl w.heap.size w) (Nat.le_refl _) (.cells #[.int .u8 0, .int .u16 0] 199)) (by omega)
  have hR0 := hR.step (bl_alloc (Below.refl w.heap.size w) (Nat.le_refl _) (.cells #[.int .u8 0, .int .u16 0] 199))
  have hG0 := gb_alloc (World.grownBy.refl w (some gr)) (.cells #[.int .u8 0, .int .u16 0] 199)
  have HGW := Lib.hid hgw
  clear hRR hC hR
  go_enter Tryz.func110, Tryz.ntmps110
  go_wp2_with fail
  clear hgw
  generalize w.alloc (.cells #[.int .u8 0, .int .u16 0] 199) = w1 at hB0 hC0 hR0 hG0 ⊢
  go_loopg [7, 8, 9, 10, 24, 43] (mostP l) (fun k _ _ _ _ _ _ wr => ∃ n c q : Nat, k = mostP l - n ∧ n ≤ mostP l ∧ c < 2 ^ n ∧ Bk wr gw 199 #[.int .u8 (n : Int), .int .u16 (c : Int)] ∧ BRd wr gr b q ∧ PCd wr lo g l ∧ w.grownBy wr (some gr) ∧
    Hid (R = nextF l b (mostP l - n) n c q))
  case atStart => exact ⟨0, 0, p, by omega, by omega, by decide, hB0, hR0, hC0, hG0, HR⟩
  case round =>
    clear hB0 hC0 hR0 hG0
    obtain ⟨n, c, q, hgk, hn, hc, hB, hRd, hC, hG, hgo⟩ := hrel
    obtain ⟨ms, mw, n1, n2, hCB, hMS, hMW, hml, hmw, hmost, hkr⟩ := id hC
    have k2 : wr.cell? ⟨g, 2, none⟩ = some (.int .u8 (mostP l : Int)) := (hCB.cell 2).trans rfl
    have v0 : wr.cell? ⟨gw, 0, none⟩ = some (.int .u8 (n : Int)) := (hB.cell 0).trans rfl
    by_cases hnm : n < mostP l
    · have hf : mostP l - n = (mostP l - (n + 1)) + 1 := by omega
      have HGO : Hid (R = nextF l b ((mostP l - (n + 1)) + 1) n c q) := Lib.hid (hf ▸ hgo.out)
      have hnmI : (n : Int) < (mostP l : Int) := by omega
      clear hf
      go_wp2
      go_quiet (fail)
      rename_i nq
      have hRd2 : BRd (wr.drewN nq) gr b q := hRd
      have hB2 : Bk (wr.drewN nq) gw 199 #[.int .u8 (n : Int), .int .u16 (c : Int)] := hB
      have hC2 : PCd (wr.drewN nq) lo g l := hC
      have hG2 := gb_drewN hG nq
      clear k2 v0 hRd hB hC hG hCB hMS hMW
      generalize wr.drewN nq = w2 at hRd2 hB2 hC2 hG2 ⊢
      by_cases hq : q + 1 ≤ 8 * b.length
      · go_wp2_with fail
        refine (btake_ok gr b q 1 w2 hRd2 (by omega) hq).mono ?_
        rintro e w3 ⟨rfl, hRd3, hg3⟩
        obtain ⟨d, hd⟩ : ∃ d, bitAt b q = d := ⟨_, rfl⟩
        have hd2 : d < 2 := by rw [← hd]; exact bitAt_lt b q
        have HTV : Hid (takeN b q 1 = d) := Lib.hid (by rw [← hd]; simp [takeN])
        rw [HTV.out]
        obtain ⟨cd, hcd⟩ : ∃ cd, 2 * c + d = cd := ⟨_, rfl⟩
        have hpow : 2 ^ n ≤ 2 ^ 14 := Nat.pow_le_pow_right (by decide) (by omega)
        have hc14 : c < 16384 := Nat.lt_of_lt_of_le hc hpow
        have hor : bits .or .u16 ((c : Int) * 2) (d : Int) = (cd : Int) := by rw [← hcd]; exact bits_word (by omega) hd2
        have HCD : Hid (cd < 2 ^ (n + 1) ∧ cd < 32768) := Lib.hid ⟨by rw [← hcd, Nat.pow_succ]; omega, by omega⟩
        have hB3 := hB2.grown hg3 (fun e => by injection e; omega)
        have hC3 := hC2.grown hg3 (fun k hk => by injection hk; omega)
        have hG3 := gb_trans hG2 hg3
        have v0 : w3.cell? ⟨gw, 0, none⟩ = some (.int .u8 (n : Int)) := (hB3.cell 0).trans rfl
        have v1 : w3.cell? ⟨gw, 1, none⟩ = some (.int .u16 (c : Int)) := (hB3.cell 1).trans rfl
        have z0 := hB3.frz 0
        have z1 := hB3.frz 1
        have hn15 : (n : Int) < 15 := by omega
        have hc2 : (c : Int) < 16384 := by omega
        have hd3 : (d : Int) < 2 := by omega
        have HHD := Lib.hid hd
        have HCC := Lib.hid hcd
        have hB4 : Bk ((w3.setCell ⟨gw, 0, none⟩ (.int .u8 ((n : Int) + 1))).setCell ⟨gw, 1, none⟩ (.int .u16 (cd : Int))) gw 199 #[.int .u8 ((n : Int) + 1), .int .u16 (cd : Int)] := by
          have := (hB3.set 0 (.int .u8 ((n : Int) + 1))).set 1 (.int .u16 (cd : Int))
          simpa using this
        have hsame : ∀ i, i < gw → ((w3.setCell ⟨gw, 0, none⟩ (.int .u8 ((n : Int) + 1))).setCell ⟨gw, 1, none⟩ (.int .u16 (cd : Int))).heap[i]? = w3.heap[i]? := fun i hi =>
          (Below.heap_setCell _ ⟨gw, 1, none⟩ _ i (by show i ≠ gw; omega)).trans (Below.heap_setCell _ ⟨gw, 0, none⟩ _ i (by show i ≠ gw; omega))
        have hC4 := hC3.keep (fun i _ hi => hsame i (by omega))
        have hR4 := hRd3.keep (fun i hi => hsame i (by omega))
        have hG4 := gb_new (gb_new hG3 (p := ⟨gw, 0, none⟩) (by exact hgwle) (.int .u8 ((n : Int) + 1))) (p := ⟨gw, 1, none⟩) (by exact hgwle) (.int .u16 (cd : Int))
        have HB4 := Lib.hid hB4
        have HC4 := Lib.hid hC4
        have HR4 := Lib.hid hR4
        have HG4 := Lib.hid hG4
        clear hpow hc hcd hd hB2 hC2 hG2 hRd2 hRd3 hg3 hB3 hC3 hG3 hsame hB4 hC4 hR4 hG4
        go_wp2
        have hB4 := HB4.out
        have hC4 := HC4.out
        have hR4 := HR4.out
        have hG4 := HG4.out
        clear HB4 HC4 HR4 HG4 v0 v1 z0 z1
        generalize ((w3.setCell ⟨gw, 0, none⟩ (.int .u8 ((n : Int) + 1))).setCell ⟨gw, 1, none⟩ (.int .u16 (cd : Int))) = w4 at hB4 hC4 hR4 hG4 ⊢
        obtain ⟨ms, mw, n1, n2, hCB, hMS, hMW, hml, hmw, hmost, hkr⟩ := id hC4
        have k0 : w4.cell? ⟨g, 0, none⟩ = some (.map (some ms)) := (hCB.cell 0).trans rfl
        have v0 : w4.cell? ⟨gw, 0, none⟩ = some (.int .u8 ((n : Int) + 1)) := (hB4.cell 0).trans rfl
        have v1 : w4.cell? ⟨gw, 1, none⟩ = some (.int .u16 (cd : Int)) := (hB4.cell 1).trans rfl
        obtain ⟨kl, hkl⟩ := word_key (x := (n + 1, cd)) (by show n + 1 < 256; omega) (by have := HCD.out.2; show cd < 65536; omega)
        have hlk := fun nq => (hMS.drewN nq).run_ok wordK Tryz.underlying193 (z := .int .i64 0) (by kernel_rfl) hkl
        have hwv : wordV (n + 1, cd) = .agg #[.int .u8 ((n : Int) + 1), .int .u16 (cd : Int)] := rfl
        rw [hwv] at hlk
        clear hkl hwv hCB hMS hMW hor
        cases hsy : symAt l (n + 1) cd with
        | some s =>
          have hg : symG l l.length (n + 1, cd) = some (.int .i64 (s : Int)) := by unfold symG; rw [show symK l l.length (n + 1) cd = some s from hsy]; rfl
          rw [hg] at hlk
          have hlk2 : ∀ nq, (Instr.lookup 193 (.map (some ms)) (.agg #[.int .u8 ((n : Int) + 1), .int .u16 (cd : Int)]) true).run Tryz.prog (w4.drewN nq) = .ok (.tuple #[.int .i64 (s : Int), .bool true]) (w4.drewN nq) := hlk
          have HF := Lib.hid (HGO.out.trans (nextF_hit hq (by rw [HHD.out, HCC.out]; exact hsy)))
          clear hlk hg hsy
          go_quiet (fail)
          rename Nat => nq2
          have hR5 : BRd (w4.drewN nq2) gr b (q + 1) := hR4
          have hG5 := gb_drewN hG4 nq2
          go_wp2
          go_ret2
          exact nextPost_ok HF.out hG5 hR5
        | none =>
          have hg : symG l l.length (n + 1, cd) = none := by unfold symG; rw [show symK l l.length (n + 1) cd = none from hsy]; rfl
          rw [hg] at hlk
          have hlk2 : ∀ nq, (Instr.lookup 193 (.map (some ms)) (.agg #[.int .u8 ((n : Int) + 1), .int .u16 (cd : Int)]) true).run Tryz.prog (w4.drewN nq) = .ok (.tuple #[.int .i64 0, .bool false]) (w4.drewN nq) := hlk
          have HF := Lib.hid (HGO.out.trans (nextF_miss hq (by rw [HHD.out, HCC.out]; exact hsy)))
          have HF2 : Hid (R = nextF l b (mostP l - (n + 1)) (n + 1) cd (q + 1)) := Lib.hid (by rw [HF.out, HHD.out, HCC.out])
          clear hlk hg hsy
          go_quiet (fail)
          rename Nat => nq2
          have hR5 : BRd (w4.drewN nq2) gr b (q + 1) := hR4
          have hG5 := gb_drewN hG4 nq2
          have hC5 : PCd (w4.drewN nq2) lo g l := hC4
          have hB5 : Bk (w4.drewN nq2) gw 199 #[.int .u8 ((n : Int) + 1), .int .u16 (cd : Int)] := hB4
          have HNC : Hid (((n + 1 : Nat) : Int) = (n : Int) + 1) := Lib.hid (by omega)
          go_wp2
          go_roundg (mostP l - (n + 1))
          case rel => exact ⟨n + 1, cd, q + 1, rfl, by omega, HCD.out.1, by rw [HNC.out]; exact hB5, hR5, hC5, hG5, HF2⟩
          case measure => omega
      · have HF := Lib.hid (HGO.out.trans (nextF_short (by omega)))
        go_wp2_with fail
        refine (btake_short gr b q 1 w2 hRd2 (by omega) (by omega)).mono ?_
        rintro e w3 ⟨rfl, hb3⟩
        have hg3 := gb_then hG2 hb3
        go_wp2
        go_ret2
        exact nextPost_err HF.out hg3
    · obtain rfl : n = mostP l := by omega
      have HF : Hid (R = .err 6) := Lib.hid (by rw [hgo.out, Nat.sub_self]; rfl)
      go_wp2
      go_quiet (fail)
      rename_i nq
      have hG2 := gb_drewN hG nq
      go_wp2
      go_ret2
      exact nextPost_err HF.out hG2
end Go.Proofs.YtlmcpkomjofcgaaGreatDoor
namespace Go.Proofs.YtlmcpkomjofcgaaGreatDoor
open Go.RowKit

/-- The state in block gs, its reader in block gr, what is unpacked in a block below B. -/
def ISt (w : World) (gs gr B : Nat) (b : List UInt8) (p lim : Nat) (out : List UInt8) : Prop :=
  ∃ v, Bk w gs 144 #[.pointer (some ⟨gr, 0, none⟩), v, .int .i64 (lim : Int)] ∧ BRd w gr b p ∧ OwB w (gs + 1) 5 v out ∧ (∀ k, v.ownBlock = some k → k < B) ∧ gr < gs ∧ out.length ≤ lim ∧ lim ≤ 32768
theorem OwL.keptAt {α : Type} {f : α → Value} {w w' : World} {base : Nat} {e : TypeId} {v : Value} {l : List α} (h : OwL f w base e v l) {g : Nat} (hg : w.grownBy w' (some g)) (hb : g < base) : OwL f w' base e v l :=
  h.kept hg (by
    rcases hv : v.ownBlock with _ | k
    · exact .inl rfl
    · refine .inr fun e => ?_
      injection e with e
      have := World.ownsRow.lt h k hv
      omega)
/-- The reader has gone on, and there is new memory. -/
theorem ISt.next {w w' : World} {gs gr B p q lim : Nat} {b out : List UInt8} (h : ISt w gs gr B b p lim out) (hg : w.grownBy w' (some gr)) (hR : BRd w' gr b q) : ISt w' gs gr B b q lim out := by
  obtain ⟨v, h1, h2, h3, h4, h5, h6⟩ := h
  exact ⟨v, h1.grown hg (fun e => by injection e; omega), hR, h3.keptAt hg (by omega), h4, h5, h6⟩
theorem ISt.step {w w' : World} {gs gr B p lim : Nat} {b out : List UInt8} (h : ISt w gs gr B b p lim out) (hb : Below w.heap.size w w') : ISt w' gs gr B b p lim out := by
  obtain ⟨v, h1, h2, h3, h4, h5, h6⟩ := h
  exact ⟨v, h1.below hb h1.lt, h2.step hb, h3.below hb, h4, h5, h6⟩
theorem ISt.drewN {w : World} {gs gr B p lim : Nat} {b out : List UInt8} (h : ISt w gs gr B b p lim out) (n : Nat) : ISt (w.drewN n) gs gr B b p lim out := h
theorem ISt.more {w : World} {gs gr B B' p lim : Nat} {b out : List UInt8} (h : ISt w gs gr B b p lim out) (hB : B ≤ B') : ISt w gs gr B' b p lim out := by
  obtain ⟨v, h1, h2, h3, h4, h5⟩ := h
  exact ⟨v, h1, h2, h3, fun k hk => Nat.lt_of_lt_of_le (h4 k hk) hB, h5⟩
theorem ISt.lt {w : World} {gs gr B p lim : Nat} {b out : List UInt8} (h : ISt w gs gr B b p lim out) : gr < gs ∧ gs < w.heap.size := by
  obtain ⟨v, h1, _, _, _, h5, _⟩ := h
  exact ⟨h5, h1.lt⟩
theorem gb_under {w w' : World} {g : Nat} (h : w.grownBy w' (some g)) (hg : g < w.heap.size) : Below g w w' := gb_low h (Nat.le_refl _) hg
/-- What a block's unpacking answers. -/
def IPost (R : Rz (List UInt8 × Nat)) (w : World) (gs gr : Nat) (b : List UInt8) (lim : Nat) (e : Ending) (w' : World) : Prop :=
  Below gr w w' ∧ match R with
    | .ok x => e = .returned (.int .i64 0) ∧ ISt w' gs gr w'.heap.size b x.2 lim x.1
    | .err k => e = .returned (.int .i64 k) ∧ k ≠ 0
theorem iPost_ok {R : Rz (List UInt8 × Nat)} {w w' : World} {gs gr : Nat} {b out : List UInt8} {lim p : Nat} (h : R = .ok (out, p)) (hb : Below gr w w') (hS : ISt w' gs gr w'.heap.size b p lim out) : IPost R w gs gr b lim (.returned (.int .i64 0)) w' := by
  subst h; exact ⟨hb, rfl, hS⟩
theorem iPost_err {R : Rz (List UInt8 × Nat)} {w w' : World} {gs gr : Nat} {b : List UInt8} {lim : Nat} {k : Int} (h : R = .err k) (hb : Below gr w w') (hk : k ≠ 0 := by decide) : IPost R w gs gr b lim (.returned (.int .i64 k)) w' := by
  subst h; exact ⟨hb, rfl, hk⟩
theorem nextF_errs {l : List Nat} {b : List UInt8} : ∀ {f n c p k}, nextF l b f n c p = .err k → k = 2 ∨ k = 6 := by
  intro f
  induction f with
  | zero => intro n c p k h; rw [nextF] at h; injection h with h; exact .inr h.symm
  | succ f ih =>
    intro n c p k h
    rw [nextF] at h
    split at h
    · split at h
      · cases h
      · exact ih h
    · injection h with h; exact .inl h.symm
theorem nextP_errs {l : List Nat} {b : List UInt8} {p : Nat} {k : Int} (h : nextP l b p = .err k) : k = 2 ∨ k = 6 := nextF_errs h
end Go.Proofs.YtlmcpkomjofcgaaGreatDoor
namespace Go.Proofs.YtlmcpkomjofcgaaGreatDoor
open Go.RowKit

theorem drop_take_at {b : List UInt8} {f n k : Nat} (h : f + k < b.length) (hk : k < n) : ((b.drop f).take n)[k]? = some (b.getD (f + k) 0) := by
  rw [List.getElem?_take, if_pos hk, List.getElem?_drop, List.getElem?_eq_getElem h, List.getD_eq_getElem?_getD, List.getElem?_eq_getElem h]; rfl
theorem u16_two (x y : UInt8) : bits .or .u16 (x.toNat : Int) ((y.toNat : Int) * 256) = ((x.toNat + 256 * y.toNat : Nat) : Int) := by
  have hk : ∀ n : Int, 0 ≤ n → n < 2 ^ 16 → IntKind.u16.wrap n = n := fun n h0 h1 => by
    have : IntKind.u16.wrap n = n % 65536 := by simp [IntKind.wrap, IntKind.bits, IntKind.signed]
    rw [this]; omega
  have hx := x.toNat_lt
  have hy := y.toNat_lt
  have e : (y.toNat : Int) * 256 = ((2 ^ 8 * y.toNat : Nat) : Int) := by rw [Int.natCast_mul, Int.mul_comm]; rfl
  rw [e, (bits_nat .u16 16 (by decide) hk x.toNat (2 ^ 8 * y.toNat) (by omega) (by omega)).2, Nat.or_comm, ← Nat.two_pow_add_eq_or_of_lt hx]
  omega
theorem xor_all (m : Nat) (hm : m < 65536) : 65535 ^^^ m = 65535 - m := by
  apply Nat.eq_of_testBit_eq
  intro i
  have e : 65535 - m = 2 ^ 16 - (m + 1) := by omega
  rw [e, Nat.testBit_two_pow_sub_succ hm, Nat.testBit_xor, show (65535 : Nat) = 2 ^ 16 - 1 by decide, Nat.testBit_two_pow_sub_one]
  by_cases h : i < 16
  · simp [h]
  · have : m.testBit i = false := Nat.testBit_lt_two_pow (Nat.lt_of_lt_of_le hm (by
      have : 2 ^ 16 ≤ 2 ^ i := Nat.pow_le_pow_right (by decide) (by omega)
      omega))
    simp [h, this]
theorem u16_not (m : Nat) (hm : m < 65536) : bits .xor .u16 (if IntKind.u16.signed = true then -1 else IntKind.u16.max) (m : Int) = ((65535 - m : Nat) : Int) := by
  rw [← xor_all m hm]
  have hk : ∀ n : Int, 0 ≤ n → n < 2 ^ 16 → IntKind.u16.wrap n = n := fun n h0 h1 => by
    have : IntKind.u16.wrap n = n % 65536 := by simp [IntKind.wrap, IntKind.bits, IntKind.signed]
    rw [this]; omega
  show bits .xor .u16 ((65535 : Nat) : Int) (m : Int) = _
  have h1 : 65535 ^^^ m < 2 ^ 16 := Nat.xor_lt_two_pow (by decide) hm
  simp only [bits, BitVec.ofInt_natCast, BitVec.toNat_xor, BitVec.toNat_ofNat]
  have e1 : 65535 % 2 ^ IntKind.u16.bits = 65535 := by decide
  have e2 : m % 2 ^ IntKind.u16.bits = m := Nat.mod_eq_of_lt hm
  rw [e1, e2]
  exact hk _ (Int.natCast_nonneg _) (by omega)
theorem add_zero (a : Addr) : a.add 0 = a := by unfold Addr.add; simp
set_option maxRecDepth 100000 in
set_option maxHeartbeats 1000000 in
theorem istored_any (gs gr B : Nat) (b : List UInt8) (p lim : Nat) (out : List UInt8) (w : World) (h : ISt w gs gr B b p lim out) :
    Calls Tryz.prog 90 #[.pointer (some ⟨gs, 0, none⟩)] w (IPost (storedP b lim p out) w gs gr b lim) := by
  obtain ⟨R, hRR⟩ : ∃ R, storedP b lim p out = R := ⟨_, rfl⟩
  rw [hRR]
  have HR := bx hRR
  clear hRR
  have hlt := h.lt
  obtain ⟨v, hK, hR, hO, hv, hgs, hol, hlim⟩ := id h
  have hble := hR.le
  obtain ⟨f, hf⟩ : ∃ f, (p + 7) / 8 = f := ⟨_, rfl⟩
  have HFF := bx hf
  have c0 : w.cell? ⟨gs, 0, none⟩ = some (.pointer (some ⟨gr, 0, none⟩)) := (hK.cell 0).trans rfl
  clear hf
  by_cases h4 : b.length < f + 4
  · have HF : Bx (R = .err 2) := bx (by rw [← HR.out, storedP, HFF.out, if_pos h4])
    go_enter Tryz.func90, Tryz.ntmps90
    go_wp2_with fail
    refine (bbytes_short gr b p 4 w hR (by omega) (by rw [HFF.out]; exact h4)).mono ?_
    rintro e w1 ⟨rfl, hb1⟩
    go_wp2
    go_ret
    exact iPost_err HF.out (hb1.mono (by omega))
  · go_enter Tryz.func90, Tryz.ntmps90
    go_wp2_with fail
    refine (bbytes_ok gr b p 4 f w hR (by omega) HFF.out (by omega)).mono ?_
    rintro e w1 ⟨A1, cc1, rfl, hcc1, hr1, hA1, hR1, hg1⟩
    have hS1 := h.next hg1 hR1
    obtain ⟨ad, x0, hA0, hadb, hx0, hc0⟩ := RL.byte hr1 (k := 0) (by simp; omega)
    obtain ⟨ad1, x1, hA1', _, hx1, hc1⟩ := RL.byte hr1 (k := 1) (by simp; omega)
    obtain ⟨ad2, x2, hA2', _, hx2, hc2⟩ := RL.byte hr1 (k := 2) (by simp; omega)
    obtain ⟨ad3, x3, hA3', _, hx3, hc3⟩ := RL.byte hr1 (k := 3) (by simp; omega)
    rw [hA0] at hA1' hA2' hA3' hA1
    injection hA1' with e1
    injection hA2' with e2
    injection hA3' with e3
    subst e1 e2 e3 hA0
    have b0 : byteN b f = x0.toNat := by
      have := drop_take_at (b := b) (f := f) (n := 4) (k := 0) (by omega) (by omega)
      rw [hx0.out] at this; injection this with this; unfold byteN; rw [this]; rfl
    have b1 : byteN b (f + 1) = x1.toNat := by
      have := drop_take_at (b := b) (f := f) (n := 4) (k := 1) (by omega) (by omega)
      rw [hx1.out] at this; injection this with this; unfold byteN; rw [this]
    have b2 : byteN b (f + 2) = x2.toNat := by
      have := drop_take_at (b := b) (f := f) (n := 4) (k := 2) (by omega) (by omega)
      rw [hx2.out] at this; injection this with this; unfold byteN; rw [this]
    have b3 : byteN b (f + 3) = x3.toNat := by
      have := drop_take_at (b := b) (f := f) (n := 4) (k := 3) (by omega) (by omega)
      rw [hx3.out] at this; injection this with this; unfold byteN; rw [this]
    have HR2 : Bx (R = (if x0.toNat + 256 * x1.toNat + (x2.toNat + 256 * x3.toNat) ≠ 65535 then .err 4 else if lim < out.length + (x0.toNat + 256 * x1.toNat) then .err 8
        else if b.length < f + 4 + (x0.toNat + 256 * x1.toNat) then .err 2 else .ok (out ++ (b.drop (f + 4)).take (x0.toNat + 256 * x1.toNat), 8 * (f + 4 + (x0.toNat + 256 * x1.toNat))))) := bx (by
      rw [← HR.out, storedP, HFF.out, if_neg (by omega), b0, b1, b2, b3])
    have hor1 := u16_two x0 x1
    have hor2 := u16_two x2 x3
    have hx08 := x0.toNat_lt
    have hx18 := x1.toNat_lt
    have hx28 := x2.toNat_lt
    have hx38 := x3.toNat_lt
    obtain ⟨n0, hn0⟩ : ∃ n0, x0.toNat + 256 * x1.toNat = n0 := ⟨_, rfl⟩
    obtain ⟨m0, hm0⟩ : ∃ m0, x2.toNat + 256 * x3.toNat = m0 := ⟨_, rfl⟩
    rw [hn0] at HR2 hor1
    rw [hm0] at HR2 hor2
    have hn16 : n0 < 65536 := by omega
    have hm16 : m0 < 65536 := by omega
    have hxor := u16_not m0 hm16
    have hc0' : w1.cell? ad = some (.int .u8 (x0.toNat : Int)) := by rw [add_zero] at hc0; exact hc0
    have hc1' : w1.cell? ⟨ad.block, ad.off + 1, none⟩ = some (.int .u8 (x1.toNat : Int)) := by rw [add_pos] at hc1; exact hc1
    have hc2' : w1.cell? ⟨ad.block, ad.off + 2, none⟩ = some (.int .u8 (x2.toNat : Int)) := by rw [add_pos] at hc2; exact hc2
    have hc3' : w1.cell? ⟨ad.block, ad.off + 3, none⟩ = some (.int .u8 (x3.toNat : Int)) := by rw [add_pos] at hc3; exact hc3
    clear hc0 hc1 hc2 hc3 b0 b1 b2 b3 hn0 hm0
    have hb1 : Below gr w w1 := gb_under hg1 (by have := hR.lt; omega)
    go_wp2
    go_quiet (fail)
    rename Nat => nq1
    have hS1 : ISt (w1.drewN nq1) gs gr B b (8 * (f + 4)) lim out := hS1
    have hb1 : Below gr w (w1.drewN nq1) := below_drewN hb1 nq1
    have hc2' : (w1.drewN nq1).cell? ⟨ad.block, ad.off + 2, none⟩ = some (.int .u8 (x2.toNat : Int)) := hc2'
    have hc3' : (w1.drewN nq1).cell? ⟨ad.block, ad.off + 3, none⟩ = some (.int .u8 (x3.toNat : Int)) := hc3'
    clear hc0' hc1' hr1 hR1 hA1 hg1
    generalize w1.drewN nq1 = w1 at hS1 hb1 hc2' hc3' ⊢
    go_wp2
    go_quiet (fail)
    rename Nat => nq2
    have hS2 := hS1.drewN nq2
    have hb2 : Below gr w (w1.drewN nq2) := below_drewN hb1 nq2
    by_cases hnm : n0 + m0 = 65535
    · have hne : ((n0 : Int) != ((65535 - m0 : Nat) : Int)) = false := by rw [bne_eq_false_iff_eq]; omega
      rw [if_neg (by omega)] at HR2
      obtain ⟨v1, hK1, hRx, hO1, hv1, _⟩ := id hS2
      have d0 : (w1.drewN nq2).cell? ⟨gs, 0, none⟩ = some (.pointer (some ⟨gr, 0, none⟩)) := (hK1.cell 0).trans rfl
      obtain ⟨Av, cv, rfl, hrv, hcv, _⟩ := OwL.rd hO1
      have d1 : (w1.drewN nq2).cell? ⟨gs, 1, none⟩ = some (.slice Av out.length cv) := (hK1.cell 1).trans rfl
      have d2 : (w1.drewN nq2).cell? ⟨gs, 2, none⟩ = some (.int .i64 (lim : Int)) := (hK1.cell 2).trans rfl
      have z1 := hK1.frz 1
      have i1 : IntKind.i64.wrap ((lim : Int) - (out.length : Int)) = (lim : Int) - (out.length : Int) := IntWalk.i64_in _ (by omega)
      have HNM := bx hnm
      clear hnm hor1 hor2 hxor hc2' hc3' c0 hK hR hO hv hS1 hb1
      generalize w1.drewN nq2 = w2 at hK1 hS2 hb2 d0 d1 d2 z1 hRx hO1 hrv ⊢
      go_wp2_with fail
      by_cases hlong : lim < out.length + n0
      · have HF : Bx (R = .err 8) := bx (by rw [HR2.out, if_pos hlong])
        have hgt : (lim : Int) - (out.length : Int) < (n0 : Int) := by omega
        clear HR2
        go_quiet (fail)
        rename Nat => nq3
        go_wp2
        go_ret
        exact iPost_err HF.out (below_drewN hb2 _)
      · have hgt : ¬ (lim : Int) - (out.length : Int) < (n0 : Int) := by omega
        rw [if_neg hlong] at HR2
        go_quiet (fail)
        rename Nat => nq3
        clear i1 hgt
        have hS3 := hS2.drewN nq3
        have hb3 := below_drewN hb2 nq3
        have d0' : (w2.drewN nq3).cell? ⟨gs, 0, none⟩ = some (.pointer (some ⟨gr, 0, none⟩)) := d0
        have d1' : (w2.drewN nq3).cell? ⟨gs, 1, none⟩ = some (.slice Av out.length cv) := d1
        have z1' : (w2.drewN nq3).frozen? ⟨gs, 1, none⟩ = false := z1
        have hO3 := hO1.drewN nq3
        have hR3 : BRd (w2.drewN nq3) gr b (8 * (f + 4)) := hRx
        have hK3 := hK1.drewN nq3
        clear d0 d1 d2 z1 hO1 hRx hS2 hb2 hrv hK1
        generalize w2.drewN nq3 = w3 at hK3 hS3 hb3 d0' d1' z1' hO3 hR3 ⊢
        have hf4 : (8 * (f + 4) + 7) / 8 = f + 4 := by omega
        by_cases hshort : b.length < f + 4 + n0
        · have HF : Bx (R = .err 2) := bx (by rw [HR2.out, if_pos hshort])
          go_wp2_with fail
          refine (bbytes_short gr b (8 * (f + 4)) n0 w3 hR3 (by omega) (by rw [hf4]; exact hshort)).mono ?_
          rintro e w4 ⟨rfl, hb4⟩
          have d1'' : w4.cell? ⟨gs, 1, none⟩ = some (.slice Av out.length cv) := by rw [hb4.cell (by exact hS3.lt.2)]; exact d1'
          have z1'' : w4.frozen? ⟨gs, 1, none⟩ = false := by rw [hb4.frozen (by exact hS3.lt.2)]; exact z1'
          have HB := bx (hb3.trans (hb4.mono (by have := hS3.lt; omega)))
          have hO4 := hO3.below hb4
          have HL : Bx ((out.length + ([] : List UInt8).length) * 1 ≤ 140737488355328) := bx (by simp; omega)
          have hlz : gs + 1 ≤ w4.heap.size := by have := hS3.lt; have := hb4.size; omega
          clear HR2
          go_wp2_with (at_builtin; refine wpList_appL _ bV_one rfl (.tmp 68) (.tmp 69) rfl byteTy (by decide) (gs + 1) _ out rfl hO4 0 none 0 0 [] rfl rfl RL.nil HL.out hlz ?_; intro v5 w5 hO5 hg5 _ hb5; obtain ⟨A5, n5, c5, rfl, _, _⟩ := OwL.sl hO5; have e1 := (hb5.cell (p := ⟨gs, 1, none⟩) (Nat.lt_succ_self gs)).trans d1''; have e2 := (hb5.frozen (p := ⟨gs, 1, none⟩) (Nat.lt_succ_self gs)).trans z1'')
          have HB5 := bx ((HB.out.trans (hb5.mono (by omega))).setCell (p := ⟨gs, 1, none⟩) (by show gr ≤ gs; omega) (.slice A5 n5 c5))
          go_ret
          exact iPost_err HF.out HB5.out
        · have HF : Bx (R = .ok (out ++ (b.drop (f + 4)).take n0, 8 * (f + 4 + n0))) := bx (by rw [HR2.out, if_neg hshort])
          go_wp2_with fail
          refine (bbytes_ok gr b (8 * (f + 4)) n0 (f + 4) w3 hR3 (by omega) hf4 (by omega)).mono ?_
          rintro e w4 ⟨A4, c4, rfl, hcc4, hr4, hA4, hR4, hg4⟩
          have hgs3 := hS3.lt
          have hK4 := hK3.grown hg4 (fun e => by injection e; omega)
          have hO4 := hO3.keptAt hg4 (by omega)
          have hb4 := hb3.trans (gb_under hg4 (by omega))
          have hz4 := hg4.size
          have d1'' : w4.cell? ⟨gs, 1, none⟩ = some (.slice Av out.length cv) := (hK4.cell 1).trans rfl
          have z1'' := hK4.frz 1
          have hlen : ((b.drop (f + 4)).take n0).length = n0 := by simp; omega
          have HL0 := bx hlen
          have HL : Bx ((out.length + ((b.drop (f + 4)).take n0).length) * 1 ≤ 140737488355328) := bx (by rw [hlen]; omega)
          have hlz : gs + 1 ≤ w4.heap.size := by omega
          clear HR2 hlen hK3 hO3 hg4 hR3 d0' d1' z1' hb3
          go_wp2_with (at_builtin; refine wpList_appL _ bV_one rfl (.tmp 68) (.tmp 69) rfl byteTy (by decide) (gs + 1) _ out rfl hO4 w4.heap.size A4 n0 c4 _ rfl HL0.out hr4 HL.out hlz ?_; intro v5 w5 hO5 hg5 _ hb5; obtain ⟨A5, n5, c5, rfl, _, _⟩ := OwL.sl hO5; have e1 := (hb5.cell (p := ⟨gs, 1, none⟩) (Nat.lt_succ_self gs)).trans d1''; have e2 := (hb5.frozen (p := ⟨gs, 1, none⟩) (Nat.lt_succ_self gs)).trans z1'')
          have HB5 := bx ((hb4.trans (hb5.mono (by omega))).setCell (p := ⟨gs, 1, none⟩) (by show gr ≤ gs; omega) (.slice A5 n5 c5))
          have hK5 : Bk (w5.setCell ⟨gs, 1, none⟩ (.slice A5 n5 c5)) gs 144 #[.pointer (some ⟨gr, 0, none⟩), (.slice A5 n5 c5), .int .i64 (lim : Int)] := by
            have := (hK4.below hb5 (by omega)).set 1 (.slice A5 n5 c5)
            simpa using this
          have hR5 : BRd (w5.setCell ⟨gs, 1, none⟩ (.slice A5 n5 c5)) gr b (8 * (f + 4 + n0)) := (hR4.below hb5 (by omega)).keep fun i hi => Below.heap_setCell w5 ⟨gs, 1, none⟩ (.slice A5 n5 c5) i (by show i ≠ gs; omega)
          have hO6 : OwB (w5.setCell ⟨gs, 1, none⟩ (.slice A5 n5 c5)) (gs + 1) 5 (.slice A5 n5 c5) (out ++ (b.drop (f + 4)).take n0) := hO5.agree fun k hk1 _ => Below.heap_setCell w5 ⟨gs, 1, none⟩ (.slice A5 n5 c5) k (by show k ≠ gs; omega)
          have HS : Bx (ISt (w5.setCell ⟨gs, 1, none⟩ (.slice A5 n5 c5)) gs gr (w5.setCell ⟨gs, 1, none⟩ (.slice A5 n5 c5)).heap.size b (8 * (f + 4 + n0)) lim (out ++ (b.drop (f + 4)).take n0)) := bx
            ⟨.slice A5 n5 c5, hK5, hR5, hO6, fun k hk => (World.ownsRow.lt hO6 k hk).2, hgs3.1, by rw [List.length_append, HL0.out]; omega, hlim⟩
          go_ret
          exact iPost_ok HF.out HB5.out HS.out
    · have hne : ((n0 : Int) != ((65535 - m0 : Nat) : Int)) = true := by rw [bne_iff_ne]; omega
      have HF : Bx (R = .err 4) := bx (by rw [HR2.out, if_pos hnm])
      clear HR2 hnm
      go_wp2
      go_ret
      exact iPost_err HF.out hb2
end Go.Proofs.YtlmcpkomjofcgaaGreatDoor
namespace Go.Proofs.YtlmcpkomjofcgaaGreatDoor

theorem tk_cases (b : List UInt8) (p n : Nat) : (∃ v, tk b p n = .ok (v, p + n) ∧ v < 2 ^ n ∧ p + n ≤ 8 * b.length) ∨ (tk b p n = .err 2 ∧ 8 * b.length < p + n) := by
  by_cases h : p + n ≤ 8 * b.length
  · exact .inl ⟨takeN b p n, by rw [tk, if_pos h], takeN_lt b p n, h⟩
  · exact .inr ⟨by rw [tk, if_neg h], by omega⟩
/-- What a told block's lengths are, behind its three numbers. -/
def toldA (b : List UInt8) (x y : Nat) (u : List Nat × Nat) : Rz ((List Nat × List Nat) × Nat) :=
  (allP0 u.1 (x + 257 + (y + 1)) b u.2).bind fun v => if v.1.getD 256 0 = 0 then .err 5 else .ok ((v.1.take (x + 257), v.1.drop (x + 257)), v.2)
def toldC (b : List UInt8) (x y : Nat) (u : List Nat × Nat) : Rz ((List Nat × List Nat) × Nat) := if codeB u.1 false = false then .err 5 else toldA b x y u
def toldG (b : List UInt8) (x y z q : Nat) : Rz ((List Nat × List Nat) × Nat) :=
  if 286 < x + 257 ∨ 30 < y + 1 then .err 5 else (lensF b (ordL.take (z + 4)) (List.replicate 19 0) q).bind (toldC b x y)
theorem told_cases (b : List UInt8) (p : Nat) : (tksF b [5, 5, 4] [] p = .err 2 ∧ toldP b p = .err 2) ∨ ∃ x y z q, tksF b [5, 5, 4] [] p = .ok ([x, y, z], q) ∧ toldP b p = toldG b x y z q ∧ x < 32 ∧ y < 32 ∧ z < 16 ∧ q ≤ 8 * b.length := by
  rcases tk_cases b p 5 with ⟨x, h1, hx, _⟩ | ⟨h1, _⟩
  · rcases tk_cases b (p + 5) 5 with ⟨y, h2, hy, _⟩ | ⟨h2, _⟩
    · rcases tk_cases b (p + 5 + 5) 4 with ⟨z, h3, hz, hq⟩ | ⟨h3, _⟩
      · right
        refine ⟨x, y, z, p + 5 + 5 + 4, ?_, ?_, hx, hy, hz, hq⟩
        · simp only [tksF, h1, Rz.bind, h2, h3, List.nil_append, List.cons_append]
        · simp only [toldP, h1, Rz.bind, h2, h3]; rfl
      · left
        exact ⟨by simp only [tksF, h1, Rz.bind, h2, h3], by simp only [toldP, h1, Rz.bind, h2, h3]⟩
    · left
      exact ⟨by simp only [tksF, h1, Rz.bind, h2], by simp only [toldP, h1, Rz.bind, h2]⟩
  · left
    exact ⟨by simp only [tksF, h1, Rz.bind], by simp only [toldP, h1, Rz.bind]⟩
theorem blk_cases (lim : Nat) (out b : List UInt8) (p : Nat) : (tksF b [1, 2] [] p = .err 2 ∧ blkP lim out b p = .err 2) ∨ ∃ x y q, tksF b [1, 2] [] p = .ok ([x, y], q) ∧ blkP lim out b p = ((bodyP lim out y b q).bind fun z => .ok ((decide (x = 1), z.1), z.2)) ∧ x < 2 ∧ y < 4 ∧ q ≤ 8 * b.length ∧ p < q := by
  rcases tk_cases b p 1 with ⟨x, h1, hx, _⟩ | ⟨h1, _⟩
  · rcases tk_cases b (p + 1) 2 with ⟨y, h2, hy, hq⟩ | ⟨h2, _⟩
    · right
      refine ⟨x, y, p + 1 + 2, ?_, ?_, hx, hy, hq, by omega⟩
      · simp only [tksF, h1, Rz.bind, h2, List.nil_append, List.cons_append]
      · simp only [blkP, h1, Rz.bind, h2]
    · left
      exact ⟨by simp only [tksF, h1, Rz.bind, h2], by simp only [blkP, h1, Rz.bind, h2]⟩
  · left
    exact ⟨by simp only [tksF, h1, Rz.bind], by simp only [blkP, h1, Rz.bind]⟩
theorem lensF_step {b : List UInt8} {ks L : List Nat} {j k q : Nat} (hj : ks[j]? = some k) (hq : q + 3 ≤ 8 * b.length) : lensF b (ks.drop j) L q = lensF b (ks.drop (j + 1)) (L.set k (takeN b q 3)) (q + 3) := by
  have hjl : j < ks.length := by
    rcases Nat.lt_or_ge j ks.length with h | h
    · exact h
    · rw [List.getElem?_eq_none h] at hj; cases hj
  rw [List.getElem?_eq_getElem hjl] at hj
  injection hj with hj
  rw [List.drop_eq_getElem_cons hjl, lensF, hj, tk, if_pos hq]; rfl
theorem lensF_short {b : List UInt8} {ks L : List Nat} {j k q : Nat} (hj : ks[j]? = some k) (hq : 8 * b.length < q + 3) : lensF b (ks.drop j) L q = .err 2 := by
  have hjl : j < ks.length := by
    rcases Nat.lt_or_ge j ks.length with h | h
    · exact h
    · rw [List.getElem?_eq_none h] at hj; cases hj
  rw [List.getElem?_eq_getElem hjl] at hj
  injection hj with hj
  rw [List.drop_eq_getElem_cons hjl, lensF, hj, tk, if_neg (by omega)]; rfl
theorem ordL_at {z j : Nat} (hz : z < 16) (hj : j < z + 4) : (ordL.take (z + 4))[j]? = some (ordL.getD j 0) ∧ ordL.getD j 0 < 19 := by
  have hl : j < 19 := by omega
  have h1 : ∀ j, j < 19 → ordL[j]? = some (ordL.getD j 0) ∧ ordL.getD j 0 < 19 := by decide
  rw [List.getElem?_take, if_pos hj]
  exact h1 j hl
theorem ordL_len {z : Nat} (hz : z < 16) : (ordL.take (z + 4)).length = z + 4 := by
  rw [List.length_take]
  have : ordL.length = 19 := rfl
  omega
theorem symAt_lt {l : List Nat} {n c s : Nat} (h : symAt l n c = some s) : s < l.length := by
  unfold symAt symK at h
  split at h
  · cases h
  · split at h
    · have := List.mem_of_getElem? h
      unfold symsP at this
      rw [List.mem_filter] at this
      simpa using this.1
    · cases h
theorem nextF_lt {l : List Nat} {b : List UInt8} : ∀ {f n c p s q}, nextF l b f n c p = .ok (s, q) → s < l.length := by
  intro f
  induction f with
  | zero => intro n c p s q h; rw [nextF] at h; cases h
  | succ f ih =>
    intro n c p s q h
    rw [nextF] at h
    split at h
    · split at h
      · rename_i hs
        injection h with h
        injection h with h1 h2
        subst h1
        exact symAt_lt hs
      · exact ih h
    · cases h
theorem nextP_lt {l : List Nat} {b : List UInt8} {p s q : Nat} (h : nextP l b p = .ok (s, q)) : s < l.length := nextF_lt h
/-- One run of lengths. -/
theorem allF_full {lens : List Nat} {b : List UInt8} {total f p : Nat} {all : List Nat} (h : total ≤ all.length) : allF lens b total (f + 1) p all = .ok (all, p) := by rw [allF, if_pos h]
theorem allF_err {lens : List Nat} {b : List UInt8} {total f p : Nat} {all : List Nat} {k : Int} (h : all.length < total) (hN : nextP lens b p = .err k) : allF lens b total (f + 1) p all = .err k := by rw [allF, if_neg (by omega), hN]; rfl
theorem allF_ok {lens : List Nat} {b : List UInt8} {total f p s q : Nat} {all : List Nat} (h : all.length < total) (hN : nextP lens b p = .ok (s, q)) : allF lens b total (f + 1) p all = if s = 16 ∧ all = [] then .err 6
      else (tk b q (runP s all).2.2).bind fun y => if total < all.length + ((runP s all).2.1 + y.1) then .err 6
        else allF lens b total f y.2 (all ++ List.replicate ((runP s all).2.1 + y.1) (runP s all).1) := by rw [allF, if_neg (by omega), hN]; rfl
theorem runP_bd {s : Nat} {all : List Nat} (hs : s < 19) (ha : ∀ x ∈ all, x ≤ 15) (hne : ¬ (s = 16 ∧ all = [])) : (runP s all).1 ≤ 15 ∧ (runP s all).2.1 ≤ 11 ∧ 1 ≤ (runP s all).2.1 ∧ (runP s all).2.2 ≤ 7 := by
  unfold runP
  split
  · rename_i h
    refine ⟨?_, by show 3 ≤ 11; omega, by show 1 ≤ 3; omega, by show 2 ≤ 7; omega⟩
    have hn : all ≠ [] := fun e => hne ⟨h, e⟩
    show all.getLastD 0 ≤ 15
    rw [List.getLastD_eq_getLast?, List.getLast?_eq_some_getLast hn]
    exact ha _ (List.getLast_mem hn)
  · split
    · exact ⟨by show 0 ≤ 15; omega, by show 3 ≤ 11; omega, by show 1 ≤ 3; omega, by show 3 ≤ 7; omega⟩
    · split
      · exact ⟨by show 0 ≤ 15; omega, by show 11 ≤ 11; omega, by show 1 ≤ 11; omega, by show 7 ≤ 7; omega⟩
      · exact ⟨by show s ≤ 15; omega, by show 1 ≤ 11; omega, by show 1 ≤ 1; omega, by show 0 ≤ 7; omega⟩
end Go.Proofs.YtlmcpkomjofcgaaGreatDoor
