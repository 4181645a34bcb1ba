/- The walk of OctetBack. -/
import Derived.Test.YtfbmocpkfaiddaaOctF
import Derived.Test.YtfbmocpkfaiddaaOctD
import Derived.Test.YtfbmocpkfaiddaaOctW2
namespace Go.Proofs.Ytfbmocpkfaiddaa
open Go.RowKit

theorem leN_snoc (l : List UInt8) (x : UInt8) : leN (l ++ [x]) = leN l + 256 ^ l.length * x.toNat := by
  induction l with
  | nil => simp [leN]
  | cons y r ih =>
    simp only [List.cons_append, leN, ih, List.length_cons, Nat.pow_succ]
    rw [Nat.mul_add, Nat.mul_comm (256 ^ r.length) 256, Nat.mul_assoc]; omega
theorem leB_succ (k : Nat) (v : Int) : leB (k + 1) v = leB k v ++ [UInt8.ofNat ((v % 18446744073709551616).toNat / 256 ^ k)] := by
  simp [leB, List.range_succ]
theorem leN_leB (k : Nat) (v : Int) : leN (leB k v) = (v % 18446744073709551616).toNat % 256 ^ k := by
  induction k with
  | zero => simp [leB, leN, Nat.mod_one]
  | succ k ih =>
    rw [leB_succ, leN_snoc, ih, leB_len, UInt8.toNat_ofNat', Nat.mod_pow_succ (b := 256) (k := k)]
theorem back_eight (v : Int) (h1 : -9223372036854775808 ≤ v) (h2 : v ≤ 9223372036854775807) : wrap64 (leN (leB 8 v) : Int) = v := by
  rw [leN_leB, show 256 ^ 8 = 18446744073709551616 from rfl]
  unfold wrap64
  omega
theorem and_low (v : Int) (j : Nat) (hj : j ≤ 62) : bits .and .i64 v (2 ^ j - 1) = v % 2 ^ j := by
  have hp : (2 : Int) ^ j = ((2 ^ j : Nat) : Int) := by simp
  have hle : 2 ^ j ≤ 2 ^ 62 := Nat.pow_le_pow_right (by omega) hj
  have hpos : 0 < 2 ^ j := Nat.pow_pos (by omega)
  have hb : (2 : Int) ^ j - 1 = ((2 ^ j - 1 : Nat) : Int) := by rw [hp]; omega
  show IntKind.i64.wrap ((BitVec.ofInt 64 v &&& BitVec.ofInt 64 (2 ^ j - 1)).toNat : Int) = _
  rw [hb, BitVec.toNat_and, BitVec.ofInt_natCast, BitVec.toNat_ofNat, Nat.mod_eq_of_lt (by omega : 2 ^ j - 1 < 2 ^ 64), Nat.and_two_pow_sub_one_eq_mod, BitVec.toNat_ofInt, IntKind.wrap_i64, hp]
  have hdvd : ((2 ^ j : Nat) : Int) ∣ ((2 ^ 64 : Nat) : Int) := Int.natCast_dvd_natCast.2 (Nat.pow_dvd_pow 2 (by omega))
  have e1 : (((v % ((2 ^ 64 : Nat) : Int)).toNat % 2 ^ j : Nat) : Int) = v % ((2 ^ j : Nat) : Int) := by
    rw [Int.natCast_emod, Int.toNat_of_nonneg (Int.emod_nonneg _ (by decide)), Int.emod_emod_of_dvd _ hdvd]
  rw [e1]
  have h0 : 0 ≤ v % ((2 ^ j : Nat) : Int) := Int.emod_nonneg _ (by omega)
  have h1 : v % ((2 ^ j : Nat) : Int) < ((2 ^ j : Nat) : Int) := Int.emod_lt_of_pos _ (by omega)
  omega
theorem back_less (v : Int) (k : Nat) (hk : k < 8) : wrap64 (leN (leB k v) : Int) = v % 2 ^ (8 * k) := by
  rw [leN_leB]
  have hp : (2 : Int) ^ (8 * k) = ((256 ^ k : Nat) : Int) := by
    rw [show 256 = 2 ^ 8 from rfl, ← Nat.pow_mul]; simp
  rw [hp]
  have hle : 256 ^ k ≤ 256 ^ 7 := pow_mono (by omega)
  rw [pow7] at hle
  have hpos : 0 < 256 ^ k := Nat.pow_pos (by omega)
  have hdvd : ((256 ^ k : Nat) : Int) ∣ 18446744073709551616 := by
    have : 256 ^ k ∣ 256 ^ 8 := Nat.pow_dvd_pow 256 (by omega)
    have := Int.natCast_dvd_natCast.2 this
    rwa [pow8] at this
  have e1 : (((v % 18446744073709551616).toNat % 256 ^ k : Nat) : Int) = v % ((256 ^ k : Nat) : Int) := by
    rw [Int.natCast_emod, Int.toNat_of_nonneg (Int.emod_nonneg _ (by decide)), Int.emod_emod_of_dvd _ hdvd]
  rw [e1]
  have h0 : 0 ≤ v % ((256 ^ k : Nat) : Int) := Int.emod_nonneg _ (by omega)
  have h1 : v % ((256 ^ k : Nat) : Int) < ((256 ^ k : Nat) : Int) := Int.emod_lt_of_pos _ (by omega)
  unfold wrap64
  omega
theorem back_mask (v : Int) (k : Nat) (hk : k < 8) : wrap64 (leN (leB k v) : Int) = bits .and .i64 v (wrap64 (wrap64 (2 ^ (8 * k)) - 1)) := by
  have hp : (2 : Int) ^ (8 * k) = ((2 ^ (8 * k) : Nat) : Int) := by simp
  have hle : 2 ^ (8 * k) ≤ 2 ^ 56 := Nat.pow_le_pow_right (by omega) (by omega)
  have hpos : 0 < 2 ^ (8 * k) := Nat.pow_pos (by omega)
  have e1 : wrap64 (2 ^ (8 * k)) = 2 ^ (8 * k) := by rw [hp]; exact IntWalk.wrap64_in _ (by omega)
  have e2 : wrap64 ((2 : Int) ^ (8 * k) - 1) = 2 ^ (8 * k) - 1 := by rw [hp]; exact IntWalk.wrap64_in _ (by omega)
  rw [e1, e2, and_low v (8 * k) (by omega), back_less v k hk]
theorem mid_seg (a s b : List UInt8) : ((a ++ (s ++ b)).drop a.length).take s.length = s := by simp

set_option maxRecDepth 100000 in
set_option maxHeartbeats 2000000 in
theorem octetBack_k (w : World) (A0 : Option Addr) (n0 c0 : Nat) (l0 : List UInt8) (e0 : l0.length = n0) (r0 : RB w w.heap.size A0 l0) (b0 : n0 ≤ 1048576)
    (v : Int) (hv : -9223372036854775808 ≤ v) (hv2 : v ≤ 9223372036854775807) (u : Int) (hu1 : 0 ≤ u) (hu2 : u ≤ 255)
    (A3 : Option Addr) (n3 c3 : Nat) (l3 : List UInt8) (e3 : l3.length = n3) (r3 : RB w w.heap.size A3 l3) (b3 : n3 ≤ 1048576) :
    Calls Try.prog 5 #[.slice A0 n0 c0, .int .i64 v, .int .u8 u, .slice A3 n3 c3] w fun e w' => e = .returned (.bool true) ∧ Below w.heap.size w w' := by
  subst e0
  subst e3
  go_enter Try.func5, Try.ntmps5
  go_wp2_with fail
  refine (fixed_any _).mono ?_
  rintro e w1 ⟨rfl, hb1⟩
  have R0 := r0.step hb1
  have R3 := r3.step hb1
  obtain ⟨k, hk⟩ : ∃ k : Nat, (k : Int) = 1 + u % 8 := ⟨(1 + u % 8).toNat, by omega⟩
  have k1 : 1 ≤ k := by omega
  have k2 : k ≤ 8 := by omega
  have HK := Lib.hid hk
  clear r0 r3 hk
  go_wp2_with fail
  rw [← HK.out]
  refine (putLittle_ok k v _ k1 k2).mono ?_
  rintro e w2 ⟨r, rfl, oa, hb2⟩
  have hz1 := hb1.size
  have R0 := R0.step hb2
  have R3 := R3.step hb2
  have hb2 := hb1.trans (hb2.mono hb1.size)
  have hz2 := hb2.size
  obtain ⟨ga, ca, rfl, la1, la2⟩ := oa.at1 (by rw [leB_len]; omega)
  rw [leB_len]
  go_wp2_with fail
  refine (putBig_ok k v _ k1 k2).mono ?_
  rintro e w3 ⟨r, rfl, ob, hb3⟩
  have RA := oa.rl.step hb3
  have R0 := R0.step hb3
  have R3 := R3.step hb3
  have hb3 := hb2.trans (hb3.mono hb2.size)
  obtain ⟨gb, cb, rfl, lb1, lb2⟩ := ob.at1 (by simp [leB_len]; omega)
  have RB' := ob.rl
  have hz3 := hb3.size
  simp only [List.length_reverse, leB_len]
  clear hb1 hb2 oa ob la1 la2 lb1 lb2 hz1 hz2
  go_wp2_with (at_builtin; refine wpList_appL _ bV_one rfl (.tmp 30) (.tmp 31) rfl byteTy (by decide) w3.heap.size _ [] rfl ?pa w3.heap.size _ _ _ l0 rfl ?pb ?pc ?pd ?pe ?_)
  case pa => exact OwL.lit0 w3 (Nat.le_refl _)
  case pb => rfl
  case pc => exact R0.alloc (Nat.le_refl _) _
  case pd => simp; omega
  case pe => simp
  intro v1 x1 o1 _ _ hx1
  have hx1 := (bl_alloc (Below.refl w3.heap.size w3) (Nat.le_refl _) (.cells #[] 5)).trans hx1
  have hs1 := hx1.size
  go_wp2_with (at_builtin; refine wpList_appL _ bV_one rfl (.tmp 32) (.tmp 33) rfl byteTy (by decide) w3.heap.size _ _ rfl o1 w3.heap.size _ _ _ (leB k v) rfl ?pf (RA.below hx1 (Nat.le_refl _)) ?pg hs1 ?_)
  case pf => simp [leB_len]
  case pg => simp [leB_len]; omega
  intro v2 x2 o2 _ _ hx2
  have hx2 := hx1.trans hx2
  have hs2 := hx2.size
  go_wp2_with (at_builtin; refine wpList_appL _ bV_one rfl (.tmp 34) (.tmp 35) rfl byteTy (by decide) w3.heap.size _ _ rfl o2 w3.heap.size _ _ _ l3 rfl ?ph (R3.below hx2 (Nat.le_refl _)) ?pi hs2 ?_)
  case ph => rfl
  case pi => simp [leB_len]; omega
  intro v3 x3 o3 _ _ hx3
  have hx3 := hx2.trans hx3
  obtain ⟨A, c, rfl, hr, hc⟩ := o3.rd
  have hlen : (l0 ++ (leB k v ++ l3)).length = l0.length + k + l3.length := by simp [leB_len]; omega
  have HLEN := Lib.hid hlen
  have R0 := R0.below hx3 (Nat.le_refl _)
  clear o1 o2 o3 hx1 hx2 hs1 hs2 hlen
  go_wp2_with fail
  refine (little_ok A c l0.length k _ (l0 ++ (leB k v ++ l3)) _ (by simp) (by rw [HLEN.out]; omega) k1 k2 (by rw [HLEN.out]; omega) hr).mono ?_
  rintro e z ⟨rfl, rfl⟩
  have hseg : ((l0 ++ (leB k v ++ l3)).drop l0.length).take k = leB k v := by
    have h1 := mid_seg l0 (leB k v) l3
    rw [leB_len] at h1
    exact h1
  rw [hseg]
  clear hseg
  have RB2 := RB'.below hx3 (Nat.le_refl _)
  have R3 := R3.below hx3 (Nat.le_refl _)
  have R0 := R0.top
  have R3 := R3.top
  have RB2 := RB2.top
  have hb4 := hb3.trans (hx3.mono hz3)
  clear hr hc hx3 hb3 HLEN
  go_wp2_with (at_builtin; refine wpList_appL _ bV_one rfl (.tmp 44) (.tmp 45) rfl byteTy (by decide) x3.heap.size _ [] rfl ?qa x3.heap.size _ _ _ l0 rfl ?qb ?qc ?qd ?qe ?_)
  case qa => exact OwL.lit0 x3 (Nat.le_refl _)
  case qb => rfl
  case qc => exact R0.alloc (Nat.le_refl _) _
  case qd => simp; omega
  case qe => simp
  intro v1 y1 o1 _ _ hy1
  have hy1 := (bl_alloc (Below.refl x3.heap.size x3) (Nat.le_refl _) (.cells #[] 5)).trans hy1
  have ht1 := hy1.size
  go_wp2_with (at_builtin; refine wpList_appL _ bV_one rfl (.tmp 46) (.tmp 47) rfl byteTy (by decide) x3.heap.size _ _ rfl o1 x3.heap.size _ _ _ (leB k v).reverse rfl ?qf (RB2.below hy1 (Nat.le_refl _)) ?qg ht1 ?_)
  case qf => simp [leB_len]
  case qg => simp [leB_len]; omega
  intro v2 y2 o2 _ _ hy2
  have hy2 := hy1.trans hy2
  have ht2 := hy2.size
  go_wp2_with (at_builtin; refine wpList_appL _ bV_one rfl (.tmp 48) (.tmp 49) rfl byteTy (by decide) x3.heap.size _ _ rfl o2 x3.heap.size _ _ _ l3 rfl ?qh (R3.below hy2 (Nat.le_refl _)) ?qi ht2 ?_)
  case qh => rfl
  case qi => simp [leB_len]; omega
  intro v3 y3 o3 _ _ hy3
  have hy3 := hy2.trans hy3
  obtain ⟨A2, c2, rfl, hr2, hc2⟩ := o3.rd
  have hlen2 : (l0 ++ ((leB k v).reverse ++ l3)).length = l0.length + k + l3.length := by simp [leB_len]; omega
  have HLEN2 := Lib.hid hlen2
  have R0 := R0.below hy3 (Nat.le_refl _)
  clear o1 o2 o3 hy1 hy2 ht1 ht2 hlen2
  go_wp2_with fail
  refine (big_ok A2 c2 l0.length k _ (l0 ++ ((leB k v).reverse ++ l3)) _ (by simp) (by rw [HLEN2.out]; omega) (by have := hc2.1; simpa using this) hc2.2 k1 k2 (by rw [HLEN2.out]; omega) hr2).mono ?_
  rintro e z2 ⟨rfl, rfl⟩
  have hseg : beN (((l0 ++ ((leB k v).reverse ++ l3)).drop l0.length).take k) = leN (leB k v) := by
    have h1 := mid_seg l0 (leB k v).reverse l3
    rw [List.length_reverse, leB_len] at h1
    rw [h1, beN_eq, List.reverse_reverse]
  rw [hseg]
  clear hseg
  have hb5 := hb4.trans (hy3.mono hb4.size)
  by_cases k8 : k = 8
  · subst k8
    rw [back_eight v hv hv2]
    go_wp2
    go_ret
    exact ⟨rfl, hb5⟩
  · have k7 : k < 8 := by omega
    rw [back_mask v k k7]
    clear k8
    go_wp2
    go_ret
    exact ⟨rfl, hb5⟩
theorem octetBack_walk (w : World) (A0 : Option Addr) (n0 c0 : Nat) (l0 : List UInt8) (e0 : l0.length = n0) (_hc0 : n0 ≤ c0) (_hm0 : (c0 : Int) ≤ 9223372036854775807) (r0 : RB w w.heap.size A0 l0) (b0 : n0 ≤ 1048576)
    (v : Int) (hv : -9223372036854775808 ≤ v ∧ v ≤ 9223372036854775807) (u : Int) (hu : 0 ≤ u ∧ u ≤ 255)
    (A3 : Option Addr) (n3 c3 : Nat) (l3 : List UInt8) (e3 : l3.length = n3) (_hc3 : n3 ≤ c3) (_hm3 : (c3 : Int) ≤ 9223372036854775807) (r3 : RB w w.heap.size A3 l3) (b3 : n3 ≤ 1048576) :
    Calls Try.prog 5 #[.slice A0 n0 c0, .int .i64 v, .int .u8 u, .slice A3 n3 c3] w fun e w' => e = .returned (.bool true) ∧ Below w.heap.size w w' :=
  octetBack_k w A0 n0 c0 l0 e0 r0 b0 v hv.1 hv.2 u hu.1 hu.2 A3 n3 c3 l3 e3 r3 b3
end Go.Proofs.Ytfbmocpkfaiddaa
