/- Contracts: the document's sum (samovarref03). Contracts: sum.Add. Contracts: sum.New. Contracts: sum.Of of one part. -/
import Derived.Test.YtlmcpkomjofcgaaGreatDoorPv7
import Derived.Test.YtlmcpkomjofcgaaGreatDoorPv3
import Derived.Deep.DeepCutAuto
import Derived.Test.YtlmcpkomjofcgaaGreatDoorPv6
namespace Go.Proofs.YtlmcpkomjofcgaaGreatDoor
open Go.RowKit
theorem bitS_even {x : Nat} (h : x % 2 = 0) : bitS x = x / 2 := by rw [bitS, if_neg (by omega)]
theorem bitS_odd {x : Nat} (h : x % 2 = 1) (hx : x < 4294967296) : bits .xor .u32 ((x : Int) / 2) 3988292384 = (bitS x : Int) := by
  have := xor32 (x / 2) 3988292384 (by omega) (by decide)
  rw [bitS, if_pos h]
  exact this
theorem bitsS_next {x k R : Nat} (h : bitsS (8 - k) x = R) (hk : k < 8) : bitsS (8 - (k + 1)) (bitS x) = R := by
  rw [show 8 - k = (8 - (k + 1)) + 1 by omega, bitsS] at h
  exact h
set_option maxHeartbeats 2000000 in
theorem rstep_any (r : Nat) (hr : r < 4294967296) (c : UInt8) (w : World) :
    Calls Tryz.prog 83 #[.int .u32 (r : Int), .int .u8 (c.toNat : Int)] w fun e w' => e = .returned (.int .u32 (byteS r c.toNat : Int)) ∧ w' = w := by
  have hc := c.toNat_lt
  obtain ⟨n, hn⟩ : ∃ n, c.toNat = n := ⟨_, rfl⟩
  rw [hn] at hc ⊢
  obtain ⟨R, hR⟩ : ∃ R, byteS r n = R := ⟨_, rfl⟩
  have x0 := xor32 r n hr (by omega)
  obtain ⟨y, hy⟩ : ∃ y, r ^^^ n = y := ⟨_, rfl⟩
  rw [hy] at x0
  have hyl : y < 4294967296 := by rw [← hy]; exact Nat.xor_lt_two_pow (n := 32) hr (by omega)
  have HY := bx hyl
  have HS : Bx (bitsS 8 y = R) := bx (by rw [← hy]; exact hR)
  rw [hR]
  clear hn hR hy
  go_enter Tryz.func83, Tryz.ntmps83
  go_wp2_with fail
  go_loopw [0, 5] (fun v0 v5 wx => ∃ k x : Nat, k ≤ 8 ∧ v5 = .int .i64 (k : Int) ∧ v0 = .int .u32 (x : Int) ∧ Bx (x < 4294967296) ∧ Bx (bitsS (8 - k) x = R) ∧ w = wx) (fun _ v5 _ => 8 - (intOf v5).toNat)
  case atStart => exact ⟨0, y, by omega, rfl, rfl, HY, HS, rfl⟩
  case round =>
    obtain ⟨k, x, hk, rfl, rfl, hx, hs, rfl⟩ := hrel
    have hxl := hx.out
    by_cases hk8 : k < 8
    · have t0 : (k : Int) < 8 := by omega
      have HN := bx (bitsS_next hs.out hk8)
      have HL := bx (bitS_lt hxl)
      rcases (by omega : x % 2 = 0 ∨ x % 2 = 1) with e | e
      · have q1 : ((x : Int) % 2 == 1) = false := by rw [beq_eq_false_iff_ne]; omega
        have HV := bx (bitS_even e)
        clear e
        go_wp2
        go_roundw
        case rel => exact ⟨k + 1, bitS x, by omega, by go_num, congrArg (Value.int .u32) (by rw [HV.out]; omega), HL, HN, trivial⟩
        case measure => simp [intOf]; omega
      · have q1 : ((x : Int) % 2 == 1) = true := by rw [beq_iff_eq]; omega
        have HV := bx (bitS_odd e hxl)
        have q2 := HV.out
        clear e
        go_wp2
        go_roundw
        case rel => exact ⟨k + 1, bitS x, by omega, by go_num, rfl, HL, HN, trivial⟩
        case measure => simp [intOf]; omega
    · have t0 : ¬ (k : Int) < 8 := by omega
      have hxR : x = R := by
        have := hs.out
        rw [show 8 - k = 0 by omega] at this
        exact this
      subst hxR
      go_wp2
      go_ret
      exact ⟨rfl, rfl⟩
theorem crcF_take {l : List UInt8} {k : Nat} {x : UInt8} (h : l[k]? = some x) (r : Nat) : crcF r (l.take (k + 1)) = byteS (crcF r (l.take k)) x.toNat := by
  obtain ⟨hk, hx⟩ := List.getElem?_eq_some_iff.1 h
  rw [List.take_succ_eq_append_getElem hk, hx, crcF_snoc]
set_option maxHeartbeats 2000000 in
theorem radd_any (A : Option Addr) (n c : Nat) (l : List UInt8) (w : World) (hn : l.length = n) (hz : n ≤ 140737488351232) (hr : RB w w.heap.size A l) :
    Calls Tryz.prog 62 #[.int .i64 0, .slice A n c] w fun e w' => e = .returned (.int .i64 (crcA 0 l : Int)) ∧ w' = w := by
  have HR := bx hr
  have HE := bx hn
  obtain ⟨R, hR⟩ : ∃ R, crcA 0 l = R := ⟨_, rfl⟩
  have HRR : Bx (4294967295 - crcF 4294967295 l = R) := bx hR
  rw [hR]
  clear hr hn hR
  have H0 : Bx (4294967295 = crcF 4294967295 (l.take 0)) := bx rfl
  go_enter Tryz.func62, Tryz.ntmps62
  go_wp2_with fail
  go_loopw [5, 6] (fun v5 v6 wx => ∃ k x : Nat, k ≤ n ∧ v6 = .int .i64 (k : Int) ∧ v5 = .int .u32 (x : Int) ∧ Bx (x = crcF 4294967295 (l.take k)) ∧ w = wx) (fun _ v6 _ => n - (intOf v6).toNat)
  case atStart => exact ⟨0, 4294967295, by omega, rfl, rfl, H0, rfl⟩
  case round =>
    obtain ⟨k, x, hk, rfl, rfl, hx, rfl⟩ := hrel
    have hxl : x < 4294967296 := by rw [hx.out]; exact crcF_lt _ _ (by decide)
    by_cases hkn : k < n
    · have t0 : (k : Int) < (n : Int) := by omega
      obtain ⟨ad, x0, hA, _, hx0, c0⟩ := HR.out.byte (k := k) (by rw [HE.out]; exact hkn)
      subst hA
      have HN := bx (crcF_take hx0.out 4294967295)
      rw [← hx.out] at HN
      clear hx0
      go_wp2_with fail
      refine (rstep_any x hxl x0 w).mono ?_
      rintro e w1 ⟨rfl, rfl⟩
      go_wp2
      go_roundw
      case rel => exact ⟨k + 1, byteS x x0.toNat, by omega, by go_num, rfl, bx HN.out.symm, trivial⟩
      case measure => simp [intOf]; omega
    · have t0 : ¬ (k : Int) < (n : Int) := by omega
      have hxR : 4294967295 - x = R := by
        have := HRR.out
        have h2 := hx.out
        rw [show k = l.length by rw [HE.out]; omega, List.take_length] at h2
        rw [h2]; exact this
      have f1 : bits .xor .u32 IntKind.u32.max (x : Int) = (R : Int) := by
        have := flip32 x hxl
        rw [hxR] at this
        exact this
      have hRl : R < 4294967296 := by omega
      go_wp2
      go_ret
      exact ⟨rfl, rfl⟩
theorem rsum_any (A : Option Addr) (n c : Nat) (l : List UInt8) (w : World) (hn : l.length = n) (hz : n ≤ 140737488351232) (hr : RB w w.heap.size A l) :
    Calls Tryz.prog 42 #[.slice A n c] w fun e w' => e = .returned (.int .i64 (crcA 0 l : Int)) ∧ w' = w := by
  have HR := bx (radd_any A n c l w hn hz hr)
  clear hr hn
  go_enter Tryz.func42, Tryz.ntmps42
  go_wp2_with fail
  refine HR.out.mono ?_
  rintro e w1 ⟨rfl, rfl⟩
  go_wp2
  go_ret
  exact ⟨rfl, rfl⟩
end Go.Proofs.YtlmcpkomjofcgaaGreatDoor
namespace Go.Proofs.YtlmcpkomjofcgaaGreatDoor
open Go.RowKit
theorem xor8 (a b : Nat) (ha : a < 256) (hb : b < 256) : bits .xor .u8 (a : Int) (b : Int) = ((a ^^^ b : Nat) : Int) := by
  have ha' : a % 2 ^ 8 = a := Nat.mod_eq_of_lt ha
  have hb' : b % 2 ^ 8 = b := Nat.mod_eq_of_lt hb
  have hx : a ^^^ b < 256 := Nat.xor_lt_two_pow (n := 8) ha hb
  simp only [bits, BitVec.ofInt_natCast, BitVec.toNat_xor, BitVec.toNat_ofNat, show IntKind.u8.bits = 8 from rfl, ha', hb']
  exact wraps_u8 _ (Int.natCast_nonneg _) (by omega)
theorem tab_step (x c : Nat) (hx : x < 4294967296) (hc : c < 256) : bits .xor .u32 (tabS ((x % 256) ^^^ c) : Int) ((x : Int) / 256) = (byteS x c : Int) := by
  have hj : (x % 256) ^^^ c < 256 := Nat.xor_lt_two_pow (n := 8) (by omega) (by omega)
  have := xor32 (tabS ((x % 256) ^^^ c)) (x / 256) (tabS_lt hj) (by omega)
  rw [← byteS_tab] at this
  exact this
/-- The table in memory. -/
structure TabR (w : World) (g : Nat) : Prop where
  cell : ∀ j, j < 256 → w.cell? ⟨g, j, none⟩ = some (.int .u32 (tabS j : Int))
set_option maxHeartbeats 2000000 in
theorem add_any (g : Nat) (s : Nat) (hs : s < 4294967296) (A : Option Addr) (n c : Nat) (l : List UInt8) (w : World) (hn : l.length = n) (hz : n ≤ 140737488351232) (hr : RB w w.heap.size A l) (ht : TabR w g) :
    Calls Tryz.prog 76 #[.pointer (some ⟨g, 0, none⟩), .int .i64 (s : Int), .slice A n c] w fun e w' => e = .returned (.int .i64 (crcA s l : Int)) ∧ w' = w := by
  have HR := bx hr
  have HE := bx hn
  have HT := bx ht
  obtain ⟨R, hR⟩ : ∃ R, crcA s l = R := ⟨_, rfl⟩
  obtain ⟨z, hzz⟩ : ∃ z, 4294967295 - s = z := ⟨_, rfl⟩
  have f0 : bits .xor .u32 IntKind.u32.max (s : Int) = (z : Int) := by
    have := flip32 s hs
    rw [hzz] at this
    exact this
  have HRR : Bx (4294967295 - crcF z l = R) := bx (by rw [← hzz]; exact hR)
  have h32 : IntKind.u32.wrap (s : Int) = (s : Int) := wraps_u32S _ (by omega) (by omega)
  have HZ : Bx (z < 4294967296) := bx (by omega)
  rw [hR]
  clear hr hn hR ht hzz
  have H0 : Bx (z = crcF z (l.take 0)) := bx rfl
  go_enter Tryz.func76, Tryz.ntmps76
  go_wp2_with fail
  go_loopw [7, 17] (fun v5 v6 wx => ∃ k x : Nat, k ≤ n ∧ v6 = .int .i64 (k : Int) ∧ v5 = .int .u32 (x : Int) ∧ Bx (x = crcF z (l.take k)) ∧ w = wx) (fun _ v6 _ => n - (intOf v6).toNat)
  case atStart => exact ⟨0, z, by omega, rfl, rfl, H0, rfl⟩
  case round =>
    obtain ⟨k, x, hk, rfl, rfl, hx, rfl⟩ := hrel
    have hxl : x < 4294967296 := by rw [hx.out]; exact crcF_lt _ _ HZ.out
    by_cases hkn : k < n
    · have t0 : (k : Int) < (n : Int) := by omega
      obtain ⟨ad, x0, hA, _, hx0, c0⟩ := HR.out.byte (k := k) (by rw [HE.out]; exact hkn)
      subst hA
      have HN := bx (crcF_take hx0.out z)
      rw [← hx.out] at HN
      have hc := x0.toNat_lt
      obtain ⟨b0, hb0⟩ : ∃ b0, x0.toNat = b0 := ⟨_, rfl⟩
      rw [hb0] at hc HN c0
      have h8 : IntKind.u8.wrap (x : Int) = ((x % 256 : Nat) : Int) := by rw [IntKind.wrap_u8]; omega
      have h9 := xor8 (x % 256) b0 (by omega) (by omega)
      have h10 := tab_step x b0 hxl (by omega)
      obtain ⟨j, hj⟩ : ∃ j, (x % 256) ^^^ b0 = j := ⟨_, rfl⟩
      have hjl : j < 256 := by rw [← hj]; exact Nat.xor_lt_two_pow (n := 8) (by omega) (by omega)
      rw [hj] at h9 h10
      obtain ⟨y, hy⟩ : ∃ y, x % 256 = y := ⟨_, rfl⟩
      rw [hy] at h8 h9
      have hjc := HT.out.cell j hjl
      clear hx0 hj hy hb0
      go_wp2
      go_roundw
      case rel => exact ⟨k + 1, byteS x b0, by omega, by go_num, rfl, bx HN.out.symm, trivial⟩
      case measure => simp [intOf]; omega
    · have t0 : ¬ (k : Int) < (n : Int) := by omega
      have hxR : 4294967295 - x = R := by
        have := HRR.out
        have h2 := hx.out
        rw [show k = l.length by rw [HE.out]; omega, List.take_length] at h2
        rw [h2]; exact this
      have f1 : bits .xor .u32 IntKind.u32.max (x : Int) = (R : Int) := by
        have := flip32 x hxl
        rw [hxR] at this
        exact this
      have hRl : R < 4294967296 := by omega
      go_wp2
      go_ret
      exact ⟨rfl, rfl⟩
end Go.Proofs.YtlmcpkomjofcgaaGreatDoor
namespace Go.Proofs.YtlmcpkomjofcgaaGreatDoor
open Go.RowKit
theorem zero_tab : Tryz.zeroCells175 = Array.replicate 256 (.int .u32 0) := by kernel_rfl
/-- The table up to its k-th entry. -/
def tabK (k : Nat) (j : Nat) : Value := .int .u32 ((if j < k then tabS j else 0 : Nat) : Int)
theorem zero_row (w : World) : Rw (w.alloc (.cells Tryz.zeroCells175 175)) w.heap.size 175 256 (tabK 0) := by
  refine Rw.of (Bk.new w _ _) (by rw [zero_tab]; simp) fun i hi => ?_
  rw [zero_tab, Array.getElem?_replicate, if_pos hi]
  simp [tabK]
theorem tabK_set (k : Nat) (j : Nat) : tabK (k + 1) j = if j = k then .int .u32 (tabS k : Int) else tabK k j := by
  unfold tabK
  by_cases e : j = k
  · subst e; rw [if_pos (by omega), if_pos rfl]
  · rw [if_neg e]
    by_cases h : j < k
    · rw [if_pos (by omega), if_pos h]
    · rw [if_neg (by omega), if_neg h]
set_option maxHeartbeats 2000000 in
theorem new_any (w : World) :
    Calls Tryz.prog 75 #[] w fun e w' => ∃ g, w.heap.size = g ∧ e = .returned (.pointer (some ⟨g, 0, none⟩)) ∧ TabR w' g ∧ Below w.heap.size w w' := by
  obtain ⟨g, hg⟩ : ∃ g, w.heap.size = g := ⟨_, rfl⟩
  have hR0 := zero_row w
  have hB0 : Below g w (w.alloc (.cells Tryz.zeroCells175 175)) := bl_alloc (Below.refl g w) (by omega) _
  rw [hg] at hR0
  go_enter Tryz.func75, Tryz.ntmps75
  go_upto_region 2 with (fail)
  generalize w.alloc (.cells Tryz.zeroCells175 175) = w1 at hR0 hB0 ⊢
  have HG := bx hg
  clear hg
  go_wp2_with fail
  go_loopw [6] (fun v6 wx => ∃ k : Nat, k ≤ 256 ∧ v6 = .int .i64 (k : Int) ∧ Rw wx g 175 256 (tabK k) ∧ Below g w wx) (fun v6 _ => 256 - (intOf v6).toNat)
  case atStart => exact ⟨0, by omega, rfl, hR0, hB0⟩
  case round =>
    obtain ⟨k, hk, rfl, hR, hB⟩ := hrel
    obtain ⟨wb, rfl⟩ : ∃ wb, wb = wr := ⟨_, rfl⟩
    by_cases hkn : k < 256
    · have t0 : (k : Int) < 256 := by omega
      have HK0 : Bx (bitsS 8 k = tabS k) := bx rfl
      have HKL : Bx (k < 4294967296) := bx (by omega)
      have hfz := hR.frz k
      have hck := hR.cell hkn
      go_wp2_with fail
      go_loopw [3, 11] (fun v3 v11 wx => ∃ j x : Nat, j ≤ 8 ∧ v11 = .int .i64 (j : Int) ∧ v3 = .int .u32 (x : Int) ∧ Bx (x < 4294967296) ∧ Bx (bitsS (8 - j) x = tabS k) ∧ wb = wx) (fun _ v11 _ => 8 - (intOf v11).toNat)
      case atStart => exact ⟨0, k, by omega, rfl, by first | rfl | (congr 1; omega), HKL, HK0, rfl⟩
      case round =>
        obtain ⟨j, x, hj, rfl, rfl, hx, hs, rfl⟩ := hrel
        have hxl := hx.out
        by_cases hj8 : j < 8
        · have t1 : (j : Int) < 8 := by omega
          have HN := bx (bitsS_next hs.out hj8)
          have HL := bx (bitS_lt hxl)
          have m1 := low32 x hxl
          have m2 := maskStep x hxl
          rw [show ((x / 2 : Nat) : Int) = (x : Int) / 2 from by omega] at m2
          rw [show ((x % 2 : Nat) : Int) = (x : Int) % 2 from by omega] at m1 m2
          rw [IntKind.wrap_u32] at m2
          have M2 := bx m2
          go_wp2
          go_roundw
          case rel => exact ⟨j + 1, bitS x, by omega, by go_num, by first | rfl | exact congrArg (Value.int .u32) M2.out, HL, HN, trivial⟩
          case measure => simp [intOf]; omega
        · have t1 : ¬ (j : Int) < 8 := by omega
          have hxR : x = tabS k := by
            have := hs.out
            rw [show 8 - j = 0 by omega] at this
            exact this
          subst hxR
          have HR2 := (hR.set k (.int .u32 (tabS k : Int))).ext (D := tabK (k + 1)) (fun j _ => by rw [tabK_set])
          have HB2 := hB.setCell (p := ⟨g, k, none⟩) (Nat.le_refl g) (.int .u32 (tabS k : Int))
          go_wp2
          go_roundw
          case rel => exact ⟨k + 1, by omega, by go_num, HR2, HB2⟩
          case measure => simp [intOf]; omega
    · have t0 : ¬ (k : Int) < 256 := by omega
      have hk6 : k = 256 := by omega
      subst hk6
      go_wp2
      go_ret
      exact ⟨by rw [HG.out]; rfl, by rw [HG.out]; exact ⟨fun j hj => by rw [hR.cell hj]; simp [tabK, hj]⟩, by rw [HG.out]; exact hB⟩
end Go.Proofs.YtlmcpkomjofcgaaGreatDoor
namespace Go.Proofs.YtlmcpkomjofcgaaGreatDoor
open Go.RowKit
set_option maxHeartbeats 2000000 in
theorem of_any (gp cp : Nat) (A : Option Addr) (n c : Nat) (l : List UInt8) (w : World) (hn : l.length = n) (hz : n ≤ 140737488351232) (hr : RB w w.heap.size A l) (hp : w.cell? ⟨gp, 0, none⟩ = some (.slice A n c)) :
    Calls Tryz.prog 52 #[.slice (some ⟨gp, 0, none⟩) 1 cp] w fun e w' => e = .returned (.int .i64 (crcA 0 l : Int)) ∧ Below w.heap.size w w' := by
  have HR := bx hr
  have HE := bx hn
  have HP := bx hp
  clear hr hn hp
  go_enter Tryz.func52, Tryz.ntmps52
  go_wp2_with fail
  refine (new_any w).mono ?_
  rintro e w1 ⟨g, hg, rfl, ht, hb⟩
  have HT := bx ht
  have HB := bx hb
  have HR1 := bx ((HR.out.below hb (Nat.le_refl _)).more hb.size)
  have HP1 := bx (cellB hb HP.out)
  clear ht hb hg
  go_wp2_with fail
  go_loopw [4, 10] (fun v4 v10 wx => ∃ k s : Nat, k ≤ 1 ∧ v10 = .int .i64 (k : Int) ∧ v4 = .int .i64 (s : Int) ∧ Bx (s = if k = 0 then 0 else crcA 0 l) ∧ w1 = wx) (fun _ v10 _ => 1 - (intOf v10).toNat)
  case atStart => exact ⟨0, 0, by omega, rfl, rfl, bx rfl, rfl⟩
  case round =>
    obtain ⟨k, s, hk, rfl, rfl, hs, rfl⟩ := hrel
    by_cases hk1 : k < 1
    · obtain rfl : k = 0 := by omega
      obtain rfl : s = 0 := hs.out
      have hp1 := HP1.out
      have HA := bx (add_any g 0 (by decide) A n c l w1 HE.out hz HR1.out HT.out)
      go_wp2_with fail
      refine HA.out.mono ?_
      rintro e w2 ⟨rfl, rfl⟩
      go_wp2
      go_roundw
      case rel => exact ⟨1, crcA 0 l, by omega, rfl, rfl, bx rfl, trivial⟩
      case measure => simp [intOf]
    · obtain rfl : k = 1 := by omega
      obtain rfl : s = crcA 0 l := hs.out
      go_wp2
      go_ret
      exact ⟨rfl, HB.out⟩
end Go.Proofs.YtlmcpkomjofcgaaGreatDoor
