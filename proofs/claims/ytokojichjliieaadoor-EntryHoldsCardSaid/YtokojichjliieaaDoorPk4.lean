/- Contracts: archive.kinds, (*archive.book).num, (*archive.book).is. Contracts: the document's sum (samovarref03). Contracts: sum.Add. Contracts: sum.New. Contracts: sum.Of of one part. Contracts: entry.Unpack. What Unpack and Find answered, taken apart. Names, sign by sign. Texts in cells; what strings.Split and strings.IndexByte answer. Contract: archive.Name. A row of bytes as a text. Regions that draw their order, read and call quietly, and end in operations that make memory: the head is taken first, in the order of the text, in every world of a row of worlds. Contract: (*archive.book).record. Contract: (*archive.book).record, whole. Contract: (*archive.book).local. -/
import Derived.Test.YtokojichjliieaaDoorPk3
import Derived.Deep.RegionLaw
import Derived.Test.YtokojichjliieaaDoorPk1
import Derived.Deep.DeepCutAuto
import Derived.Laws.BitsLemmas
import Derived.Test.YtokojichjliieaaDoorProg
import Derived.Lib.IndexLaws
import Derived.Test.YtokojichjliieaaDoorShelf
import Derived.Lib.BufferRead
import Derived.Deep.RegionHeld
import Derived.Deep.QuietTactic
import Derived.BigQuiet
import Derived.Test.YtokojichjliieaaDoorPk2
import Derived.Laws.BitsAllLaws
namespace Go.Proofs.YtokojichjliieaaDoor
open Go.RowKit

/-- The map of the signatures while it is made: which of the three are in it. -/
def kmG (a b c : Bool) (x : Quad) : Option Value := if c = true ∧ x = (80, 75, 3, 4) then some (.int .u8 3) else if b = true ∧ x = (80, 75, 1, 2) then some (.int .u8 2) else if a = true ∧ x = (80, 75, 5, 6) then some (.int .u8 1) else none
def KM (w0 w : World) (g n : Nat) (a b c : Bool) : Prop := w0.heap.size ≤ g ∧ Below w0.heap.size w0 w ∧ MapT quadV w Tryd.prog 79 g n (kmG a b c)
theorem KM.drew {w0 w : World} {g n : Nat} {a b c : Bool} (h : KM w0 w g n a b c) : KM w0 w.drew g n a b c := ⟨h.1, below_drewN h.2.1 1, h.2.2⟩
theorem KM.put {w0 w : World} {g n : Nat} {a b c : Bool} (h : KM w0 w g n a b c) (hn : n < maxLen) (y : Quad) (v : Value) (p q r : Bool) (hG : ∀ x, kmG p q r x = if x = y then some v else kmG a b c x) :
    ∃ w', (Instr.mapUpdate 47 (.map (some g)) (quadV y) v).run Tryd.prog w = .ok () w' ∧ KM w0 w' g (n + 1) p q r := by
  obtain ⟨h1, h2, h3⟩ := h
  obtain ⟨kl, hkl⟩ := quad_key y
  obtain ⟨w', r1, g1, M1⟩ := h3.storeRun quadK Tryd.underlying47 quad_inj hn y v hkl
  exact ⟨w', r1, h1, h2.grown g1 h2.size (fun k e => by injection e with e; subst e; exact h1), M1.ext hG⟩
theorem kmG_1 (b c : Bool) (x : Quad) : kmG true b c x = if x = (80, 75, 5, 6) then some (.int .u8 1) else kmG false b c x := by
  unfold kmG
  by_cases h : x = (80, 75, 5, 6)
  · subst h; simp
  · simp [h]
theorem kmG_2 (a c : Bool) (x : Quad) : kmG a true c x = if x = (80, 75, 1, 2) then some (.int .u8 2) else kmG a false c x := by
  unfold kmG
  by_cases h : x = (80, 75, 1, 2)
  · subst h; simp
  · simp [h]
theorem kmG_3 (a b : Bool) (x : Quad) : kmG a b true x = if x = (80, 75, 3, 4) then some (.int .u8 3) else kmG a b false x := by
  unfold kmG
  by_cases h : x = (80, 75, 3, 4)
  · subst h; simp
  · simp [h]
theorem KM.put1 {w0 w : World} {g n : Nat} {b c : Bool} (h : KM w0 w g n false b c) (hn : n < maxLen) :
    ∃ w', (Instr.mapUpdate 47 (.map (some g)) (.agg #[.int .u8 80, .int .u8 75, .int .u8 5, .int .u8 6]) (.int .u8 1)).run Tryd.prog w = .ok () w' ∧ KM w0 w' g (n + 1) true b c := h.put hn (80, 75, 5, 6) (.int .u8 1) true b c (kmG_1 b c)
theorem KM.put2 {w0 w : World} {g n : Nat} {a c : Bool} (h : KM w0 w g n a false c) (hn : n < maxLen) :
    ∃ w', (Instr.mapUpdate 47 (.map (some g)) (.agg #[.int .u8 80, .int .u8 75, .int .u8 1, .int .u8 2]) (.int .u8 2)).run Tryd.prog w = .ok () w' ∧ KM w0 w' g (n + 1) a true c := h.put hn (80, 75, 1, 2) (.int .u8 2) a true c (kmG_2 a c)
theorem KM.put3 {w0 w : World} {g n : Nat} {a b : Bool} (h : KM w0 w g n a b false) (hn : n < maxLen) :
    ∃ w', (Instr.mapUpdate 47 (.map (some g)) (.agg #[.int .u8 80, .int .u8 75, .int .u8 3, .int .u8 4]) (.int .u8 3)).run Tryd.prog w = .ok () w' ∧ KM w0 w' g (n + 1) a b true := h.put hn (80, 75, 3, 4) (.int .u8 3) a b true (kmG_3 a b)
theorem KM.fin {w0 w : World} {g : Nat} (h : KM w0 w g 3 true true true) : w0.heap.size ≤ g ∧ MapT quadV w Tryd.prog 79 g 3 kindG ∧ Below w0.heap.size w0 w :=
  ⟨h.1, h.2.2.ext (fun x => by unfold kindG kmG; simp), h.2.1⟩
set_option maxHeartbeats 1000000 in
theorem kinds_any (w : World) : Calls Tryd.prog 27 #[] w fun e w' => ∃ g, e = .returned (.map (some g)) ∧ w.heap.size ≤ g ∧ MapT quadV w' Tryd.prog 79 g 3 kindG ∧ Below w.heap.size w w' := by
  obtain ⟨g, hg⟩ : ∃ g, w.heap.size = g := ⟨_, rfl⟩
  have K : KM w (w.alloc (.map #[] 0)).drew g 0 false false false := ⟨Nat.le_of_eq hg, below_drewN (bl_alloc (Below.refl _ _) (Nat.le_refl _) _) 1, ((MapT.madeAt w _ _ hg).ext (fun x => by simp [kmG]))⟩
  have hl : ∀ n, n < 10 → n < maxLen := fun n hn => Nat.lt_trans hn (by decide)
  obtain ⟨w1, r1, K1⟩ := K.put1 (hl 0 (by omega))
  obtain ⟨w2, r2, K2⟩ := K.put2 (hl 0 (by omega))
  obtain ⟨w3, r3, K3⟩ := K.put3 (hl 0 (by omega))
  obtain ⟨w12, r12, K12⟩ := K1.put2 (hl 1 (by omega))
  obtain ⟨w13, r13, K13⟩ := K1.put3 (hl 1 (by omega))
  obtain ⟨w21, r21, K21⟩ := K2.put1 (hl 1 (by omega))
  obtain ⟨w23, r23, K23⟩ := K2.put3 (hl 1 (by omega))
  obtain ⟨w31, r31, K31⟩ := K3.put1 (hl 1 (by omega))
  obtain ⟨w32, r32, K32⟩ := K3.put2 (hl 1 (by omega))
  obtain ⟨w123, r123, K123⟩ := K12.put3 (hl 2 (by omega))
  obtain ⟨w132, r132, K132⟩ := K13.put2 (hl 2 (by omega))
  obtain ⟨w213, r213, K213⟩ := K21.put3 (hl 2 (by omega))
  obtain ⟨w231, r231, K231⟩ := K23.put1 (hl 2 (by omega))
  obtain ⟨w312, r312, K312⟩ := K31.put2 (hl 2 (by omega))
  obtain ⟨w321, r321, K321⟩ := K32.put1 (hl 2 (by omega))
  have FS := bx (And.intro K123 (And.intro K132 (And.intro K213 (And.intro K231 (And.intro K312 K321)))))
  have hmm := @run_makeMap Tryd.prog
  clear K K1 K2 K3 K12 K13 K21 K23 K31 K32 K123 K132 K213 K231 K312 K321 hl
  go_enter Tryd.func27, Tryd.ntmps27
  go_wp2
  go_region
  all_goals
    go_wp2
    go_ret
    exact ⟨g, rfl, by first | exact FS.out.1.fin | exact FS.out.2.1.fin | exact FS.out.2.2.1.fin | exact FS.out.2.2.2.1.fin | exact FS.out.2.2.2.2.1.fin | exact FS.out.2.2.2.2.2.fin⟩

/-- A book: the bytes, the signatures. -/
def BookD (w : World) (g : Nat) (b : List UInt8) : Prop :=
  ∃ A c m n, Bk w g 50 #[.slice A b.length c, .map (some m)] ∧ RB w w.heap.size A b ∧ b.length ≤ c ∧ MapT quadV w Tryd.prog 79 m n kindG ∧ (b.length : Int) ≤ 140737488355328 ∧ (c : Int) ≤ 9223372036854775807
set_option maxHeartbeats 1000000 in
theorem num_ok (g : Nat) (b : List UInt8) (p n : Nat) (w : World) (h : BookD w g b) (h1 : 1 ≤ n) (h2 : n ≤ 4) (hp : p + n ≤ b.length) :
    Calls Tryd.prog 29 #[.pointer (some ⟨g, 0, none⟩), .int .i64 (p : Int), .int .i64 (n : Int)] w fun e w' => e = .returned (.int .i64 (numA b p n : Int)) ∧ w' = w := by
  obtain ⟨A, c, m, q, hB, hr, hc, hM, hl, hcl⟩ := h
  have c0 : w.cell? ⟨g, 0, none⟩ = some (.slice A b.length c) := (hB.cell 0).trans rfl
  have hlk := little_ok A c p n w b b.length rfl hl h1 (by omega) hp hr
  have hlt : leN ((b.drop p).take n) < 256 ^ 4 := leN_lt_of _ (by simp; omega)
  have p4 : (256 : Nat) ^ 4 = 4294967296 := by decide
  have hw : wrap64 ((leN ((b.drop p).take n) : Nat) : Int) = (leN ((b.drop p).take n) : Int) := IntWalk.wrap64_in _ ⟨by omega, by rw [p4] at hlt; omega⟩
  rw [hw] at hlk
  have hN : leN ((b.drop p).take n) = numA b p n := rfl
  rw [hN] at hlk hlt
  have HK := bx hlk
  clear hlk hw hN hM hB hr
  go_enter Tryd.func29, Tryd.ntmps29
  go_wp2_with fail
  refine HK.out.mono ?_
  rintro e w1 ⟨rfl, rfl⟩
  go_wp2
  go_ret
  exact ⟨rfl, rfl⟩
set_option maxHeartbeats 2000000 in
theorem is_quiet (g : Nat) (b : List UInt8) (p n border what : Nat) (x y : UInt8) (w : World) (h : BookD w g b) (hwh : (what = 1 ∧ x = 5 ∧ y = 6) ∨ (what = 2 ∧ x = 1 ∧ y = 2) ∨ (what = 3 ∧ x = 3 ∧ y = 4)) (h1 : 4 ≤ n) (h2 : n ≤ 100) (hb : border ≤ b.length) (hp : p ≤ 9000000000000) :
    Calls Tryd.prog 28 #[.pointer (some ⟨g, 0, none⟩), .int .u8 (what : Int), .int .i64 (p : Int), .int .i64 (n : Int), .int .i64 (border : Int)] w fun e w' => e = .returned (.bool (decide (p + n ≤ border) && signA b p x y)) ∧ ∃ nq, w' = w.drewN nq := by
  obtain ⟨A, c, m, q, hB, hr, hc, hM, hl, hcl⟩ := h
  have c0 : w.cell? ⟨g, 0, none⟩ = some (.slice A b.length c) := (hB.cell 0).trans rfl
  have c1 : w.cell? ⟨g, 1, none⟩ = some (.map (some m)) := (hB.cell 1).trans rfl
  have d1 : decide ((0 : Int) ≤ (p : Int)) = true := by simp
  have hwr : IntKind.i64.wrap ((border : Int) - (n : Int)) = (border : Int) - (n : Int) := IntWalk.i64_in _ (by omega)
  by_cases hin : p + n ≤ border
  · have d2 : decide ((p : Int) ≤ (border : Int) - (n : Int)) = true := by simp; omega
    have d3 : decide (p + n ≤ border) = true := by simp [hin]
    rw [d3, Bool.true_and]
    obtain ⟨ad, x0, hAd, hadb, hx0, hc0⟩ := RL.byte hr (k := p) (by omega)
    subst hAd
    have hh0 : (0 : Int) ≤ (p : Int) := by omega
    have hh1 : (0 : Int) ≤ (p : Int) + 4 := by omega
    have hh2 : (p : Int) + 4 ≤ (c : Int) := by omega
    have hh3 : (p : Int) ≤ (p : Int) + 4 := by omega
    have hh4 : ¬ c = p := by omega
    have hh5 : (p : Int) + 4 - (p : Int) = 4 := by omega
    have hh6 : IntKind.i64.wrap ((p : Int) + 4) = (p : Int) + 4 := IntWalk.i64_in _ (by omega)
    have hTA : ∀ nq, (Instr.arrayAt 79 (.slice (some (ad.add p)) (((p : Int) + 4).toNat - p) (c - p))).run Tryd.prog (w.drewN nq) = .ok (.pointer (some (ad.add p))) (w.drewN nq) := fun nq => by
      rw [show ((p : Int) + 4).toNat - p = 4 by omega]
      exact run_quad (P := Tryd.prog) (w.drewN nq) (ad.add p) 79 5 (c - p) Tryd.underlying79
    obtain ⟨kl, hkl⟩ := quad_key (quadB b p)
    have hlk := fun nq => (hM.drewN nq).run_is (t := 47) quadK Tryd.underlying47 (z := .int .u8 0) (by kernel_rfl) hkl (kindG_get _)
    obtain ⟨N, hN⟩ : ∃ N, kindN (quadB b p) = N := ⟨_, rfl⟩
    have hdec := kindN_is b p hwh
    rw [hN] at hdec
    simp only [hN] at hlk
    have hq : quadV (quadB b p) = .agg #[.int .u8 ((quadB b p).1.toNat : Int), .int .u8 ((quadB b p).2.1.toNat : Int), .int .u8 ((quadB b p).2.2.1.toNat : Int), .int .u8 ((quadB b p).2.2.2.toNat : Int)] := rfl
    simp only [hq] at hlk
    clear hq
    obtain ⟨x1, hx1⟩ : ∃ x, ((quadB b p).1.toNat : Int) = x := ⟨_, rfl⟩
    obtain ⟨x2, hx2⟩ : ∃ x, ((quadB b p).2.1.toNat : Int) = x := ⟨_, rfl⟩
    obtain ⟨x3, hx3⟩ : ∃ x, ((quadB b p).2.2.1.toNat : Int) = x := ⟨_, rfl⟩
    obtain ⟨x4, hx4⟩ : ∃ x, ((quadB b p).2.2.2.toNat : Int) = x := ⟨_, rfl⟩
    obtain ⟨k0, k1, k2, k3⟩ := quad_four hr (i := p) (by omega) hx1 hx2 hx3 hx4
    simp only [hx1, hx2, hx3, hx4] at hlk
    have HD : Bx (decide ((N : Int) = (what : Int)) = signA b p x y) := bx (by rw [← hdec, decide_eq_decide]; omega)
    clear hx1 hx2 hx3 hx4 hkl hN hdec hM hr hc0 hB hx0 hl hwh
    go_enter Tryd.func28, Tryd.ntmps28
    go_wp2
    go_quiet (fail)
    rename Nat => nq
    go_wp2
    go_ret
    exact ⟨ret_v (by rw [← HD.out]; rfl), ⟨_, rfl⟩⟩
  · have d2 : decide ((p : Int) ≤ (border : Int) - (n : Int)) = false := by simp; omega
    have d3 : decide (p + n ≤ border) = false := by simp [hin]
    rw [d3, Bool.false_and]
    clear hM hB hr hl hwh
    go_enter Tryd.func28, Tryd.ntmps28
    go_wp2
    go_quiet (fail)
    rename Nat => nq
    go_wp2
    go_ret
    exact ⟨rfl, ⟨_, rfl⟩⟩
theorem is_any (g : Nat) (b : List UInt8) (p n border what : Nat) (x y : UInt8) (w : World) (h : BookD w g b) (hwh : (what = 1 ∧ x = 5 ∧ y = 6) ∨ (what = 2 ∧ x = 1 ∧ y = 2) ∨ (what = 3 ∧ x = 3 ∧ y = 4)) (h1 : 4 ≤ n) (h2 : n ≤ 100) (hb : border ≤ b.length) (hp : p ≤ 9000000000000) :
    Calls Tryd.prog 28 #[.pointer (some ⟨g, 0, none⟩), .int .u8 (what : Int), .int .i64 (p : Int), .int .i64 (n : Int), .int .i64 (border : Int)] w fun e w' => e = .returned (.bool (decide (p + n ≤ border) && signA b p x y)) ∧ Below w.heap.size w w' :=
  (is_quiet g b p n border what x y w h hwh h1 h2 hb hp).mono fun _ _ ⟨he, nq, hw⟩ => ⟨he, by rw [hw]; exact below_drewN (Below.refl _ _) _⟩
end Go.Proofs.YtokojichjliieaaDoor
namespace Go.Proofs.YtokojichjliieaaDoor
open Go.RowKit
theorem bitS_even {x : Nat} (h : x % 2 = 0) : bitS x = x / 2 := by rw [bitS, if_neg (by omega)]
theorem bitS_odd {x : Nat} (h : x % 2 = 1) (hx : x < 4294967296) : bits .xor .u32 ((x : Int) / 2) 3988292384 = (bitS x : Int) := by
  have := xor32 (x / 2) 3988292384 (by omega) (by decide)
  rw [bitS, if_pos h]
  exact this
theorem bitsS_next {x k R : Nat} (h : bitsS (8 - k) x = R) (hk : k < 8) : bitsS (8 - (k + 1)) (bitS x) = R := by
  rw [show 8 - k = (8 - (k + 1)) + 1 by omega, bitsS] at h
  exact h
set_option maxHeartbeats 2000000 in
theorem rstep_any (r : Nat) (hr : r < 4294967296) (c : UInt8) (w : World) :
    Calls Tryd.prog 62 #[.int .u32 (r : Int), .int .u8 (c.toNat : Int)] w fun e w' => e = .returned (.int .u32 (byteS r c.toNat : Int)) ∧ w' = w := by
  have hc := c.toNat_lt
  obtain ⟨n, hn⟩ : ∃ n, c.toNat = n := ⟨_, rfl⟩
  rw [hn] at hc ⊢
  obtain ⟨R, hR⟩ : ∃ R, byteS r n = R := ⟨_, rfl⟩
  have x0 := xor32 r n hr (by omega)
  obtain ⟨y, hy⟩ : ∃ y, r ^^^ n = y := ⟨_, rfl⟩
  rw [hy] at x0
  have hyl : y < 4294967296 := by rw [← hy]; exact Nat.xor_lt_two_pow (n := 32) hr (by omega)
  have HY := bx hyl
  have HS : Bx (bitsS 8 y = R) := bx (by rw [← hy]; exact hR)
  rw [hR]
  clear hn hR hy
  go_enter Tryd.func62, Tryd.ntmps62
  go_wp2_with fail
  go_loopw [0, 5] (fun v0 v5 wx => ∃ k x : Nat, k ≤ 8 ∧ v5 = .int .i64 (k : Int) ∧ v0 = .int .u32 (x : Int) ∧ Bx (x < 4294967296) ∧ Bx (bitsS (8 - k) x = R) ∧ w = wx) (fun _ v5 _ => 8 - (intOf v5).toNat)
  case atStart => exact ⟨0, y, by omega, rfl, rfl, HY, HS, rfl⟩
  case round =>
    obtain ⟨k, x, hk, rfl, rfl, hx, hs, rfl⟩ := hrel
    have hxl := hx.out
    by_cases hk8 : k < 8
    · have t0 : (k : Int) < 8 := by omega
      have HN := bx (bitsS_next hs.out hk8)
      have HL := bx (bitS_lt hxl)
      rcases (by omega : x % 2 = 0 ∨ x % 2 = 1) with e | e
      · have q1 : ((x : Int) % 2 == 1) = false := by rw [beq_eq_false_iff_ne]; omega
        have HV := bx (bitS_even e)
        clear e
        go_wp2
        go_roundw
        case rel => exact ⟨k + 1, bitS x, by omega, by go_num, congrArg (Value.int .u32) (by rw [HV.out]; omega), HL, HN, trivial⟩
        case measure => simp [intOf]; omega
      · have q1 : ((x : Int) % 2 == 1) = true := by rw [beq_iff_eq]; omega
        have HV := bx (bitS_odd e hxl)
        have q2 := HV.out
        clear e
        go_wp2
        go_roundw
        case rel => exact ⟨k + 1, bitS x, by omega, by go_num, rfl, HL, HN, trivial⟩
        case measure => simp [intOf]; omega
    · have t0 : ¬ (k : Int) < 8 := by omega
      have hxR : x = R := by
        have := hs.out
        rw [show 8 - k = 0 by omega] at this
        exact this
      subst hxR
      go_wp2
      go_ret
      exact ⟨rfl, rfl⟩
theorem crcF_take {l : List UInt8} {k : Nat} {x : UInt8} (h : l[k]? = some x) (r : Nat) : crcF r (l.take (k + 1)) = byteS (crcF r (l.take k)) x.toNat := by
  obtain ⟨hk, hx⟩ := List.getElem?_eq_some_iff.1 h
  rw [List.take_succ_eq_append_getElem hk, hx, crcF_snoc]
set_option maxHeartbeats 2000000 in
theorem radd_any (A : Option Addr) (n c : Nat) (l : List UInt8) (w : World) (hn : l.length = n) (hz : n ≤ 140737488351232) (hr : RB w w.heap.size A l) :
    Calls Tryd.prog 45 #[.int .i64 0, .slice A n c] w fun e w' => e = .returned (.int .i64 (crcA 0 l : Int)) ∧ w' = w := by
  have HR := bx hr
  have HE := bx hn
  obtain ⟨R, hR⟩ : ∃ R, crcA 0 l = R := ⟨_, rfl⟩
  have HRR : Bx (4294967295 - crcF 4294967295 l = R) := bx hR
  rw [hR]
  clear hr hn hR
  have H0 : Bx (4294967295 = crcF 4294967295 (l.take 0)) := bx rfl
  go_enter Tryd.func45, Tryd.ntmps45
  go_wp2_with fail
  go_loopw [5, 6] (fun v5 v6 wx => ∃ k x : Nat, k ≤ n ∧ v6 = .int .i64 (k : Int) ∧ v5 = .int .u32 (x : Int) ∧ Bx (x = crcF 4294967295 (l.take k)) ∧ w = wx) (fun _ v6 _ => n - (intOf v6).toNat)
  case atStart => exact ⟨0, 4294967295, by omega, rfl, rfl, H0, rfl⟩
  case round =>
    obtain ⟨k, x, hk, rfl, rfl, hx, rfl⟩ := hrel
    have hxl : x < 4294967296 := by rw [hx.out]; exact crcF_lt _ _ (by decide)
    by_cases hkn : k < n
    · have t0 : (k : Int) < (n : Int) := by omega
      obtain ⟨ad, x0, hA, _, hx0, c0⟩ := HR.out.byte (k := k) (by rw [HE.out]; exact hkn)
      subst hA
      have HN := bx (crcF_take hx0.out 4294967295)
      rw [← hx.out] at HN
      clear hx0
      go_wp2_with fail
      refine (rstep_any x hxl x0 w).mono ?_
      rintro e w1 ⟨rfl, rfl⟩
      go_wp2
      go_roundw
      case rel => exact ⟨k + 1, byteS x x0.toNat, by omega, by go_num, rfl, bx HN.out.symm, trivial⟩
      case measure => simp [intOf]; omega
    · have t0 : ¬ (k : Int) < (n : Int) := by omega
      have hxR : 4294967295 - x = R := by
        have := HRR.out
        have h2 := hx.out
        rw [show k = l.length by rw [HE.out]; omega, List.take_length] at h2
        rw [h2]; exact this
      have f1 : bits .xor .u32 IntKind.u32.max (x : Int) = (R : Int) := by
        have := flip32 x hxl
        rw [hxR] at this
        exact this
      have hRl : R < 4294967296 := by omega
      go_wp2
      go_ret
      exact ⟨rfl, rfl⟩
theorem rsum_any (A : Option Addr) (n c : Nat) (l : List UInt8) (w : World) (hn : l.length = n) (hz : n ≤ 140737488351232) (hr : RB w w.heap.size A l) :
    Calls Tryd.prog 26 #[.slice A n c] w fun e w' => e = .returned (.int .i64 (crcA 0 l : Int)) ∧ w' = w := by
  have HR := bx (radd_any A n c l w hn hz hr)
  clear hr hn
  go_enter Tryd.func26, Tryd.ntmps26
  go_wp2_with fail
  refine HR.out.mono ?_
  rintro e w1 ⟨rfl, rfl⟩
  go_wp2
  go_ret
  exact ⟨rfl, rfl⟩
end Go.Proofs.YtokojichjliieaaDoor
namespace Go.Proofs.YtokojichjliieaaDoor
open Go.RowKit
theorem xor8 (a b : Nat) (ha : a < 256) (hb : b < 256) : bits .xor .u8 (a : Int) (b : Int) = ((a ^^^ b : Nat) : Int) := by
  have ha' : a % 2 ^ 8 = a := Nat.mod_eq_of_lt ha
  have hb' : b % 2 ^ 8 = b := Nat.mod_eq_of_lt hb
  have hx : a ^^^ b < 256 := Nat.xor_lt_two_pow (n := 8) ha hb
  simp only [bits, BitVec.ofInt_natCast, BitVec.toNat_xor, BitVec.toNat_ofNat, show IntKind.u8.bits = 8 from rfl, ha', hb']
  exact wraps_u8 _ (Int.natCast_nonneg _) (by omega)
theorem tab_step (x c : Nat) (hx : x < 4294967296) (hc : c < 256) : bits .xor .u32 (tabS ((x % 256) ^^^ c) : Int) ((x : Int) / 256) = (byteS x c : Int) := by
  have hj : (x % 256) ^^^ c < 256 := Nat.xor_lt_two_pow (n := 8) (by omega) (by omega)
  have := xor32 (tabS ((x % 256) ^^^ c)) (x / 256) (tabS_lt hj) (by omega)
  rw [← byteS_tab] at this
  exact this
/-- The table in memory. -/
structure TabR (w : World) (g : Nat) : Prop where
  cell : ∀ j, j < 256 → w.cell? ⟨g, j, none⟩ = some (.int .u32 (tabS j : Int))
set_option maxHeartbeats 2000000 in
theorem add_any (g : Nat) (s : Nat) (hs : s < 4294967296) (A : Option Addr) (n c : Nat) (l : List UInt8) (w : World) (hn : l.length = n) (hz : n ≤ 140737488351232) (hr : RB w w.heap.size A l) (ht : TabR w g) :
    Calls Tryd.prog 44 #[.pointer (some ⟨g, 0, none⟩), .int .i64 (s : Int), .slice A n c] w fun e w' => e = .returned (.int .i64 (crcA s l : Int)) ∧ w' = w := by
  have HR := bx hr
  have HE := bx hn
  have HT := bx ht
  obtain ⟨R, hR⟩ : ∃ R, crcA s l = R := ⟨_, rfl⟩
  obtain ⟨z, hzz⟩ : ∃ z, 4294967295 - s = z := ⟨_, rfl⟩
  have f0 : bits .xor .u32 IntKind.u32.max (s : Int) = (z : Int) := by
    have := flip32 s hs
    rw [hzz] at this
    exact this
  have HRR : Bx (4294967295 - crcF z l = R) := bx (by rw [← hzz]; exact hR)
  have h32 : IntKind.u32.wrap (s : Int) = (s : Int) := wraps_u32S _ (by omega) (by omega)
  have HZ : Bx (z < 4294967296) := bx (by omega)
  rw [hR]
  clear hr hn hR ht hzz
  have H0 : Bx (z = crcF z (l.take 0)) := bx rfl
  go_enter Tryd.func44, Tryd.ntmps44
  go_wp2_with fail
  go_loopw [7, 17] (fun v5 v6 wx => ∃ k x : Nat, k ≤ n ∧ v6 = .int .i64 (k : Int) ∧ v5 = .int .u32 (x : Int) ∧ Bx (x = crcF z (l.take k)) ∧ w = wx) (fun _ v6 _ => n - (intOf v6).toNat)
  case atStart => exact ⟨0, z, by omega, rfl, rfl, H0, rfl⟩
  case round =>
    obtain ⟨k, x, hk, rfl, rfl, hx, rfl⟩ := hrel
    have hxl : x < 4294967296 := by rw [hx.out]; exact crcF_lt _ _ HZ.out
    by_cases hkn : k < n
    · have t0 : (k : Int) < (n : Int) := by omega
      obtain ⟨ad, x0, hA, _, hx0, c0⟩ := HR.out.byte (k := k) (by rw [HE.out]; exact hkn)
      subst hA
      have HN := bx (crcF_take hx0.out z)
      rw [← hx.out] at HN
      have hc := x0.toNat_lt
      obtain ⟨b0, hb0⟩ : ∃ b0, x0.toNat = b0 := ⟨_, rfl⟩
      rw [hb0] at hc HN c0
      have h8 : IntKind.u8.wrap (x : Int) = ((x % 256 : Nat) : Int) := by rw [IntKind.wrap_u8]; omega
      have h9 := xor8 (x % 256) b0 (by omega) (by omega)
      have h10 := tab_step x b0 hxl (by omega)
      obtain ⟨j, hj⟩ : ∃ j, (x % 256) ^^^ b0 = j := ⟨_, rfl⟩
      have hjl : j < 256 := by rw [← hj]; exact Nat.xor_lt_two_pow (n := 8) (by omega) (by omega)
      rw [hj] at h9 h10
      obtain ⟨y, hy⟩ : ∃ y, x % 256 = y := ⟨_, rfl⟩
      rw [hy] at h8 h9
      have hjc := HT.out.cell j hjl
      clear hx0 hj hy hb0
      go_wp2
      go_roundw
      case rel => exact ⟨k + 1, byteS x b0, by omega, by go_num, rfl, bx HN.out.symm, trivial⟩
      case measure => simp [intOf]; omega
    · have t0 : ¬ (k : Int) < (n : Int) := by omega
      have hxR : 4294967295 - x = R := by
        have := HRR.out
        have h2 := hx.out
        rw [show k = l.length by rw [HE.out]; omega, List.take_length] at h2
        rw [h2]; exact this
      have f1 : bits .xor .u32 IntKind.u32.max (x : Int) = (R : Int) := by
        have := flip32 x hxl
        rw [hxR] at this
        exact this
      have hRl : R < 4294967296 := by omega
      go_wp2
      go_ret
      exact ⟨rfl, rfl⟩
end Go.Proofs.YtokojichjliieaaDoor
namespace Go.Proofs.YtokojichjliieaaDoor
open Go.RowKit
theorem zero_tab : Tryd.zeroCells115 = Array.replicate 256 (.int .u32 0) := by kernel_rfl
/-- The table up to its k-th entry. -/
def tabK (k : Nat) (j : Nat) : Value := .int .u32 ((if j < k then tabS j else 0 : Nat) : Int)
theorem zero_row (w : World) : Rw (w.alloc (.cells Tryd.zeroCells115 115)) w.heap.size 115 256 (tabK 0) := by
  refine Rw.of (Bk.new w _ _) (by rw [zero_tab]; simp) fun i hi => ?_
  rw [zero_tab, Array.getElem?_replicate, if_pos hi]
  simp [tabK]
theorem tabK_set (k : Nat) (j : Nat) : tabK (k + 1) j = if j = k then .int .u32 (tabS k : Int) else tabK k j := by
  unfold tabK
  by_cases e : j = k
  · subst e; rw [if_pos (by omega), if_pos rfl]
  · rw [if_neg e]
    by_cases h : j < k
    · rw [if_pos (by omega), if_pos h]
    · rw [if_neg (by omega), if_neg h]
set_option maxHeartbeats 2000000 in
theorem new_any (w : World) :
    Calls Tryd.prog 43 #[] w fun e w' => ∃ g, w.heap.size = g ∧ e = .returned (.pointer (some ⟨g, 0, none⟩)) ∧ TabR w' g ∧ Below w.heap.size w w' := by
  obtain ⟨g, hg⟩ : ∃ g, w.heap.size = g := ⟨_, rfl⟩
  have hR0 := zero_row w
  have hB0 : Below g w (w.alloc (.cells Tryd.zeroCells115 115)) := bl_alloc (Below.refl g w) (by omega) _
  rw [hg] at hR0
  go_enter Tryd.func43, Tryd.ntmps43
  go_upto_region 2 with (fail)
  generalize w.alloc (.cells Tryd.zeroCells115 115) = w1 at hR0 hB0 ⊢
  have HG := bx hg
  clear hg
  go_wp2_with fail
  go_loopw [6] (fun v6 wx => ∃ k : Nat, k ≤ 256 ∧ v6 = .int .i64 (k : Int) ∧ Rw wx g 115 256 (tabK k) ∧ Below g w wx) (fun v6 _ => 256 - (intOf v6).toNat)
  case atStart => exact ⟨0, by omega, rfl, hR0, hB0⟩
  case round =>
    obtain ⟨k, hk, rfl, hR, hB⟩ := hrel
    obtain ⟨wb, rfl⟩ : ∃ wb, wb = wr := ⟨_, rfl⟩
    by_cases hkn : k < 256
    · have t0 : (k : Int) < 256 := by omega
      have HK0 : Bx (bitsS 8 k = tabS k) := bx rfl
      have HKL : Bx (k < 4294967296) := bx (by omega)
      have hfz := hR.frz k
      have hck := hR.cell hkn
      go_wp2_with fail
      go_loopw [3, 11] (fun v3 v11 wx => ∃ j x : Nat, j ≤ 8 ∧ v11 = .int .i64 (j : Int) ∧ v3 = .int .u32 (x : Int) ∧ Bx (x < 4294967296) ∧ Bx (bitsS (8 - j) x = tabS k) ∧ wb = wx) (fun _ v11 _ => 8 - (intOf v11).toNat)
      case atStart => exact ⟨0, k, by omega, rfl, by first | rfl | (congr 1; omega), HKL, HK0, rfl⟩
      case round =>
        obtain ⟨j, x, hj, rfl, rfl, hx, hs, rfl⟩ := hrel
        have hxl := hx.out
        by_cases hj8 : j < 8
        · have t1 : (j : Int) < 8 := by omega
          have HN := bx (bitsS_next hs.out hj8)
          have HL := bx (bitS_lt hxl)
          have m1 := low32 x hxl
          have m2 := maskStep x hxl
          rw [show ((x / 2 : Nat) : Int) = (x : Int) / 2 from by omega] at m2
          rw [show ((x % 2 : Nat) : Int) = (x : Int) % 2 from by omega] at m1 m2
          rw [IntKind.wrap_u32] at m2
          have M2 := bx m2
          go_wp2
          go_roundw
          case rel => exact ⟨j + 1, bitS x, by omega, by go_num, by first | rfl | exact congrArg (Value.int .u32) M2.out, HL, HN, trivial⟩
          case measure => simp [intOf]; omega
        · have t1 : ¬ (j : Int) < 8 := by omega
          have hxR : x = tabS k := by
            have := hs.out
            rw [show 8 - j = 0 by omega] at this
            exact this
          subst hxR
          have HR2 := (hR.set k (.int .u32 (tabS k : Int))).ext (D := tabK (k + 1)) (fun j _ => by rw [tabK_set])
          have HB2 := hB.setCell (p := ⟨g, k, none⟩) (Nat.le_refl g) (.int .u32 (tabS k : Int))
          go_wp2
          go_roundw
          case rel => exact ⟨k + 1, by omega, by go_num, HR2, HB2⟩
          case measure => simp [intOf]; omega
    · have t0 : ¬ (k : Int) < 256 := by omega
      have hk6 : k = 256 := by omega
      subst hk6
      go_wp2
      go_ret
      exact ⟨by rw [HG.out]; rfl, by rw [HG.out]; exact ⟨fun j hj => by rw [hR.cell hj]; simp [tabK, hj]⟩, by rw [HG.out]; exact hB⟩
end Go.Proofs.YtokojichjliieaaDoor
namespace Go.Proofs.YtokojichjliieaaDoor
open Go.RowKit
set_option maxHeartbeats 2000000 in
theorem of_any (gp cp : Nat) (A : Option Addr) (n c : Nat) (l : List UInt8) (w : World) (hn : l.length = n) (hz : n ≤ 140737488351232) (hr : RB w w.heap.size A l) (hp : w.cell? ⟨gp, 0, none⟩ = some (.slice A n c)) :
    Calls Tryd.prog 25 #[.slice (some ⟨gp, 0, none⟩) 1 cp] w fun e w' => e = .returned (.int .i64 (crcA 0 l : Int)) ∧ Below w.heap.size w w' := by
  have HR := bx hr
  have HE := bx hn
  have HP := bx hp
  clear hr hn hp
  go_enter Tryd.func25, Tryd.ntmps25
  go_wp2_with fail
  refine (new_any w).mono ?_
  rintro e w1 ⟨g, hg, rfl, ht, hb⟩
  have HT := bx ht
  have HB := bx hb
  have HR1 := bx ((HR.out.below hb (Nat.le_refl _)).more hb.size)
  have HP1 := bx (cellB hb HP.out)
  clear ht hb hg
  go_wp2_with fail
  go_loopw [4, 10] (fun v4 v10 wx => ∃ k s : Nat, k ≤ 1 ∧ v10 = .int .i64 (k : Int) ∧ v4 = .int .i64 (s : Int) ∧ Bx (s = if k = 0 then 0 else crcA 0 l) ∧ w1 = wx) (fun _ v10 _ => 1 - (intOf v10).toNat)
  case atStart => exact ⟨0, 0, by omega, rfl, rfl, bx rfl, rfl⟩
  case round =>
    obtain ⟨k, s, hk, rfl, rfl, hs, rfl⟩ := hrel
    by_cases hk1 : k < 1
    · obtain rfl : k = 0 := by omega
      obtain rfl : s = 0 := hs.out
      have hp1 := HP1.out
      have HA := bx (add_any g 0 (by decide) A n c l w1 HE.out hz HR1.out HT.out)
      go_wp2_with fail
      refine HA.out.mono ?_
      rintro e w2 ⟨rfl, rfl⟩
      go_wp2
      go_roundw
      case rel => exact ⟨1, crcA 0 l, by omega, rfl, rfl, bx rfl, trivial⟩
      case measure => simp [intOf]
    · obtain rfl : k = 1 := by omega
      obtain rfl : s = crcA 0 l := hs.out
      go_wp2
      go_ret
      exact ⟨rfl, HB.out⟩
end Go.Proofs.YtokojichjliieaaDoor
namespace Go.Proofs.YtokojichjliieaaDoor
open Go.RowKit
theorem and_not8 (X : BitVec 64) : X &&& ~~~(8 : BitVec 64) = 0 ↔ X = 0 ∨ X = 8 := by
  have h8 : ∀ i, i < 64 → i ≠ 3 → (8 : BitVec 64).getLsbD i = false := by decide
  constructor
  · intro h
    have hb : ∀ i, i < 64 → i ≠ 3 → X.getLsbD i = false := by
      intro i hi h3
      have h1 := congrArg (fun Y : BitVec 64 => Y.getLsbD i) h
      simp only [BitVec.getLsbD_and, BitVec.getLsbD_not, h8 i hi h3] at h1
      simpa [hi] using h1
    by_cases h3 : X.getLsbD 3 = true
    · right
      apply BitVec.eq_of_getLsbD_eq
      intro i hi
      by_cases e : i = 3
      · subst e; rw [h3]; rfl
      · rw [hb i hi e, h8 i hi e]
    · left
      apply BitVec.eq_of_getLsbD_eq
      intro i hi
      by_cases e : i = 3
      · subst e; simpa using h3
      · rw [hb i hi e]; simp
  · rintro (h | h) <;> subst h <;> decide
theorem andNot8 (x : Int) (h1 : -9223372036854775808 ≤ x) (h2 : x ≤ 9223372036854775807) : bits .andNot .i64 x 8 = 0 ↔ x = 0 ∨ x = 8 := by
  have hd : bits .andNot .i64 x 8 = IntKind.i64.wrap ((BitVec.ofInt 64 x &&& ~~~BitVec.ofInt 64 8).toNat : Int) := rfl
  have h8 : BitVec.ofInt 64 8 = (8 : BitVec 64) := rfl
  have hX : (BitVec.ofInt 64 x &&& ~~~(8 : BitVec 64)).toNat < 18446744073709551616 := BitVec.isLt _
  rw [hd, h8]
  have hs : (BitVec.ofInt 64 x).toInt = x := by
    rw [BitVec.toInt_ofInt, Int.bmod_def, show ((2 ^ 64 : Nat) : Int) = 18446744073709551616 from rfl]
    split <;> omega
  constructor
  · intro h
    have h0 : BitVec.ofInt 64 x &&& ~~~(8 : BitVec 64) = 0 := by
      apply BitVec.eq_of_toNat_eq
      rw [IntKind.wrap_i64] at h
      show _ = 0
      omega
    rcases (and_not8 _).1 h0 with e | e
    · left; rw [e] at hs; rw [← hs]; rfl
    · right; rw [e] at hs; rw [← hs]; rfl
  · rintro (h | h) <;> subst h <;> decide
theorem unpA_ok {me pk si su : Int} {b o : List UInt8} (h : unpA me pk si su b = .ok o) : (b.length : Int) = pk ∧ (me = 0 ∨ me = 8) ∧ (o.length : Int) = si ∧ si ≤ 32768 ∧ (crcA 0 o : Int) = su := by
  unfold unpA at h
  split at h
  · cases h
  rename_i h1
  split at h
  · cases h
  rename_i h2
  cases ho : outA me pk si b with
  | err k => rw [ho] at h; cases h
  | ok z =>
    rw [ho] at h
    have h : endA' si su z = .ok o := h
    unfold endA' at h
    split at h
    · cases h
    split at h
    · cases h
    injection h with h
    subst h
    rename_i h3 h4
    exact ⟨by omega, by omega, by omega, by omega, by omega⟩
def UnpPost (R : Rz (List UInt8)) (w : World) (e : Ending) (w' : World) : Prop :=
  Below w.heap.size w w' ∧ match R with
    | .ok o => ∃ v, e = .returned (.tuple #[v, .int .i64 0]) ∧ OwB w' w.heap.size 5 v o ∧ o.length ≤ 32768
    | .err k => e = .returned (.tuple #[.slice none 0 0, .int .i64 k]) ∧ k ≠ 0
theorem unpPost_err {R : Rz (List UInt8)} {w w' : World} {k : Int} (h : R = .err k) (hb : Below w.heap.size w w') (hk : k ≠ 0 := by decide) : UnpPost R w (.returned (.tuple #[.slice none 0 0, .int .i64 k])) w' := by
  subst h; exact ⟨hb, rfl, hk⟩
theorem unpPost_ok {R : Rz (List UInt8)} {w w' : World} {v : Value} {l : List UInt8} (h : R = .ok l) (hb : Below w.heap.size w w') (ho : OwB w' w.heap.size 5 v l) (hl : l.length ≤ 32768) : UnpPost R w (.returned (.tuple #[v, .int .i64 0])) w' := by
  subst h; exact ⟨hb, v, rfl, ho, hl⟩
set_option maxRecDepth 100000 in
set_option maxHeartbeats 4000000 in
theorem unp_any (s : ByteArray) (me pk si su at_ hd : Int) (A : Option Addr) (n c : Nat) (b : List UInt8) (w : World) (hn : b.length = n) (hz : n ≤ 1000000000) (hr : RB w w.heap.size A b)
    (hme1 : -9223372036854775808 ≤ me) (hme2 : me ≤ 9223372036854775807) :
    Calls Tryd.prog 21 #[.agg #[.string s, .int .i64 me, .int .i64 pk, .int .i64 si, .int .i64 su, .int .i64 at_, .int .i64 hd], .slice A n c] w (UnpPost (unpA me pk si su b) w) := by
  obtain ⟨R, hRR⟩ : ∃ R, unpA me pk si su b = R := ⟨_, rfl⟩
  rw [hRR]
  have HE := bx hn
  have HRR := bx hRR
  have hB0 : Bx (Below w.heap.size w (w.alloc (.cells #[.string s, .int .i64 me, .int .i64 pk, .int .i64 si, .int .i64 su, .int .i64 at_, .int .i64 hd] 33))) := bx (bl_alloc (Below.refl w.heap.size w) (Nat.le_refl _) _)
  obtain ⟨g, hg⟩ : ∃ g, w.heap.size = g := ⟨_, rfl⟩
  have hK0 : Bk (w.alloc (.cells #[.string s, .int .i64 me, .int .i64 pk, .int .i64 si, .int .i64 su, .int .i64 at_, .int .i64 hd] 33)) g 33 #[.string s, .int .i64 me, .int .i64 pk, .int .i64 si, .int .i64 su, .int .i64 at_, .int .i64 hd] := Bk.newAt w _ _ hg
  have hR0 : RB (w.alloc (.cells #[.string s, .int .i64 me, .int .i64 pk, .int .i64 si, .int .i64 su, .int .i64 at_, .int .i64 hd] 33)) (w.alloc (.cells #[.string s, .int .i64 me, .int .i64 pk, .int .i64 si, .int .i64 su, .int .i64 at_, .int .i64 hd] 33)).heap.size A b := (hr.alloc (Nat.le_refl _) _).more (by simp)
  have HK0 := bx hK0
  have HR0 := bx hR0
  have HG := bx hg
  clear hn hRR hr hK0 hR0
  go_enter Tryd.func21, Tryd.ntmps21
  go_upto_region 1 with (fail)
  generalize w.alloc (.cells #[.string s, .int .i64 me, .int .i64 pk, .int .i64 si, .int .i64 su, .int .i64 at_, .int .i64 hd] 33) = w0 at HK0 HR0 hB0 ⊢
  have k1 : w0.cell? ⟨g, 1, none⟩ = some (.int .i64 me) := (HK0.out.cell 1).trans rfl
  have k2 : w0.cell? ⟨g, 2, none⟩ = some (.int .i64 pk) := (HK0.out.cell 2).trans rfl
  have k3 : w0.cell? ⟨g, 3, none⟩ = some (.int .i64 si) := (HK0.out.cell 3).trans rfl
  by_cases h1 : (n : Int) ≠ pk
  · have t1 : ((n : Int) != pk) = true := by rw [bne_iff_ne]; exact h1
    have HF : Bx (R = .err 1) := bx (by rw [← HRR.out, unpA, if_pos (.inl (by rw [HE.out]; exact h1))])
    clear h1
    go_wp2
    go_ret2
    exact unpPost_err HF.out hB0.out
  obtain rfl : pk = (n : Int) := by omega
  clear h1
  have t1 : ((n : Int) != (n : Int)) = false := by simp
  by_cases h2 : me ≠ 0 ∧ me ≠ 8
  · have t2 : (bits .andNot .i64 me 8 != 0) = true := by rw [bne_iff_ne]; intro e; have := (andNot8 me hme1 hme2).1 e; omega
    have HF : Bx (R = .err 1) := bx (by rw [← HRR.out, unpA, if_pos (.inr (.inl h2))])
    clear h2
    go_wp2
    go_ret2
    exact unpPost_err HF.out hB0.out
  have t2 : (bits .andNot .i64 me 8 != 0) = false := by rw [(andNot8 me hme1 hme2).2 (by omega)]; rfl
  by_cases h3 : si < 0
  · have HF : Bx (R = .err 1) := bx (by rw [← HRR.out, unpA, if_pos (.inr (.inr h3))])
    clear h2
    go_wp2
    go_ret2
    exact unpPost_err HF.out hB0.out
  by_cases h4 : 32768 < si
  · have HF : Bx (R = .err 17) := bx (by rw [← HRR.out, unpA, if_neg (by rw [HE.out]; omega), if_pos h4])
    clear h2
    go_wp2
    go_ret2
    exact unpPost_err HF.out hB0.out
  have HU : Bx (R = (outA me (n : Int) si b).bind (endA' si su)) := bx (by rw [← HRR.out, unpA, if_neg (by rw [HE.out]; omega), if_neg h4])
  by_cases h8 : me = 8
  · have t8 : (me == 8) = true := by rw [h8]; rfl
    have HO : Bx (outA me (n : Int) si b = (inflP b si).bind fun x => if x.2 < b.length then .err 18 else .ok x.1) := bx (by rw [outA, if_pos h8])
    clear h2 h8
    have HI := bx (iall_any A n c b si w0 HE.out hz HR0.out (by omega) (by omega))
    go_wp2_with fail
    refine HI.out.mono ?_
    intro e w1 hp
    cases hi : inflP b si with
    | err k =>
      obtain ⟨rfl, hb1, hk0⟩ := allErr hp hi
      have HF : Bx (R = .err k) := bx (by rw [HU.out, HO.out, hi]; rfl)
      have HB1 := bx (hB0.out.trans (hb1.mono hB0.out.size))
      have HK := bx hk0
      have hkb : (k != 0) = true := by rw [bne_iff_ne]; exact hk0
      clear hp hi hb1 hk0
      go_wp2
      go_ret2
      exact unpPost_err HF.out HB1.out HK.out
    | ok x =>
      obtain ⟨o, used⟩ := x
      obtain ⟨A1, m, c1, rfl, hm, hr1, hmc, hb1, _, ho1, ho2⟩ := allOk hp hi
      have HB1 := bx (hB0.out.trans (hb1.mono hB0.out.size))
      have HK1 := bx (HK0.out.below hb1 HK0.out.lt)
      have hm32 : m ≤ 32768 := by rw [hm.out]; exact ho2
      have HR1 := bx hr1
      have HO1 := bx ho1
      have HX : Bx (outA me (n : Int) si b = if used < b.length then .err 18 else .ok o) := bx (by rw [HO.out, hi]; rfl)
      clear hp hi hb1 hr1 ho1 ho2 k1 k2 k3
      by_cases h5 : used < n
      · have h5I : (used : Int) < (n : Int) := by omega
        have HF : Bx (R = .err 18) := bx (by rw [HU.out, HX.out, if_pos (by rw [HE.out]; exact h5)]; rfl)
        clear h5
        go_wp2
        go_ret2
        exact unpPost_err HF.out HB1.out
      have h5I : ¬ (used : Int) < (n : Int) := by omega
      have HZ : Bx (R = endA' si su o) := bx (by rw [HU.out, HX.out, if_neg (by rw [HE.out]; exact h5)]; rfl)
      have q3 : w1.cell? ⟨g, 3, none⟩ = some (.int .i64 si) := (HK1.out.cell 3).trans rfl
      have q4 : w1.cell? ⟨g, 4, none⟩ = some (.int .i64 su) := (HK1.out.cell 4).trans rfl
      have hOL : OwB w1 w.heap.size 5 (.slice A1 m c1) o := OwL.low HO1.out hB0.out.size
      have HOL := bx hOL
      clear hOL h5
      by_cases h7 : (m : Int) ≠ si
      · have t7 : ((m : Int) != si) = true := by rw [bne_iff_ne]; exact h7
        have HF : Bx (R = .err 18) := bx (by rw [HZ.out, endA', if_pos (by rw [← hm.out]; exact h7)])
        clear h7
        go_wp2
        go_ret2
        exact unpPost_err HF.out HB1.out
      have t7 : ((m : Int) != si) = false := by rw [show (m : Int) = si by omega]; simp
      obtain ⟨sm, hsm⟩ : ∃ sm, crcA 0 o = sm := ⟨_, rfl⟩
      have HSM := bx hsm
      have hgz := HK1.out.lt
      clear hsm
      go_upto_region 18 with (fail)
      have HS0 : w1.drew.cell? ⟨g, 4, none⟩ = some (.int .i64 su) := q4
      go_region_held3 (fun w' => w'.cell? ⟨g, 4, none⟩ = some (.int .i64 su)) (first | exact HS0 | go_keep | exact HS2) ((go_at_call 25; refine (of_any w1.heap.size 1 A1 m c1 o _ (hm.out.symm) (by omega) (((HR1.out.drewN 1).alloc (Nat.le_refl _) _).more (by simp)) (((Bk.new (w1.drewN 1) _ _).cell 0).trans rfl)).mono ?_; rintro e w2 ⟨rfl, hb2⟩; have HS2 : w2.cell? ⟨g, 4, none⟩ = some (.int .i64 su) := (hb2.cell (by simp; omega)).trans ((Below.cell (bl_alloc (Below.refl w1.heap.size w1.drew) (Nat.le_refl _) _) hgz).trans q4)))
      rename World => w2
      rename Below _ _ w2 => hb2
      have HB2 := bx (show Below w.heap.size w w2 from HB1.out.trans ((((bl_alloc (below_drewN (Below.refl w1.heap.size w1) 1) (Nat.le_refl _) _).trans (hb2.mono (by simp)))).mono HB1.out.size))
      have HO2 : Bx (OwB w2 w.heap.size 5 (.slice A1 m c1) o) := bx (((HOL.out.drewN 1).alloc _).below hb2)
      clear hb2 HS2 HS0
      by_cases h9 : (sm : Int) ≠ su
      · have t9 : ((sm : Int) != su) = true := by rw [bne_iff_ne]; exact h9
        have HF : Bx (R = .err 19) := bx (by rw [HZ.out, endA', if_neg (by rw [← hm.out]; exact h7), if_pos (by rw [HSM.out]; exact h9)])
        clear h9 h7
        rw [HSM.out]
        go_wp2
        go_ret2
        exact unpPost_err HF.out HB2.out
      have t9 : ((sm : Int) != su) = false := by rw [show (sm : Int) = su by omega]; simp
      have HF : Bx (R = .ok o) := bx (by rw [HZ.out, endA', if_neg (by rw [← hm.out]; exact h7), if_neg (by rw [HSM.out]; exact h9)])
      clear h9 h7
      rw [HSM.out]
      go_wp2
      go_ret2
      exact unpPost_ok HF.out HB2.out HO2.out (by rw [← hm.out]; exact hm32)
  · have t8 : (me == 8) = false := by rw [beq_eq_false_iff_ne]; exact h8
    by_cases h6 : (n : Int) ≠ si
    · have t6 : ((n : Int) != si) = true := by rw [bne_iff_ne]; exact h6
      have HF : Bx (R = .err 18) := bx (by rw [HU.out, outA, if_neg h8, if_pos h6]; rfl)
      clear h2 h6 h8
      go_wp2
      go_ret2
      exact unpPost_err HF.out hB0.out
    have t6 : ((n : Int) != si) = false := by rw [show (n : Int) = si by omega]; simp
    have HZ : Bx (R = endA' si su b) := bx (by rw [HU.out, outA, if_neg h8, if_neg h6]; rfl)
    have hm32 : n ≤ 32768 := by omega
    have HN : Bx ((([] : List UInt8).length + b.length) * 1 ≤ 140737488355328) := bx (by rw [HE.out]; simp; omega)
    have h6 := bx h6
    clear h2 h8
    go_wp2_with (at_builtin; refine wpList_appL _ bV_one rfl (.tmp 53) (.tmp 54) rfl byteTy (by decide) w0.heap.size _ [] rfl (OwL.lit0 w0 (Nat.le_refl _)) _ A n c b rfl HE.out (HR0.out.alloc (Nat.le_refl _) _) HN.out (le_alloc0 (Nat.le_refl _) _) ?_; intro v1 w1 own1 _ _ hb1; rw [List.nil_append] at own1; have HB1 := bx (hB0.out.trans (((bl_alloc (Below.refl w0.heap.size w0) (Nat.le_refl _) (.cells #[] 5)).trans hb1).mono hB0.out.size)); have HK1 := bx (HK0.out.below ((bl_alloc (Below.refl w0.heap.size w0) (Nat.le_refl _) (.cells #[] 5)).trans hb1) HK0.out.lt); have HOL := bx (OwL.low own1 hB0.out.size); obtain ⟨A1, c1, rfl, hr1, hmc, _⟩ := own1.rd; rw [HE.out]; rw [HE.out] at HOL; have HR1 := bx hr1; have q3 : w1.cell? ⟨g, 3, none⟩ = some (.int .i64 si) := (HK1.out.cell 3).trans rfl; have q4 : w1.cell? ⟨g, 4, none⟩ = some (.int .i64 su) := (HK1.out.cell 4).trans rfl; clear hb1 own1 hr1 hmc)
    have h7 : ¬ (n : Int) ≠ si := fun h => h6.out h
    have t7 : ((n : Int) != si) = false := by rw [show (n : Int) = si by omega]; simp
    obtain ⟨sm, hsm⟩ : ∃ sm, crcA 0 b = sm := ⟨_, rfl⟩
    have HSM := bx hsm
    have hgz := HK1.out.lt
    clear hsm
    go_upto_region 18 with (fail)
    have HS0 : w1.drew.cell? ⟨g, 4, none⟩ = some (.int .i64 su) := q4
    go_region_held3 (fun w' => w'.cell? ⟨g, 4, none⟩ = some (.int .i64 su)) (first | exact HS0 | go_keep | exact HS2) ((go_at_call 25; refine (of_any w1.heap.size 1 A1 n c1 b _ (HE.out) (by omega) (((HR1.out.drewN 1).alloc (Nat.le_refl _) _).more (by simp)) (((Bk.new (w1.drewN 1) _ _).cell 0).trans rfl)).mono ?_; rintro e w2 ⟨rfl, hb2⟩; have HS2 : w2.cell? ⟨g, 4, none⟩ = some (.int .i64 su) := (hb2.cell (by simp; omega)).trans ((Below.cell (bl_alloc (Below.refl w1.heap.size w1.drew) (Nat.le_refl _) _) hgz).trans q4)))
    rename World => w2
    rename Below _ _ w2 => hb2
    have HB2 := bx (show Below w.heap.size w w2 from HB1.out.trans ((((bl_alloc (below_drewN (Below.refl w1.heap.size w1) 1) (Nat.le_refl _) _).trans (hb2.mono (by simp)))).mono HB1.out.size))
    have HO2 : Bx (OwB w2 w.heap.size 5 (.slice A1 n c1) b) := bx (((HOL.out.drewN 1).alloc _).below hb2)
    clear hb2 HS2 HS0
    by_cases h9 : (sm : Int) ≠ su
    · have t9 : ((sm : Int) != su) = true := by rw [bne_iff_ne]; exact h9
      have HF : Bx (R = .err 19) := bx (by rw [HZ.out, endA', if_neg (by rw [HE.out]; exact h7), if_pos (by rw [HSM.out]; exact h9)])
      clear h9 h7
      rw [HSM.out]
      go_wp2
      go_ret2
      exact unpPost_err HF.out HB2.out
    have t9 : ((sm : Int) != su) = false := by rw [show (sm : Int) = su by omega]; simp
    have HF : Bx (R = .ok b) := bx (by rw [HZ.out, endA', if_neg (by rw [HE.out]; exact h7), if_neg (by rw [HSM.out]; exact h9)])
    clear h9 h7
    rw [HSM.out]
    go_wp2
    go_ret2
    exact unpPost_ok HF.out HB2.out HO2.out (by rw [HE.out]; exact hm32)
end Go.Proofs.YtokojichjliieaaDoor
namespace Go.Proofs.YtokojichjliieaaDoor
open Go.RowKit
theorem unpOk {R : Rz (List UInt8)} {w w' : World} {e : Ending} {l : List UInt8} (h : UnpPost R w e w') (hR : R = .ok l) : ∃ A k c, e = .returned (.tuple #[.slice A k c, .int .i64 0]) ∧ Bx (k = l.length) ∧ RB w' w'.heap.size A l ∧ k ≤ c ∧ (c : Int) ≤ 9223372036854775807 ∧ Below w.heap.size w w' ∧ OwB w' w.heap.size 5 (.slice A k c) l ∧ k ≤ 32768 := by
  subst hR
  obtain ⟨hb, v, rfl, hO, hl⟩ := h
  obtain ⟨A, c, rfl, hr, hc, hc2⟩ := OwL.rd hO
  exact ⟨A, _, c, rfl, ⟨rfl⟩, hr, hc, hc2, hb, hO, hl⟩
theorem unpErr {R : Rz (List UInt8)} {w w' : World} {e : Ending} {k : Int} (h : UnpPost R w e w') (hR : R = .err k) : e = .returned (.tuple #[.slice none 0 0, .int .i64 k]) ∧ Below w.heap.size w w' ∧ k ≠ 0 := by
  subst hR
  exact ⟨h.2.1, h.1, h.2.2⟩
/-- The answer as a pair: the error, the bytes. -/
def unpKL : Rz (List UInt8) → Int × List UInt8
  | .err k => (k, [])
  | .ok l => (0, l)
theorem unp_pair {R : Rz (List UInt8)} {w w' : World} {e : Ending} {k : Int} {L : List UInt8} (h : UnpPost R w e w') (hR : unpKL R = (k, L)) : ∃ A n c, e = .returned (.tuple #[.slice A n c, .int .i64 k]) ∧ Bx (n = L.length) ∧ RB w' w'.heap.size A L ∧ n ≤ c ∧ n ≤ 32768 ∧ Below w.heap.size w w' := by
  cases R with
  | err j =>
    injection hR with h1 h2
    subst h1; subst h2
    exact ⟨none, 0, 0, h.2.1, ⟨rfl⟩, RL.nil, Nat.le_refl _, by omega, h.1⟩
  | ok l =>
    injection hR with h1 h2
    subst h1; subst h2
    obtain ⟨A, n, c, rfl, hn, hr, hc, _, hb, _, h32⟩ := unpOk h rfl
    exact ⟨A, n, c, rfl, hn, hr, hc, h32, hb⟩
theorem unp_form {R : Rz (List UInt8)} {w w' : World} {e : Ending} (h : UnpPost R w e w') : ∃ v k, e = .returned (.tuple #[v, .int .i64 k]) := by
  cases R with
  | err j => exact ⟨_, _, h.2.1⟩
  | ok l =>
    obtain ⟨_, v, rfl, _⟩ := h
    exact ⟨_, _, rfl⟩
theorem unp_low {R : Rz (List UInt8)} {w w1 w' : World} {e : Ending} (h : UnpPost R w1 e w') (hb : Below w.heap.size w w1) : UnpPost R w e w' := by
  refine ⟨hb.trans (h.1.mono hb.size), ?_⟩
  cases R with
  | err j => exact h.2
  | ok l =>
    obtain ⟨_, v, rfl, hO, hl⟩ := h
    exact ⟨v, rfl, OwL.low hO hb.size, hl⟩
end Go.Proofs.YtokojichjliieaaDoor
namespace Go.Proofs.YtokojichjliieaaDoor

/-- The document's way through a name: the part that is being read, the rest. -/
def nmF : List UInt8 → List UInt8 → Bool
  | part, [] => partOk part
  | part, c :: r => if c = 47 then (partOk part && !part.isEmpty && nmF [] r) else if c = 0 ∨ c = 92 then false else nmF (part ++ [c]) r
theorem cutL_form (a : UInt8) (s : List UInt8) : ∃ x xs, cutL a s = x :: xs := by
  cases h : cutL a s with
  | nil => exact absurd h (cutL_ne a s)
  | cons x xs => exact ⟨x, xs, rfl⟩
theorem partsOk_cons {p : List UInt8} {q : List UInt8} {r : List (List UInt8)} : partsOk (p :: q :: r) = (partOk p && !p.isEmpty && partsOk (q :: r)) := rfl
theorem nmF_eq (s : List UInt8) : ∀ part x xs, cutL 47 s = x :: xs → nmF part s = (!s.contains 0 && !s.contains 92 && partsOk ((part ++ x) :: xs)) := by
  induction s with
  | nil =>
    intro part x xs h
    have h : [[]] = x :: xs := h
    injection h with h1 h2
    subst h1 h2
    simp [nmF, partsOk]
  | cons c r ih =>
    intro part x xs h
    obtain ⟨y, ys, hy⟩ := cutL_form 47 r
    rw [nmF]
    rw [cutL] at h
    by_cases hc : c = 47
    · rw [if_pos hc] at h ⊢
      injection h with h1 h2
      subst h1
      rw [hy] at h2
      subst h2
      rw [ih [] y ys hy, List.append_nil, partsOk_cons, List.nil_append]
      subst hc
      simp only [List.contains_cons]
      have e1 : ((0 : UInt8) == 47) = false := by decide
      have e2 : ((92 : UInt8) == 47) = false := by decide
      rw [e1, e2, Bool.false_or, Bool.false_or]
      cases partOk part <;> cases part.isEmpty <;> cases r.contains 0 <;> cases r.contains 92 <;> simp
    · rw [if_neg hc] at h ⊢
      rw [hy] at h
      injection h with h1 h2
      subst h1 h2
      by_cases hb : c = 0 ∨ c = 92
      · rw [if_pos hb]
        rcases hb with e | e <;> subst e <;> simp
      · rw [if_neg hb, ih (part ++ [c]) y ys hy, List.append_assoc, List.singleton_append]
        simp only [List.contains_cons]
        have e1 : ((0 : UInt8) == c) = false := by rw [beq_eq_false_iff_ne]; exact fun e => hb (.inl e.symm)
        have e2 : ((92 : UInt8) == c) = false := by rw [beq_eq_false_iff_ne]; exact fun e => hb (.inr e.symm)
        rw [e1, e2, Bool.false_or, Bool.false_or]
theorem nameA_nmF (s : List UInt8) : nameA s = (!s.isEmpty && decide (s.length ≤ 64) && nmF [] s) := by
  obtain ⟨x, xs, hx⟩ := cutL_form 47 s
  rw [nmF_eq s [] x xs hx, List.nil_append]
  unfold nameA
  rw [hx]
  cases s with
  | nil => rfl
  | cons c r =>
    show (true && decide _ && _ && _ && (!x.isEmpty && partsOk (x :: xs))) = (true && decide _ && (_ && _ && partsOk (x :: xs)))
    have hxe : x.isEmpty = true → partsOk (x :: xs) = false := by
      intro he
      have hx0 : x = [] := List.isEmpty_iff.1 he
      subst hx0
      rw [cutL] at hx
      by_cases hc : c = 47
      · rw [if_pos hc] at hx
        injection hx with _ h2
        obtain ⟨y, ys, hy⟩ := cutL_form 47 r
        rw [← h2, hy, partsOk_cons]; rfl
      · rw [if_neg hc] at hx
        obtain ⟨y, ys, hy⟩ := cutL_form 47 r
        rw [hy] at hx
        injection hx with h1 _
        cases h1
    cases hp : partsOk (x :: xs) with
    | false => simp
    | true =>
      cases he : x.isEmpty with
      | true => rw [hxe he] at hp; cases hp
      | false => simp [Bool.and_assoc]
/-- What a name begins with. -/
theorem nmF_first {c : UInt8} {r : List UInt8} (h : nmF [] (c :: r) = true) : c ≠ 47 := by
  intro e
  rw [nmF, if_pos e] at h
  simp at h
theorem flags_parts (v : Nat) : flagsA v = v - 2 * (v / 2 % 2) - 4 * (v / 4 % 2) - 2048 * (v / 2048 % 2) := rfl
end Go.Proofs.YtokojichjliieaaDoor
namespace Go.Proofs.YtokojichjliieaaDoor
open Go.RowKit
open Go.Lib (replaceAll countB splitB splitK splitB_data splitB_all countB_le)

/-- A text's cell. -/
def sV (x : List UInt8) : Value := .string ⟨x.toArray⟩
theorem sV_one (x : List UInt8) : (sV x).oneCell' = true := rfl
theorem str_info : ∃ i, Tryd.prog.info? 9 = some i ∧ i.zero = some (.string .empty) ∧ i.size = 1 ∧ i.bytes = 16 := info_parts (by kernel_rfl)
theorem strTy : ETy Tryd.prog 70 9 (.string .empty) 1 16 := ⟨Tryd.underlying70, str_info, rfl, by decide⟩
/-- What Split lays. -/
theorem split_row (s : ByteArray) (a : UInt8) : countB s ⟨#[a]⟩ + 1 = (cutL a s.data.toList).length ∧ (splitB ⟨#[a]⟩ 0 (countB s ⟨#[a]⟩) s).map Value.string = (cutL a s.data.toList).map sV := by
  have h := splitB_data ⟨#[a]⟩ 0 (countB s ⟨#[a]⟩) s
  have e : splitK (⟨#[a]⟩ : ByteArray).data.toList 0 (countB s ⟨#[a]⟩) s.data.toList = cutL a s.data.toList := split_cut a s.data.toList
  rw [e] at h
  refine ⟨?_, ?_⟩
  · rw [← h, List.length_map, splitB_all ⟨#[a]⟩ (Nat.le_refl 1) 0 _ s rfl]
  · rw [← h, List.map_map]; rfl
theorem idx_has {l : List UInt8} {x : UInt8} (h : l.contains x = true) : 0 ≤ Lib.indexByte l x := by
  have hge := Lib.indexByte_ge l x
  rcases Decidable.em (Lib.indexByte l x = -1) with h1 | h1
  · obtain ⟨i, hi⟩ := List.getElem?_of_mem (List.contains_iff_mem.1 h)
    exact absurd hi (Lib.indexByte_none h1 i)
  · omega
theorem idx_lacks {l : List UInt8} {x : UInt8} (h : l.contains x = false) : Lib.indexByte l x = -1 := by
  have hge := Lib.indexByte_ge l x
  rcases Decidable.em (Lib.indexByte l x = -1) with h1 | h1
  · exact h1
  · obtain ⟨hi, _⟩ := Lib.indexByte_some (l := l) (c := x) (o := (Lib.indexByte l x).toNat) (by omega)
    have := List.contains_iff_mem.2 (List.mem_of_getElem? hi)
    rw [h] at this; cases this
end Go.Proofs.YtokojichjliieaaDoor
namespace Go.Proofs.YtokojichjliieaaDoor
open Go.RowKit

def partX (i n : Nat) (x : List UInt8) : Bool := partOk x && !(x.isEmpty && (decide (i = 0) || decide (i + 1 < n)))
theorem partsOk_fail : ∀ (l : List (List UInt8)) (k : Nat) (x : List UInt8), l[k]? = some x → (partOk x = false ∨ (x.isEmpty = true ∧ k + 1 < l.length)) → partsOk l = false := by
  intro l
  induction l with
  | nil => intro k x h _; simp at h
  | cons p r ih =>
    intro k x h hx
    cases r with
    | nil =>
      cases k with
      | zero =>
        simp at h; subst h
        rcases hx with hx | hx
        · exact hx
        · simp at hx
      | succ k => simp at h
    | cons q r =>
      rw [partsOk_cons]
      cases k with
      | zero =>
        simp at h; subst h
        rcases hx with hx | hx
        · rw [hx]; simp
        · rw [hx.1]; simp
      | succ k =>
        rw [ih k x (by simpa using h) (by rcases hx with hx | hx; exact .inl hx; exact .inr ⟨hx.1, by simp at hx ⊢; omega⟩)]
        simp
theorem partsOk_fine : ∀ (l : List (List UInt8)), l ≠ [] → (∀ k x, l[k]? = some x → partOk x = true ∧ (k + 1 < l.length → x.isEmpty = false)) → partsOk l = true := by
  intro l
  induction l with
  | nil => intro h _; exact absurd rfl h
  | cons p r ih =>
    intro _ h
    cases r with
    | nil => exact (h 0 p rfl).1
    | cons q r =>
      rw [partsOk_cons, (h 0 p rfl).1, (h 0 p rfl).2 (by simp), ih (by simp) (fun k x hk => by
        obtain ⟨h1, h2⟩ := h (k + 1) x (by simpa using hk)
        exact ⟨h1, fun hl => h2 (by simp at hl ⊢; omega)⟩)]
      rfl
/-- What of a name hangs on its parts. -/
def tailA (l : List (List UInt8)) : Bool := match l with
  | [] => false
  | p :: r => !p.isEmpty && partsOk (p :: r)
theorem tailA_fail {l : List (List UInt8)} {k : Nat} {x : List UInt8} (h : l[k]? = some x) (hx : partX k l.length x = false) : tailA l = false := by
  cases l with
  | nil => rfl
  | cons p r =>
    show (!p.isEmpty && partsOk (p :: r)) = false
    unfold partX at hx
    cases h1 : partOk x with
    | false => rw [partsOk_fail _ k x h (.inl h1), Bool.and_false]
    | true =>
      rw [h1] at hx
      simp only [Bool.true_and, Bool.not_eq_false', Bool.and_eq_true, Bool.or_eq_true, decide_eq_true_eq] at hx
      obtain ⟨he, hk | hk⟩ := hx
      · subst hk
        simp at h; subst h
        rw [he]; rfl
      · rw [partsOk_fail _ k x h (.inr ⟨he, hk⟩), Bool.and_false]
theorem tailA_fine {l : List (List UInt8)} (hne : l ≠ []) (h : ∀ k x, l[k]? = some x → partX k l.length x = true) : tailA l = true := by
  cases l with
  | nil => exact absurd rfl hne
  | cons p r =>
    show (!p.isEmpty && partsOk (p :: r)) = true
    rw [partsOk_fine _ hne (fun k x hk => by
      have := h k x hk
      unfold partX at this
      simp only [Bool.and_eq_true, Bool.not_eq_true', Bool.and_eq_false_iff, Bool.or_eq_false_iff, decide_eq_false_iff_not] at this
      exact ⟨this.1, fun hl => by
        rcases this.2 with e | e
        · exact e
        · exact absurd hl e.2⟩), Bool.and_true]
    have := h 0 p rfl
    unfold partX at this
    cases he : p.isEmpty with
    | false => rfl
    | true => rw [he] at this; simp at this
theorem nameA_form (s : List UInt8) : nameA s = (!s.isEmpty && decide (s.length ≤ 64) && !s.contains 0 && !s.contains 92 && tailA (cutL 47 s)) := rfl
set_option maxHeartbeats 2000000 in
theorem name_any (s : ByteArray) (m : Int) (w : World) (hs : s.size ≤ 140737488351232) (hm : w.cell? ⟨0, 0, none⟩ = some (.int .i64 m)) :
    Calls Tryd.prog 17 #[.string s] w fun e w' => e = .returned (.bool (nameA s.data.toList)) ∧ Below w.heap.size w w' := by
  rw [nameA_form]
  by_cases he : s.data.toList = []
  · have h1 := tl_none he
    have h2 := size_zero he
    rw [he]
    clear he hm
    go_enter Tryd.func17, Tryd.ntmps17
    go_wp2
    go_ret
    exact ⟨rfl, Below.refl _ _⟩
  have h1 := tl_some he
  have hem : s.data.toList.isEmpty = false := by rw [List.isEmpty_eq_false_iff]; exact he
  rw [hem]
  by_cases hl : 64 < s.size
  · have hd : decide (s.data.toList.length ≤ 64) = false := by rw [size_len]; simp; omega
    rw [hd]
    clear he hm hem hd
    go_enter Tryd.func17, Tryd.ntmps17
    go_wp2
    go_ret
    exact ⟨rfl, Below.refl _ _⟩
  have hd : decide (s.data.toList.length ≤ 64) = true := by rw [size_len]; simp; omega
  rw [hd]
  have hl' : ¬ (64 : Int) < (s.size : Int) := by omega
  cases hc0 : s.data.toList.contains 0
  case true =>
    have hge := idx_has hc0
    clear he hm hem hd hc0 hl
    go_enter Tryd.func17, Tryd.ntmps17
    go_wp2_with fail
    refine (Tryd.strings_IndexByte _ _ _).mono ?_
    rintro e w' ⟨rfl, rfl⟩
    rw [show (0 : Int).toNat.toUInt8 = 0 from rfl]
    go_wp2
    go_ret
    exact ⟨by simp, Below.refl _ _⟩
  case false =>
    have hlt := idx_lacks hc0
    have HLT := Lib.hid hlt
    cases hc9 : s.data.toList.contains 92
    case true =>
      have hge := idx_has hc9
      clear he hm hem hd hc0 hl hlt hc9
      go_enter Tryd.func17, Tryd.ntmps17
      go_wp2_with fail
      refine (Tryd.strings_IndexByte _ _ _).mono ?_
      rintro e w' ⟨rfl, rfl⟩
      rw [show (0 : Int).toNat.toUInt8 = 0 from rfl, HLT.out]
      go_wp2_with fail
      refine (Tryd.strings_IndexByte _ _ _).mono ?_
      rintro e w' ⟨rfl, rfl⟩
      rw [show (92 : Int).toNat.toUInt8 = 92 from rfl]
      go_wp2
      go_ret
      exact ⟨by simp, Below.refl _ _⟩
    case false =>
      have hlt9 := idx_lacks hc9
      have HLT9 := Lib.hid hlt9
      have hsz : s.size < 4294967281 := by omega
      obtain ⟨hq1, hq2⟩ := split_row s 47
      obtain ⟨p, hp⟩ : ∃ p, cutL 47 s.data.toList = p := ⟨_, rfl⟩
      have hpne : p ≠ [] := by rw [← hp]; exact cutL_ne 47 _
      rw [hp] at hq1 hq2 ⊢
      have hpl : p.length ≤ 65 := by rw [← hq1]; have := Lib.countB_le ⟨#[47]⟩ (by decide) _ s (Nat.le_refl _); omega
      have HNE := bx hpne
      have HP1 := bx hq1
      have HP2 := bx hq2
      obtain ⟨n, hn⟩ : ∃ n, p.length = n := ⟨_, rfl⟩
      have HN := bx hn
      have hn65 : n ≤ 65 := by omega
      clear he hem hd hc0 hl hlt hc9 hlt9 hp hpne hq1 hq2 hpl hn
      go_enter Tryd.func17, Tryd.ntmps17
      go_wp2_with fail
      refine (Tryd.strings_IndexByte _ _ _).mono ?_
      rintro e w' ⟨rfl, rfl⟩
      rw [show (0 : Int).toNat.toUInt8 = 0 from rfl, HLT.out]
      go_wp2_with fail
      refine (Tryd.strings_IndexByte _ _ _).mono ?_
      rintro e w' ⟨rfl, rfl⟩
      rw [show (92 : Int).toNat.toUInt8 = 92 from rfl, HLT9.out]
      go_wp2_with fail
      refine (Tryd.strings_Split s ⟨#[47]⟩ m _ hsz hm (by decide)).mono ?_
      rintro e w3 ⟨rfl, rfl⟩
      rw [HP1.out, HP2.out, HN.out]
      have hbel3 : Below w'.heap.size w' (w'.alloc (.cells (p.map sV).toArray 9)) := bl_alloc (Below.refl _ _) (Nat.le_refl _) _
      have hrow : RL sV (w'.alloc (.cells (p.map sV).toArray 9)) (w'.heap.size + 1) (some ⟨w'.heap.size, 0, none⟩) p := fun _ => ⟨_, rfl, Nat.lt_succ_self _, fun i u hu => by
        have e : (⟨w'.heap.size, 0, none⟩ : Addr).add i = ⟨w'.heap.size, i, none⟩ := by unfold Addr.add; split <;> simp_all
        rw [e, World.cell?_alloc_mark, ← Array.getElem?_toList]; exact hu⟩
      obtain ⟨w3, hw3⟩ : ∃ w3, w'.alloc (.cells (p.map sV).toArray 9) = w3 := ⟨_, rfl⟩
      obtain ⟨g, hg⟩ : ∃ g, w'.heap.size = g := ⟨_, rfl⟩
      rw [hw3] at hbel3 hrow ⊢
      rw [hg] at hrow ⊢
      have HGG : Bx (w'.heap.size ≤ g + 1) := bx (by omega)
      have HB3 := bx hbel3
      have HRW := bx hrow
      clear hw3 hbel3 hrow hg hm
      go_wp2
      go_loopw [27] (fun i wr => ∃ k : Nat, k ≤ n ∧ i = .int .i64 (k : Int) ∧ Below (g + 1) w3 wr ∧ Bx (∀ j x, j < k → p[j]? = some x → partX j n x = true)) (fun i _ => n - (intOf i).toNat)
      case atStart => exact ⟨0, by omega, rfl, Below.refl _ _, bx (fun j x h => absurd h (by omega))⟩
      case round =>
        obtain ⟨k, hk, rfl, hbel, hall⟩ := hrel
        by_cases hk0 : k < n
        · obtain ⟨ad, x, had, hlt, hx, hc⟩ := (RL.below HRW.out hbel (by omega)).atl (k := k) (by rw [HN.out]; exact hk0)
          injection had with had
          subst had
          obtain ⟨b, hb⟩ : ∃ b : ByteArray, (⟨x.toArray⟩ : ByteArray) = b := ⟨_, rfl⟩
          have hbx : b.data.toList = x := by rw [← hb]
          have hc' : wr.cell? ⟨g, k, none⟩ = some (.string b) := by
            have e : (⟨g, 0, none⟩ : Addr).add k = ⟨g, k, none⟩ := by unfold Addr.add; split <;> simp_all
            rw [← hb, ← e]; exact hc
          have HX : Bx (p[k]? = some x) := bx hx.out
          have fail : partX k n x = false → Bx (Ending.returned (.bool false) = Ending.returned (.bool (true && tailA p))) := fun h => bx (by rw [tailA_fail HX.out (by rw [HN.out]; exact h)]; rfl)
          have fine : partX k n x = true → Bx (∀ j y, j < k + 1 → p[j]? = some y → partX j n y = true) := fun h => bx (fun j y hj hy => by
            by_cases e : j = k
            · subst e; rw [HX.out] at hy; injection hy with hy; subst hy; exact h
            · exact hall.out j y (by omega) hy)
          have BE : Bx (Below w'.heap.size w' wr) := bx ((HB3.out).trans (hbel.mono HGG.out))
          clear hb hc hx hlt HRW
          have kn : (k : Int) < (n : Int) := by omega
          by_cases e1 : x = [46]
          · have HF := fail (by subst e1; rfl)
            have t1 := tl_eq (s := b) (l := [46]) (by rw [hbx, e1])
            clear fail fine hbx e1
            go_wp2
            go_ret
            exact ⟨HF.out, BE.out⟩
          have t1 := tl_ne (s := b) (l := [46]) (by rw [hbx]; exact e1)
          by_cases e2 : x = [46, 46]
          · have HF := fail (by subst e2; rfl)
            have t2 := tl_eq (s := b) (l := [46, 46]) (by rw [hbx, e2])
            clear fail fine hbx e1 e2
            go_wp2
            go_ret
            exact ⟨HF.out, BE.out⟩
          have t2 := tl_ne (s := b) (l := [46, 46]) (by rw [hbx]; exact e2)
          have hok : partOk x = true := by unfold partOk; simp [e1, e2]
          by_cases e3 : x = []
          · have t3 := tl_none (s := b) (by rw [hbx, e3])
            by_cases k0 : k = 0
            · have HF := fail (by unfold partX; rw [e3, k0]; simp)
              have k0' : ((k : Int) == 0) = true := by rw [beq_iff_eq]; omega
              clear fail fine hbx e1 e2 e3 hok k0
              go_wp2
              go_ret
              exact ⟨HF.out, BE.out⟩
            have k0' : ((k : Int) == 0) = false := by rw [beq_eq_false_iff_ne]; omega
            by_cases k1 : k + 1 < n
            · have HF := fail (by unfold partX; rw [e3, decide_eq_true k1]; simp)
              have k1' : (k : Int) < (n : Int) - 1 := by omega
              clear fail fine hbx e1 e2 e3 hok k0
              go_wp2
              go_ret
              exact ⟨HF.out, BE.out⟩
            · have HF := fine (by unfold partX; rw [hok, decide_eq_false k0, decide_eq_false k1]; simp)
              have k1' : ¬ (k : Int) < (n : Int) - 1 := by omega
              clear fail fine hbx e1 e2 e3 hok k0 k1
              go_wp2
              go_roundw
              case rel => exact ⟨k + 1, by omega, by go_num, hbel, HF⟩
              case measure => simp [intOf]; omega
          · have t3 := tl_some (s := b) (by rw [hbx]; exact e3)
            have HF := fine (by unfold partX; rw [hok, show x.isEmpty = false by rw [List.isEmpty_eq_false_iff]; exact e3]; simp)
            clear fail fine hbx e1 e2 e3 hok
            go_wp2
            go_roundw
            case rel => exact ⟨k + 1, by omega, by go_num, hbel, HF⟩
            case measure => simp [intOf]; omega
        · obtain rfl : k = n := by omega
          have HF : Bx (tailA p = true) := bx (tailA_fine HNE.out (fun j x hj => by rw [HN.out]; exact hall.out j x (by rw [← HN.out]; exact (List.getElem?_eq_some_iff.1 hj).1) hj))
          go_wp2
          go_ret
          exact ⟨ret_bool (by rw [HF.out]; rfl), (HB3.out).trans (hbel.mono HGG.out)⟩
end Go.Proofs.YtokojichjliieaaDoor
namespace Go.Proofs.YtokojichjliieaaDoor
open Go.RowKit
/-- string(b) of whatever row of bytes. -/
theorem run_conv_str {P : Program} {w : World} {B : Nat} {A : Option Addr} {l : List UInt8} {n c : Nat} {src dst e : TypeId} (hs : P.underlying src = some (.slice e)) (he : P.underlying e = some (.int .u8)) (hd : P.underlying dst = some .string)
    (hn : l.length = n) (hr : RB w B A l) : (convert src dst (.slice A n c)).run P w = .ok (.string ⟨l.toArray⟩) w := by
  subst hn
  rcases A with _ | ad
  · have hl : l = [] := by
      rcases Decidable.em (l.map bV = []) with h | h
      · simpa using h
      · obtain ⟨_, h', _⟩ := hr h; cases h'
    subst hl
    exact Lib.run_convert_nil_bytes w src dst e c hs he hd
  · refine run_convert_bytes_back w src dst e ad c l hs he hd fun j hj => ?_
    obtain ⟨ad', h', _, hc⟩ := hr (fun h => by simp at h; subst h; simp at hj)
    injection h' with h'
    subst h'
    exact hc j _ (by simp [hj]; rfl)
end Go.Proofs.YtokojichjliieaaDoor
namespace Go.Proofs.YtokojichjliieaaDoor
section
variable {P : Program} {ops : Array Oper} {md : Region.Mode} {Q : Exit → Act → World → Prop} {F : Nat → World}

/-- In every world of the row the operation leaves v, and that very world. -/
def SameAt (P : Program) (o : Oper) (a : Act) (F : Nat → World) (v : Value) : Prop := ∀ n, Oper.quietUpon P (fun w' => w' = F n) (F n) v ((execOp a.eval o).run P (F n))
def InRow (F : Nat → World) (w : World) : Prop := ∃ n, w = F n
def YldS (P : Program) (ops : Array Oper) (F : Nat → World) (o : Oper) (v : Value) (a : Act) : Prop :=
  (Region.wanted o (yielded ops a.tmps) = true ∧ SameAt P o a F v) ∨ (Region.wanted o (yielded ops a.tmps) = false ∧ v = undef)
theorem wp_of_sameAt {o : Oper} {a : Act} {v : Value} {K : Act → World → Prop} {n : Nat} (h : SameAt P o a F v) (hk : K (a.put o.dst v) (F n)) : o.wp P a (F n) K Q := by
  have h3 := h n
  unfold Oper.wp
  generalize (execOp a.eval o).run P (F n) = r at *
  cases r with
  | ok x w' =>
    cases x <;> simp only [Oper.quietUpon] at h3 <;> simp only [Oper.upon]
    case value u =>
      obtain ⟨e1, e2⟩ := h3
      rw [e1, e2]; exact hk
    case skip =>
      obtain ⟨e1, e2⟩ := h3
      rw [e1, ← e2]; exact hk
    case enter f args =>
      obtain ⟨e1, hc⟩ := h3
      rw [e1]
      exact hc.mono fun e w'' ⟨he, hw''⟩ => by subst he; subst hw''; exact hk
  | halt x w' => simp only [Oper.quietUpon] at h3
theorem YldS.wpOp {i : Nat} {o : Oper} {v : Value} {a : Act} (hi : ops[i]? = some o) (hy : YldS P ops F o v a) {K : Act → World → Prop} {w : World} (hS : InRow F w) (h : K (a.put o.dst v) w) : wpOp P ops Q i K a w := by
  obtain ⟨n, rfl⟩ := hS
  unfold Go.wpOp
  simp only [hi]
  rcases hy with ⟨hw, hv⟩ | ⟨hw, rfl⟩
  · simp only [hw, if_true]; exact .inl (wp_of_sameAt hv h)
  · simp only [hw, Bool.false_eq_true, if_false]; exact h
theorem YldS.of_same {o : Oper} {v : Value} {a a' : Act} (hy : YldS P ops F o v a) (he : execOp a'.eval o = execOp a.eval o)
    (hw : Region.wanted o (yielded ops a'.tmps) = Region.wanted o (yielded ops a.tmps)) : YldS P ops F o v a' := by
  unfold YldS SameAt at *
  rw [he, hw]
  exact hy
theorem wpOp_putS {j : Nat} {oi oj : Oper} {v : Value} (hj : ops[j]? = some oj) (hap : oi.apart ops oj = true)
    (hsi : ∀ cs b, oi.op ≠ .select cs b) (hsj : ∀ cs b, oj.op ≠ .select cs b)
    (hQ : ∀ c a w d u, Q (.panic c) (a.put d u) w → Q (.panic c) a w) {K : Act → World → Prop} {a : Act} {w : World}
    (hy : YldS P ops F oi v a) (h : wpOp P ops Q j K (a.put oi.dst v) w) :
    wpOp P ops Q j (fun a' w' => YldS P ops F oi v a' ∧ K (a'.put oi.dst v) w') a w := by
  obtain ⟨h1, h2, h3⟩ := Oper.apart_spec hap
  have keep : ∀ (a : Act), YldS P ops F oi v a → ∀ u, YldS P ops F oi v (a.put oj.dst u) := fun a hy u =>
    hy.of_same (execOp_put oi hsi a oj.dst u h3) (wanted_put oi a oj.dst u h3)
  have keepD : ∀ d, YldS P ops F oi v { a with defers := d :: a.defers } := fun d => hy.of_same rfl rfl
  unfold wpOp at *
  simp only [hj] at *
  rw [wanted_put oj a oi.dst v h1] at h
  split
  · rename_i hw
    simp only [hw, if_true] at h
    rcases h with h | ⟨hasks, hlets⟩
    case inr => exact .inr ⟨by unfold Oper.asks at *; rw [execOp_put oj hsj a oi.dst v h1] at hasks; exact hasks, hlets⟩
    refine .inl ?_
    unfold Oper.wp at *
    rw [execOp_put oj hsj a oi.dst v h1] at h
    generalize (execOp a.eval oj).run P w = r at *
    cases r with
    | ok n w' =>
      cases n <;> simp only [Oper.upon] at h ⊢
      case value u => exact ⟨keep a hy u, by rw [← Act.put_comm a v u h2]; exact h⟩
      case skip => exact ⟨keep a hy _, by rw [← Act.put_comm a v undef h2]; exact h⟩
      case defer d =>
        refine ⟨keep _ (keepD d) _, ?_⟩
        rw [← Act.put_comm _ v undef h2, ← Act.put_defers]
        exact h
      case enter f args =>
        refine Calls.mono h fun e w'' he => ?_
        cases e with
        | returned u => exact ⟨keep a hy u, by rw [← Act.put_comm a v u h2]; exact he⟩
        | panicked c => exact hQ _ _ _ _ _ he
        | outgrown => exact he
      case row row args => exact Rows.mono h fun u w'' he => ⟨keep a hy u, by rw [← Act.put_comm a v u h2]; exact he⟩
    | halt x w' =>
      cases x <;> simp only [Oper.upon] at h ⊢
      case panic u => exact hQ _ _ _ _ _ h
  · rename_i hw
    simp only [hw] at h
    exact ⟨keep a hy _, by rw [← Act.put_comm a v undef h2]; exact h⟩
theorem wpAnyS_first {i : Nat} {oi : Oper} {v : Value} (hi : ops[i]? = some oi) (hsel : ∀ (j : Nat) (o : Oper) cs b, ops[j]? = some o → o.op ≠ .select cs b)
    (hQ : ∀ c a w d u, Q (.panic c) (a.put d u) w → Q (.panic c) a w) :
    ∀ (fuel : Nat) (listed : Array Bool) (a : Act) (w : World),
      (∀ j oj, ops[j]? = some oj → j ≠ i → listed.getD j true = false → (∀ e ∈ oj.after, Region.binds md e = true → e.on ≠ i) → oi.apart ops oj = true) →
      i ∈ Region.ready md ops listed → YldS P ops F oi v a → InRow F w →
      wpAnyH P md ops Q (InRow F) fuel (listed.setIfInBounds i true) (a.put oi.dst v) w → wpAnyH P md ops Q (InRow F) (fuel + 1) listed a w := by
  intro fuel
  induction fuel with
  | zero =>
    intro listed a w _ hr hy hS H
    refine ⟨fun h => (by rw [h] at hr; cases hr), fun j hj => ?_⟩
    by_cases hji : j = i
    · subst hji; exact hy.wpOp hi hS ⟨hS, H⟩
    · have := ready_mono hj hji
      rw [H.1] at this
      cases this
  | succ fuel ih =>
    intro listed a w hfree hr hy hS H
    refine ⟨fun h => (by rw [h] at hr; cases hr), fun j hj => ?_⟩
    by_cases hji : j = i
    · subst hji; exact hy.wpOp hi hS ⟨hS, H⟩
    · have h1 := H.2 j (ready_mono hj hji)
      obtain ⟨hjun, oj, hoj, hall⟩ := mem_ready.1 hj
      have hnot : ∀ e ∈ oj.after, Region.binds md e = true → e.on ≠ i := fun e he hb heq => by
        have h1 := hall e he hb
        have h0 := (mem_ready.1 hr).1
        rw [heq] at h1
        rcases Nat.lt_or_ge i listed.size with h' | h'
        · simp [h'] at h0 h1; rw [h0] at h1; cases h1
        · simp [Array.getElem?_eq_none h'] at h1
      have h2 := wpOp_putS hoj (hfree j oj hoj hji hjun hnot) (fun cs b => hsel i oi cs b hi) (fun cs b => hsel j oj cs b hoj) hQ hy h1
      have hfree' : ∀ k ok, ops[k]? = some ok → k ≠ i → (listed.setIfInBounds j true).getD k true = false →
          (∀ e ∈ ok.after, Region.binds md e = true → e.on ≠ i) → oi.apart ops ok = true := fun k ok hk hki hun hno => by
        refine hfree k ok hk hki ?_ hno
        by_cases hjk : j = k
        · subst hjk; exact hjun
        · rw [getD_set_ne true hjk] at hun; exact hun
      refine wpOp_mono (fun a' w' h3 => ⟨h3.2.1, ih (listed.setIfInBounds j true) a' w' hfree' (ready_mono hr (Ne.symm hji)) h3.1 h3.2.1 ?_⟩) h2
      rw [Array.setIfInBounds_comm _ _ hji]
      exact h3.2.2
/-- The walk of the head, in the order of the text. -/
def wpSame (P : Program) (ops : Array Oper) (F : Nat → World) (R : Act → Prop) : List Oper → Act → Prop
  | [], a => R a
  | o :: rest, a => if Region.wanted o (yielded ops a.tmps) then ∃ v, SameAt P o a F v ∧ wpSame P ops F R rest (a.put o.dst v) else wpSame P ops F R rest (a.put o.dst undef)
theorem wpSame_nil {R : Act → Prop} {a : Act} (h : R a) : wpSame P ops F R [] a := h
theorem wpSame_step {R : Act → Prop} {a : Act} {o : Oper} {rest : List Oper}
    (h : ∀ K : Act → Prop, (∀ a, wpSame P ops F R rest a → K a) → if Region.wanted o (yielded ops a.tmps) then ∃ v, SameAt P o a F v ∧ K (a.put o.dst v) else K (a.put o.dst undef)) : wpSame P ops F R (o :: rest) a :=
  h _ (fun _ h => h)
/-- A copy of a slot. -/
theorem wpSame_move {R : Act → Prop} {a : Act} {o : Oper} {rest : List Oper} (x : Operand) (h : o.op = .move x) (hw : o.guard = none) (hk : wpSame P ops F R rest (a.put o.dst (a.eval x))) : wpSame P ops F R (o :: rest) a :=
  wpSame_step fun K hK => by
    rw [if_pos (by simp [Region.wanted, hw])]
    exact ⟨_, fun n => by rw [BigFrame.run_move x h]; exact ⟨rfl, rfl⟩, hK _ hk⟩
def headB (md : Region.Mode) (ops : Array Oper) : Nat → Nat → Array Bool → Bool
  | 0, _, _ => true
  | c + 1, i, l => Region.free md ops l i && (Region.ready md ops l).contains i && headB md ops c (i + 1) (l.setIfInBounds i true)
def marks : Nat → Nat → Array Bool → Array Bool
  | 0, _, l => l
  | c + 1, i, l => marks c (i + 1) (l.setIfInBounds i true)
theorem wpAnyH_head (hs : Region.noSelect ops = true) (hQ : ∀ c a w d u, Q (.panic c) (a.put d u) w → Q (.panic c) a w) {f : Nat} {w : World} (hS : InRow F w) :
    ∀ (c i : Nat) (listed : Array Bool) (a : Act) (rest : List Oper), (∀ j, j < c → ops[i + j]? = rest[j]?) → rest.length = c → headB md ops c i listed = true →
      wpSame P ops F (fun a' => wpAnyH P md ops Q (InRow F) f (marks c i listed) a' w) rest a → wpAnyH P md ops Q (InRow F) (f + c) listed a w := by
  intro c
  induction c with
  | zero =>
    intro i listed a rest _ hl _ h
    have : rest = [] := List.eq_nil_of_length_eq_zero hl
    subst this; exact h
  | succ c ih =>
    intro i listed a rest ho hl hb h
    cases rest with
    | nil => cases hl
    | cons o rest =>
      simp only [headB, Bool.and_eq_true] at hb
      obtain ⟨⟨h1, h2⟩, h3⟩ := hb
      have hi : ops[i]? = some o := by have := ho 0 (by omega); simpa using this
      have ho' : ∀ j, j < c → ops[i + 1 + j]? = rest[j]? := fun j hj => by
        have := ho (j + 1) (by omega)
        rw [show i + 1 + j = i + (j + 1) by omega, this]; rfl
      have hl' : rest.length = c := by simpa using hl
      have key : ∀ v, YldS P ops F o v a → wpSame P ops F (fun a' => wpAnyH P md ops Q (InRow F) f (marks c (i + 1) (listed.setIfInBounds i true)) a' w) rest (a.put o.dst v) → wpAnyH P md ops Q (InRow F) (f + (c + 1)) listed a w := fun v hy hk => by
        rw [← Nat.add_assoc]
        exact wpAnyS_first hi (Region.noSelect_spec hs) hQ _ _ _ _ (Region.free_spec hi h1) (by simpa using h2) hy hS (ih (i + 1) _ _ rest ho' hl' h3 hk)
      unfold wpSame at h
      by_cases hw : Region.wanted o (yielded ops a.tmps) = true
      · simp only [hw, if_true] at h
        obtain ⟨v, hv, hk⟩ := h
        exact key v (.inl ⟨hw, hv⟩) hk
      · simp only [hw] at h
        exact key undef (.inr ⟨by simpa using hw, rfl⟩) h
/-- What is left, one by one: behind each the world is one of the row. -/
def wpChain (P : Program) (ops : Array Oper) (F : Nat → World) (Q : Exit → Act → World → Prop) : List Oper → Act → World → Prop
  | [], a, w => Q .normal a w
  | o :: rest, a, w => if Region.wanted o (yielded ops a.tmps) then o.wp P a w (fun a' w' => InRow F w' ∧ wpChain P ops F Q rest a' w') Q else InRow F w ∧ wpChain P ops F Q rest (a.put o.dst undef) w
theorem wpChain_nil {a : Act} {w : World} (h : Q .normal a w) : wpChain P ops F Q [] a w := h
theorem wpChain_step {o : Oper} {rest : List Oper} {a : Act} {w : World} (hg : o.guard = none)
    (h : ∀ K : Act → World → Prop, (∀ a w, InRow F w → wpChain P ops F Q rest a w → K a w) → o.wp P a w K Q) : wpChain P ops F Q (o :: rest) a w := by
  unfold wpChain
  rw [if_pos (by simp [Region.wanted, hg])]
  exact h _ fun _ _ h1 h2 => ⟨h1, h2⟩
def chainB (md : Region.Mode) (ops : Array Oper) : Nat → Nat → Array Bool → Bool
  | 0, _, l => (Region.ready md ops l).isEmpty
  | c + 1, i, l => Region.ready md ops l == [i] && chainB md ops c (i + 1) (l.setIfInBounds i true)
theorem wpAnyH_chain : ∀ (c i : Nat) (listed : Array Bool) (a : Act) (w : World) (rest : List Oper), (∀ j, j < c → ops[i + j]? = rest[j]?) → rest.length = c → chainB md ops c i listed = true →
    wpChain P ops F Q rest a w → wpAnyH P md ops Q (InRow F) c listed a w := by
  intro c
  induction c with
  | zero =>
    intro i listed a w rest _ hl hb h
    have : rest = [] := List.eq_nil_of_length_eq_zero hl
    subst this
    exact wpAnyH_done (by simpa [chainB] using hb) h _
  | succ c ih =>
    intro i listed a w rest ho hl hb h
    cases rest with
    | nil => cases hl
    | cons o rest =>
      simp only [chainB, Bool.and_eq_true, beq_iff_eq] at hb
      have hi : ops[i]? = some o := by have := ho 0 (by omega); simpa using this
      have ho' : ∀ j, j < c → ops[i + 1 + j]? = rest[j]? := fun j hj => by
        have := ho (j + 1) (by omega)
        rw [show i + 1 + j = i + (j + 1) by omega, this]; rfl
      have hl' : rest.length = c := by simpa using hl
      refine wpAnyH_all hb.1 (by simp) fun k hk => ?_
      have : k = i := by simpa using hk
      subst this
      unfold wpChain at h
      unfold wpOp
      simp only [hi]
      by_cases hw : Region.wanted o (yielded ops a.tmps) = true
      · simp only [hw, if_true] at h ⊢
        exact .inl (Oper.wp_mono (fun a' w' h' => ⟨h'.1, ih (k + 1) _ _ _ rest ho' hl' hb.2 h'.2⟩) h)
      · simp only [hw] at h ⊢
        exact ⟨h.1, ih (k + 1) _ _ _ rest ho' hl' hb.2 h.2⟩
/-- A region: the first n operations are quiet, in every world of the row; what is left comes in its order. -/
theorem wp_region_same {id : Nat} {a : Act} {w : World} {l : List Oper} (n : Nat) (F : Nat → World) (hm : P.follows .mixedOrders = true) (hs : Region.noSelect l.toArray = true)
    (hB : headB .any l.toArray n 0 (Array.replicate l.toArray.size false) = true) (hC : chainB .any l.toArray (l.length - n) n (marks n 0 (Array.replicate l.toArray.size false)) = true) (hn : n ≤ l.length) (hS : w.drew = F 0) (hQ : ∀ c a w d u, Q (.panic c) (a.put d u) w → Q (.panic c) a w)
    (h : wpSame P l.toArray F (fun a' => wpChain P l.toArray F Q (l.drop n) a' (F 0)) (l.take n) a) : (Code.region id l.toArray true).wp P Q a w := by
  rw [← hS] at h
  have hS' : InRow F w.drew := ⟨0, hS⟩
  refine wp_region_held_drew (S := InRow F) hm hS' (fun _ => ?_)
  have hmono : ∀ (rest : List Oper) (a : Act), wpSame P l.toArray F (fun a' => wpChain P l.toArray F Q (l.drop n) a' w.drew) rest a →
      wpSame P l.toArray F (fun a' => wpAnyH P .any l.toArray Q (InRow F) (l.length - n) (marks n 0 (Array.replicate l.toArray.size false)) a' w.drew) rest a := by
    intro rest
    induction rest with
    | nil => intro a h; exact wpAnyH_chain (l.length - n) n _ a w.drew (l.drop n) (fun j hj => by simp) (by simp) hC h
    | cons o rest ih =>
      intro a h
      unfold wpSame at h ⊢
      split
      · rename_i hw
        simp only [hw, if_true] at h
        obtain ⟨v, hv, hk⟩ := h
        exact ⟨v, hv, ih _ hk⟩
      · rename_i hw
        simp only [hw] at h
        exact ih _ h
  have := wpAnyH_head (md := .any) (f := l.length - n) hs hQ hS' n 0 (Array.replicate l.toArray.size false) a (l.take n) (fun j hj => by simp [hj]) (by simp; omega) hB (hmono _ _ h)
  rwa [show l.length - n + n = l.toArray.size by simp; omega] at this
end
/-- The worlds of a region that ends in one store. -/
def cellF (W : World) (a : Addr) (v : Value) : Nat → World
  | 0 => W
  | _ => W.setCell a v
/-- The worlds of a region that makes one struct: ahead, behind its making, behind its store. -/
def rowF (W : World) (t : TypeId) (z cs : Array Value) : Nat → World
  | 0 => W
  | 1 => W.alloc (.cells z t)
  | _ => (W.alloc (.cells z t)).setRow W.heap.size cs
open Go.RowKit in
theorem rowF_below (W : World) (t : TypeId) (z cs : Array Value) (n : Nat) : Below W.heap.size W (rowF W t z cs n) := by
  have h1 : Below W.heap.size W (W.alloc (.cells z t)) := bl_alloc (Below.refl _ _) (Nat.le_refl _) _
  match n with
  | 0 => exact Below.refl _ _
  | 1 => exact h1
  | _ + 2 => exact bl_setRow h1 (Nat.le_refl _) cs
end Go.Proofs.YtokojichjliieaaDoor
namespace Go.Proofs.YtokojichjliieaaDoor
open Go.RowKit

def strV (x : List UInt8) : Value := .string ⟨x.toArray⟩
def seenG (seen : List (List UInt8)) (x : List UInt8) : Option Value := if x ∈ seen then some (.bool true) else none
theorem numA_2 (b : List UInt8) (p : Nat) : numA b p 2 < 65536 := by
  have : numA b p 2 < 256 ^ 2 := leN_lt_of _ (by simp; omega)
  have e : (256 : Nat) ^ 2 = 65536 := by decide
  omega
theorem numA_4 (b : List UInt8) (p : Nat) : numA b p 4 < 4294967296 := by
  have : numA b p 4 < 256 ^ 4 := leN_lt_of _ (by simp; omega)
  have e : (256 : Nat) ^ 4 = 4294967296 := by decide
  omega
theorem BookD.below {w w' : World} {g : Nat} {b : List UInt8} (h : BookD w g b) (hb : Below w.heap.size w w') : BookD w' g b := by
  obtain ⟨A, c, m, n, h1, h2, h3, h4, r⟩ := h
  exact ⟨A, c, m, n, h1.below hb h1.lt, (RL.below h2 hb (Nat.le_refl _)).more hb.size, h3, h4.below hb h4.lt, r⟩
/-- A record's eight cells. -/
def fndC (r : Rec) (at_ : Int) (p : Nat) : Array Value := #[strV r.name, .int .i64 r.method, .int .i64 r.packed, .int .i64 r.size, .int .i64 r.sum, .int .i64 at_, .int .i64 r.head, .int .i64 p]
def z8 : Array Value := #[.string ⟨#[]⟩, .int .i64 0, .int .i64 0, .int .i64 0, .int .i64 0, .int .i64 0, .int .i64 0, .int .i64 0]
theorem z8_eq : (#[.string ⟨#[]⟩, .int .i64 0, .int .i64 0, .int .i64 0, .int .i64 0, .int .i64 0, .int .i64 0, .int .i64 0] : Array Value) = z8 := rfl
theorem z8_one : z8.all (·.oneCell') = true := by simp [z8, Value.oneCell']
theorem z8_size : z8.size = 8 := rfl
theorem info_found : (Tryd.prog.info? 57).map (·.size) = some 8 := by kernel_rfl
theorem results_record (tmps : Array Value) (w : World) (g : Nat) (cs : Array Value) (h8 : tmps.getD 8 undef = .pointer (some ⟨g, 0, none⟩)) (hk : Bk w g 57 cs) (hs : cs.size = 8) :
    (results Tryd.f30 tmps).run Tryd.prog w = .ok (.tuple #[.agg cs, tmps.getD 9 undef, tmps.getD 10 undef]) w := by
  have h8' : tmps[8]?.getD undef = .pointer (some ⟨g, 0, none⟩) := by simpa using h8
  have hl := run_loadVar_row (P := Tryd.prog) w g 57 57 cs (0, 0) _ hk Tryd.underlying57 rfl (by rw [hs]; exact info_found)
  simp only [results, Tryd.results30]
  simp [h8', asAddr, hl, Result.andThen]
theorem fndC_size (r : Rec) (a : Int) (p : Nat) : (fndC r a p).size = 8 := rfl
theorem fndC_one (r : Rec) (a : Int) (p : Nat) : (fndC r a p).all (·.oneCell') = true := by simp [fndC, strV, Value.oneCell']
/-- What record answers. -/
def RecPost (R : Rz (Rec × Nat)) (p : Nat) (w : World) (m n : Nat) (seen : List (List UInt8)) (e : Ending) (w' : World) : Prop := match R with
  | .err k => e = .returned (.tuple #[.agg z8, .int .i64 0, .int .i64 k]) ∧ Below w.heap.size w w'
  | .ok x => e = .returned (.tuple #[.agg (fndC x.1 0 p), .int .i64 (x.2 : Int), .int .i64 0]) ∧
      w.grownBy w' (some m) ∧ MapT strV w' Tryd.prog 9 m (n + 1) (seenG (seen ++ [x.1.name]))
theorem RecPost.bad {R : Rz (Rec × Nat)} {p : Nat} {w w' : World} {m n : Nat} {seen : List (List UInt8)} {k : Int} (h : R = .err k) (hb : Below w.heap.size w w') : RecPost R p w m n seen (.returned (.tuple #[.agg z8, .int .i64 0, .int .i64 k])) w' := by
  subst h; exact ⟨rfl, hb⟩
theorem RecPost.good {R : Rz (Rec × Nat)} {p : Nat} {w w' : World} {m n q : Nat} {seen : List (List UInt8)} {r : Rec} (h : R = .ok (r, q)) (hg : w.grownBy w' (some m)) (hm : MapT strV w' Tryd.prog 9 m (n + 1) (seenG (seen ++ [r.name]))) :
    RecPost R p w m n seen (.returned (.tuple #[.agg (fndC r 0 p), .int .i64 (q : Int), .int .i64 0])) w' := by
  subst h; exact ⟨rfl, hg, hm⟩
theorem gb_setRow {a w : World} {row : Option Nat} (h : a.grownBy w row) {g : Nat} (hg : a.heap.size ≤ g) (cs : Array Value) : a.grownBy (w.setRow g cs) row :=
  ⟨h.os, h.tape, h.output, by simpa using h.size, fun k hk hr => (heap_setRow w g cs k (by omega)).trans (h.block k hk hr)⟩
theorem MapT.setRow {κ : Type} {f : κ → Value} {P : Program} {k : TypeId} {w : World} {b n : Nat} {G : κ → Option Value} (h : MapT f w P k b n G) {g : Nat} (hg : b ≠ g) (cs : Array Value) : MapT f (w.setRow g cs) P k b n G := by
  obtain ⟨F, h, r⟩ := h
  exact ⟨F, h.same (heap_setRow w g cs b hg), r⟩
theorem MapT.seen {w : World} {m n : Nat} {seen : List (List UInt8)} {nm x : List UInt8} (h : MapT strV w Tryd.prog 9 m n (fun q => if q = nm then some (.bool true) else seenG seen q)) (hx : nm = x) : MapT strV w Tryd.prog 9 m n (seenG (seen ++ [x])) := by
  subst hx
  refine h.ext fun q => ?_
  unfold seenG
  by_cases h1 : q = nm
  · rw [if_pos h1, if_pos (by simp [h1])]
  · rw [if_neg h1]
    by_cases h2 : q ∈ seen
    · rw [if_pos h2, if_pos (by simp [h2])]
    · rw [if_neg h2, if_neg (by simp [h1, h2])]
theorem num_at (g : Nat) (b : List UInt8) (p : Nat) (ki ni : Int) (k n : Nat) (w : World) (h : BookD w g b) (hk : ki = (k : Int)) (hn : ni = (n : Int)) (h1 : 1 ≤ n) (h2 : n ≤ 4) (hp : p + k + n ≤ b.length) {N : Nat} (hN : numA b (p + k) n = N) :
    Calls Tryd.prog 29 #[.pointer (some ⟨g, 0, none⟩), .int .i64 ((p : Int) + ki), .int .i64 ni] w fun e w' => e = .returned (.int .i64 (N : Int)) ∧ w' = w := by
  subst hk hn hN
  have := num_ok g b (p + k) n w h h1 h2 hp
  rwa [show ((p + k : Nat) : Int) = (p : Int) + (k : Int) by omega] at this
/-- The same at any place: for a region's one arm. -/
def numI (b : List UInt8) (x n : Int) : Int := (numA b x.toNat n.toNat : Int)
theorem num_int (g : Nat) (b : List UInt8) (x n : Int) (w : World) (h : BookD w g b) (h0 : 0 ≤ x) (h1 : 1 ≤ n) (h2 : n ≤ 4) (hp : x + n ≤ b.length) :
    Calls Tryd.prog 29 #[.pointer (some ⟨g, 0, none⟩), .int .i64 x, .int .i64 n] w fun e w' => e = .returned (.int .i64 (numI b x n)) ∧ w' = w := by
  have := num_ok g b x.toNat n.toNat w h (by omega) (by omega) (by omega)
  rwa [show ((x.toNat : Nat) : Int) = x by omega, show ((n.toNat : Nat) : Int) = n by omega] at this
theorem and_split (k a b c d : Nat) (hb : b < 2 ^ k) (hd : d < 2 ^ k) : (2 ^ k * a + b) &&& (2 ^ k * c + d) = 2 ^ k * (a &&& c) + (b &&& d) := by
  apply Nat.eq_of_testBit_eq
  intro j
  rw [Nat.testBit_and, Nat.testBit_two_pow_mul_add a hb, Nat.testBit_two_pow_mul_add c hd, Nat.testBit_two_pow_mul_add (a &&& c) (Nat.and_lt_two_pow _ hd)]
  split
  · rw [Nat.testBit_and]
  · rw [Nat.testBit_and]
theorem and_30 (x : Nat) (h : x < 32) : x &&& 30 = x - x % 2 := by
  have : ∀ x : Fin 32, x.1 &&& 30 = x.1 - x.1 % 2 := by decide
  exact this ⟨x, h⟩
theorem and_63481 (v : Nat) (h : v < 65536) : v &&& 63481 = v - 2 * (v / 2 % 2) - 4 * (v / 4 % 2) - 2048 * (v / 2048 % 2) := by
  have e1 := and_split 11 (v / 2048) (v % 2048) 30 2041 (by omega) (by omega)
  have e2 := and_split 3 (v % 2048 / 8) (v % 8) 255 1 (by omega) (by omega)
  rw [show 2 ^ 11 * (v / 2048) + v % 2048 = v by omega, show 2 ^ 11 * 30 + 2041 = 63481 by decide, and_30 _ (by omega)] at e1
  rw [show 2 ^ 3 * (v % 2048 / 8) + v % 8 = v % 2048 by omega, show 2 ^ 3 * 255 + 1 = 2041 by decide, show (255 : Nat) = 2 ^ 8 - 1 by decide, Nat.and_two_pow_sub_one_eq_mod, show (1 : Nat) = 2 ^ 1 - 1 by decide, Nat.and_two_pow_sub_one_eq_mod] at e2
  rw [e1, e2]
  omega
theorem and_65527 (v : Nat) (h : v < 65536) : v &&& 65527 = v - 8 * (v / 8 % 2) := by
  have e1 := and_split 4 (v / 16) (v % 16) 4095 7 (by omega) (by omega)
  rw [show 2 ^ 4 * (v / 16) + v % 16 = v by omega, show 2 ^ 4 * 4095 + 7 = 65527 by decide, show (4095 : Nat) = 2 ^ 12 - 1 by decide, Nat.and_two_pow_sub_one_eq_mod, show (7 : Nat) = 2 ^ 3 - 1 by decide, Nat.and_two_pow_sub_one_eq_mod] at e1
  rw [e1]
  omega
theorem i64_andNot (v c : Nat) (h : v < 65536) (hc : c < 65536) : bits .andNot .i64 (v : Int) (c : Int) = ((v &&& (65535 - c) : Nat) : Int) := by
  have hx : v &&& (65535 - c) < 2 ^ 16 := Nat.and_lt_two_pow _ (by omega)
  show IntKind.i64.wrap ((BitVec.ofInt 64 (v : Int) &&& ~~~BitVec.ofInt 64 (c : Int)).toNat : Int) = _
  have e1 : (BitVec.ofInt 64 (v : Int)).toNat = v := by rw [BitVec.ofInt_natCast, BitVec.toNat_ofNat]; omega
  have e2 : (BitVec.ofInt 64 (c : Int)).toNat = c := by rw [BitVec.ofInt_natCast, BitVec.toNat_ofNat]; omega
  rw [BitVec.toNat_and, BitVec.toNat_not, e1, e2]
  have e3 : v &&& (2 ^ 64 - 1 - c) = v &&& (65535 - c) := by
    have := and_split 16 0 v (2 ^ 48 - 1) (65535 - c) (by omega) (by omega)
    rw [show 2 ^ 16 * 0 + v = v by omega, show 2 ^ 16 * (2 ^ 48 - 1) + (65535 - c) = 2 ^ 64 - 1 - c by omega, Nat.zero_and] at this
    rw [this]; omega
  rw [e3, IntKind.wrap_i64]
  omega
theorem flags_bits (v : Nat) (h : v < 65536) : bits .andNot .i64 (v : Int) 2054 = (flagsA v : Int) := by
  have := i64_andNot v 2054 h (by omega)
  rw [show (65535 - 2054 : Nat) = 63481 by decide, and_63481 v h] at this
  exact this
theorem method_bits (v : Nat) (h : v < 65536) : bits .andNot .i64 (v : Int) 8 = ((v - 8 * (v / 8 % 2) : Nat) : Int) := by
  have := i64_andNot v 8 h (by omega)
  rw [show (65535 - 8 : Nat) = 65527 by decide, and_65527 v h] at this
  exact this
theorem keyV (x : List UInt8) (h : x.length ≤ 70000) : keyOf Tryd.prog 9 (strV x) = some (.string x) := by
  have := WideMaps.keyOf_string_mk (P := Tryd.prog) (s := ⟨x.toArray⟩) Tryd.underlying9 (by unfold maxLen; show x.toArray.size ≤ _; simp; omega)
  simpa [strV] using this
theorem strVK : Maps.Keyed Tryd.prog 9 := Maps.string_keyed Tryd.underlying9
theorem strV_inj (x y : List UInt8) (h : strV x = strV y) : x = y := by
  unfold strV at h
  injection h with h
  injection h with h
  simpa using congrArg Array.toList h
theorem zeroBl_run (w : World) : (zeroValue 4).run Tryd.prog w = .ok (.bool false) w := by kernel_rfl
set_option maxRecDepth 100000 in
set_option maxHeartbeats 8000000 in
theorem record_long (g m n : Nat) (b : List UInt8) (p border : Nat) (seen : List (List UInt8)) (w : World) (mx : Int) (h : BookD w g b) (hm : MapT strV w Tryd.prog 9 m n (seenG seen)) (hmx : w.cell? ⟨0, 0, none⟩ = some (.int .i64 mx)) (hn : n ≤ 1000) (hb : border + 22 ≤ b.length) (hz : b.length ≤ 70000)
    (hin : p + 46 ≤ border) (hsg : signA b p 1 2 = true) (c2 : ¬ border < p + 46 + numA b (p + 28) 2 + numA b (p + 30) 2 + numA b (p + 32) 2) (c3 : numA b (p + 34) 2 = 0) :
    Calls Tryd.prog 30 #[.pointer (some ⟨g, 0, none⟩), .int .i64 (p : Int), .int .i64 (border : Int), .map (some m)] w (RecPost (recA b p border seen) p w m n seen) := by
  obtain ⟨R, hR⟩ : ∃ R, recA b p border seen = R := ⟨_, rfl⟩
  rw [hR]
  unfold recA at hR
  rw [if_neg (by rintro (h | h); omega; rw [hsg] at h; cases h), if_neg (by rintro (h | h); exact c2 h; exact h c3)] at hR
  obtain ⟨wz, hwz⟩ : ∃ wz, (w.alloc (.cells z8 57)).alloc (.cells z8 57) = wz := ⟨_, rfl⟩
  have hbl : Below w.heap.size w wz := by rw [← hwz]; exact bl_alloc (bl_alloc (Below.refl w.heap.size w) (Nat.le_refl _) _) (by simp) _
  have hZ0 : Bk wz w.heap.size 57 z8 := by rw [← hwz]; exact (Bk.new w _ z8).alloc _
  have hZ1 : Bk wz (w.heap.size + 1) 57 z8 := by rw [← hwz]; exact Bk.newAt _ _ _ (by simp)
  have hD : BookD wz g b := h.below hbl
  have his := is_any g b p 46 border 2 1 2 wz hD (.inr (.inl ⟨rfl, rfl, rfl⟩)) (by omega) (by omega) (by omega) (by omega)
  rw [hsg, decide_eq_true hin] at his
  have HIS := bx his
  have HM := bx hm
  have HMX := bx hmx
  have HWZ := bx hwz
  have HBL := bx hbl
  have HZ0 := bx hZ0
  have HZ1 := bx hZ1
  clear hwz hbl hZ0 hZ1 his hm hmx
  obtain ⟨sz, hsz⟩ : ∃ sz, numA b (p + 28) 2 = sz := ⟨_, rfl⟩
  obtain ⟨ex, hex⟩ : ∃ sz, numA b (p + 30) 2 = sz := ⟨_, rfl⟩
  obtain ⟨cm, hcm⟩ : ∃ sz, numA b (p + 32) 2 = sz := ⟨_, rfl⟩
  have l1 : sz < 65536 := by rw [← hsz]; exact numA_2 _ _
  have l2 : ex < 65536 := by rw [← hex]; exact numA_2 _ _
  have l3 : cm < 65536 := by rw [← hcm]; exact numA_2 _ _
  have HSZ := bx hsz
  have HEX := bx hex
  have HCM := bx hcm
  have HDK := bx c3
  rw [hsz, hex, hcm] at c2
  rw [hsz, hex, hcm] at hR
  have HDD := bx hD
  have hcI : ¬ (border : Int) < (p : Int) + 46 + (sz : Int) + (ex : Int) + (cm : Int) := by omega
  clear hsg hsz hex hcm hD c3
  obtain ⟨nm, hnm⟩ : ∃ nm, (b.drop (p + 46)).take sz = nm := ⟨_, rfl⟩
  obtain ⟨me, hme⟩ : ∃ sz, numA b (p + 10) 2 = sz := ⟨_, rfl⟩
  obtain ⟨pk, hpk⟩ : ∃ sz, numA b (p + 20) 4 = sz := ⟨_, rfl⟩
  obtain ⟨si, hsi⟩ : ∃ sz, numA b (p + 24) 4 = sz := ⟨_, rfl⟩
  obtain ⟨su, hsu⟩ : ∃ sz, numA b (p + 16) 4 = sz := ⟨_, rfl⟩
  obtain ⟨hd, hhd⟩ : ∃ sz, numA b (p + 42) 4 = sz := ⟨_, rfl⟩
  obtain ⟨ve, hve⟩ : ∃ sz, numA b (p + 6) 2 = sz := ⟨_, rfl⟩
  obtain ⟨fl, hfl⟩ : ∃ sz, numA b (p + 8) 2 = sz := ⟨_, rfl⟩
  have m1 : me < 65536 := by rw [← hme]; exact numA_2 _ _
  have m2 : fl < 65536 := by rw [← hfl]; exact numA_2 _ _
  have hnl : nm.length = sz := by rw [← hnm]; simp; omega
  rw [hnm, hme, hpk, hsi, hsu, hhd, hve, hfl] at hR
  have HNM := bx hnm
  have HNL := bx hnl
  have HME := bx hme
  have HPK := bx hpk
  have HSI := bx hsi
  have HSU := bx hsu
  have HHD := bx hhd
  have HVE := bx hve
  have HFL := bx hfl
  have HR0 := bx hR
  clear hnm hme hpk hsi hsu hhd hR hnl hve hfl
  go_enter Tryd.func30, Tryd.ntmps30
  go_wp2_with fail
  rw [z8_eq, HWZ.out]
  refine HIS.out.mono ?_
  rintro e w1 ⟨rfl, hb1⟩
  have hK0 := HZ0.out.below hb1 HZ0.out.lt
  have hK1 := HZ1.out.below hb1 HZ1.out.lt
  have HD1 := bx (HDD.out.below hb1)
  have HB1 := bx (HBL.out.trans (hb1.mono HBL.out.size))
  clear hb1
  go_wp2_with fail
  refine (num_at g b p 28 2 28 2 w1 HD1.out rfl rfl (by omega) (by omega) (by omega) HSZ.out).mono ?_
  rintro e w2 ⟨rfl, rfl⟩
  go_wp2_with fail
  refine (num_at g b p 30 2 30 2 w2 HD1.out rfl rfl (by omega) (by omega) (by omega) HEX.out).mono ?_
  rintro e w3 ⟨rfl, rfl⟩
  go_wp2_with fail
  refine (num_at g b p 32 2 32 2 w3 HD1.out rfl rfl (by omega) (by omega) (by omega) HCM.out).mono ?_
  rintro e w4 ⟨rfl, rfl⟩
  go_wp2_with fail
  refine (num_at g b p 34 2 34 2 w4 HD1.out rfl rfl (by omega) (by omega) (by omega) HDK.out).mono ?_
  rintro e w5 ⟨rfl, rfl⟩
  go_wp2
  have HM5 := bx (HM.out.below (HB1.out) HM.out.lt)
  have HX5 := bx ((HB1.out.cell (p := ⟨0, 0, none⟩) (World.block_lt_of_cell? w ⟨0, 0, none⟩ HMX.out)).trans HMX.out)
  have HK0 := bx hK0
  have HK1 := bx hK1
  clear hK0 hK1
  obtain ⟨A, c, mk, q, hB, hr, hc, hM, hl, hcl⟩ := HD1.out
  obtain ⟨ad, x0, rfl, _, _, _⟩ := hr.byte (k := p) (by omega)
  have hrs : RB w5 w5.heap.size (some (ad.add (p + 46))) nm := by
    have := (hr.drop (p + 46)).take sz
    rw [HNM.out] at this
    exact this
  obtain ⟨rc, hrc⟩ : ∃ rc : Rec, (⟨nm, me, pk, si, su, hd⟩ : Rec) = rc := ⟨_, rfl⟩
  have HRC := bx hrc
  obtain ⟨F, hF⟩ : ∃ F, rowF w5.drew 57 z8 (fndC rc 0 p) = F := ⟨_, rfl⟩
  have hF0 : w5.drew = F 0 := by rw [← hF]; rfl
  have hF1 : (F 0).alloc (.cells z8 57) = F 1 := by rw [← hF]; rfl
  have hF2 : (F 1).setRow w5.heap.size (fndC rc 0 p) = F 2 := by rw [← hF]; rfl
  have hFb : ∀ n, Below w5.heap.size w5 (F n) := fun n => by rw [← hF]; exact (below_drewN (Below.refl w5.heap.size w5) 1).trans (rowF_below w5.drew _ _ _ n)
  have hFz : (F 0).heap.size = w5.heap.size := by rw [← hF0]; rfl
  have hFk : Bk (F 1) w5.heap.size 57 z8 := by rw [← hF1]; exact Bk.newAt _ _ _ hFz
  have hFk2 : Bk (F 2) w5.heap.size 57 (fndC rc 0 p) := by rw [← hF2]; exact hFk.setRow _
  have hFD : ∀ n, BookD (F n) g b := fun n => HD1.out.below (hFb n)
  have hFc : ∀ n, (F n).cell? ⟨g, 0, none⟩ = some (.slice (some ad) b.length c) := fun n => ((hFb n).cell hB.lt).trans ((hB.cell 0).trans rfl)
  have hcv : ∀ n, _ := fun n => run_conv_str (P := Tryd.prog) (w := F n) (B := w5.heap.size) (A := some (ad.add (p + 46))) (l := nm) (n := ((p : Int) + 46 + (sz : Int)).toNat - (p + 46)) (c := c - (p + 46)) Tryd.underlying22 Tryd.underlying5 Tryd.underlying9 (by rw [HNL.out]; omega) (RL.below hrs (hFb n) (Nat.le_refl _))
  rw [show ad.add (p + 46) = ⟨ad.block, ad.off + (p + 45 + 1), none⟩ from add_pos ad (p + 45)] at hcv
  have HF0 := bx hF0
  have HF1 := bx hF1
  have HF2 := bx hF2
  have HFB := bx hFb
  have HFK := bx hFk
  have HFK2 := bx hFk2
  have HFD := bx hFD
  clear hF hF0 hF1 hF2 hFb hFk hFk2 hFD hB hr hM hrs hrc
  have wk10 : IntKind.i64.wrap ((p : Int) + 10) = (p : Int) + 10 := IntWalk.i64_in _ (by omega)
  have wk20 : IntKind.i64.wrap ((p : Int) + 20) = (p : Int) + 20 := IntWalk.i64_in _ (by omega)
  have wk24 : IntKind.i64.wrap ((p : Int) + 24) = (p : Int) + 24 := IntWalk.i64_in _ (by omega)
  have wk16 : IntKind.i64.wrap ((p : Int) + 16) = (p : Int) + 16 := IntWalk.i64_in _ (by omega)
  have wk42 : IntKind.i64.wrap ((p : Int) + 42) = (p : Int) + 42 := IntWalk.i64_in _ (by omega)
  have wr1 : IntKind.i64.wrap ((p : Int) + 46) = (p : Int) + 46 := IntWalk.i64_in _ (by omega)
  have wr2 : IntKind.i64.wrap ((p : Int) + 46 + (sz : Int)) = (p : Int) + 46 + (sz : Int) := IntWalk.i64_in _ (by omega)
  have a1 : p + 10 + 2 ≤ b.length := by omega
  have a2 : p + 20 + 4 ≤ b.length := by omega
  have a3 : p + 24 + 4 ≤ b.length := by omega
  have a4 : p + 16 + 4 ≤ b.length := by omega
  have a5 : p + 42 + 4 ≤ b.length := by omega
  have hh7 : (p : Int) + 46 ≤ (c : Int) := by omega
  have hh8 : p + 46 ≤ ((p : Int) + 46 + (sz : Int)).toNat := by omega
  have hh9 : ((p : Int) + 46 + (sz : Int)).toNat ≤ c := by omega
  have hh0 : (0 : Int) ≤ (p : Int) + 46 + (sz : Int) := by omega
  have hh5 : ((p : Int) + 46).toNat = p + 46 := by omega
  have hh6 : p + 46 ≤ c := by omega
  have hh1 : (0 : Int) ≤ (p : Int) + 46 := by omega
  have hh2 : (p : Int) + 46 + (sz : Int) ≤ (c : Int) := by omega
  have hh3 : (p : Int) + 46 ≤ (p : Int) + 46 + (sz : Int) := by omega
  have hh4 : ¬ c = p + 46 := by omega
  have hha : ¬ c - (p + 46) = 0 := by omega
  refine wp_region_same 35 F (by kernel_rfl) (by kernel_rfl) (by kernel_rfl) (by kernel_rfl) (by decide) HF0.out (fun _ _ _ d _ h => by cases d <;> exact h) ?_
  simp only [List.take_succ_cons, List.take_zero, List.drop_succ_cons, List.drop_zero]
  repeat (
    refine wpSame_step (fun K hK => ?_)
    simp only [SameAt]
    go_simp
    first
      | (refine hK _ ?_; clear hK K)
      | (apply Exists.intro
         refine ⟨fun _ => ?_, hK _ ?_⟩
         (first
           | (with_reducible exact num_at g b p 10 2 10 2 _ (HFD.out _) rfl rfl (by omega) (by omega) a1 HME.out)
           | (with_reducible exact num_at g b p 20 4 20 4 _ (HFD.out _) rfl rfl (by omega) (by omega) a2 HPK.out)
           | (with_reducible exact num_at g b p 24 4 24 4 _ (HFD.out _) rfl rfl (by omega) (by omega) a3 HSI.out)
           | (with_reducible exact num_at g b p 16 4 16 4 _ (HFD.out _) rfl rfl (by omega) (by omega) a4 HSU.out)
           | (with_reducible exact num_at g b p 42 4 42 4 _ (HFD.out _) rfl rfl (by omega) (by omega) a5 HHD.out))
         clear hK K))
  refine wpSame_nil ?_
  refine wpChain_step rfl (fun K hK => ?_)
  go_simp
  rw [z8_eq, HF1.out]
  refine hK _ _ ⟨1, rfl⟩ ?_
  clear hK K
  refine wpChain_step rfl (fun K hK => ?_)
  refine wp_store_row 57 (.tmp 14) (.tmp 85) rfl w5.heap.size (fndC rc 0 p) rfl ?hv 57 z8 HFK.out (by rw [fndC_size]; exact info_found) rfl (fndC_one _ _ _) ?_
  case hv => rw [← HRC.out]; rfl
  rw [HF2.out]
  refine hK _ _ ⟨2, rfl⟩ ?_
  clear hK K
  refine wpChain_nil ?_
  have HB2 := bx (HB1.out.trans ((HFB.out 2).mono HB1.out.size))
  have HD2 := bx (HFD.out 2)
  have HM2 := bx (HM5.out.below (HFB.out 2) HM5.out.lt)
  have HX2 := bx (((HFB.out 2).cell (p := ⟨0, 0, none⟩) (World.block_lt_of_cell? w5 ⟨0, 0, none⟩ HX5.out)).trans HX5.out)
  have HJ0 := bx (HK0.out.below (HFB.out 2) HK0.out.lt)
  have HJ1 := bx (HK1.out.below (HFB.out 2) HK1.out.lt)
  have HKR := HFK2
  obtain ⟨wf, hwf⟩ : ∃ wf, F 2 = wf := ⟨_, rfl⟩
  obtain ⟨g2, hg2⟩ : ∃ g2, w5.heap.size = g2 := ⟨_, rfl⟩
  have hg2' : w.heap.size ≤ g2 := by rw [← hg2]; exact HB1.out.size
  rw [hwf] at HB2 HD2 HM2 HX2 HJ0 HJ1 HKR
  rw [hwf, hg2]
  rw [hg2] at HKR
  clear hwf hg2 HFD HFB HF0 HF1 HF2 HFK HFK2 HK0 HK1 HM5 HX5 HB1 hcv hFc hFz HD1 wk10 wk20 wk24 wk16 wk42 wr1 wr2 a1 a2 a3 a4 a5 hh0 hh1 hh2 hh3 hh4 hh5 hh6 hh7 hh8 hh9 hha
  obtain ⟨fa, hfa⟩ : ∃ fa, flagsA fl = fa := ⟨_, rfl⟩
  obtain ⟨mb, hmb⟩ : ∃ mb, me - 8 * (me / 8 % 2) = mb := ⟨_, rfl⟩
  have hmb' : mb ≠ 0 ↔ (me ≠ 0 ∧ me ≠ 8) := by rw [← hmb]; omega
  have hR := HR0.out
  rw [hfa] at hR
  simp only [← hmb'] at hR
  have hbf := flags_bits fl m2
  rw [hfa] at hbf
  have hbm := method_bits me m1
  rw [hmb] at hbm
  clear hfa hmb hmb' HR0
  have k1 : wf.cell? ⟨g2, 1, none⟩ = some (.int .i64 (me : Int)) := by rw [HKR.out.cell 1, ← HRC.out]; rfl
  have k0 : wf.cell? ⟨g2, 0, none⟩ = some (.string ⟨nm.toArray⟩) := by rw [HKR.out.cell 0, ← HRC.out]; rfl
  by_cases d1 : 20 < ve
  · rw [if_pos (.inl d1)] at hR
    have HR := bx hR.symm
    have d1I : (20 : Int) < (ve : Int) := by omega
    clear hR d1 hbm hbf
    go_wp2_with fail
    refine (num_at g b p 6 2 6 2 wf HD2.out rfl rfl (by omega) (by omega) (by omega) HVE.out).mono ?_
    rintro e w6 ⟨rfl, rfl⟩
    go_wp2_with (first
      | (refine wpList_load_row rfl 57 (.tmp 11) rfl (w.heap.size + 1) rfl _ z8 _ _ HJ1.out Tryd.underlying57 rfl (by rw [z8_size]; exact info_found) ?_)
      | (refine wpList_store_row rfl 57 (.tmp 8) (.tmp 106) rfl w.heap.size z8 rfl rfl 57 z8 HJ0.out (by rw [z8_size]; exact info_found) rfl z8_one ?_))
    exact bodyPost_ret (v := .tuple #[.agg z8, .int .i64 0, .int .i64 12]) (results_record _ _ w.heap.size z8 rfl ((HJ0.out).setRow z8) rfl) rfl (RecPost.bad HR.out (bl_setRow HB2.out (Nat.le_refl _) z8))
  have d1I : ¬ (20 : Int) < (ve : Int) := by omega
  by_cases d2 : fa = 0
  case neg =>
    rw [if_pos (.inr (.inl d2))] at hR
    have HR := bx hR.symm
    have d2I : ((fa : Int) != 0) = true := by rw [bne_iff_ne]; omega
    clear hR d2 hbm
    go_wp2_with fail
    refine (num_at g b p 6 2 6 2 wf HD2.out rfl rfl (by omega) (by omega) (by omega) HVE.out).mono ?_
    rintro e w6 ⟨rfl, rfl⟩
    go_wp2_with fail
    refine (num_at g b p 8 2 8 2 w6 HD2.out rfl rfl (by omega) (by omega) (by omega) HFL.out).mono ?_
    rintro e w6 ⟨rfl, rfl⟩
    go_wp2_with (first
      | (refine wpList_load_row rfl 57 (.tmp 11) rfl (w.heap.size + 1) rfl _ z8 _ _ HJ1.out Tryd.underlying57 rfl (by rw [z8_size]; exact info_found) ?_)
      | (refine wpList_store_row rfl 57 (.tmp 8) (.tmp 106) rfl w.heap.size z8 rfl rfl 57 z8 HJ0.out (by rw [z8_size]; exact info_found) rfl z8_one ?_))
    exact bodyPost_ret (v := .tuple #[.agg z8, .int .i64 0, .int .i64 12]) (results_record _ _ w.heap.size z8 rfl ((HJ0.out).setRow z8) rfl) rfl (RecPost.bad HR.out (bl_setRow HB2.out (Nat.le_refl _) z8))
  have d2I : ((fa : Int) != 0) = false := by rw [bne_eq_false_iff_eq]; omega
  by_cases d3 : mb = 0
  case neg =>
    rw [if_pos (.inr (.inr d3))] at hR
    have HR := bx hR.symm
    have d3I : ((mb : Int) != 0) = true := by rw [bne_iff_ne]; omega
    clear hR d2 d3
    go_wp2_with fail
    refine (num_at g b p 6 2 6 2 wf HD2.out rfl rfl (by omega) (by omega) (by omega) HVE.out).mono ?_
    rintro e w6 ⟨rfl, rfl⟩
    go_wp2_with fail
    refine (num_at g b p 8 2 8 2 w6 HD2.out rfl rfl (by omega) (by omega) (by omega) HFL.out).mono ?_
    rintro e w6 ⟨rfl, rfl⟩
    go_wp2_with (first
      | (refine wpList_load_row rfl 57 (.tmp 11) rfl (w.heap.size + 1) rfl _ z8 _ _ HJ1.out Tryd.underlying57 rfl (by rw [z8_size]; exact info_found) ?_)
      | (refine wpList_store_row rfl 57 (.tmp 8) (.tmp 106) rfl w.heap.size z8 rfl rfl 57 z8 HJ0.out (by rw [z8_size]; exact info_found) rfl z8_one ?_))
    exact bodyPost_ret (v := .tuple #[.agg z8, .int .i64 0, .int .i64 12]) (results_record _ _ w.heap.size z8 rfl ((HJ0.out).setRow z8) rfl) rfl (RecPost.bad HR.out (bl_setRow HB2.out (Nat.le_refl _) z8))
  have d3I : ((mb : Int) != 0) = false := by rw [bne_eq_false_iff_eq]; omega
  rw [if_neg (by rintro (h | h | h); exact d1 h; exact h d2; exact h d3)] at hR
  clear d1 d2 d3
  obtain ⟨nb, hnb⟩ : ∃ nb, nameA nm = nb := ⟨_, rfl⟩
  rw [hnb] at hR
  have HNA := bx hnb
  have hnml : nm.length ≤ 70000 := by have := HNL.out; omega
  have HR0 := bx hR
  clear hR hnb
  go_wp2_with fail
  refine (num_at g b p 6 2 6 2 wf HD2.out rfl rfl (by omega) (by omega) (by omega) HVE.out).mono ?_
  rintro e w6 ⟨rfl, rfl⟩
  go_wp2_with fail
  refine (num_at g b p 8 2 8 2 w6 HD2.out rfl rfl (by omega) (by omega) (by omega) HFL.out).mono ?_
  rintro e w6 ⟨rfl, rfl⟩
  go_wp2_with fail
  refine (name_any ⟨nm.toArray⟩ mx w6 (by show nm.toArray.size ≤ _; simp; omega) HX2.out).mono ?_
  rintro e w7 ⟨rfl, hb7⟩
  rw [show (⟨nm.toArray⟩ : ByteArray).data.toList = nm by simp, HNA.out]
  have HJ03 := bx (HJ0.out.below hb7 HJ0.out.lt)
  have HJ13 := bx (HJ1.out.below hb7 HJ1.out.lt)
  have HKR3 := bx (HKR.out.below hb7 HKR.out.lt)
  have HM3 := bx (HM2.out.below hb7 HM2.out.lt)
  have HB3 := bx (HB2.out.trans (hb7.mono HB2.out.size))
  have k03 : w7.cell? ⟨g2, 0, none⟩ = some (.string ⟨nm.toArray⟩) := by rw [HKR3.out.cell 0, ← HRC.out]; rfl
  clear hb7 k0 k1 HJ0 HJ1 HKR HM2 HB2 HX2 HD2 hbf hbm
  cases nb with
  | false =>
    have HR := bx (show R = .err 13 from by rw [← HR0.out]; rfl)
    go_wp2_with (first
      | (refine wpList_load_row rfl 57 (.tmp 11) rfl (w.heap.size + 1) rfl _ z8 _ _ HJ13.out Tryd.underlying57 rfl (by rw [z8_size]; exact info_found) ?_)
      | (refine wpList_store_row rfl 57 (.tmp 8) (.tmp 112) rfl w.heap.size z8 rfl rfl 57 z8 HJ03.out (by rw [z8_size]; exact info_found) rfl z8_one ?_))
    exact bodyPost_ret (v := .tuple #[.agg z8, .int .i64 0, .int .i64 13]) (results_record _ _ w.heap.size z8 rfl ((HJ03.out).setRow z8) rfl) rfl (RecPost.bad HR.out (bl_setRow HB3.out (Nat.le_refl _) z8))
  | true =>
  have HKY := bx (keyV nm hnml)
  by_cases d5 : nm ∈ seen
  · have HR := bx (show R = .err 14 from by rw [← HR0.out, if_neg (by simp), if_pos d5])
    have HG1 := bx (show (seenG seen nm).getD (.bool false) = .bool true from by unfold seenG; rw [if_pos d5]; rfl)
    clear d5
    go_wp2_with (first
      | (at_lookup; refine wpList_lookT rfl (.tmp 113) (.tmp 116) _ rfl 4 strVK Tryd.underlying55 (.bool false) (zeroBl_run _) rfl HM3.out nm _ rfl HKY.out ?_; rw [HG1.out])
      | (refine wpList_load_row rfl 57 (.tmp 11) rfl (w.heap.size + 1) rfl _ z8 _ _ HJ13.out Tryd.underlying57 rfl (by rw [z8_size]; exact info_found) ?_)
      | (refine wpList_store_row rfl 57 (.tmp 8) (.tmp 118) rfl w.heap.size z8 rfl rfl 57 z8 HJ03.out (by rw [z8_size]; exact info_found) rfl z8_one ?_))
    exact bodyPost_ret (v := .tuple #[.agg z8, .int .i64 0, .int .i64 14]) (results_record _ _ w.heap.size z8 rfl ((HJ03.out).setRow z8) rfl) rfl (RecPost.bad HR.out (bl_setRow HB3.out (Nat.le_refl _) z8))
  have HR := bx (show R = .ok (rc, p + 46 + sz + ex + cm) from by rw [← HR0.out, if_neg (by simp), if_neg d5, HRC.out])
  have HG1 := bx (show (seenG seen nm).getD (.bool false) = .bool false from by unfold seenG; rw [if_neg d5]; rfl)
  clear d5 HNA HR0 HJ13
  go_wp2_with (first
    | (at_lookup; refine wpList_lookT rfl (.tmp 113) (.tmp 116) _ rfl 4 strVK Tryd.underlying55 (.bool false) (zeroBl_run _) rfl HM3.out nm _ rfl HKY.out ?_; rw [HG1.out])
    | (at_mapUpdate; refine wpList_storeT rfl (.tmp 119) (.tmp 122) _ _ rfl 4 strVK Tryd.underlying55 rfl HM3.out strV_inj (by unfold maxLen; omega) nm (.bool true) _ rfl rfl HKY.out ?_; intro w8 hM8 hg8
       have HJ08 := bx (HJ03.out.grown hg8 (by have := HM.out.lt; intro e; injection e with e; omega))
       have HKR8 := bx (HKR3.out.grown hg8 (by have := HM.out.lt; intro e; injection e with e; omega))
       have HB8 := bx hg8
       have HM8 := bx hM8
       clear hg8 hM8)
    | (refine wpList_load_row rfl 57 (.tmp 14) rfl g2 rfl _ (fndC rc 0 p) _ _ HKR8.out Tryd.underlying57 rfl (by rw [fndC_size]; exact info_found) ?_)
    | (refine wpList_store_row rfl 57 (.tmp 8) (.tmp 123) rfl w.heap.size (fndC rc 0 p) rfl rfl 57 z8 HJ08.out (by rw [fndC_size]; exact info_found) rfl (fndC_one _ _ _) ?_))
  exact bodyPost_ret (v := .tuple #[.agg (fndC rc 0 p), .int .i64 ((p + 46 + sz + ex + cm : Nat) : Int), .int .i64 0]) (results_record _ _ w.heap.size (fndC rc 0 p) rfl (HJ08.out.setRow _) (fndC_size _ _ _)) rfl (RecPost.good HR.out (gb_setRow (gb_trans (gb_below HB3.out _) HB8.out) (Nat.le_refl _) _) (MapT.seen (HM8.out.setRow (by have := HM.out.lt; omega) _) (by rw [← HRC.out])))
end Go.Proofs.YtokojichjliieaaDoor
namespace Go.Proofs.YtokojichjliieaaDoor
open Go.RowKit
set_option maxRecDepth 100000 in
set_option maxHeartbeats 8000000 in
theorem record_any (g m n : Nat) (b : List UInt8) (p border : Nat) (seen : List (List UInt8)) (w : World) (mx : Int) (h : BookD w g b) (hm : MapT strV w Tryd.prog 9 m n (seenG seen)) (hmx : w.cell? ⟨0, 0, none⟩ = some (.int .i64 mx)) (hn : n ≤ 1000) (hb : border + 22 ≤ b.length) (hz : b.length ≤ 70000) (hp : p ≤ 9000000000) :
    Calls Tryd.prog 30 #[.pointer (some ⟨g, 0, none⟩), .int .i64 (p : Int), .int .i64 (border : Int), .map (some m)] w (RecPost (recA b p border seen) p w m n seen) := by
  by_cases hL : p + 46 ≤ border ∧ signA b p 1 2 = true ∧ (¬ border < p + 46 + numA b (p + 28) 2 + numA b (p + 30) 2 + numA b (p + 32) 2) ∧ numA b (p + 34) 2 = 0
  · exact record_long g m n b p border seen w mx h hm hmx hn hb hz hL.1 hL.2.1 hL.2.2.1 hL.2.2.2
  have HL := bx hL
  clear hL hm hmx hn
  obtain ⟨R, hR⟩ : ∃ R, recA b p border seen = R := ⟨_, rfl⟩
  rw [hR]
  unfold recA at hR
  obtain ⟨wz, hwz⟩ : ∃ wz, (w.alloc (.cells z8 57)).alloc (.cells z8 57) = wz := ⟨_, rfl⟩
  have hbl : Below w.heap.size w wz := by rw [← hwz]; exact bl_alloc (bl_alloc (Below.refl w.heap.size w) (Nat.le_refl _) _) (by simp) _
  have hZ0 : Bk wz w.heap.size 57 z8 := by rw [← hwz]; exact (Bk.new w _ z8).alloc _
  have hZ1 : Bk wz (w.heap.size + 1) 57 z8 := by rw [← hwz]; exact Bk.newAt _ _ _ (by simp)
  have hD : BookD wz g b := h.below hbl
  have HWZ := bx hwz
  have HBL := bx hbl
  have HZ0 := bx hZ0
  have HZ1 := bx hZ1
  clear hwz hbl hZ0 hZ1
  by_cases c1 : border < p + 46 ∨ signA b p 1 2 = false
  · rw [if_pos c1] at hR
    have HR := bx hR.symm
    have hf : (decide (p + 46 ≤ border) && signA b p 1 2) = false := by
      rcases c1 with c | c
      · rw [decide_eq_false (by omega)]; rfl
      · rw [c, Bool.and_false]
    have his := is_any g b p 46 border 2 1 2 wz hD (.inr (.inl ⟨rfl, rfl, rfl⟩)) (by omega) (by omega) (by omega) (by omega)
    rw [hf] at his
    have HIS := bx his
    clear his hf c1 hR
    go_enter Tryd.func30, Tryd.ntmps30
    go_wp2_with fail
    rw [z8_eq, HWZ.out]
    refine HIS.out.mono ?_
    rintro e w1 ⟨rfl, hb1⟩
    have hK0 := HZ0.out.below hb1 HZ0.out.lt
    have hK1 := HZ1.out.below hb1 HZ1.out.lt
    have HB1 := bx (HBL.out.trans (hb1.mono HBL.out.size))
    clear hb1
    go_wp2_with (first
      | (refine wpList_load_row rfl 57 (.tmp 11) rfl (w.heap.size + 1) rfl _ z8 _ _ hK1 Tryd.underlying57 rfl (by rw [z8_size]; exact info_found) ?_)
      | (refine wpList_store_row rfl 57 (.tmp 8) (.tmp 21) rfl w.heap.size z8 rfl rfl 57 z8 hK0 (by rw [z8_size]; exact info_found) rfl z8_one ?_))
    exact bodyPost_ret (v := .tuple #[.agg z8, .int .i64 0, .int .i64 11]) (results_record _ _ w.heap.size z8 rfl (hK0.setRow z8) rfl) rfl (RecPost.bad HR.out (bl_setRow HB1.out (Nat.le_refl _) z8))
  rw [if_neg c1] at hR
  have hin : p + 46 ≤ border := by omega
  have hsg : signA b p 1 2 = true := by
    cases h : signA b p 1 2 with
    | true => rfl
    | false => exact absurd (.inr h) c1
  have his := is_any g b p 46 border 2 1 2 wz hD (.inr (.inl ⟨rfl, rfl, rfl⟩)) (by omega) (by omega) (by omega) (by omega)
  rw [hsg, decide_eq_true hin] at his
  have HIS := bx his
  have HSG := bx hsg
  obtain ⟨sz, hsz⟩ : ∃ sz, numA b (p + 28) 2 = sz := ⟨_, rfl⟩
  obtain ⟨ex, hex⟩ : ∃ sz, numA b (p + 30) 2 = sz := ⟨_, rfl⟩
  obtain ⟨cm, hcm⟩ : ∃ sz, numA b (p + 32) 2 = sz := ⟨_, rfl⟩
  obtain ⟨dk, hdk⟩ : ∃ sz, numA b (p + 34) 2 = sz := ⟨_, rfl⟩
  have l1 : sz < 65536 := by rw [← hsz]; exact numA_2 _ _
  have l2 : ex < 65536 := by rw [← hex]; exact numA_2 _ _
  have l3 : cm < 65536 := by rw [← hcm]; exact numA_2 _ _
  have HSZ := bx hsz
  have HEX := bx hex
  have HCM := bx hcm
  have HDK := bx hdk
  rw [hsz, hex, hcm, hdk] at hR
  have HDD := bx hD
  clear his hsg c1 hsz hex hcm hdk hD
  by_cases c2 : border < p + 46 + sz + ex + cm
  · rw [if_pos (.inl c2)] at hR
    have HR := bx hR.symm
    have hcI : (border : Int) < (p : Int) + 46 + (sz : Int) + (ex : Int) + (cm : Int) := by omega
    clear hR c2
    go_enter Tryd.func30, Tryd.ntmps30
    go_wp2_with fail
    rw [z8_eq, HWZ.out]
    refine HIS.out.mono ?_
    rintro e w1 ⟨rfl, hb1⟩
    have hK0 := HZ0.out.below hb1 HZ0.out.lt
    have hK1 := HZ1.out.below hb1 HZ1.out.lt
    have HD1 := bx (HDD.out.below hb1)
    have HB1 := bx (HBL.out.trans (hb1.mono HBL.out.size))
    clear hb1
    go_wp2_with fail
    refine (num_at g b p 28 2 28 2 w1 HD1.out rfl rfl (by omega) (by omega) (by omega) HSZ.out).mono ?_
    rintro e w2 ⟨rfl, rfl⟩
    go_wp2_with fail
    refine (num_at g b p 30 2 30 2 w2 HD1.out rfl rfl (by omega) (by omega) (by omega) HEX.out).mono ?_
    rintro e w3 ⟨rfl, rfl⟩
    go_wp2_with fail
    refine (num_at g b p 32 2 32 2 w3 HD1.out rfl rfl (by omega) (by omega) (by omega) HCM.out).mono ?_
    rintro e w4 ⟨rfl, rfl⟩
    go_wp2_with (first
      | (refine wpList_load_row rfl 57 (.tmp 11) rfl (w.heap.size + 1) rfl _ z8 _ _ hK1 Tryd.underlying57 rfl (by rw [z8_size]; exact info_found) ?_)
      | (refine wpList_store_row rfl 57 (.tmp 8) (.tmp 50) rfl w.heap.size z8 rfl rfl 57 z8 hK0 (by rw [z8_size]; exact info_found) rfl z8_one ?_))
    exact bodyPost_ret (v := .tuple #[.agg z8, .int .i64 0, .int .i64 11]) (results_record _ _ w.heap.size z8 rfl (hK0.setRow z8) rfl) rfl (RecPost.bad HR.out (bl_setRow HB1.out (Nat.le_refl _) z8))
  have hcI : ¬ (border : Int) < (p : Int) + 46 + (sz : Int) + (ex : Int) + (cm : Int) := by omega
  by_cases c3 : dk = 0
  case neg =>
    rw [if_pos (.inr c3)] at hR
    have HR := bx hR.symm
    have hdI : ((dk : Int) != 0) = true := by rw [bne_iff_ne]; omega
    clear hR c2 c3
    go_enter Tryd.func30, Tryd.ntmps30
    go_wp2_with fail
    rw [z8_eq, HWZ.out]
    refine HIS.out.mono ?_
    rintro e w1 ⟨rfl, hb1⟩
    have hK0 := HZ0.out.below hb1 HZ0.out.lt
    have hK1 := HZ1.out.below hb1 HZ1.out.lt
    have HD1 := bx (HDD.out.below hb1)
    have HB1 := bx (HBL.out.trans (hb1.mono HBL.out.size))
    clear hb1
    go_wp2_with fail
    refine (num_at g b p 28 2 28 2 w1 HD1.out rfl rfl (by omega) (by omega) (by omega) HSZ.out).mono ?_
    rintro e w2 ⟨rfl, rfl⟩
    go_wp2_with fail
    refine (num_at g b p 30 2 30 2 w2 HD1.out rfl rfl (by omega) (by omega) (by omega) HEX.out).mono ?_
    rintro e w3 ⟨rfl, rfl⟩
    go_wp2_with fail
    refine (num_at g b p 32 2 32 2 w3 HD1.out rfl rfl (by omega) (by omega) (by omega) HCM.out).mono ?_
    rintro e w4 ⟨rfl, rfl⟩
    go_wp2_with fail
    refine (num_at g b p 34 2 34 2 w4 HD1.out rfl rfl (by omega) (by omega) (by omega) HDK.out).mono ?_
    rintro e w5 ⟨rfl, rfl⟩
    go_wp2_with (first
      | (refine wpList_load_row rfl 57 (.tmp 11) rfl (w.heap.size + 1) rfl _ z8 _ _ hK1 Tryd.underlying57 rfl (by rw [z8_size]; exact info_found) ?_)
      | (refine wpList_store_row rfl 57 (.tmp 8) (.tmp 50) rfl w.heap.size z8 rfl rfl 57 z8 hK0 (by rw [z8_size]; exact info_found) rfl z8_one ?_))
    exact bodyPost_ret (v := .tuple #[.agg z8, .int .i64 0, .int .i64 11]) (results_record _ _ w.heap.size z8 rfl (hK0.setRow z8) rfl) rfl (RecPost.bad HR.out (bl_setRow HB1.out (Nat.le_refl _) z8))
  exact (HL.out ⟨hin, HSG.out, by rw [HSZ.out, HEX.out, HCM.out]; exact c2, HDK.out.trans c3⟩).elim
end Go.Proofs.YtokojichjliieaaDoor
namespace Go.Proofs.YtokojichjliieaaDoor
open Go.RowKit
/-- A book that lies below B. -/
def BookE (w : World) (B g : Nat) (b : List UInt8) : Prop :=
  ∃ A c m n, g < B ∧ m < B ∧ B ≤ w.heap.size ∧ Bk w g 50 #[.slice A b.length c, .map (some m)] ∧ RB w B A b ∧ b.length ≤ c ∧ MapT quadV w Tryd.prog 79 m n kindG ∧ (b.length : Int) ≤ 140737488355328 ∧ (c : Int) ≤ 9223372036854775807
theorem BookE.d {w : World} {B g : Nat} {b : List UInt8} (h : BookE w B g b) : BookD w g b := by
  obtain ⟨A, c, m, n, h1, h2, h3, h4, h5, r⟩ := h
  exact ⟨A, c, m, n, h4, h5.top, r⟩
theorem BookE.below {w w' : World} {B g : Nat} {b : List UInt8} (h : BookE w B g b) (hb : Below B w w') : BookE w' B g b := by
  obtain ⟨A, c, m, n, h1, h2, h3, h4, h5, h6, h7, r⟩ := h
  exact ⟨A, c, m, n, h1, h2, Nat.le_trans h3 hb.size, h4.below hb h1, h5.below hb (Nat.le_refl _), h6, h7.below hb h2, r⟩
abbrev Ent := Rec × Int × Nat
def fndL (x : Ent) : List Value := (fndC x.1 x.2.1 x.2.2).toList
theorem fndCels : Cels fndL 8 := ⟨fun _ => rfl, fun x u hu => by
  have := fndC_one x.1 x.2.1 x.2.2
  exact (Array.all_eq_true_iff_forall_mem.1 this) u (by simpa [fndL] using hu), by omega⟩
/-- What local answers. -/
def LocPost (R : Option Nat) (w : World) (gl base : Nat) (V : Value) (l : List Ent) (k : Nat) (x : Rec × Nat) (e : Ending) (w' : World) : Prop := w.grownBy w' (some gl) ∧ match R with
  | none => e = .returned (.int .i64 15)
  | some a => e = .returned (.int .i64 0) ∧ OwS fndL 8 w' base 57 V (l.set k (x.1, ((a : Nat) : Int), x.2))
theorem LocPost.bad {R : Option Nat} {w w' : World} {gl base : Nat} {V : Value} {l : List Ent} {k : Nat} {x : Rec × Nat} (h : R = none) (hg : w.grownBy w' (some gl)) : LocPost R w gl base V l k x (.returned (.int .i64 15)) w' := by
  subst h; exact ⟨hg, rfl⟩
theorem LocPost.good {R : Option Nat} {w w' : World} {gl base a : Nat} {V : Value} {l : List Ent} {k : Nat} {x : Rec × Nat} (h : R = some a) (hg : w.grownBy w' (some gl)) (ho : OwS fndL 8 w' base 57 V (l.set k (x.1, ((a : Nat) : Int), x.2))) : LocPost R w gl base V l k x (.returned (.int .i64 0)) w' := by
  subst h; exact ⟨hg, rfl, ho⟩
theorem tl_same {s t : ByteArray} (h : s.data.toList = t.data.toList) : (s.toList == t.toList) = true := by
  rw [Lib.toList_data, Lib.toList_data]; simpa using h
theorem tl_diff {s t : ByteArray} (h : ¬ s.data.toList = t.data.toList) : (s.toList == t.toList) = false := by
  rw [Lib.toList_data, Lib.toList_data]; simpa using h
/-- string(b[i:j]) as an equation, in the walk's spelling of the address. -/
theorem run_cut_str {w : World} {B : Nat} {ad : Addr} {b : List UInt8} (hr : RB w B (some ad) b) {i m c n : Nat} (hn : n = m) (hi : i + m ≤ b.length) {s : ByteArray} (hs : (⟨((b.drop i).take m).toArray⟩ : ByteArray) = s) :
    (convert 22 9 (.slice (some (ad.add i)) n c)).run Tryd.prog w = .ok (.string s) w := by
  rw [← hs]
  exact run_conv_str (P := Tryd.prog) (w := w) (B := B) (A := some (ad.add i)) (l := (b.drop i).take m) Tryd.underlying22 Tryd.underlying5 Tryd.underlying9 (by rw [hn]; simp; omega) ((hr.drop i).take m)
set_option maxRecDepth 100000 in
set_option maxHeartbeats 8000000 in
theorem local_any (g gl o k B base n c : Nat) (b : List UInt8) (x : Rec × Nat) (at0 : Int) (dir : Nat) (l : List Ent) (w : World) (h : BookE w B g b) (hgl : B ≤ gl) (ho : o = k * 8)
    (hl : OwS fndL 8 w base 57 (.slice (some ⟨gl, 0, none⟩) n c) l) (hk : l[k]? = some (x.1, at0, x.2)) (hdir : dir + 22 ≤ b.length) (hz : b.length ≤ 70000) (hp : x.2 + 30 ≤ b.length)
    (hhead : x.1.head < 4294967296) (hpk : x.1.packed < 4294967296) (hnm : x.1.name.length < 65536) :
    Calls Tryd.prog 31 #[.pointer (some ⟨g, 0, none⟩), .pointer (some ⟨gl, o, none⟩), .int .i64 (dir : Int)] w (LocPost (localA b dir x) w gl base (.slice (some ⟨gl, 0, none⟩) n c) l k x) := by
  obtain ⟨⟨nm, me, pk, si, su, hd⟩, p⟩ := x
  dsimp only at hk hp hhead hpk hnm
  obtain ⟨R, hR⟩ : ∃ R, localA b dir (⟨nm, me, pk, si, su, hd⟩, p) = R := ⟨_, rfl⟩
  rw [hR]
  unfold localA at hR
  dsimp only at hR
  have hE := h
  obtain ⟨A, cb, mk, q, hgB, _, hBz, hB, hr, hcb, _, _, hcl⟩ := h
  have hzl : k < l.length := (List.getElem?_eq_some_iff.1 hk).1
  have hlt : gl < w.heap.size := (hl.blk rfl).2
  have fz : ∀ j, w.frozen? ⟨gl, j, none⟩ = false := fun j => hl.frz j
  have q0 : w.cell? ⟨gl, o, none⟩ = some (.string ⟨nm.toArray⟩) := by subst ho; exact hl.cell fndCels (j := 0) hk rfl
  have q2 : w.cell? ⟨gl, o + 2, none⟩ = some (.int .i64 (pk : Int)) := by subst ho; exact hl.cell fndCels (j := 2) hk rfl
  have q5 : w.cell? ⟨gl, o + 5, none⟩ = some (.int .i64 at0) := by subst ho; exact hl.cell fndCels (j := 5) hk rfl
  have q6 : w.cell? ⟨gl, o + 6, none⟩ = some (.int .i64 (hd : Int)) := by subst ho; exact hl.cell fndCels (j := 6) hk rfl
  have q7 : w.cell? ⟨gl, o + 7, none⟩ = some (.int .i64 (p : Int)) := by subst ho; exact hl.cell fndCels (j := 7) hk rfl
  have c0 : w.cell? ⟨g, 0, none⟩ = some (.slice A b.length cb) := (hB.cell 0).trans rfl
  have hne : g ≠ gl := by omega
  have HO := bx ho
  clear ho
  have hG0 : w.grownBy w (some gl) := gb_below (Below.refl _ _) _
  by_cases e1 : dir < hd + 30 ∨ signA b hd 3 4 = false
  · have HR := bx (show R = none from by rw [← hR, if_pos (by rcases e1 with e | e; exact .inl e; exact .inr (.inl e))])
    have hv : (decide (hd + 30 ≤ dir) && signA b hd 3 4) = false := by
      rcases e1 with e | e
      · rw [decide_eq_false (by omega)]; rfl
      · rw [e, Bool.and_false]
    have HIS := bx (fun nq => (is_quiet g b hd 30 dir 3 3 4 (w.drewN nq) (hE.below (below_drewN (Below.refl _ _) nq)).d (.inr (.inr ⟨rfl, rfl, rfl⟩)) (by omega) (by omega) (by omega) (by omega)))
    rw [hv] at HIS
    have HG0 := bx hG0
    clear hR e1 hv hl hk hE hr hB hG0
    go_enter Tryd.func31, Tryd.ntmps31
    go_wp2
    go_quiet ((go_at_call 28; exact Calls.quiet_of (HIS.out _)))
    go_wp2
    go_ret
    exact LocPost.bad HR.out (gb_drewN HG0.out _)
  have e1a : hd + 30 ≤ dir := by omega
  have e1b : signA b hd 3 4 = true := by
    cases hs : signA b hd 3 4 with
    | true => rfl
    | false => exact absurd (.inr hs) e1
  have HIS := bx (fun nq => (is_quiet g b hd 30 dir 3 3 4 (w.drewN nq) (hE.below (below_drewN (Below.refl _ _) nq)).d (.inr (.inr ⟨rfl, rfl, rfl⟩)) (by omega) (by omega) (by omega) (by omega)))
  rw [decide_eq_true e1a, e1b] at HIS
  obtain ⟨ad, x0, rfl, hadB, _, _⟩ := hr.byte (k := hd) (by omega)
  obtain ⟨s1, hs1⟩ : ∃ s, (⟨((b.drop (hd + 4)).take 24).toArray⟩ : ByteArray) = s := ⟨_, rfl⟩
  obtain ⟨s2, hs2⟩ : ∃ s, (⟨((b.drop (p + 6)).take 24).toArray⟩ : ByteArray) = s := ⟨_, rfl⟩
  have hcv1 := fun nq => run_cut_str (hr.drewN nq) (i := hd + 4) (m := 24) (c := cb - (hd + 4)) (n := ((hd : Int) + 28).toNat - (hd + 4)) (by omega) (by omega) hs1
  have hcv2 := fun nq => run_cut_str (hr.drewN nq) (i := p + 6) (m := 24) (c := cb - (p + 6)) (n := ((p : Int) + 30).toNat - (p + 6)) (by omega) (by omega) hs2
  rw [show ad.add (hd + 4) = ⟨ad.block, ad.off + (hd + 3 + 1), none⟩ from add_pos ad (hd + 3)] at hcv1
  rw [show ad.add (p + 6) = ⟨ad.block, ad.off + (p + 5 + 1), none⟩ from add_pos ad (p + 5)] at hcv2
  have u1 : IntKind.i64.wrap ((hd : Int) + 4) = (hd : Int) + 4 := IntWalk.i64_in _ (by omega)
  have u2 : IntKind.i64.wrap ((hd : Int) + 28) = (hd : Int) + 28 := IntWalk.i64_in _ (by omega)
  have u3 : IntKind.i64.wrap ((p : Int) + 6) = (p : Int) + 6 := IntWalk.i64_in _ (by omega)
  have u4 : IntKind.i64.wrap ((p : Int) + 30) = (p : Int) + 30 := IntWalk.i64_in _ (by omega)
  have v1 : (0 : Int) ≤ (hd : Int) + 4 := by omega
  have v2 : (hd : Int) + 4 ≤ (hd : Int) + 28 := by omega
  have v3 : (hd : Int) + 28 ≤ (cb : Int) := by omega
  have v4 : ((hd : Int) + 4).toNat = hd + 4 := by omega
  have v5 : ¬ cb = hd + 4 := by omega
  have v6 : (0 : Int) ≤ (p : Int) + 6 := by omega
  have v7 : (p : Int) + 6 ≤ (p : Int) + 30 := by omega
  have v8 : (p : Int) + 30 ≤ (cb : Int) := by omega
  have v9 : ((p : Int) + 6).toNat = p + 6 := by omega
  have va : ¬ cb = p + 6 := by omega
  by_cases e2 : (b.drop (hd + 4)).take 24 = (b.drop (p + 6)).take 24
  case neg =>
    have HR := bx (show R = none from by rw [← hR, if_pos (.inr (.inr e2))])
    have hst : (s1.toList == s2.toList) = false := tl_diff (by rw [← hs1, ← hs2]; simpa using e2)
    have HG0 := bx hG0
    clear hR e1 e1b e2 hl hk hE hr hB hG0 hs1 hs2
    go_enter Tryd.func31, Tryd.ntmps31
    go_wp2
    go_quiet ((go_at_call 28; exact Calls.quiet_of (HIS.out _)))
    go_wp2
    go_ret
    exact LocPost.bad HR.out (gb_drewN HG0.out _)
  have hst : (s1.toList == s2.toList) = true := tl_same (by rw [← hs1, ← hs2]; simpa using e2)
  rw [if_neg (by rintro (h | h | h); omega; rw [e1b] at h; cases h; exact h e2)] at hR
  obtain ⟨ex, hex⟩ : ∃ ex, numA b (hd + 28) 2 = ex := ⟨_, rfl⟩
  have lex : ex < 65536 := by rw [← hex]; exact numA_2 _ _
  rw [hex] at hR
  obtain ⟨ln, hln⟩ : ∃ ln, nm.length = ln := ⟨_, rfl⟩
  rw [hln] at hR hnm
  have HEX := bx hex
  have HLN := bx hln
  have hsz : (⟨nm.toArray⟩ : ByteArray).size = ln := by rw [← hln]; rfl
  obtain ⟨sn, hsn⟩ : ∃ s, (⟨nm.toArray⟩ : ByteArray) = s := ⟨_, rfl⟩
  rw [hsn] at q0 hsz
  have HR0 := bx hR
  have HE := bx hE
  have HL := bx hl
  have HK := bx hk
  have HRB := bx hr
  have HSN := bx hsn
  have HG0 := bx hG0
  have HBK := bx hB
  have x1 : IntKind.i64.wrap ((hd : Int) + 30) = (hd : Int) + 30 := IntWalk.i64_in _ (by omega)
  have x2 : IntKind.i64.wrap ((hd : Int) + 30 + (ln : Int)) = (hd : Int) + 30 + (ln : Int) := IntWalk.i64_in _ (by omega)
  have x3 : IntKind.i64.wrap ((hd : Int) + 30 + (ln : Int) + (ex : Int)) = (hd : Int) + 30 + (ln : Int) + (ex : Int) := IntWalk.i64_in _ (by omega)
  clear hR e1 e1b e2 hl hk hE hr hB hG0 hs1 hs2 hex hln hsn
  go_enter Tryd.func31, Tryd.ntmps31
  go_wp2
  go_quiet ((go_at_call 28; exact Calls.quiet_of (HIS.out _)))
  rename Nat => nq
  go_wp2
  obtain ⟨w1, hw1⟩ : ∃ w1, w.drewN nq = w1 := ⟨_, rfl⟩
  rw [hw1]
  have hb1 : Below w.heap.size w w1 := by rw [← hw1]; exact below_drewN (Below.refl _ _) nq
  have HG1 := bx (gb_below hb1 (some gl))
  have HE1 := bx (HE.out.below (hb1.mono hBz))
  have HL1 : Bx (OwS fndL 8 w1 base 57 (.slice (some ⟨gl, 0, none⟩) n c) l) := by rw [← hw1]; exact bx (HL.out.drewN nq)
  have hcells : ∀ q, w1.cell? q = w.cell? q := by rw [← hw1]; intro q; rfl
  have hfr : ∀ q, w1.frozen? q = w.frozen? q := by rw [← hw1]; intro q; rfl
  have hRB1 : RB w1 B (some ad) b := by rw [← hw1]; exact HRB.out.drewN nq
  have q0' := (hcells _).trans q0
  have q2' := (hcells _).trans q2
  have q5' := (hcells _).trans q5
  have q6' := (hcells _).trans q6
  have q7' := (hcells _).trans q7
  have c0' := (hcells _).trans c0
  have fz' := (hfr ⟨gl, o + 5, none⟩).trans (fz (o + 5))
  have HRB1 := bx hRB1
  clear hw1 hb1 hcells hfr q0 q2 q5 q6 q7 c0 fz hcv1 hcv2 hst HE HL HRB HIS u1 u2 u3 u4 v1 v2 v3 v4 v5 v6 v7 v8 v9 va hRB1 HG0 HBK
  obtain ⟨av, hav⟩ : ∃ av, hd + 30 + ln + ex = av := ⟨_, rfl⟩
  have hav' : (hd : Int) + 30 + (ln : Int) + (ex : Int) = (av : Int) := by omega
  obtain ⟨F, hF⟩ : ∃ F, cellF w1.drew ⟨gl, o + 5, none⟩ (.int .i64 ((hd : Int) + 30 + (ln : Int) + (ex : Int))) = F := ⟨_, rfl⟩
  have hF0 : w1.drew = F 0 := by rw [← hF]; rfl
  have hF1 : (F 0).setCell ⟨gl, o + 5, none⟩ (.int .i64 ((hd : Int) + 30 + (ln : Int) + (ex : Int))) = F 1 := by rw [← hF]; rfl
  have hFb : ∀ n, Below B w1 (F n) := fun n => by
    rw [← hF]
    match n with
    | 0 => exact below_drewN (Below.refl _ _) 1
    | _ + 1 => exact (below_drewN (Below.refl _ _) 1).setCell hgl _
  have z0 : ∀ n, (F n).cell? ⟨gl, o, none⟩ = some (.string sn) := fun n => by
    rw [← hF]
    match n with
    | 0 => exact q0'
    | _ + 1 => exact (World.cell?_setCell_other _ _ _ _ (by simp)).trans q0'
  have zf : ∀ n, (F n).frozen? ⟨gl, o + 5, none⟩ = false := fun n => by
    rw [← hF]
    match n with
    | 0 => exact fz'
    | _ + 1 => exact (World.frozen?_setCell _ _ _ _).trans fz'
  have z5 : ∃ u, (F 0).cell? ⟨gl, o + 5, none⟩ = some u := ⟨_, by rw [← hF0]; exact q5'⟩
  obtain ⟨u5, z5⟩ := z5
  have HDF := bx (fun n => (HE1.out.below (hFb n)).d)
  have y0 := z0 1
  have y2 : (F 1).cell? ⟨gl, o + 2, none⟩ = some (.int .i64 (pk : Int)) := by rw [← hF1, ← hF0]; exact (World.cell?_setCell_other _ _ _ _ (by simp)).trans q2'
  have y5 : (F 1).cell? ⟨gl, o + 5, none⟩ = some (.int .i64 (av : Int)) := by rw [← hF1, hav']; exact World.cell?_setCell_same _ _ _ z5
  have y9 : (F 1).cell? ⟨g, 0, none⟩ = some (.slice (some ad) b.length cb) := by rw [← hF1, ← hF0]; exact (World.cell?_setCell_other _ _ _ _ (by simp)).trans c0'
  have HOw : Bx (OwS fndL 8 (F 1) base 57 (.slice (some ⟨gl, 0, none⟩) n c) (l.set k (⟨nm, me, pk, si, su, hd⟩, (av : Int), p))) := by
    rw [← hF1, ← hF0, HO.out, hav']
    exact bx (HL1.out.drew.set fndCels (j := 5) HK.out (by omega) rfl)
  have HR3 : Bx (RB (F 1) B (some ad) b) := bx (HRB1.out.below (hFb 1) (Nat.le_refl _))
  have HG2 : Bx (w.grownBy (F 1) (some gl)) := by rw [← hF1, ← hF0]; exact bx (gb_set (gb_drewN HG1.out 1) _ _)
  rw [hav] at HR0
  have HF0 := bx hF0
  have HF1 := bx hF1
  have HAV := bx hav
  have HAV' := bx hav'
  have Y0 := bx y0
  have Y2 := bx y2
  have Y5 := bx y5
  have Y9 := bx y9
  clear hF hF0 hF1 hFb q0' q2' q5' q6' q7' c0' fz' HL1 HRB1 HG1 HE1 hav hav' y0 y2 y5 y9
  have a1 : hd + 28 + 2 ≤ b.length := by omega
  have x4 : IntKind.i64.wrap ((hd : Int) + 28) = (hd : Int) + 28 := IntWalk.i64_in _ (by omega)
  refine wp_region_same 18 F (by kernel_rfl) (by kernel_rfl) (by kernel_rfl) (by kernel_rfl) (by decide) HF0.out (fun _ _ _ d _ h => by cases d <;> exact h) ?_
  simp only [List.take_succ_cons, List.take_zero, List.drop_succ_cons, List.drop_zero]
  repeat (
    refine wpSame_step (fun K hK => ?_)
    simp only [SameAt]
    go_simp
    first
      | (refine hK _ ?_; clear hK K)
      | (apply Exists.intro
         refine ⟨fun _ => ?_, hK _ ?_⟩
         (with_reducible exact num_at g b hd 28 2 28 2 _ (HDF.out _) rfl rfl (by omega) (by omega) a1 HEX.out)
         clear hK K))
  refine wpSame_nil ?_
  refine wpChain_step rfl (fun K hK => ?_)
  go_simp
  rw [HF1.out]
  refine hK _ _ ⟨1, rfl⟩ ?_
  clear hK K
  refine wpChain_nil ?_
  obtain ⟨w3, hw3⟩ : ∃ w3, F 1 = w3 := ⟨_, rfl⟩
  rw [hw3] at HOw HR3 HG2 Y0 Y2 Y5 Y9
  rw [hw3]
  have y0 := Y0.out
  have y2 := Y2.out
  have y5 := Y5.out
  have y9 := Y9.out
  clear hw3 HF0 HF1 HDF z0 zf z5 Y0 Y2 Y5 Y9 x1 x3 x4 a1
  by_cases e3 : dir < av
  · have e3I : (dir : Int) < (av : Int) := by omega
    have HR := bx (show R = none from by rw [← HR0.out, if_pos (.inl e3)])
    clear HR0
    go_wp2
    go_quiet (fail)
    go_wp2
    go_ret
    exact LocPost.bad HR.out (gb_drewN HG2.out _)
  have e3I : ¬ (dir : Int) < (av : Int) := by omega
  have e3K : decide (dir < av) = false := decide_eq_false e3
  have e3J : (av : Int) ≤ (dir : Int) := by omega
  have x5 : IntKind.i64.wrap ((dir : Int) - (av : Int)) = (dir : Int) - (av : Int) := IntWalk.i64_in _ (by omega)
  by_cases e4 : dir < av + pk
  · have e4I : (dir : Int) - (av : Int) < (pk : Int) := by omega
    have HR := bx (show R = none from by rw [← HR0.out, if_pos (.inr (.inl e4))])
    clear HR0
    go_wp2
    go_quiet (fail)
    go_wp2
    go_ret
    exact LocPost.bad HR.out (gb_drewN HG2.out _)
  have e4I : ¬ (dir : Int) - (av : Int) < (pk : Int) := by omega
  have e4K : decide ((dir : Int) - (av : Int) < (pk : Int)) = false := decide_eq_false e4I
  obtain ⟨s3, hs3⟩ : ∃ s, (⟨((b.drop (hd + 30)).take ln).toArray⟩ : ByteArray) = s := ⟨_, rfl⟩
  have hle : hd + 30 + ln ≤ b.length := by have := HAV.out; omega
  have hcv3 := fun nq => run_cut_str (HR3.out.drewN nq) (i := hd + 30) (m := ln) (c := cb - (hd + 30)) (n := ((hd : Int) + 30 + (ln : Int)).toNat - (hd + 30)) (by omega) hle hs3
  rw [show ad.add (hd + 30) = ⟨ad.block, ad.off + (hd + 29 + 1), none⟩ from add_pos ad (hd + 29)] at hcv3
  have u1 : IntKind.i64.wrap ((hd : Int) + 30) = (hd : Int) + 30 := IntWalk.i64_in _ (by omega)
  have v1 : (0 : Int) ≤ (hd : Int) + 30 := by omega
  have v2 : (hd : Int) + 30 ≤ (hd : Int) + 30 + (ln : Int) := by omega
  have v3 : (hd : Int) + 30 + (ln : Int) ≤ (cb : Int) := by have := hle; omega
  have v4 : ((hd : Int) + 30).toNat = hd + 30 := Int.toNat_natCast (hd + 30)
  have v5 : ¬ cb = hd + 30 := by omega
  by_cases e5 : (b.drop (hd + 30)).take ln = nm
  case neg =>
    have hst : (s3.toList == sn.toList) = false := tl_diff (by rw [← hs3, ← HSN.out]; simpa using e5)
    clear hs3
    have HR := bx (show R = none from by rw [← HR0.out, if_pos (.inr (.inr e5))])
    clear HR0
    go_wp2
    go_quiet (fail)
    go_wp2
    go_ret
    exact LocPost.bad HR.out (gb_drewN HG2.out _)
  have hst : (s3.toList == sn.toList) = true := tl_same (by rw [← hs3, ← HSN.out]; simpa using e5)
  have HR := bx (show R = some av from by rw [← HR0.out, if_neg (by rintro (h | h | h); exact e3 h; exact e4 h; exact h e5)])
  clear HR0 hs3 e3 e4 e5
  go_wp2
  go_quiet (fail)
  go_wp2
  go_ret
  exact LocPost.good HR.out (gb_drewN HG2.out _) (HOw.out.drewN _)
end Go.Proofs.YtokojichjliieaaDoor
