/- Contracts: archive.kinds, (*archive.book).num, (*archive.book).is. -/
import Derived.Test.YtokojichjliieaaDoorArcA
import Derived.Deep.RegionLaw
namespace Go.Proofs.YtokojichjliieaaDoor
open Go.RowKit

/-- The map of the signatures while it is made: which of the three are in it. -/
def kmG (a b c : Bool) (x : Quad) : Option Value := if c = true ∧ x = (80, 75, 3, 4) then some (.int .u8 3) else if b = true ∧ x = (80, 75, 1, 2) then some (.int .u8 2) else if a = true ∧ x = (80, 75, 5, 6) then some (.int .u8 1) else none
def KM (w0 w : World) (g n : Nat) (a b c : Bool) : Prop := w0.heap.size ≤ g ∧ Below w0.heap.size w0 w ∧ MapT quadV w Tryd.prog 79 g n (kmG a b c)
theorem KM.drew {w0 w : World} {g n : Nat} {a b c : Bool} (h : KM w0 w g n a b c) : KM w0 w.drew g n a b c := ⟨h.1, below_drewN h.2.1 1, h.2.2⟩
theorem KM.put {w0 w : World} {g n : Nat} {a b c : Bool} (h : KM w0 w g n a b c) (hn : n < maxLen) (y : Quad) (v : Value) (p q r : Bool) (hG : ∀ x, kmG p q r x = if x = y then some v else kmG a b c x) :
    ∃ w', (Instr.mapUpdate 47 (.map (some g)) (quadV y) v).run Tryd.prog w = .ok () w' ∧ KM w0 w' g (n + 1) p q r := by
  obtain ⟨h1, h2, h3⟩ := h
  obtain ⟨kl, hkl⟩ := quad_key y
  obtain ⟨w', r1, g1, M1⟩ := h3.storeRun quadK Tryd.underlying47 quad_inj hn y v hkl
  exact ⟨w', r1, h1, h2.grown g1 h2.size (fun k e => by injection e with e; subst e; exact h1), M1.ext hG⟩
theorem kmG_1 (b c : Bool) (x : Quad) : kmG true b c x = if x = (80, 75, 5, 6) then some (.int .u8 1) else kmG false b c x := by
  unfold kmG
  by_cases h : x = (80, 75, 5, 6)
  · subst h; simp
  · simp [h]
theorem kmG_2 (a c : Bool) (x : Quad) : kmG a true c x = if x = (80, 75, 1, 2) then some (.int .u8 2) else kmG a false c x := by
  unfold kmG
  by_cases h : x = (80, 75, 1, 2)
  · subst h; simp
  · simp [h]
theorem kmG_3 (a b : Bool) (x : Quad) : kmG a b true x = if x = (80, 75, 3, 4) then some (.int .u8 3) else kmG a b false x := by
  unfold kmG
  by_cases h : x = (80, 75, 3, 4)
  · subst h; simp
  · simp [h]
theorem KM.put1 {w0 w : World} {g n : Nat} {b c : Bool} (h : KM w0 w g n false b c) (hn : n < maxLen) :
    ∃ w', (Instr.mapUpdate 47 (.map (some g)) (.agg #[.int .u8 80, .int .u8 75, .int .u8 5, .int .u8 6]) (.int .u8 1)).run Tryd.prog w = .ok () w' ∧ KM w0 w' g (n + 1) true b c := h.put hn (80, 75, 5, 6) (.int .u8 1) true b c (kmG_1 b c)
theorem KM.put2 {w0 w : World} {g n : Nat} {a c : Bool} (h : KM w0 w g n a false c) (hn : n < maxLen) :
    ∃ w', (Instr.mapUpdate 47 (.map (some g)) (.agg #[.int .u8 80, .int .u8 75, .int .u8 1, .int .u8 2]) (.int .u8 2)).run Tryd.prog w = .ok () w' ∧ KM w0 w' g (n + 1) a true c := h.put hn (80, 75, 1, 2) (.int .u8 2) a true c (kmG_2 a c)
theorem KM.put3 {w0 w : World} {g n : Nat} {a b : Bool} (h : KM w0 w g n a b false) (hn : n < maxLen) :
    ∃ w', (Instr.mapUpdate 47 (.map (some g)) (.agg #[.int .u8 80, .int .u8 75, .int .u8 3, .int .u8 4]) (.int .u8 3)).run Tryd.prog w = .ok () w' ∧ KM w0 w' g (n + 1) a b true := h.put hn (80, 75, 3, 4) (.int .u8 3) a b true (kmG_3 a b)
theorem KM.fin {w0 w : World} {g : Nat} (h : KM w0 w g 3 true true true) : w0.heap.size ≤ g ∧ MapT quadV w Tryd.prog 79 g 3 kindG ∧ Below w0.heap.size w0 w :=
  ⟨h.1, h.2.2.ext (fun x => by unfold kindG kmG; simp), h.2.1⟩
set_option maxHeartbeats 1000000 in
theorem kinds_any (w : World) : Calls Tryd.prog 27 #[] w fun e w' => ∃ g, e = .returned (.map (some g)) ∧ w.heap.size ≤ g ∧ MapT quadV w' Tryd.prog 79 g 3 kindG ∧ Below w.heap.size w w' := by
  obtain ⟨g, hg⟩ : ∃ g, w.heap.size = g := ⟨_, rfl⟩
  have K : KM w (w.alloc (.map #[] 0)).drew g 0 false false false := ⟨Nat.le_of_eq hg, below_drewN (bl_alloc (Below.refl _ _) (Nat.le_refl _) _) 1, ((MapT.madeAt w _ _ hg).ext (fun x => by simp [kmG]))⟩
  have hl : ∀ n, n < 10 → n < maxLen := fun n hn => Nat.lt_trans hn (by decide)
  obtain ⟨w1, r1, K1⟩ := K.put1 (hl 0 (by omega))
  obtain ⟨w2, r2, K2⟩ := K.put2 (hl 0 (by omega))
  obtain ⟨w3, r3, K3⟩ := K.put3 (hl 0 (by omega))
  obtain ⟨w12, r12, K12⟩ := K1.put2 (hl 1 (by omega))
  obtain ⟨w13, r13, K13⟩ := K1.put3 (hl 1 (by omega))
  obtain ⟨w21, r21, K21⟩ := K2.put1 (hl 1 (by omega))
  obtain ⟨w23, r23, K23⟩ := K2.put3 (hl 1 (by omega))
  obtain ⟨w31, r31, K31⟩ := K3.put1 (hl 1 (by omega))
  obtain ⟨w32, r32, K32⟩ := K3.put2 (hl 1 (by omega))
  obtain ⟨w123, r123, K123⟩ := K12.put3 (hl 2 (by omega))
  obtain ⟨w132, r132, K132⟩ := K13.put2 (hl 2 (by omega))
  obtain ⟨w213, r213, K213⟩ := K21.put3 (hl 2 (by omega))
  obtain ⟨w231, r231, K231⟩ := K23.put1 (hl 2 (by omega))
  obtain ⟨w312, r312, K312⟩ := K31.put2 (hl 2 (by omega))
  obtain ⟨w321, r321, K321⟩ := K32.put1 (hl 2 (by omega))
  have FS := bx (And.intro K123 (And.intro K132 (And.intro K213 (And.intro K231 (And.intro K312 K321)))))
  have hmm := @run_makeMap Tryd.prog
  clear K K1 K2 K3 K12 K13 K21 K23 K31 K32 K123 K132 K213 K231 K312 K321 hl
  go_enter Tryd.func27, Tryd.ntmps27
  go_wp2
  go_region
  all_goals
    go_wp2
    go_ret
    exact ⟨g, rfl, by first | exact FS.out.1.fin | exact FS.out.2.1.fin | exact FS.out.2.2.1.fin | exact FS.out.2.2.2.1.fin | exact FS.out.2.2.2.2.1.fin | exact FS.out.2.2.2.2.2.fin⟩

/-- A book: the bytes, the signatures. -/
def BookD (w : World) (g : Nat) (b : List UInt8) : Prop :=
  ∃ A c m n, Bk w g 50 #[.slice A b.length c, .map (some m)] ∧ RB w w.heap.size A b ∧ b.length ≤ c ∧ MapT quadV w Tryd.prog 79 m n kindG ∧ (b.length : Int) ≤ 140737488355328 ∧ (c : Int) ≤ 9223372036854775807
set_option maxHeartbeats 1000000 in
theorem num_ok (g : Nat) (b : List UInt8) (p n : Nat) (w : World) (h : BookD w g b) (h1 : 1 ≤ n) (h2 : n ≤ 4) (hp : p + n ≤ b.length) :
    Calls Tryd.prog 29 #[.pointer (some ⟨g, 0, none⟩), .int .i64 (p : Int), .int .i64 (n : Int)] w fun e w' => e = .returned (.int .i64 (numA b p n : Int)) ∧ w' = w := by
  obtain ⟨A, c, m, q, hB, hr, hc, hM, hl, hcl⟩ := h
  have c0 : w.cell? ⟨g, 0, none⟩ = some (.slice A b.length c) := (hB.cell 0).trans rfl
  have hlk := little_ok A c p n w b b.length rfl hl h1 (by omega) hp hr
  have hlt : leN ((b.drop p).take n) < 256 ^ 4 := leN_lt_of _ (by simp; omega)
  have p4 : (256 : Nat) ^ 4 = 4294967296 := by decide
  have hw : wrap64 ((leN ((b.drop p).take n) : Nat) : Int) = (leN ((b.drop p).take n) : Int) := IntWalk.wrap64_in _ ⟨by omega, by rw [p4] at hlt; omega⟩
  rw [hw] at hlk
  have hN : leN ((b.drop p).take n) = numA b p n := rfl
  rw [hN] at hlk hlt
  have HK := bx hlk
  clear hlk hw hN hM hB hr
  go_enter Tryd.func29, Tryd.ntmps29
  go_wp2_with fail
  refine HK.out.mono ?_
  rintro e w1 ⟨rfl, rfl⟩
  go_wp2
  go_ret
  exact ⟨rfl, rfl⟩
set_option maxHeartbeats 2000000 in
theorem is_quiet (g : Nat) (b : List UInt8) (p n border what : Nat) (x y : UInt8) (w : World) (h : BookD w g b) (hwh : (what = 1 ∧ x = 5 ∧ y = 6) ∨ (what = 2 ∧ x = 1 ∧ y = 2) ∨ (what = 3 ∧ x = 3 ∧ y = 4)) (h1 : 4 ≤ n) (h2 : n ≤ 100) (hb : border ≤ b.length) (hp : p ≤ 9000000000000) :
    Calls Tryd.prog 28 #[.pointer (some ⟨g, 0, none⟩), .int .u8 (what : Int), .int .i64 (p : Int), .int .i64 (n : Int), .int .i64 (border : Int)] w fun e w' => e = .returned (.bool (decide (p + n ≤ border) && signA b p x y)) ∧ ∃ nq, w' = w.drewN nq := by
  obtain ⟨A, c, m, q, hB, hr, hc, hM, hl, hcl⟩ := h
  have c0 : w.cell? ⟨g, 0, none⟩ = some (.slice A b.length c) := (hB.cell 0).trans rfl
  have c1 : w.cell? ⟨g, 1, none⟩ = some (.map (some m)) := (hB.cell 1).trans rfl
  have d1 : decide ((0 : Int) ≤ (p : Int)) = true := by simp
  have hwr : IntKind.i64.wrap ((border : Int) - (n : Int)) = (border : Int) - (n : Int) := IntWalk.i64_in _ (by omega)
  by_cases hin : p + n ≤ border
  · have d2 : decide ((p : Int) ≤ (border : Int) - (n : Int)) = true := by simp; omega
    have d3 : decide (p + n ≤ border) = true := by simp [hin]
    rw [d3, Bool.true_and]
    obtain ⟨ad, x0, hAd, hadb, hx0, hc0⟩ := RL.byte hr (k := p) (by omega)
    subst hAd
    have hh0 : (0 : Int) ≤ (p : Int) := by omega
    have hh1 : (0 : Int) ≤ (p : Int) + 4 := by omega
    have hh2 : (p : Int) + 4 ≤ (c : Int) := by omega
    have hh3 : (p : Int) ≤ (p : Int) + 4 := by omega
    have hh4 : ¬ c = p := by omega
    have hh5 : (p : Int) + 4 - (p : Int) = 4 := by omega
    have hh6 : IntKind.i64.wrap ((p : Int) + 4) = (p : Int) + 4 := IntWalk.i64_in _ (by omega)
    have hTA : ∀ nq, (Instr.arrayAt 79 (.slice (some (ad.add p)) (((p : Int) + 4).toNat - p) (c - p))).run Tryd.prog (w.drewN nq) = .ok (.pointer (some (ad.add p))) (w.drewN nq) := fun nq => by
      rw [show ((p : Int) + 4).toNat - p = 4 by omega]
      exact run_quad (P := Tryd.prog) (w.drewN nq) (ad.add p) 79 5 (c - p) Tryd.underlying79
    obtain ⟨kl, hkl⟩ := quad_key (quadB b p)
    have hlk := fun nq => (hM.drewN nq).run_is (t := 47) quadK Tryd.underlying47 (z := .int .u8 0) (by kernel_rfl) hkl (kindG_get _)
    obtain ⟨N, hN⟩ : ∃ N, kindN (quadB b p) = N := ⟨_, rfl⟩
    have hdec := kindN_is b p hwh
    rw [hN] at hdec
    simp only [hN] at hlk
    have hq : quadV (quadB b p) = .agg #[.int .u8 ((quadB b p).1.toNat : Int), .int .u8 ((quadB b p).2.1.toNat : Int), .int .u8 ((quadB b p).2.2.1.toNat : Int), .int .u8 ((quadB b p).2.2.2.toNat : Int)] := rfl
    simp only [hq] at hlk
    clear hq
    obtain ⟨x1, hx1⟩ : ∃ x, ((quadB b p).1.toNat : Int) = x := ⟨_, rfl⟩
    obtain ⟨x2, hx2⟩ : ∃ x, ((quadB b p).2.1.toNat : Int) = x := ⟨_, rfl⟩
    obtain ⟨x3, hx3⟩ : ∃ x, ((quadB b p).2.2.1.toNat : Int) = x := ⟨_, rfl⟩
    obtain ⟨x4, hx4⟩ : ∃ x, ((quadB b p).2.2.2.toNat : Int) = x := ⟨_, rfl⟩
    obtain ⟨k0, k1, k2, k3⟩ := quad_four hr (i := p) (by omega) hx1 hx2 hx3 hx4
    simp only [hx1, hx2, hx3, hx4] at hlk
    have HD : Bx (decide ((N : Int) = (what : Int)) = signA b p x y) := bx (by rw [← hdec, decide_eq_decide]; omega)
    clear hx1 hx2 hx3 hx4 hkl hN hdec hM hr hc0 hB hx0 hl hwh
    go_enter Tryd.func28, Tryd.ntmps28
    go_wp2
    go_quiet (fail)
    rename Nat => nq
    go_wp2
    go_ret
    exact ⟨ret_v (by rw [← HD.out]; rfl), ⟨_, rfl⟩⟩
  · have d2 : decide ((p : Int) ≤ (border : Int) - (n : Int)) = false := by simp; omega
    have d3 : decide (p + n ≤ border) = false := by simp [hin]
    rw [d3, Bool.false_and]
    clear hM hB hr hl hwh
    go_enter Tryd.func28, Tryd.ntmps28
    go_wp2
    go_quiet (fail)
    rename Nat => nq
    go_wp2
    go_ret
    exact ⟨rfl, ⟨_, rfl⟩⟩
theorem is_any (g : Nat) (b : List UInt8) (p n border what : Nat) (x y : UInt8) (w : World) (h : BookD w g b) (hwh : (what = 1 ∧ x = 5 ∧ y = 6) ∨ (what = 2 ∧ x = 1 ∧ y = 2) ∨ (what = 3 ∧ x = 3 ∧ y = 4)) (h1 : 4 ≤ n) (h2 : n ≤ 100) (hb : border ≤ b.length) (hp : p ≤ 9000000000000) :
    Calls Tryd.prog 28 #[.pointer (some ⟨g, 0, none⟩), .int .u8 (what : Int), .int .i64 (p : Int), .int .i64 (n : Int), .int .i64 (border : Int)] w fun e w' => e = .returned (.bool (decide (p + n ≤ border) && signA b p x y)) ∧ Below w.heap.size w w' :=
  (is_quiet g b p n border what x y w h hwh h1 h2 hb hp).mono fun _ _ ⟨he, nq, hw⟩ => ⟨he, by rw [hw]; exact below_drewN (Below.refl _ _) _⟩
end Go.Proofs.YtokojichjliieaaDoor
