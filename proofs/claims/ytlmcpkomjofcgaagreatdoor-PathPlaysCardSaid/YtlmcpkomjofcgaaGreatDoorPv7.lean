/- Signatures: four bytes as a key. Contracts: archive.kinds, (*archive.book).num, (*archive.book).is. Contract: archive.Name. Contract: (*archive.book).record. Contract: (*archive.book).record, whole. Contract: (*archive.book).local. Plain: end records, one by one. Plain parts of archive.Directory: how many end records, the rounds. Contract: slices.SortFunc over the found records, by their heads. Contract: samovarref09.Name. Contracts: samovarref09.num, sign, End. -/
import Derived.Test.YtlmcpkomjofcgaaGreatDoorPv3
import Derived.Test.YtlmcpkomjofcgaaGreatDoorPv4
import Derived.Test.YtlmcpkomjofcgaaGreatDoorPv2
import Derived.DeepKeys4
import Derived.BigQuiet
import Derived.Outline
import Derived.Deep.RegionLaw
import Derived.Test.YtlmcpkomjofcgaaGreatDoorShelf
import Derived.Laws.BitsAllLaws
import Derived.Laws.BitsLemmas
import Derived.Test.YtlmcpkomjofcgaaGreatDoorSrt
import Derived.Shelf.SlSortCmp.NoneTotal
namespace Go.Proofs.YtlmcpkomjofcgaaGreatDoor
open Go.RowKit

/-- Four bytes. -/
abbrev Quad := UInt8 × UInt8 × UInt8 × UInt8
def quadV (x : Quad) : Value := .agg #[bV x.1, bV x.2.1, bV x.2.2.1, bV x.2.2.2]
def quadB (b : List UInt8) (i : Nat) : Quad := (b.getD i 0, b.getD (i + 1) 0, b.getD (i + 2) 0, b.getD (i + 3) 0)
theorem quad_inj (x y : Quad) (h : quadV x = quadV y) : x = y := by
  unfold quadV bV at h
  simp only [Value.agg.injEq, Array.mk.injEq, List.cons.injEq, Value.int.injEq, and_true, true_and] at h
  have e : ∀ {p q : UInt8}, (p.toNat : Int) = (q.toNat : Int) → p = q := fun h => UInt8.toNat_inj.1 (by omega)
  exact Prod.ext (e h.1) (Prod.ext (e h.2.1) (Prod.ext (e h.2.2.1) (e h.2.2.2)))

theorem quadLaw : WideMaps.KeyLaw Tryz.prog 159 := deep_law_laid laidOut (m := 2) (by omega) (of_decide_eq_true (by kernel_rfl)) (by kernel_rfl) (by rw [Tryz.underlying159])
theorem quadK : Maps.Keyed Tryz.prog 159 := Maps.Keyed.of_law quadLaw
theorem quad_key (x : Quad) : ∃ kl, keyOf Tryz.prog 159 (quadV x) = some kl := by
  have hk : Tryz.prog.keyType 159 = true := by kernel_rfl
  have hc : Tryz.prog.cellsOf 159 = 4 := by kernel_rfl
  have hc1 : Tryz.prog.cellsOf 5 = 1 := by kernel_rfl
  have hpos : 0 < Tryz.prog.types.size := of_decide_eq_true (by kernel_rfl)
  obtain ⟨m, hm⟩ : ∃ m, Tryz.prog.types.size = m + 1 := ⟨Tryz.prog.types.size - 1, by omega⟩
  have hw : ∀ y : UInt8, (Lit.int .u8 (y.toNat : Int)).wf = true := fun y => by
    have := y.toNat_lt
    simp [Lit.wf, show IntKind.u8.min = 0 from rfl, show IntKind.u8.max = 255 from rfl]; omega
  have w1 := hw x.1
  have w2 := hw x.2.1
  have w3 := hw x.2.2.1
  have w4 := hw x.2.2.2
  have hcl : (Value.agg #[.int .u8 (x.1.toNat : Int), .int .u8 (x.2.1.toNat : Int), .int .u8 (x.2.2.1.toNat : Int), .int .u8 (x.2.2.2.toNat : Int)]).cells.toList = [.int .u8 (x.1.toNat : Int), .int .u8 (x.2.1.toNat : Int), .int .u8 (x.2.2.1.toNat : Int), .int .u8 (x.2.2.2.toNat : Int)] := rfl
  unfold keyOf quadV bV
  rw [hcl, Tryz.underlying159]
  simp [hk, Value.formed, Tryz.underlying159, hc, hm, Program.keyLits, hc1, Tryz.underlying5, show List.range 4 = [0, 1, 2, 3] from rfl, w1, w2, w3, w4]
/-- Which signature begins what. -/
def kindN (x : Quad) : Nat := if x = (80, 75, 3, 4) then 3 else if x = (80, 75, 1, 2) then 2 else if x = (80, 75, 5, 6) then 1 else 0
def kindG (x : Quad) : Option Value := if x = (80, 75, 3, 4) then some (.int .u8 3) else if x = (80, 75, 1, 2) then some (.int .u8 2) else if x = (80, 75, 5, 6) then some (.int .u8 1) else none
theorem kindG_get (x : Quad) : (kindG x).getD (.int .u8 0) = .int .u8 (kindN x : Int) := by
  unfold kindG kindN
  split
  · rfl
  · split
    · rfl
    · split <;> rfl
theorem kindN_is (b : List UInt8) (p : Nat) {what : Nat} {x y : UInt8} (h : (what = 1 ∧ x = 5 ∧ y = 6) ∨ (what = 2 ∧ x = 1 ∧ y = 2) ∨ (what = 3 ∧ x = 3 ∧ y = 4)) : decide (kindN (quadB b p) = what) = signA b p x y := by
  unfold signA kindN quadB
  simp only [Prod.mk.injEq]
  generalize b.getD p 0 = a0
  generalize b.getD (p + 1) 0 = a1
  generalize b.getD (p + 2) 0 = a2
  generalize b.getD (p + 3) 0 = a3
  rw [decide_eq_decide]
  rcases h with ⟨rfl, rfl, rfl⟩ | ⟨rfl, rfl, rfl⟩ | ⟨rfl, rfl, rfl⟩
  · constructor
    · intro h; split at h
      · cases h
      · split at h
        · cases h
        · split at h
          · assumption
          · cases h
    · rintro ⟨rfl, rfl, rfl, rfl⟩; decide
  · constructor
    · intro h; split at h
      · cases h
      · split at h
        · assumption
        · split at h <;> cases h
    · rintro ⟨rfl, rfl, rfl, rfl⟩; decide
  · constructor
    · intro h; split at h
      · assumption
      · split at h
        · cases h
        · split at h <;> cases h
    · rintro ⟨rfl, rfl, rfl, rfl⟩; decide
/-- Four bytes of a row, as an array. -/
theorem run_quad {P : Program} (w : World) (a : Addr) (T e : TypeId) (c : Nat) (ht : P.underlying T = some (.array 4 e)) : (Instr.arrayAt T (.slice (some a) 4 c)).run P w = .ok (.pointer (some a)) w := by
  simp [Instr.arrayAt, run_underlying ht]
theorem quad_cells {b : List UInt8} {w : World} {B : Nat} {ad : Addr} {i : Nat} (h : RB w B (some ad) b) (hi : i + 4 ≤ b.length) : ∀ j, j < 4 → w.cell? ((ad.add i).add j) = some (bV (b.getD (i + j) 0)) := by
  intro j hj
  obtain ⟨ad', x, hA, _, hx, hc⟩ := RL.atl h (k := i + j) (by omega)
  injection hA with hA
  subst hA
  rw [addadd, hc, List.getD_eq_getElem?_getD, hx.out]; rfl
theorem quad_four {b : List UInt8} {w : World} {B : Nat} {ad : Addr} {i : Nat} (h : RB w B (some ad) b) (hi : i + 4 ≤ b.length) {x y z u : Int} (hx : ((quadB b i).1.toNat : Int) = x) (hy : ((quadB b i).2.1.toNat : Int) = y) (hz : ((quadB b i).2.2.1.toNat : Int) = z) (hu : ((quadB b i).2.2.2.toNat : Int) = u) :
    w.cell? (ad.add i) = some (.int .u8 x) ∧ w.cell? ⟨(ad.add i).block, (ad.add i).off + 1, none⟩ = some (.int .u8 y) ∧ w.cell? ⟨(ad.add i).block, (ad.add i).off + 2, none⟩ = some (.int .u8 z) ∧ w.cell? ⟨(ad.add i).block, (ad.add i).off + 3, none⟩ = some (.int .u8 u) := by
  subst hx hy hz hu
  have h0 := quad_cells h hi 0 (by omega)
  have h1 := quad_cells h hi 1 (by omega)
  have h2 := quad_cells h hi 2 (by omega)
  have h3 := quad_cells h hi 3 (by omega)
  rw [addadd] at h0
  rw [add_pos] at h1 h2 h3
  exact ⟨h0, h1, h2, h3⟩
end Go.Proofs.YtlmcpkomjofcgaaGreatDoor
namespace Go.Proofs.YtlmcpkomjofcgaaGreatDoor
open Go.RowKit

/-- The map of the signatures while it is made: which of the three are in it. -/
def kmG (a b c : Bool) (x : Quad) : Option Value := if c = true ∧ x = (80, 75, 3, 4) then some (.int .u8 3) else if b = true ∧ x = (80, 75, 1, 2) then some (.int .u8 2) else if a = true ∧ x = (80, 75, 5, 6) then some (.int .u8 1) else none
def KM (w0 w : World) (g n : Nat) (a b c : Bool) : Prop := w0.heap.size ≤ g ∧ Below w0.heap.size w0 w ∧ MapT quadV w Tryz.prog 159 g n (kmG a b c)
theorem KM.put {w0 w : World} {g n : Nat} {a b c : Bool} (h : KM w0 w g n a b c) (hn : n < maxLen) (y : Quad) (v : Value) (p q r : Bool) (hG : ∀ x, kmG p q r x = if x = y then some v else kmG a b c x) :
    ∃ w', (Instr.mapUpdate 123 (.map (some g)) (quadV y) v).run Tryz.prog w = .ok () w' ∧ KM w0 w' g (n + 1) p q r := by
  obtain ⟨h1, h2, h3⟩ := h
  obtain ⟨kl, hkl⟩ := quad_key y
  obtain ⟨w', r1, g1, M1⟩ := h3.storeRun quadK Tryz.underlying123 quad_inj hn y v hkl
  exact ⟨w', r1, h1, h2.grown g1 h2.size (fun k e => by injection e with e; subst e; exact h1), M1.ext hG⟩
theorem kmG_1 (b c : Bool) (x : Quad) : kmG true b c x = if x = (80, 75, 5, 6) then some (.int .u8 1) else kmG false b c x := by
  unfold kmG
  by_cases h : x = (80, 75, 5, 6)
  · subst h; simp
  · simp [h]
theorem kmG_2 (a c : Bool) (x : Quad) : kmG a true c x = if x = (80, 75, 1, 2) then some (.int .u8 2) else kmG a false c x := by
  unfold kmG
  by_cases h : x = (80, 75, 1, 2)
  · subst h; simp
  · simp [h]
theorem kmG_3 (a b : Bool) (x : Quad) : kmG a b true x = if x = (80, 75, 3, 4) then some (.int .u8 3) else kmG a b false x := by
  unfold kmG
  by_cases h : x = (80, 75, 3, 4)
  · subst h; simp
  · simp [h]
theorem KM.put1 {w0 w : World} {g n : Nat} {b c : Bool} (h : KM w0 w g n false b c) (hn : n < maxLen) :
    ∃ w', (Instr.mapUpdate 123 (.map (some g)) (.agg #[.int .u8 80, .int .u8 75, .int .u8 5, .int .u8 6]) (.int .u8 1)).run Tryz.prog w = .ok () w' ∧ KM w0 w' g (n + 1) true b c := h.put hn (80, 75, 5, 6) (.int .u8 1) true b c (kmG_1 b c)
theorem KM.put2 {w0 w : World} {g n : Nat} {a c : Bool} (h : KM w0 w g n a false c) (hn : n < maxLen) :
    ∃ w', (Instr.mapUpdate 123 (.map (some g)) (.agg #[.int .u8 80, .int .u8 75, .int .u8 1, .int .u8 2]) (.int .u8 2)).run Tryz.prog w = .ok () w' ∧ KM w0 w' g (n + 1) a true c := h.put hn (80, 75, 1, 2) (.int .u8 2) a true c (kmG_2 a c)
theorem KM.put3 {w0 w : World} {g n : Nat} {a b : Bool} (h : KM w0 w g n a b false) (hn : n < maxLen) :
    ∃ w', (Instr.mapUpdate 123 (.map (some g)) (.agg #[.int .u8 80, .int .u8 75, .int .u8 3, .int .u8 4]) (.int .u8 3)).run Tryz.prog w = .ok () w' ∧ KM w0 w' g (n + 1) a b true := h.put hn (80, 75, 3, 4) (.int .u8 3) a b true (kmG_3 a b)
theorem KM.fin {w0 w : World} {g : Nat} (h : KM w0 w g 3 true true true) : w0.heap.size ≤ g ∧ MapT quadV w Tryz.prog 159 g 3 kindG ∧ Below w0.heap.size w0 w :=
  ⟨h.1, h.2.2.ext (fun x => by unfold kindG kmG; simp), h.2.1⟩
set_option maxHeartbeats 1000000 in
theorem kinds_any (w : World) : Calls Tryz.prog 64 #[] w fun e w' => ∃ g, e = .returned (.map (some g)) ∧ w.heap.size ≤ g ∧ MapT quadV w' Tryz.prog 159 g 3 kindG ∧ Below w.heap.size w w' := by
  obtain ⟨g, hg⟩ : ∃ g, w.heap.size = g := ⟨_, rfl⟩
  have K : KM w (w.alloc (.map #[] 0)).drew g 0 false false false := ⟨Nat.le_of_eq hg, below_drewN (bl_alloc (Below.refl _ _) (Nat.le_refl _) _) 1, ((MapT.madeAt w _ _ hg).ext (fun x => by simp [kmG]))⟩
  have hl : ∀ n, n < 10 → n < maxLen := fun n hn => Nat.lt_trans hn (by decide)
  obtain ⟨w1, r1, K1⟩ := K.put1 (hl 0 (by omega))
  obtain ⟨w2, r2, K2⟩ := K.put2 (hl 0 (by omega))
  obtain ⟨w3, r3, K3⟩ := K.put3 (hl 0 (by omega))
  obtain ⟨w12, r12, K12⟩ := K1.put2 (hl 1 (by omega))
  obtain ⟨w13, r13, K13⟩ := K1.put3 (hl 1 (by omega))
  obtain ⟨w21, r21, K21⟩ := K2.put1 (hl 1 (by omega))
  obtain ⟨w23, r23, K23⟩ := K2.put3 (hl 1 (by omega))
  obtain ⟨w31, r31, K31⟩ := K3.put1 (hl 1 (by omega))
  obtain ⟨w32, r32, K32⟩ := K3.put2 (hl 1 (by omega))
  obtain ⟨w123, r123, K123⟩ := K12.put3 (hl 2 (by omega))
  obtain ⟨w132, r132, K132⟩ := K13.put2 (hl 2 (by omega))
  obtain ⟨w213, r213, K213⟩ := K21.put3 (hl 2 (by omega))
  obtain ⟨w231, r231, K231⟩ := K23.put1 (hl 2 (by omega))
  obtain ⟨w312, r312, K312⟩ := K31.put2 (hl 2 (by omega))
  obtain ⟨w321, r321, K321⟩ := K32.put1 (hl 2 (by omega))
  have FS := bx (And.intro K123 (And.intro K132 (And.intro K213 (And.intro K231 (And.intro K312 K321)))))
  have hmm := @run_makeMap Tryz.prog
  clear K K1 K2 K3 K12 K13 K21 K23 K31 K32 K123 K132 K213 K231 K312 K321 hl
  go_enter Tryz.func64, Tryz.ntmps64
  go_wp2
  go_region
  all_goals
    go_wp2
    go_ret
    exact ⟨g, rfl, by first | exact FS.out.1.fin | exact FS.out.2.1.fin | exact FS.out.2.2.1.fin | exact FS.out.2.2.2.1.fin | exact FS.out.2.2.2.2.1.fin | exact FS.out.2.2.2.2.2.fin⟩

/-- A book: the bytes, the signatures. -/
def BookD (w : World) (g : Nat) (b : List UInt8) : Prop :=
  ∃ A c m n, Bk w g 126 #[.slice A b.length c, .map (some m)] ∧ RB w w.heap.size A b ∧ b.length ≤ c ∧ MapT quadV w Tryz.prog 159 m n kindG ∧ (b.length : Int) ≤ 140737488355328 ∧ (c : Int) ≤ 9223372036854775807
set_option maxHeartbeats 1000000 in
theorem num_ok (g : Nat) (b : List UInt8) (p n : Nat) (w : World) (h : BookD w g b) (h1 : 1 ≤ n) (h2 : n ≤ 4) (hp : p + n ≤ b.length) :
    Calls Tryz.prog 66 #[.pointer (some ⟨g, 0, none⟩), .int .i64 (p : Int), .int .i64 (n : Int)] w fun e w' => e = .returned (.int .i64 (numA b p n : Int)) ∧ w' = w := by
  obtain ⟨A, c, m, q, hB, hr, hc, hM, hl, hcl⟩ := h
  have c0 : w.cell? ⟨g, 0, none⟩ = some (.slice A b.length c) := (hB.cell 0).trans rfl
  have hlk := little_ok A c p n w b b.length rfl hl h1 (by omega) hp hr
  have hlt : leN ((b.drop p).take n) < 256 ^ 4 := leN_lt_of _ (by simp; omega)
  have p4 : (256 : Nat) ^ 4 = 4294967296 := by decide
  have hw : wrap64 ((leN ((b.drop p).take n) : Nat) : Int) = (leN ((b.drop p).take n) : Int) := IntWalk.wrap64_in _ ⟨by omega, by rw [p4] at hlt; omega⟩
  rw [hw] at hlk
  have hN : leN ((b.drop p).take n) = numA b p n := rfl
  rw [hN] at hlk hlt
  have HK := bx hlk
  clear hlk hw hN hM hB hr
  go_enter Tryz.func66, Tryz.ntmps66
  go_wp2_with fail
  refine HK.out.mono ?_
  rintro e w1 ⟨rfl, rfl⟩
  go_wp2
  go_ret
  exact ⟨rfl, rfl⟩
set_option maxHeartbeats 2000000 in
theorem is_quiet (g : Nat) (b : List UInt8) (p n border what : Nat) (x y : UInt8) (w : World) (h : BookD w g b) (hwh : (what = 1 ∧ x = 5 ∧ y = 6) ∨ (what = 2 ∧ x = 1 ∧ y = 2) ∨ (what = 3 ∧ x = 3 ∧ y = 4)) (h1 : 4 ≤ n) (h2 : n ≤ 100) (hb : border ≤ b.length) (hp : p ≤ 9000000000000) :
    Calls Tryz.prog 65 #[.pointer (some ⟨g, 0, none⟩), .int .u8 (what : Int), .int .i64 (p : Int), .int .i64 (n : Int), .int .i64 (border : Int)] w fun e w' => e = .returned (.bool (decide (p + n ≤ border) && signA b p x y)) ∧ ∃ nq, w' = w.drewN nq := by
  obtain ⟨A, c, m, q, hB, hr, hc, hM, hl, hcl⟩ := h
  have c0 : w.cell? ⟨g, 0, none⟩ = some (.slice A b.length c) := (hB.cell 0).trans rfl
  have c1 : w.cell? ⟨g, 1, none⟩ = some (.map (some m)) := (hB.cell 1).trans rfl
  have d1 : decide ((0 : Int) ≤ (p : Int)) = true := by simp
  have hwr : IntKind.i64.wrap ((border : Int) - (n : Int)) = (border : Int) - (n : Int) := IntWalk.i64_in _ (by omega)
  by_cases hin : p + n ≤ border
  · have d2 : decide ((p : Int) ≤ (border : Int) - (n : Int)) = true := by simp; omega
    have d3 : decide (p + n ≤ border) = true := by simp [hin]
    rw [d3, Bool.true_and]
    obtain ⟨ad, x0, hAd, hadb, hx0, hc0⟩ := RL.byte hr (k := p) (by omega)
    subst hAd
    have hh0 : (0 : Int) ≤ (p : Int) := by omega
    have hh1 : (0 : Int) ≤ (p : Int) + 4 := by omega
    have hh2 : (p : Int) + 4 ≤ (c : Int) := by omega
    have hh3 : (p : Int) ≤ (p : Int) + 4 := by omega
    have hh4 : ¬ c = p := by omega
    have hh5 : (p : Int) + 4 - (p : Int) = 4 := by omega
    have hh6 : IntKind.i64.wrap ((p : Int) + 4) = (p : Int) + 4 := IntWalk.i64_in _ (by omega)
    have hTA : ∀ nq, (Instr.arrayAt 159 (.slice (some (ad.add p)) (((p : Int) + 4).toNat - p) (c - p))).run Tryz.prog (w.drewN nq) = .ok (.pointer (some (ad.add p))) (w.drewN nq) := fun nq => by
      rw [show ((p : Int) + 4).toNat - p = 4 by omega]
      exact run_quad (P := Tryz.prog) (w.drewN nq) (ad.add p) 159 5 (c - p) Tryz.underlying159
    obtain ⟨kl, hkl⟩ := quad_key (quadB b p)
    have hlk := fun nq => (hM.drewN nq).run_is (t := 123) quadK Tryz.underlying123 (z := .int .u8 0) (by kernel_rfl) hkl (kindG_get _)
    obtain ⟨N, hN⟩ : ∃ N, kindN (quadB b p) = N := ⟨_, rfl⟩
    have hdec := kindN_is b p hwh
    rw [hN] at hdec
    simp only [hN] at hlk
    have hq : quadV (quadB b p) = .agg #[.int .u8 ((quadB b p).1.toNat : Int), .int .u8 ((quadB b p).2.1.toNat : Int), .int .u8 ((quadB b p).2.2.1.toNat : Int), .int .u8 ((quadB b p).2.2.2.toNat : Int)] := rfl
    simp only [hq] at hlk
    clear hq
    obtain ⟨x1, hx1⟩ : ∃ x, ((quadB b p).1.toNat : Int) = x := ⟨_, rfl⟩
    obtain ⟨x2, hx2⟩ : ∃ x, ((quadB b p).2.1.toNat : Int) = x := ⟨_, rfl⟩
    obtain ⟨x3, hx3⟩ : ∃ x, ((quadB b p).2.2.1.toNat : Int) = x := ⟨_, rfl⟩
    obtain ⟨x4, hx4⟩ : ∃ x, ((quadB b p).2.2.2.toNat : Int) = x := ⟨_, rfl⟩
    obtain ⟨k0, k1, k2, k3⟩ := quad_four hr (i := p) (by omega) hx1 hx2 hx3 hx4
    simp only [hx1, hx2, hx3, hx4] at hlk
    have HD : Bx (decide ((N : Int) = (what : Int)) = signA b p x y) := bx (by rw [← hdec, decide_eq_decide]; omega)
    clear hx1 hx2 hx3 hx4 hkl hN hdec hM hr hc0 hB hx0 hl hwh
    go_enter Tryz.func65, Tryz.ntmps65
    go_wp2
    go_quiet (fail)
    rename Nat => nq
    go_wp2
    go_ret
    exact ⟨ret_v (by rw [← HD.out]; rfl), ⟨_, rfl⟩⟩
  · have d2 : decide ((p : Int) ≤ (border : Int) - (n : Int)) = false := by simp; omega
    have d3 : decide (p + n ≤ border) = false := by simp [hin]
    rw [d3, Bool.false_and]
    clear hM hB hr hl hwh
    go_enter Tryz.func65, Tryz.ntmps65
    go_wp2
    go_quiet (fail)
    rename Nat => nq
    go_wp2
    go_ret
    exact ⟨rfl, ⟨_, rfl⟩⟩
theorem is_any (g : Nat) (b : List UInt8) (p n border what : Nat) (x y : UInt8) (w : World) (h : BookD w g b) (hwh : (what = 1 ∧ x = 5 ∧ y = 6) ∨ (what = 2 ∧ x = 1 ∧ y = 2) ∨ (what = 3 ∧ x = 3 ∧ y = 4)) (h1 : 4 ≤ n) (h2 : n ≤ 100) (hb : border ≤ b.length) (hp : p ≤ 9000000000000) :
    Calls Tryz.prog 65 #[.pointer (some ⟨g, 0, none⟩), .int .u8 (what : Int), .int .i64 (p : Int), .int .i64 (n : Int), .int .i64 (border : Int)] w fun e w' => e = .returned (.bool (decide (p + n ≤ border) && signA b p x y)) ∧ Below w.heap.size w w' :=
  (is_quiet g b p n border what x y w h hwh h1 h2 hb hp).mono fun _ _ ⟨he, nq, hw⟩ => ⟨he, by rw [hw]; exact below_drewN (Below.refl _ _) _⟩
end Go.Proofs.YtlmcpkomjofcgaaGreatDoor
namespace Go.Proofs.YtlmcpkomjofcgaaGreatDoor
open Go.RowKit

def partX (i n : Nat) (x : List UInt8) : Bool := partOk x && !(x.isEmpty && (decide (i = 0) || decide (i + 1 < n)))
theorem partsOk_fail : ∀ (l : List (List UInt8)) (k : Nat) (x : List UInt8), l[k]? = some x → (partOk x = false ∨ (x.isEmpty = true ∧ k + 1 < l.length)) → partsOk l = false := by
  intro l
  induction l with
  | nil => intro k x h _; simp at h
  | cons p r ih =>
    intro k x h hx
    cases r with
    | nil =>
      cases k with
      | zero =>
        simp at h; subst h
        rcases hx with hx | hx
        · exact hx
        · simp at hx
      | succ k => simp at h
    | cons q r =>
      rw [partsOk_cons]
      cases k with
      | zero =>
        simp at h; subst h
        rcases hx with hx | hx
        · rw [hx]; simp
        · rw [hx.1]; simp
      | succ k =>
        rw [ih k x (by simpa using h) (by rcases hx with hx | hx; exact .inl hx; exact .inr ⟨hx.1, by simp at hx ⊢; omega⟩)]
        simp
theorem partsOk_fine : ∀ (l : List (List UInt8)), l ≠ [] → (∀ k x, l[k]? = some x → partOk x = true ∧ (k + 1 < l.length → x.isEmpty = false)) → partsOk l = true := by
  intro l
  induction l with
  | nil => intro h _; exact absurd rfl h
  | cons p r ih =>
    intro _ h
    cases r with
    | nil => exact (h 0 p rfl).1
    | cons q r =>
      rw [partsOk_cons, (h 0 p rfl).1, (h 0 p rfl).2 (by simp), ih (by simp) (fun k x hk => by
        obtain ⟨h1, h2⟩ := h (k + 1) x (by simpa using hk)
        exact ⟨h1, fun hl => h2 (by simp at hl ⊢; omega)⟩)]
      rfl
/-- What of a name hangs on its parts. -/
def tailA (l : List (List UInt8)) : Bool := match l with
  | [] => false
  | p :: r => !p.isEmpty && partsOk (p :: r)
theorem tailA_fail {l : List (List UInt8)} {k : Nat} {x : List UInt8} (h : l[k]? = some x) (hx : partX k l.length x = false) : tailA l = false := by
  cases l with
  | nil => rfl
  | cons p r =>
    show (!p.isEmpty && partsOk (p :: r)) = false
    unfold partX at hx
    cases h1 : partOk x with
    | false => rw [partsOk_fail _ k x h (.inl h1), Bool.and_false]
    | true =>
      rw [h1] at hx
      simp only [Bool.true_and, Bool.not_eq_false', Bool.and_eq_true, Bool.or_eq_true, decide_eq_true_eq] at hx
      obtain ⟨he, hk | hk⟩ := hx
      · subst hk
        simp at h; subst h
        rw [he]; rfl
      · rw [partsOk_fail _ k x h (.inr ⟨he, hk⟩), Bool.and_false]
theorem tailA_fine {l : List (List UInt8)} (hne : l ≠ []) (h : ∀ k x, l[k]? = some x → partX k l.length x = true) : tailA l = true := by
  cases l with
  | nil => exact absurd rfl hne
  | cons p r =>
    show (!p.isEmpty && partsOk (p :: r)) = true
    rw [partsOk_fine _ hne (fun k x hk => by
      have := h k x hk
      unfold partX at this
      simp only [Bool.and_eq_true, Bool.not_eq_true', Bool.and_eq_false_iff, Bool.or_eq_false_iff, decide_eq_false_iff_not] at this
      exact ⟨this.1, fun hl => by
        rcases this.2 with e | e
        · exact e
        · exact absurd hl e.2⟩), Bool.and_true]
    have := h 0 p rfl
    unfold partX at this
    cases he : p.isEmpty with
    | false => rfl
    | true => rw [he] at this; simp at this
theorem nameA_form (s : List UInt8) : nameA s = (!s.isEmpty && decide (s.length ≤ 64) && !s.contains 0 && !s.contains 92 && tailA (cutL 47 s)) := rfl
set_option maxHeartbeats 2000000 in
theorem name_any (s : ByteArray) (m : Int) (w : World) (hs : s.size ≤ 140737488351232) (hm : w.cell? ⟨0, 0, none⟩ = some (.int .i64 m)) :
    Calls Tryz.prog 85 #[.string s] w fun e w' => e = .returned (.bool (nameA s.data.toList)) ∧ Below w.heap.size w w' := by
  rw [nameA_form]
  by_cases he : s.data.toList = []
  · have h1 := tl_none he
    have h2 := size_zero he
    rw [he]
    clear he hm
    go_enter Tryz.func85, Tryz.ntmps85
    go_wp2
    go_ret
    exact ⟨rfl, Below.refl _ _⟩
  have h1 := tl_some he
  have hem : s.data.toList.isEmpty = false := by rw [List.isEmpty_eq_false_iff]; exact he
  rw [hem]
  by_cases hl : 64 < s.size
  · have hd : decide (s.data.toList.length ≤ 64) = false := by rw [size_len]; simp; omega
    rw [hd]
    clear he hm hem hd
    go_enter Tryz.func85, Tryz.ntmps85
    go_wp2
    go_ret
    exact ⟨rfl, Below.refl _ _⟩
  have hd : decide (s.data.toList.length ≤ 64) = true := by rw [size_len]; simp; omega
  rw [hd]
  have hl' : ¬ (64 : Int) < (s.size : Int) := by omega
  cases hc0 : s.data.toList.contains 0
  case true =>
    have hge := idx_has hc0
    clear he hm hem hd hc0 hl
    go_enter Tryz.func85, Tryz.ntmps85
    go_wp2_with fail
    refine (Tryz.strings_IndexByte _ _ _).mono ?_
    rintro e w' ⟨rfl, rfl⟩
    rw [show (0 : Int).toNat.toUInt8 = 0 from rfl]
    go_wp2
    go_ret
    exact ⟨by simp, Below.refl _ _⟩
  case false =>
    have hlt := idx_lacks hc0
    have HLT := Lib.hid hlt
    cases hc9 : s.data.toList.contains 92
    case true =>
      have hge := idx_has hc9
      clear he hm hem hd hc0 hl hlt hc9
      go_enter Tryz.func85, Tryz.ntmps85
      go_wp2_with fail
      refine (Tryz.strings_IndexByte _ _ _).mono ?_
      rintro e w' ⟨rfl, rfl⟩
      rw [show (0 : Int).toNat.toUInt8 = 0 from rfl, HLT.out]
      go_wp2_with fail
      refine (Tryz.strings_IndexByte _ _ _).mono ?_
      rintro e w' ⟨rfl, rfl⟩
      rw [show (92 : Int).toNat.toUInt8 = 92 from rfl]
      go_wp2
      go_ret
      exact ⟨by simp, Below.refl _ _⟩
    case false =>
      have hlt9 := idx_lacks hc9
      have HLT9 := Lib.hid hlt9
      have hsz : s.size < 4294967281 := by omega
      obtain ⟨hq1, hq2⟩ := split_row s 47
      obtain ⟨p, hp⟩ : ∃ p, cutL 47 s.data.toList = p := ⟨_, rfl⟩
      have hpne : p ≠ [] := by rw [← hp]; exact cutL_ne 47 _
      rw [hp] at hq1 hq2 ⊢
      have hpl : p.length ≤ 65 := by rw [← hq1]; have := Lib.countB_le ⟨#[47]⟩ (by decide) _ s (Nat.le_refl _); omega
      have HNE := bx hpne
      have HP1 := bx hq1
      have HP2 := bx hq2
      obtain ⟨n, hn⟩ : ∃ n, p.length = n := ⟨_, rfl⟩
      have HN := bx hn
      have hn65 : n ≤ 65 := by omega
      clear he hem hd hc0 hl hlt hc9 hlt9 hp hpne hq1 hq2 hpl hn
      go_enter Tryz.func85, Tryz.ntmps85
      go_wp2_with fail
      refine (Tryz.strings_IndexByte _ _ _).mono ?_
      rintro e w' ⟨rfl, rfl⟩
      rw [show (0 : Int).toNat.toUInt8 = 0 from rfl, HLT.out]
      go_wp2_with fail
      refine (Tryz.strings_IndexByte _ _ _).mono ?_
      rintro e w' ⟨rfl, rfl⟩
      rw [show (92 : Int).toNat.toUInt8 = 92 from rfl, HLT9.out]
      go_wp2_with fail
      refine (Tryz.strings_Split s ⟨#[47]⟩ m _ hsz hm (by decide)).mono ?_
      rintro e w3 ⟨rfl, rfl⟩
      rw [HP1.out, HP2.out, HN.out]
      have hbel3 : Below w'.heap.size w' (w'.alloc (.cells (p.map sV).toArray 9)) := bl_alloc (Below.refl _ _) (Nat.le_refl _) _
      have hrow : RL sV (w'.alloc (.cells (p.map sV).toArray 9)) (w'.heap.size + 1) (some ⟨w'.heap.size, 0, none⟩) p := fun _ => ⟨_, rfl, Nat.lt_succ_self _, fun i u hu => by
        have e : (⟨w'.heap.size, 0, none⟩ : Addr).add i = ⟨w'.heap.size, i, none⟩ := by unfold Addr.add; split <;> simp_all
        rw [e, World.cell?_alloc_mark, ← Array.getElem?_toList]; exact hu⟩
      obtain ⟨w3, hw3⟩ : ∃ w3, w'.alloc (.cells (p.map sV).toArray 9) = w3 := ⟨_, rfl⟩
      obtain ⟨g, hg⟩ : ∃ g, w'.heap.size = g := ⟨_, rfl⟩
      rw [hw3] at hbel3 hrow ⊢
      rw [hg] at hrow ⊢
      have HGG : Bx (w'.heap.size ≤ g + 1) := bx (by omega)
      have HB3 := bx hbel3
      have HRW := bx hrow
      clear hw3 hbel3 hrow hg hm
      go_wp2
      go_loopw [27] (fun i wr => ∃ k : Nat, k ≤ n ∧ i = .int .i64 (k : Int) ∧ Below (g + 1) w3 wr ∧ Bx (∀ j x, j < k → p[j]? = some x → partX j n x = true)) (fun i _ => n - (intOf i).toNat)
      case atStart => exact ⟨0, by omega, rfl, Below.refl _ _, bx (fun j x h => absurd h (by omega))⟩
      case round =>
        obtain ⟨k, hk, rfl, hbel, hall⟩ := hrel
        by_cases hk0 : k < n
        · obtain ⟨ad, x, had, hlt, hx, hc⟩ := (RL.below HRW.out hbel (by omega)).atl (k := k) (by rw [HN.out]; exact hk0)
          injection had with had
          subst had
          obtain ⟨b, hb⟩ : ∃ b : ByteArray, (⟨x.toArray⟩ : ByteArray) = b := ⟨_, rfl⟩
          have hbx : b.data.toList = x := by rw [← hb]
          have hc' : wr.cell? ⟨g, k, none⟩ = some (.string b) := by
            have e : (⟨g, 0, none⟩ : Addr).add k = ⟨g, k, none⟩ := by unfold Addr.add; split <;> simp_all
            rw [← hb, ← e]; exact hc
          have HX : Bx (p[k]? = some x) := bx hx.out
          have fail : partX k n x = false → Bx (Ending.returned (.bool false) = Ending.returned (.bool (true && tailA p))) := fun h => bx (by rw [tailA_fail HX.out (by rw [HN.out]; exact h)]; rfl)
          have fine : partX k n x = true → Bx (∀ j y, j < k + 1 → p[j]? = some y → partX j n y = true) := fun h => bx (fun j y hj hy => by
            by_cases e : j = k
            · subst e; rw [HX.out] at hy; injection hy with hy; subst hy; exact h
            · exact hall.out j y (by omega) hy)
          have BE : Bx (Below w'.heap.size w' wr) := bx ((HB3.out).trans (hbel.mono HGG.out))
          clear hb hc hx hlt HRW
          have kn : (k : Int) < (n : Int) := by omega
          by_cases e1 : x = [46]
          · have HF := fail (by subst e1; rfl)
            have t1 := tl_eq (s := b) (l := [46]) (by rw [hbx, e1])
            clear fail fine hbx e1
            go_wp2
            go_ret
            exact ⟨HF.out, BE.out⟩
          have t1 := tl_ne (s := b) (l := [46]) (by rw [hbx]; exact e1)
          by_cases e2 : x = [46, 46]
          · have HF := fail (by subst e2; rfl)
            have t2 := tl_eq (s := b) (l := [46, 46]) (by rw [hbx, e2])
            clear fail fine hbx e1 e2
            go_wp2
            go_ret
            exact ⟨HF.out, BE.out⟩
          have t2 := tl_ne (s := b) (l := [46, 46]) (by rw [hbx]; exact e2)
          have hok : partOk x = true := by unfold partOk; simp [e1, e2]
          by_cases e3 : x = []
          · have t3 := tl_none (s := b) (by rw [hbx, e3])
            by_cases k0 : k = 0
            · have HF := fail (by unfold partX; rw [e3, k0]; simp)
              have k0' : ((k : Int) == 0) = true := by rw [beq_iff_eq]; omega
              clear fail fine hbx e1 e2 e3 hok k0
              go_wp2
              go_ret
              exact ⟨HF.out, BE.out⟩
            have k0' : ((k : Int) == 0) = false := by rw [beq_eq_false_iff_ne]; omega
            by_cases k1 : k + 1 < n
            · have HF := fail (by unfold partX; rw [e3, decide_eq_true k1]; simp)
              have k1' : (k : Int) < (n : Int) - 1 := by omega
              clear fail fine hbx e1 e2 e3 hok k0
              go_wp2
              go_ret
              exact ⟨HF.out, BE.out⟩
            · have HF := fine (by unfold partX; rw [hok, decide_eq_false k0, decide_eq_false k1]; simp)
              have k1' : ¬ (k : Int) < (n : Int) - 1 := by omega
              clear fail fine hbx e1 e2 e3 hok k0 k1
              go_wp2
              go_roundw
              case rel => exact ⟨k + 1, by omega, by go_num, hbel, HF⟩
              case measure => simp [intOf]; omega
          · have t3 := tl_some (s := b) (by rw [hbx]; exact e3)
            have HF := fine (by unfold partX; rw [hok, show x.isEmpty = false by rw [List.isEmpty_eq_false_iff]; exact e3]; simp)
            clear fail fine hbx e1 e2 e3 hok
            go_wp2
            go_roundw
            case rel => exact ⟨k + 1, by omega, by go_num, hbel, HF⟩
            case measure => simp [intOf]; omega
        · obtain rfl : k = n := by omega
          have HF : Bx (tailA p = true) := bx (tailA_fine HNE.out (fun j x hj => by rw [HN.out]; exact hall.out j x (by rw [← HN.out]; exact (List.getElem?_eq_some_iff.1 hj).1) hj))
          go_wp2
          go_ret
          exact ⟨ret_bool (by rw [HF.out]; rfl), (HB3.out).trans (hbel.mono HGG.out)⟩
end Go.Proofs.YtlmcpkomjofcgaaGreatDoor
namespace Go.Proofs.YtlmcpkomjofcgaaGreatDoor
open Go.RowKit

def strV (x : List UInt8) : Value := .string ⟨x.toArray⟩
def seenG (seen : List (List UInt8)) (x : List UInt8) : Option Value := if x ∈ seen then some (.bool true) else none
theorem numA_2 (b : List UInt8) (p : Nat) : numA b p 2 < 65536 := by
  have : numA b p 2 < 256 ^ 2 := leN_lt_of _ (by simp; omega)
  have e : (256 : Nat) ^ 2 = 65536 := by decide
  omega
theorem numA_4 (b : List UInt8) (p : Nat) : numA b p 4 < 4294967296 := by
  have : numA b p 4 < 256 ^ 4 := leN_lt_of _ (by simp; omega)
  have e : (256 : Nat) ^ 4 = 4294967296 := by decide
  omega
theorem BookD.below {w w' : World} {g : Nat} {b : List UInt8} (h : BookD w g b) (hb : Below w.heap.size w w') : BookD w' g b := by
  obtain ⟨A, c, m, n, h1, h2, h3, h4, r⟩ := h
  exact ⟨A, c, m, n, h1.below hb h1.lt, (RL.below h2 hb (Nat.le_refl _)).more hb.size, h3, h4.below hb h4.lt, r⟩
/-- A record's eight cells. -/
def fndC (r : Rec) (at_ : Int) (p : Nat) : Array Value := #[strV r.name, .int .i64 r.method, .int .i64 r.packed, .int .i64 r.size, .int .i64 r.sum, .int .i64 at_, .int .i64 r.head, .int .i64 p]
def z8 : Array Value := #[.string ⟨#[]⟩, .int .i64 0, .int .i64 0, .int .i64 0, .int .i64 0, .int .i64 0, .int .i64 0, .int .i64 0]
theorem z8_eq : (#[.string ⟨#[]⟩, .int .i64 0, .int .i64 0, .int .i64 0, .int .i64 0, .int .i64 0, .int .i64 0, .int .i64 0] : Array Value) = z8 := rfl
theorem z8_one : z8.all (·.oneCell') = true := by simp [z8, Value.oneCell']
theorem z8_size : z8.size = 8 := rfl
theorem info_found : (Tryz.prog.info? 133).map (·.size) = some 8 := by kernel_rfl
theorem results_record (tmps : Array Value) (w : World) (g : Nat) (cs : Array Value) (h8 : tmps.getD 8 undef = .pointer (some ⟨g, 0, none⟩)) (hk : Bk w g 133 cs) (hs : cs.size = 8) :
    (results Tryz.f67 tmps).run Tryz.prog w = .ok (.tuple #[.agg cs, tmps.getD 9 undef, tmps.getD 10 undef]) w := by
  have h8' : tmps[8]?.getD undef = .pointer (some ⟨g, 0, none⟩) := by simpa using h8
  have hl := run_loadVar_row (P := Tryz.prog) w g 133 133 cs (0, 0) _ hk Tryz.underlying133 rfl (by rw [hs]; exact info_found)
  simp only [results, Tryz.results67]
  simp [h8', asAddr, hl, Result.andThen]
theorem fndC_size (r : Rec) (a : Int) (p : Nat) : (fndC r a p).size = 8 := rfl
theorem fndC_one (r : Rec) (a : Int) (p : Nat) : (fndC r a p).all (·.oneCell') = true := by simp [fndC, strV, Value.oneCell']
/-- What record answers. -/
def RecPost (R : Rz (Rec × Nat)) (p : Nat) (w : World) (m n : Nat) (seen : List (List UInt8)) (e : Ending) (w' : World) : Prop := match R with
  | .err k => e = .returned (.tuple #[.agg z8, .int .i64 0, .int .i64 k]) ∧ Below w.heap.size w w'
  | .ok x => e = .returned (.tuple #[.agg (fndC x.1 0 p), .int .i64 (x.2 : Int), .int .i64 0]) ∧
      w.grownBy w' (some m) ∧ MapT strV w' Tryz.prog 9 m (n + 1) (seenG (seen ++ [x.1.name]))
theorem RecPost.bad {R : Rz (Rec × Nat)} {p : Nat} {w w' : World} {m n : Nat} {seen : List (List UInt8)} {k : Int} (h : R = .err k) (hb : Below w.heap.size w w') : RecPost R p w m n seen (.returned (.tuple #[.agg z8, .int .i64 0, .int .i64 k])) w' := by
  subst h; exact ⟨rfl, hb⟩
theorem RecPost.good {R : Rz (Rec × Nat)} {p : Nat} {w w' : World} {m n q : Nat} {seen : List (List UInt8)} {r : Rec} (h : R = .ok (r, q)) (hg : w.grownBy w' (some m)) (hm : MapT strV w' Tryz.prog 9 m (n + 1) (seenG (seen ++ [r.name]))) :
    RecPost R p w m n seen (.returned (.tuple #[.agg (fndC r 0 p), .int .i64 (q : Int), .int .i64 0])) w' := by
  subst h; exact ⟨rfl, hg, hm⟩
theorem gb_setRow {a w : World} {row : Option Nat} (h : a.grownBy w row) {g : Nat} (hg : a.heap.size ≤ g) (cs : Array Value) : a.grownBy (w.setRow g cs) row :=
  ⟨h.os, h.tape, h.output, by simpa using h.size, fun k hk hr => (heap_setRow w g cs k (by omega)).trans (h.block k hk hr)⟩
theorem MapT.setRow {κ : Type} {f : κ → Value} {P : Program} {k : TypeId} {w : World} {b n : Nat} {G : κ → Option Value} (h : MapT f w P k b n G) {g : Nat} (hg : b ≠ g) (cs : Array Value) : MapT f (w.setRow g cs) P k b n G := by
  obtain ⟨F, h, r⟩ := h
  exact ⟨F, h.same (heap_setRow w g cs b hg), r⟩
theorem MapT.seen {w : World} {m n : Nat} {seen : List (List UInt8)} {nm x : List UInt8} (h : MapT strV w Tryz.prog 9 m n (fun q => if q = nm then some (.bool true) else seenG seen q)) (hx : nm = x) : MapT strV w Tryz.prog 9 m n (seenG (seen ++ [x])) := by
  subst hx
  refine h.ext fun q => ?_
  unfold seenG
  by_cases h1 : q = nm
  · rw [if_pos h1, if_pos (by simp [h1])]
  · rw [if_neg h1]
    by_cases h2 : q ∈ seen
    · rw [if_pos h2, if_pos (by simp [h2])]
    · rw [if_neg h2, if_neg (by simp [h1, h2])]
theorem num_at (g : Nat) (b : List UInt8) (p : Nat) (ki ni : Int) (k n : Nat) (w : World) (h : BookD w g b) (hk : ki = (k : Int)) (hn : ni = (n : Int)) (h1 : 1 ≤ n) (h2 : n ≤ 4) (hp : p + k + n ≤ b.length) {N : Nat} (hN : numA b (p + k) n = N) :
    Calls Tryz.prog 66 #[.pointer (some ⟨g, 0, none⟩), .int .i64 ((p : Int) + ki), .int .i64 ni] w fun e w' => e = .returned (.int .i64 (N : Int)) ∧ w' = w := by
  subst hk hn hN
  have := num_ok g b (p + k) n w h h1 h2 hp
  rwa [show ((p + k : Nat) : Int) = (p : Int) + (k : Int) by omega] at this
/-- The same at any place: for a region's one arm. -/
def numI (b : List UInt8) (x n : Int) : Int := (numA b x.toNat n.toNat : Int)
theorem and_split (k a b c d : Nat) (hb : b < 2 ^ k) (hd : d < 2 ^ k) : (2 ^ k * a + b) &&& (2 ^ k * c + d) = 2 ^ k * (a &&& c) + (b &&& d) := by
  apply Nat.eq_of_testBit_eq
  intro j
  rw [Nat.testBit_and, Nat.testBit_two_pow_mul_add a hb, Nat.testBit_two_pow_mul_add c hd, Nat.testBit_two_pow_mul_add (a &&& c) (Nat.and_lt_two_pow _ hd)]
  split
  · rw [Nat.testBit_and]
  · rw [Nat.testBit_and]
theorem and_30 (x : Nat) (h : x < 32) : x &&& 30 = x - x % 2 := by
  have : ∀ x : Fin 32, x.1 &&& 30 = x.1 - x.1 % 2 := by decide
  exact this ⟨x, h⟩
theorem and_63481 (v : Nat) (h : v < 65536) : v &&& 63481 = v - 2 * (v / 2 % 2) - 4 * (v / 4 % 2) - 2048 * (v / 2048 % 2) := by
  have e1 := and_split 11 (v / 2048) (v % 2048) 30 2041 (by omega) (by omega)
  have e2 := and_split 3 (v % 2048 / 8) (v % 8) 255 1 (by omega) (by omega)
  rw [show 2 ^ 11 * (v / 2048) + v % 2048 = v by omega, show 2 ^ 11 * 30 + 2041 = 63481 by decide, and_30 _ (by omega)] at e1
  rw [show 2 ^ 3 * (v % 2048 / 8) + v % 8 = v % 2048 by omega, show 2 ^ 3 * 255 + 1 = 2041 by decide, show (255 : Nat) = 2 ^ 8 - 1 by decide, Nat.and_two_pow_sub_one_eq_mod, show (1 : Nat) = 2 ^ 1 - 1 by decide, Nat.and_two_pow_sub_one_eq_mod] at e2
  rw [e1, e2]
  omega
theorem and_65527 (v : Nat) (h : v < 65536) : v &&& 65527 = v - 8 * (v / 8 % 2) := by
  have e1 := and_split 4 (v / 16) (v % 16) 4095 7 (by omega) (by omega)
  rw [show 2 ^ 4 * (v / 16) + v % 16 = v by omega, show 2 ^ 4 * 4095 + 7 = 65527 by decide, show (4095 : Nat) = 2 ^ 12 - 1 by decide, Nat.and_two_pow_sub_one_eq_mod, show (7 : Nat) = 2 ^ 3 - 1 by decide, Nat.and_two_pow_sub_one_eq_mod] at e1
  rw [e1]
  omega
theorem i64_andNot (v c : Nat) (h : v < 65536) (hc : c < 65536) : bits .andNot .i64 (v : Int) (c : Int) = ((v &&& (65535 - c) : Nat) : Int) := by
  have hx : v &&& (65535 - c) < 2 ^ 16 := Nat.and_lt_two_pow _ (by omega)
  show IntKind.i64.wrap ((BitVec.ofInt 64 (v : Int) &&& ~~~BitVec.ofInt 64 (c : Int)).toNat : Int) = _
  have e1 : (BitVec.ofInt 64 (v : Int)).toNat = v := by rw [BitVec.ofInt_natCast, BitVec.toNat_ofNat]; omega
  have e2 : (BitVec.ofInt 64 (c : Int)).toNat = c := by rw [BitVec.ofInt_natCast, BitVec.toNat_ofNat]; omega
  rw [BitVec.toNat_and, BitVec.toNat_not, e1, e2]
  have e3 : v &&& (2 ^ 64 - 1 - c) = v &&& (65535 - c) := by
    have := and_split 16 0 v (2 ^ 48 - 1) (65535 - c) (by omega) (by omega)
    rw [show 2 ^ 16 * 0 + v = v by omega, show 2 ^ 16 * (2 ^ 48 - 1) + (65535 - c) = 2 ^ 64 - 1 - c by omega, Nat.zero_and] at this
    rw [this]; omega
  rw [e3, IntKind.wrap_i64]
  omega
theorem flags_bits (v : Nat) (h : v < 65536) : bits .andNot .i64 (v : Int) 2054 = (flagsA v : Int) := by
  have := i64_andNot v 2054 h (by omega)
  rw [show (65535 - 2054 : Nat) = 63481 by decide, and_63481 v h] at this
  exact this
theorem method_bits (v : Nat) (h : v < 65536) : bits .andNot .i64 (v : Int) 8 = ((v - 8 * (v / 8 % 2) : Nat) : Int) := by
  have := i64_andNot v 8 h (by omega)
  rw [show (65535 - 8 : Nat) = 65527 by decide, and_65527 v h] at this
  exact this
theorem keyV (x : List UInt8) (h : x.length ≤ 70000) : keyOf Tryz.prog 9 (strV x) = some (.string x) := by
  have := WideMaps.keyOf_string_mk (P := Tryz.prog) (s := ⟨x.toArray⟩) Tryz.underlying9 (by unfold maxLen; show x.toArray.size ≤ _; simp; omega)
  simpa [strV] using this
theorem strVK : Maps.Keyed Tryz.prog 9 := Maps.string_keyed Tryz.underlying9
theorem strV_inj (x y : List UInt8) (h : strV x = strV y) : x = y := by
  unfold strV at h
  injection h with h
  injection h with h
  simpa using congrArg Array.toList h
theorem zeroBl_run (w : World) : (zeroValue 4).run Tryz.prog w = .ok (.bool false) w := by kernel_rfl
set_option maxRecDepth 100000 in
set_option maxHeartbeats 8000000 in
theorem record_long (g m n : Nat) (b : List UInt8) (p border : Nat) (seen : List (List UInt8)) (w : World) (mx : Int) (h : BookD w g b) (hm : MapT strV w Tryz.prog 9 m n (seenG seen)) (hmx : w.cell? ⟨0, 0, none⟩ = some (.int .i64 mx)) (hn : n ≤ 1000) (hb : border + 22 ≤ b.length) (hz : b.length ≤ 70000)
    (hin : p + 46 ≤ border) (hsg : signA b p 1 2 = true) (c2 : ¬ border < p + 46 + numA b (p + 28) 2 + numA b (p + 30) 2 + numA b (p + 32) 2) (c3 : numA b (p + 34) 2 = 0) :
    Calls Tryz.prog 67 #[.pointer (some ⟨g, 0, none⟩), .int .i64 (p : Int), .int .i64 (border : Int), .map (some m)] w (RecPost (recA b p border seen) p w m n seen) := by
  obtain ⟨R, hR⟩ : ∃ R, recA b p border seen = R := ⟨_, rfl⟩
  rw [hR]
  unfold recA at hR
  rw [if_neg (by rintro (h | h); omega; rw [hsg] at h; cases h), if_neg (by rintro (h | h); exact c2 h; exact h c3)] at hR
  obtain ⟨wz, hwz⟩ : ∃ wz, (w.alloc (.cells z8 133)).alloc (.cells z8 133) = wz := ⟨_, rfl⟩
  have hbl : Below w.heap.size w wz := by rw [← hwz]; exact bl_alloc (bl_alloc (Below.refl w.heap.size w) (Nat.le_refl _) _) (by simp) _
  have hZ0 : Bk wz w.heap.size 133 z8 := by rw [← hwz]; exact (Bk.new w _ z8).alloc _
  have hZ1 : Bk wz (w.heap.size + 1) 133 z8 := by rw [← hwz]; exact Bk.newAt _ _ _ (by simp)
  have hD : BookD wz g b := h.below hbl
  have his := is_any g b p 46 border 2 1 2 wz hD (.inr (.inl ⟨rfl, rfl, rfl⟩)) (by omega) (by omega) (by omega) (by omega)
  rw [hsg, decide_eq_true hin] at his
  have HIS := bx his
  have HM := bx hm
  have HMX := bx hmx
  have HWZ := bx hwz
  have HBL := bx hbl
  have HZ0 := bx hZ0
  have HZ1 := bx hZ1
  clear hwz hbl hZ0 hZ1 his hm hmx
  obtain ⟨sz, hsz⟩ : ∃ sz, numA b (p + 28) 2 = sz := ⟨_, rfl⟩
  obtain ⟨ex, hex⟩ : ∃ sz, numA b (p + 30) 2 = sz := ⟨_, rfl⟩
  obtain ⟨cm, hcm⟩ : ∃ sz, numA b (p + 32) 2 = sz := ⟨_, rfl⟩
  have l1 : sz < 65536 := by rw [← hsz]; exact numA_2 _ _
  have l2 : ex < 65536 := by rw [← hex]; exact numA_2 _ _
  have l3 : cm < 65536 := by rw [← hcm]; exact numA_2 _ _
  have HSZ := bx hsz
  have HEX := bx hex
  have HCM := bx hcm
  have HDK := bx c3
  rw [hsz, hex, hcm] at c2
  rw [hsz, hex, hcm] at hR
  have HDD := bx hD
  have hcI : ¬ (border : Int) < (p : Int) + 46 + (sz : Int) + (ex : Int) + (cm : Int) := by omega
  clear hsg hsz hex hcm hD c3
  obtain ⟨nm, hnm⟩ : ∃ nm, (b.drop (p + 46)).take sz = nm := ⟨_, rfl⟩
  obtain ⟨me, hme⟩ : ∃ sz, numA b (p + 10) 2 = sz := ⟨_, rfl⟩
  obtain ⟨pk, hpk⟩ : ∃ sz, numA b (p + 20) 4 = sz := ⟨_, rfl⟩
  obtain ⟨si, hsi⟩ : ∃ sz, numA b (p + 24) 4 = sz := ⟨_, rfl⟩
  obtain ⟨su, hsu⟩ : ∃ sz, numA b (p + 16) 4 = sz := ⟨_, rfl⟩
  obtain ⟨hd, hhd⟩ : ∃ sz, numA b (p + 42) 4 = sz := ⟨_, rfl⟩
  obtain ⟨ve, hve⟩ : ∃ sz, numA b (p + 6) 2 = sz := ⟨_, rfl⟩
  obtain ⟨fl, hfl⟩ : ∃ sz, numA b (p + 8) 2 = sz := ⟨_, rfl⟩
  have m1 : me < 65536 := by rw [← hme]; exact numA_2 _ _
  have m2 : fl < 65536 := by rw [← hfl]; exact numA_2 _ _
  have hnl : nm.length = sz := by rw [← hnm]; simp; omega
  rw [hnm, hme, hpk, hsi, hsu, hhd, hve, hfl] at hR
  have HNM := bx hnm
  have HNL := bx hnl
  have HME := bx hme
  have HPK := bx hpk
  have HSI := bx hsi
  have HSU := bx hsu
  have HHD := bx hhd
  have HVE := bx hve
  have HFL := bx hfl
  have HR0 := bx hR
  clear hnm hme hpk hsi hsu hhd hR hnl hve hfl
  go_enter Tryz.func67, Tryz.ntmps67
  go_wp2_with fail
  rw [z8_eq, HWZ.out]
  refine HIS.out.mono ?_
  rintro e w1 ⟨rfl, hb1⟩
  have hK0 := HZ0.out.below hb1 HZ0.out.lt
  have hK1 := HZ1.out.below hb1 HZ1.out.lt
  have HD1 := bx (HDD.out.below hb1)
  have HB1 := bx (HBL.out.trans (hb1.mono HBL.out.size))
  clear hb1
  go_wp2_with fail
  refine (num_at g b p 28 2 28 2 w1 HD1.out rfl rfl (by omega) (by omega) (by omega) HSZ.out).mono ?_
  rintro e w2 ⟨rfl, rfl⟩
  go_wp2_with fail
  refine (num_at g b p 30 2 30 2 w2 HD1.out rfl rfl (by omega) (by omega) (by omega) HEX.out).mono ?_
  rintro e w3 ⟨rfl, rfl⟩
  go_wp2_with fail
  refine (num_at g b p 32 2 32 2 w3 HD1.out rfl rfl (by omega) (by omega) (by omega) HCM.out).mono ?_
  rintro e w4 ⟨rfl, rfl⟩
  go_wp2_with fail
  refine (num_at g b p 34 2 34 2 w4 HD1.out rfl rfl (by omega) (by omega) (by omega) HDK.out).mono ?_
  rintro e w5 ⟨rfl, rfl⟩
  go_wp2
  have HM5 := bx (HM.out.below (HB1.out) HM.out.lt)
  have HX5 := bx ((HB1.out.cell (p := ⟨0, 0, none⟩) (World.block_lt_of_cell? w ⟨0, 0, none⟩ HMX.out)).trans HMX.out)
  have HK0 := bx hK0
  have HK1 := bx hK1
  clear hK0 hK1
  obtain ⟨A, c, mk, q, hB, hr, hc, hM, hl, hcl⟩ := HD1.out
  obtain ⟨ad, x0, rfl, _, _, _⟩ := hr.byte (k := p) (by omega)
  have hrs : RB w5 w5.heap.size (some (ad.add (p + 46))) nm := by
    have := (hr.drop (p + 46)).take sz
    rw [HNM.out] at this
    exact this
  obtain ⟨rc, hrc⟩ : ∃ rc : Rec, (⟨nm, me, pk, si, su, hd⟩ : Rec) = rc := ⟨_, rfl⟩
  have HRC := bx hrc
  obtain ⟨F, hF⟩ : ∃ F, rowF w5.drew 133 z8 (fndC rc 0 p) = F := ⟨_, rfl⟩
  have hF0 : w5.drew = F 0 := by rw [← hF]; rfl
  have hF1 : (F 0).alloc (.cells z8 133) = F 1 := by rw [← hF]; rfl
  have hF2 : (F 1).setRow w5.heap.size (fndC rc 0 p) = F 2 := by rw [← hF]; rfl
  have hFb : ∀ n, Below w5.heap.size w5 (F n) := fun n => by rw [← hF]; exact (below_drewN (Below.refl w5.heap.size w5) 1).trans (rowF_below w5.drew _ _ _ n)
  have hFz : (F 0).heap.size = w5.heap.size := by rw [← hF0]; rfl
  have hFk : Bk (F 1) w5.heap.size 133 z8 := by rw [← hF1]; exact Bk.newAt _ _ _ hFz
  have hFk2 : Bk (F 2) w5.heap.size 133 (fndC rc 0 p) := by rw [← hF2]; exact hFk.setRow _
  have hFD : ∀ n, BookD (F n) g b := fun n => HD1.out.below (hFb n)
  have hFc : ∀ n, (F n).cell? ⟨g, 0, none⟩ = some (.slice (some ad) b.length c) := fun n => ((hFb n).cell hB.lt).trans ((hB.cell 0).trans rfl)
  have hcv : ∀ n, _ := fun n => run_conv_str (P := Tryz.prog) (w := F n) (B := w5.heap.size) (A := some (ad.add (p + 46))) (l := nm) (n := ((p : Int) + 46 + (sz : Int)).toNat - (p + 46)) (c := c - (p + 46)) Tryz.underlying22 Tryz.underlying5 Tryz.underlying9 (by rw [HNL.out]; omega) (RL.below hrs (hFb n) (Nat.le_refl _))
  rw [show ad.add (p + 46) = ⟨ad.block, ad.off + (p + 45 + 1), none⟩ from add_pos ad (p + 45)] at hcv
  have HF0 := bx hF0
  have HF1 := bx hF1
  have HF2 := bx hF2
  have HFB := bx hFb
  have HFK := bx hFk
  have HFK2 := bx hFk2
  have HFD := bx hFD
  clear hF hF0 hF1 hF2 hFb hFk hFk2 hFD hB hr hM hrs hrc
  have wk10 : IntKind.i64.wrap ((p : Int) + 10) = (p : Int) + 10 := IntWalk.i64_in _ (by omega)
  have wk20 : IntKind.i64.wrap ((p : Int) + 20) = (p : Int) + 20 := IntWalk.i64_in _ (by omega)
  have wk24 : IntKind.i64.wrap ((p : Int) + 24) = (p : Int) + 24 := IntWalk.i64_in _ (by omega)
  have wk16 : IntKind.i64.wrap ((p : Int) + 16) = (p : Int) + 16 := IntWalk.i64_in _ (by omega)
  have wk42 : IntKind.i64.wrap ((p : Int) + 42) = (p : Int) + 42 := IntWalk.i64_in _ (by omega)
  have wr1 : IntKind.i64.wrap ((p : Int) + 46) = (p : Int) + 46 := IntWalk.i64_in _ (by omega)
  have wr2 : IntKind.i64.wrap ((p : Int) + 46 + (sz : Int)) = (p : Int) + 46 + (sz : Int) := IntWalk.i64_in _ (by omega)
  have a1 : p + 10 + 2 ≤ b.length := by omega
  have a2 : p + 20 + 4 ≤ b.length := by omega
  have a3 : p + 24 + 4 ≤ b.length := by omega
  have a4 : p + 16 + 4 ≤ b.length := by omega
  have a5 : p + 42 + 4 ≤ b.length := by omega
  have hh7 : (p : Int) + 46 ≤ (c : Int) := by omega
  have hh8 : p + 46 ≤ ((p : Int) + 46 + (sz : Int)).toNat := by omega
  have hh9 : ((p : Int) + 46 + (sz : Int)).toNat ≤ c := by omega
  have hh0 : (0 : Int) ≤ (p : Int) + 46 + (sz : Int) := by omega
  have hh5 : ((p : Int) + 46).toNat = p + 46 := by omega
  have hh6 : p + 46 ≤ c := by omega
  have hh1 : (0 : Int) ≤ (p : Int) + 46 := by omega
  have hh2 : (p : Int) + 46 + (sz : Int) ≤ (c : Int) := by omega
  have hh3 : (p : Int) + 46 ≤ (p : Int) + 46 + (sz : Int) := by omega
  have hh4 : ¬ c = p + 46 := by omega
  have hha : ¬ c - (p + 46) = 0 := by omega
  refine wp_region_same 35 F (by kernel_rfl) (by kernel_rfl) (by kernel_rfl) (by kernel_rfl) (by decide) HF0.out (fun _ _ _ d _ h => by cases d <;> exact h) ?_
  simp only [List.take_succ_cons, List.take_zero, List.drop_succ_cons, List.drop_zero]
  repeat (
    refine wpSame_step (fun K hK => ?_)
    simp only [SameAt]
    go_simp
    first
      | (refine hK _ ?_; clear hK K)
      | (apply Exists.intro
         refine ⟨fun _ => ?_, hK _ ?_⟩
         (first
           | (with_reducible exact num_at g b p 10 2 10 2 _ (HFD.out _) rfl rfl (by omega) (by omega) a1 HME.out)
           | (with_reducible exact num_at g b p 20 4 20 4 _ (HFD.out _) rfl rfl (by omega) (by omega) a2 HPK.out)
           | (with_reducible exact num_at g b p 24 4 24 4 _ (HFD.out _) rfl rfl (by omega) (by omega) a3 HSI.out)
           | (with_reducible exact num_at g b p 16 4 16 4 _ (HFD.out _) rfl rfl (by omega) (by omega) a4 HSU.out)
           | (with_reducible exact num_at g b p 42 4 42 4 _ (HFD.out _) rfl rfl (by omega) (by omega) a5 HHD.out))
         clear hK K))
  refine wpSame_nil ?_
  refine wpChain_step rfl (fun K hK => ?_)
  go_simp
  rw [z8_eq, HF1.out]
  refine hK _ _ ⟨1, rfl⟩ ?_
  clear hK K
  refine wpChain_step rfl (fun K hK => ?_)
  refine wp_store_row 133 (.tmp 14) (.tmp 85) rfl w5.heap.size (fndC rc 0 p) rfl ?hv 133 z8 HFK.out (by rw [fndC_size]; exact info_found) rfl (fndC_one _ _ _) ?_
  case hv => rw [← HRC.out]; rfl
  rw [HF2.out]
  refine hK _ _ ⟨2, rfl⟩ ?_
  clear hK K
  refine wpChain_nil ?_
  have HB2 := bx (HB1.out.trans ((HFB.out 2).mono HB1.out.size))
  have HD2 := bx (HFD.out 2)
  have HM2 := bx (HM5.out.below (HFB.out 2) HM5.out.lt)
  have HX2 := bx (((HFB.out 2).cell (p := ⟨0, 0, none⟩) (World.block_lt_of_cell? w5 ⟨0, 0, none⟩ HX5.out)).trans HX5.out)
  have HJ0 := bx (HK0.out.below (HFB.out 2) HK0.out.lt)
  have HJ1 := bx (HK1.out.below (HFB.out 2) HK1.out.lt)
  have HKR := HFK2
  obtain ⟨wf, hwf⟩ : ∃ wf, F 2 = wf := ⟨_, rfl⟩
  obtain ⟨g2, hg2⟩ : ∃ g2, w5.heap.size = g2 := ⟨_, rfl⟩
  have hg2' : w.heap.size ≤ g2 := by rw [← hg2]; exact HB1.out.size
  rw [hwf] at HB2 HD2 HM2 HX2 HJ0 HJ1 HKR
  rw [hwf, hg2]
  rw [hg2] at HKR
  clear hwf hg2 HFD HFB HF0 HF1 HF2 HFK HFK2 HK0 HK1 HM5 HX5 HB1 hcv hFc hFz HD1 wk10 wk20 wk24 wk16 wk42 wr1 wr2 a1 a2 a3 a4 a5 hh0 hh1 hh2 hh3 hh4 hh5 hh6 hh7 hh8 hh9 hha
  obtain ⟨fa, hfa⟩ : ∃ fa, flagsA fl = fa := ⟨_, rfl⟩
  obtain ⟨mb, hmb⟩ : ∃ mb, me - 8 * (me / 8 % 2) = mb := ⟨_, rfl⟩
  have hmb' : mb ≠ 0 ↔ (me ≠ 0 ∧ me ≠ 8) := by rw [← hmb]; omega
  have hR := HR0.out
  rw [hfa] at hR
  simp only [← hmb'] at hR
  have hbf := flags_bits fl m2
  rw [hfa] at hbf
  have hbm := method_bits me m1
  rw [hmb] at hbm
  clear hfa hmb hmb' HR0
  have k1 : wf.cell? ⟨g2, 1, none⟩ = some (.int .i64 (me : Int)) := by rw [HKR.out.cell 1, ← HRC.out]; rfl
  have k0 : wf.cell? ⟨g2, 0, none⟩ = some (.string ⟨nm.toArray⟩) := by rw [HKR.out.cell 0, ← HRC.out]; rfl
  by_cases d1 : 20 < ve
  · rw [if_pos (.inl d1)] at hR
    have HR := bx hR.symm
    have d1I : (20 : Int) < (ve : Int) := by omega
    clear hR d1 hbm hbf
    go_wp2_with fail
    refine (num_at g b p 6 2 6 2 wf HD2.out rfl rfl (by omega) (by omega) (by omega) HVE.out).mono ?_
    rintro e w6 ⟨rfl, rfl⟩
    go_wp2_with (first
      | (refine wpList_load_row rfl 133 (.tmp 11) rfl (w.heap.size + 1) rfl _ z8 _ _ HJ1.out Tryz.underlying133 rfl (by rw [z8_size]; exact info_found) ?_)
      | (refine wpList_store_row rfl 133 (.tmp 8) (.tmp 106) rfl w.heap.size z8 rfl rfl 133 z8 HJ0.out (by rw [z8_size]; exact info_found) rfl z8_one ?_))
    exact bodyPost_ret (v := .tuple #[.agg z8, .int .i64 0, .int .i64 12]) (results_record _ _ w.heap.size z8 rfl ((HJ0.out).setRow z8) rfl) rfl (RecPost.bad HR.out (bl_setRow HB2.out (Nat.le_refl _) z8))
  have d1I : ¬ (20 : Int) < (ve : Int) := by omega
  by_cases d2 : fa = 0
  case neg =>
    rw [if_pos (.inr (.inl d2))] at hR
    have HR := bx hR.symm
    have d2I : ((fa : Int) != 0) = true := by rw [bne_iff_ne]; omega
    clear hR d2 hbm
    go_wp2_with fail
    refine (num_at g b p 6 2 6 2 wf HD2.out rfl rfl (by omega) (by omega) (by omega) HVE.out).mono ?_
    rintro e w6 ⟨rfl, rfl⟩
    go_wp2_with fail
    refine (num_at g b p 8 2 8 2 w6 HD2.out rfl rfl (by omega) (by omega) (by omega) HFL.out).mono ?_
    rintro e w6 ⟨rfl, rfl⟩
    go_wp2_with (first
      | (refine wpList_load_row rfl 133 (.tmp 11) rfl (w.heap.size + 1) rfl _ z8 _ _ HJ1.out Tryz.underlying133 rfl (by rw [z8_size]; exact info_found) ?_)
      | (refine wpList_store_row rfl 133 (.tmp 8) (.tmp 106) rfl w.heap.size z8 rfl rfl 133 z8 HJ0.out (by rw [z8_size]; exact info_found) rfl z8_one ?_))
    exact bodyPost_ret (v := .tuple #[.agg z8, .int .i64 0, .int .i64 12]) (results_record _ _ w.heap.size z8 rfl ((HJ0.out).setRow z8) rfl) rfl (RecPost.bad HR.out (bl_setRow HB2.out (Nat.le_refl _) z8))
  have d2I : ((fa : Int) != 0) = false := by rw [bne_eq_false_iff_eq]; omega
  by_cases d3 : mb = 0
  case neg =>
    rw [if_pos (.inr (.inr d3))] at hR
    have HR := bx hR.symm
    have d3I : ((mb : Int) != 0) = true := by rw [bne_iff_ne]; omega
    clear hR d2 d3
    go_wp2_with fail
    refine (num_at g b p 6 2 6 2 wf HD2.out rfl rfl (by omega) (by omega) (by omega) HVE.out).mono ?_
    rintro e w6 ⟨rfl, rfl⟩
    go_wp2_with fail
    refine (num_at g b p 8 2 8 2 w6 HD2.out rfl rfl (by omega) (by omega) (by omega) HFL.out).mono ?_
    rintro e w6 ⟨rfl, rfl⟩
    go_wp2_with (first
      | (refine wpList_load_row rfl 133 (.tmp 11) rfl (w.heap.size + 1) rfl _ z8 _ _ HJ1.out Tryz.underlying133 rfl (by rw [z8_size]; exact info_found) ?_)
      | (refine wpList_store_row rfl 133 (.tmp 8) (.tmp 106) rfl w.heap.size z8 rfl rfl 133 z8 HJ0.out (by rw [z8_size]; exact info_found) rfl z8_one ?_))
    exact bodyPost_ret (v := .tuple #[.agg z8, .int .i64 0, .int .i64 12]) (results_record _ _ w.heap.size z8 rfl ((HJ0.out).setRow z8) rfl) rfl (RecPost.bad HR.out (bl_setRow HB2.out (Nat.le_refl _) z8))
  have d3I : ((mb : Int) != 0) = false := by rw [bne_eq_false_iff_eq]; omega
  rw [if_neg (by rintro (h | h | h); exact d1 h; exact h d2; exact h d3)] at hR
  clear d1 d2 d3
  obtain ⟨nb, hnb⟩ : ∃ nb, nameA nm = nb := ⟨_, rfl⟩
  rw [hnb] at hR
  have HNA := bx hnb
  have hnml : nm.length ≤ 70000 := by have := HNL.out; omega
  have HR0 := bx hR
  clear hR hnb
  go_wp2_with fail
  refine (num_at g b p 6 2 6 2 wf HD2.out rfl rfl (by omega) (by omega) (by omega) HVE.out).mono ?_
  rintro e w6 ⟨rfl, rfl⟩
  go_wp2_with fail
  refine (num_at g b p 8 2 8 2 w6 HD2.out rfl rfl (by omega) (by omega) (by omega) HFL.out).mono ?_
  rintro e w6 ⟨rfl, rfl⟩
  go_wp2_with fail
  refine (name_any ⟨nm.toArray⟩ mx w6 (by show nm.toArray.size ≤ _; simp; omega) HX2.out).mono ?_
  rintro e w7 ⟨rfl, hb7⟩
  rw [show (⟨nm.toArray⟩ : ByteArray).data.toList = nm by simp, HNA.out]
  have HJ03 := bx (HJ0.out.below hb7 HJ0.out.lt)
  have HJ13 := bx (HJ1.out.below hb7 HJ1.out.lt)
  have HKR3 := bx (HKR.out.below hb7 HKR.out.lt)
  have HM3 := bx (HM2.out.below hb7 HM2.out.lt)
  have HB3 := bx (HB2.out.trans (hb7.mono HB2.out.size))
  have k03 : w7.cell? ⟨g2, 0, none⟩ = some (.string ⟨nm.toArray⟩) := by rw [HKR3.out.cell 0, ← HRC.out]; rfl
  clear hb7 k0 k1 HJ0 HJ1 HKR HM2 HB2 HX2 HD2 hbf hbm
  cases nb with
  | false =>
    have HR := bx (show R = .err 13 from by rw [← HR0.out]; rfl)
    go_wp2_with (first
      | (refine wpList_load_row rfl 133 (.tmp 11) rfl (w.heap.size + 1) rfl _ z8 _ _ HJ13.out Tryz.underlying133 rfl (by rw [z8_size]; exact info_found) ?_)
      | (refine wpList_store_row rfl 133 (.tmp 8) (.tmp 112) rfl w.heap.size z8 rfl rfl 133 z8 HJ03.out (by rw [z8_size]; exact info_found) rfl z8_one ?_))
    exact bodyPost_ret (v := .tuple #[.agg z8, .int .i64 0, .int .i64 13]) (results_record _ _ w.heap.size z8 rfl ((HJ03.out).setRow z8) rfl) rfl (RecPost.bad HR.out (bl_setRow HB3.out (Nat.le_refl _) z8))
  | true =>
  have HKY := bx (keyV nm hnml)
  by_cases d5 : nm ∈ seen
  · have HR := bx (show R = .err 14 from by rw [← HR0.out, if_neg (by simp), if_pos d5])
    have HG1 := bx (show (seenG seen nm).getD (.bool false) = .bool true from by unfold seenG; rw [if_pos d5]; rfl)
    clear d5
    go_wp2_with (first
      | (at_lookup; refine wpList_lookT rfl (.tmp 113) (.tmp 116) _ rfl 4 strVK Tryz.underlying131 (.bool false) (zeroBl_run _) rfl HM3.out nm _ rfl HKY.out ?_; rw [HG1.out])
      | (refine wpList_load_row rfl 133 (.tmp 11) rfl (w.heap.size + 1) rfl _ z8 _ _ HJ13.out Tryz.underlying133 rfl (by rw [z8_size]; exact info_found) ?_)
      | (refine wpList_store_row rfl 133 (.tmp 8) (.tmp 118) rfl w.heap.size z8 rfl rfl 133 z8 HJ03.out (by rw [z8_size]; exact info_found) rfl z8_one ?_))
    exact bodyPost_ret (v := .tuple #[.agg z8, .int .i64 0, .int .i64 14]) (results_record _ _ w.heap.size z8 rfl ((HJ03.out).setRow z8) rfl) rfl (RecPost.bad HR.out (bl_setRow HB3.out (Nat.le_refl _) z8))
  have HR := bx (show R = .ok (rc, p + 46 + sz + ex + cm) from by rw [← HR0.out, if_neg (by simp), if_neg d5, HRC.out])
  have HG1 := bx (show (seenG seen nm).getD (.bool false) = .bool false from by unfold seenG; rw [if_neg d5]; rfl)
  clear d5 HNA HR0 HJ13
  go_wp2_with (first
    | (at_lookup; refine wpList_lookT rfl (.tmp 113) (.tmp 116) _ rfl 4 strVK Tryz.underlying131 (.bool false) (zeroBl_run _) rfl HM3.out nm _ rfl HKY.out ?_; rw [HG1.out])
    | (at_mapUpdate; refine wpList_storeT rfl (.tmp 119) (.tmp 122) _ _ rfl 4 strVK Tryz.underlying131 rfl HM3.out strV_inj (by unfold maxLen; omega) nm (.bool true) _ rfl rfl HKY.out ?_; intro w8 hM8 hg8
       have HJ08 := bx (HJ03.out.grown hg8 (by have := HM.out.lt; intro e; injection e with e; omega))
       have HKR8 := bx (HKR3.out.grown hg8 (by have := HM.out.lt; intro e; injection e with e; omega))
       have HB8 := bx hg8
       have HM8 := bx hM8
       clear hg8 hM8)
    | (refine wpList_load_row rfl 133 (.tmp 14) rfl g2 rfl _ (fndC rc 0 p) _ _ HKR8.out Tryz.underlying133 rfl (by rw [fndC_size]; exact info_found) ?_)
    | (refine wpList_store_row rfl 133 (.tmp 8) (.tmp 123) rfl w.heap.size (fndC rc 0 p) rfl rfl 133 z8 HJ08.out (by rw [fndC_size]; exact info_found) rfl (fndC_one _ _ _) ?_))
  exact bodyPost_ret (v := .tuple #[.agg (fndC rc 0 p), .int .i64 ((p + 46 + sz + ex + cm : Nat) : Int), .int .i64 0]) (results_record _ _ w.heap.size (fndC rc 0 p) rfl (HJ08.out.setRow _) (fndC_size _ _ _)) rfl (RecPost.good HR.out (gb_setRow (gb_trans (gb_below HB3.out _) HB8.out) (Nat.le_refl _) _) (MapT.seen (HM8.out.setRow (by have := HM.out.lt; omega) _) (by rw [← HRC.out])))
end Go.Proofs.YtlmcpkomjofcgaaGreatDoor
namespace Go.Proofs.YtlmcpkomjofcgaaGreatDoor
open Go.RowKit
set_option maxRecDepth 100000 in
set_option maxHeartbeats 8000000 in
theorem record_any (g m n : Nat) (b : List UInt8) (p border : Nat) (seen : List (List UInt8)) (w : World) (mx : Int) (h : BookD w g b) (hm : MapT strV w Tryz.prog 9 m n (seenG seen)) (hmx : w.cell? ⟨0, 0, none⟩ = some (.int .i64 mx)) (hn : n ≤ 1000) (hb : border + 22 ≤ b.length) (hz : b.length ≤ 70000) (hp : p ≤ 9000000000) :
    Calls Tryz.prog 67 #[.pointer (some ⟨g, 0, none⟩), .int .i64 (p : Int), .int .i64 (border : Int), .map (some m)] w (RecPost (recA b p border seen) p w m n seen) := by
  by_cases hL : p + 46 ≤ border ∧ signA b p 1 2 = true ∧ (¬ border < p + 46 + numA b (p + 28) 2 + numA b (p + 30) 2 + numA b (p + 32) 2) ∧ numA b (p + 34) 2 = 0
  · exact record_long g m n b p border seen w mx h hm hmx hn hb hz hL.1 hL.2.1 hL.2.2.1 hL.2.2.2
  have HL := bx hL
  clear hL hm hmx hn
  obtain ⟨R, hR⟩ : ∃ R, recA b p border seen = R := ⟨_, rfl⟩
  rw [hR]
  unfold recA at hR
  obtain ⟨wz, hwz⟩ : ∃ wz, (w.alloc (.cells z8 133)).alloc (.cells z8 133) = wz := ⟨_, rfl⟩
  have hbl : Below w.heap.size w wz := by rw [← hwz]; exact bl_alloc (bl_alloc (Below.refl w.heap.size w) (Nat.le_refl _) _) (by simp) _
  have hZ0 : Bk wz w.heap.size 133 z8 := by rw [← hwz]; exact (Bk.new w _ z8).alloc _
  have hZ1 : Bk wz (w.heap.size + 1) 133 z8 := by rw [← hwz]; exact Bk.newAt _ _ _ (by simp)
  have hD : BookD wz g b := h.below hbl
  have HWZ := bx hwz
  have HBL := bx hbl
  have HZ0 := bx hZ0
  have HZ1 := bx hZ1
  clear hwz hbl hZ0 hZ1
  by_cases c1 : border < p + 46 ∨ signA b p 1 2 = false
  · rw [if_pos c1] at hR
    have HR := bx hR.symm
    have hf : (decide (p + 46 ≤ border) && signA b p 1 2) = false := by
      rcases c1 with c | c
      · rw [decide_eq_false (by omega)]; rfl
      · rw [c, Bool.and_false]
    have his := is_any g b p 46 border 2 1 2 wz hD (.inr (.inl ⟨rfl, rfl, rfl⟩)) (by omega) (by omega) (by omega) (by omega)
    rw [hf] at his
    have HIS := bx his
    clear his hf c1 hR
    go_enter Tryz.func67, Tryz.ntmps67
    go_wp2_with fail
    rw [z8_eq, HWZ.out]
    refine HIS.out.mono ?_
    rintro e w1 ⟨rfl, hb1⟩
    have hK0 := HZ0.out.below hb1 HZ0.out.lt
    have hK1 := HZ1.out.below hb1 HZ1.out.lt
    have HB1 := bx (HBL.out.trans (hb1.mono HBL.out.size))
    clear hb1
    go_wp2_with (first
      | (refine wpList_load_row rfl 133 (.tmp 11) rfl (w.heap.size + 1) rfl _ z8 _ _ hK1 Tryz.underlying133 rfl (by rw [z8_size]; exact info_found) ?_)
      | (refine wpList_store_row rfl 133 (.tmp 8) (.tmp 21) rfl w.heap.size z8 rfl rfl 133 z8 hK0 (by rw [z8_size]; exact info_found) rfl z8_one ?_))
    exact bodyPost_ret (v := .tuple #[.agg z8, .int .i64 0, .int .i64 11]) (results_record _ _ w.heap.size z8 rfl (hK0.setRow z8) rfl) rfl (RecPost.bad HR.out (bl_setRow HB1.out (Nat.le_refl _) z8))
  rw [if_neg c1] at hR
  have hin : p + 46 ≤ border := by omega
  have hsg : signA b p 1 2 = true := by
    cases h : signA b p 1 2 with
    | true => rfl
    | false => exact absurd (.inr h) c1
  have his := is_any g b p 46 border 2 1 2 wz hD (.inr (.inl ⟨rfl, rfl, rfl⟩)) (by omega) (by omega) (by omega) (by omega)
  rw [hsg, decide_eq_true hin] at his
  have HIS := bx his
  have HSG := bx hsg
  obtain ⟨sz, hsz⟩ : ∃ sz, numA b (p + 28) 2 = sz := ⟨_, rfl⟩
  obtain ⟨ex, hex⟩ : ∃ sz, numA b (p + 30) 2 = sz := ⟨_, rfl⟩
  obtain ⟨cm, hcm⟩ : ∃ sz, numA b (p + 32) 2 = sz := ⟨_, rfl⟩
  obtain ⟨dk, hdk⟩ : ∃ sz, numA b (p + 34) 2 = sz := ⟨_, rfl⟩
  have l1 : sz < 65536 := by rw [← hsz]; exact numA_2 _ _
  have l2 : ex < 65536 := by rw [← hex]; exact numA_2 _ _
  have l3 : cm < 65536 := by rw [← hcm]; exact numA_2 _ _
  have HSZ := bx hsz
  have HEX := bx hex
  have HCM := bx hcm
  have HDK := bx hdk
  rw [hsz, hex, hcm, hdk] at hR
  have HDD := bx hD
  clear his hsg c1 hsz hex hcm hdk hD
  by_cases c2 : border < p + 46 + sz + ex + cm
  · rw [if_pos (.inl c2)] at hR
    have HR := bx hR.symm
    have hcI : (border : Int) < (p : Int) + 46 + (sz : Int) + (ex : Int) + (cm : Int) := by omega
    clear hR c2
    go_enter Tryz.func67, Tryz.ntmps67
    go_wp2_with fail
    rw [z8_eq, HWZ.out]
    refine HIS.out.mono ?_
    rintro e w1 ⟨rfl, hb1⟩
    have hK0 := HZ0.out.below hb1 HZ0.out.lt
    have hK1 := HZ1.out.below hb1 HZ1.out.lt
    have HD1 := bx (HDD.out.below hb1)
    have HB1 := bx (HBL.out.trans (hb1.mono HBL.out.size))
    clear hb1
    go_wp2_with fail
    refine (num_at g b p 28 2 28 2 w1 HD1.out rfl rfl (by omega) (by omega) (by omega) HSZ.out).mono ?_
    rintro e w2 ⟨rfl, rfl⟩
    go_wp2_with fail
    refine (num_at g b p 30 2 30 2 w2 HD1.out rfl rfl (by omega) (by omega) (by omega) HEX.out).mono ?_
    rintro e w3 ⟨rfl, rfl⟩
    go_wp2_with fail
    refine (num_at g b p 32 2 32 2 w3 HD1.out rfl rfl (by omega) (by omega) (by omega) HCM.out).mono ?_
    rintro e w4 ⟨rfl, rfl⟩
    go_wp2_with (first
      | (refine wpList_load_row rfl 133 (.tmp 11) rfl (w.heap.size + 1) rfl _ z8 _ _ hK1 Tryz.underlying133 rfl (by rw [z8_size]; exact info_found) ?_)
      | (refine wpList_store_row rfl 133 (.tmp 8) (.tmp 50) rfl w.heap.size z8 rfl rfl 133 z8 hK0 (by rw [z8_size]; exact info_found) rfl z8_one ?_))
    exact bodyPost_ret (v := .tuple #[.agg z8, .int .i64 0, .int .i64 11]) (results_record _ _ w.heap.size z8 rfl (hK0.setRow z8) rfl) rfl (RecPost.bad HR.out (bl_setRow HB1.out (Nat.le_refl _) z8))
  have hcI : ¬ (border : Int) < (p : Int) + 46 + (sz : Int) + (ex : Int) + (cm : Int) := by omega
  by_cases c3 : dk = 0
  case neg =>
    rw [if_pos (.inr c3)] at hR
    have HR := bx hR.symm
    have hdI : ((dk : Int) != 0) = true := by rw [bne_iff_ne]; omega
    clear hR c2 c3
    go_enter Tryz.func67, Tryz.ntmps67
    go_wp2_with fail
    rw [z8_eq, HWZ.out]
    refine HIS.out.mono ?_
    rintro e w1 ⟨rfl, hb1⟩
    have hK0 := HZ0.out.below hb1 HZ0.out.lt
    have hK1 := HZ1.out.below hb1 HZ1.out.lt
    have HD1 := bx (HDD.out.below hb1)
    have HB1 := bx (HBL.out.trans (hb1.mono HBL.out.size))
    clear hb1
    go_wp2_with fail
    refine (num_at g b p 28 2 28 2 w1 HD1.out rfl rfl (by omega) (by omega) (by omega) HSZ.out).mono ?_
    rintro e w2 ⟨rfl, rfl⟩
    go_wp2_with fail
    refine (num_at g b p 30 2 30 2 w2 HD1.out rfl rfl (by omega) (by omega) (by omega) HEX.out).mono ?_
    rintro e w3 ⟨rfl, rfl⟩
    go_wp2_with fail
    refine (num_at g b p 32 2 32 2 w3 HD1.out rfl rfl (by omega) (by omega) (by omega) HCM.out).mono ?_
    rintro e w4 ⟨rfl, rfl⟩
    go_wp2_with fail
    refine (num_at g b p 34 2 34 2 w4 HD1.out rfl rfl (by omega) (by omega) (by omega) HDK.out).mono ?_
    rintro e w5 ⟨rfl, rfl⟩
    go_wp2_with (first
      | (refine wpList_load_row rfl 133 (.tmp 11) rfl (w.heap.size + 1) rfl _ z8 _ _ hK1 Tryz.underlying133 rfl (by rw [z8_size]; exact info_found) ?_)
      | (refine wpList_store_row rfl 133 (.tmp 8) (.tmp 50) rfl w.heap.size z8 rfl rfl 133 z8 hK0 (by rw [z8_size]; exact info_found) rfl z8_one ?_))
    exact bodyPost_ret (v := .tuple #[.agg z8, .int .i64 0, .int .i64 11]) (results_record _ _ w.heap.size z8 rfl (hK0.setRow z8) rfl) rfl (RecPost.bad HR.out (bl_setRow HB1.out (Nat.le_refl _) z8))
  exact (HL.out ⟨hin, HSG.out, by rw [HSZ.out, HEX.out, HCM.out]; exact c2, HDK.out.trans c3⟩).elim
end Go.Proofs.YtlmcpkomjofcgaaGreatDoor
namespace Go.Proofs.YtlmcpkomjofcgaaGreatDoor
open Go.RowKit
/-- A book that lies below B. -/
def BookE (w : World) (B g : Nat) (b : List UInt8) : Prop :=
  ∃ A c m n, g < B ∧ m < B ∧ B ≤ w.heap.size ∧ Bk w g 126 #[.slice A b.length c, .map (some m)] ∧ RB w B A b ∧ b.length ≤ c ∧ MapT quadV w Tryz.prog 159 m n kindG ∧ (b.length : Int) ≤ 140737488355328 ∧ (c : Int) ≤ 9223372036854775807
theorem BookE.d {w : World} {B g : Nat} {b : List UInt8} (h : BookE w B g b) : BookD w g b := by
  obtain ⟨A, c, m, n, h1, h2, h3, h4, h5, r⟩ := h
  exact ⟨A, c, m, n, h4, h5.top, r⟩
theorem BookE.below {w w' : World} {B g : Nat} {b : List UInt8} (h : BookE w B g b) (hb : Below B w w') : BookE w' B g b := by
  obtain ⟨A, c, m, n, h1, h2, h3, h4, h5, h6, h7, r⟩ := h
  exact ⟨A, c, m, n, h1, h2, Nat.le_trans h3 hb.size, h4.below hb h1, h5.below hb (Nat.le_refl _), h6, h7.below hb h2, r⟩
abbrev Ent := Rec × Int × Nat
def fndL (x : Ent) : List Value := (fndC x.1 x.2.1 x.2.2).toList
theorem fndCels : Cels fndL 8 := ⟨fun _ => rfl, fun x u hu => by
  have := fndC_one x.1 x.2.1 x.2.2
  exact (Array.all_eq_true_iff_forall_mem.1 this) u (by simpa [fndL] using hu), by omega⟩
/-- What local answers. -/
def LocPost (R : Option Nat) (w : World) (gl base : Nat) (V : Value) (l : List Ent) (k : Nat) (x : Rec × Nat) (e : Ending) (w' : World) : Prop := w.grownBy w' (some gl) ∧ match R with
  | none => e = .returned (.int .i64 15)
  | some a => e = .returned (.int .i64 0) ∧ OwS fndL 8 w' base 133 V (l.set k (x.1, ((a : Nat) : Int), x.2))
theorem LocPost.bad {R : Option Nat} {w w' : World} {gl base : Nat} {V : Value} {l : List Ent} {k : Nat} {x : Rec × Nat} (h : R = none) (hg : w.grownBy w' (some gl)) : LocPost R w gl base V l k x (.returned (.int .i64 15)) w' := by
  subst h; exact ⟨hg, rfl⟩
theorem LocPost.good {R : Option Nat} {w w' : World} {gl base a : Nat} {V : Value} {l : List Ent} {k : Nat} {x : Rec × Nat} (h : R = some a) (hg : w.grownBy w' (some gl)) (ho : OwS fndL 8 w' base 133 V (l.set k (x.1, ((a : Nat) : Int), x.2))) : LocPost R w gl base V l k x (.returned (.int .i64 0)) w' := by
  subst h; exact ⟨hg, rfl, ho⟩
/-- string(b[i:j]) as an equation, in the walk's spelling of the address. -/
theorem run_cut_str {w : World} {B : Nat} {ad : Addr} {b : List UInt8} (hr : RB w B (some ad) b) {i m c n : Nat} (hn : n = m) (hi : i + m ≤ b.length) {s : ByteArray} (hs : (⟨((b.drop i).take m).toArray⟩ : ByteArray) = s) :
    (convert 22 9 (.slice (some (ad.add i)) n c)).run Tryz.prog w = .ok (.string s) w := by
  rw [← hs]
  exact run_conv_str (P := Tryz.prog) (w := w) (B := B) (A := some (ad.add i)) (l := (b.drop i).take m) Tryz.underlying22 Tryz.underlying5 Tryz.underlying9 (by rw [hn]; simp; omega) ((hr.drop i).take m)
set_option maxRecDepth 100000 in
set_option maxHeartbeats 8000000 in
theorem local_any (g gl o k B base n c : Nat) (b : List UInt8) (x : Rec × Nat) (at0 : Int) (dir : Nat) (l : List Ent) (w : World) (h : BookE w B g b) (hgl : B ≤ gl) (ho : o = k * 8)
    (hl : OwS fndL 8 w base 133 (.slice (some ⟨gl, 0, none⟩) n c) l) (hk : l[k]? = some (x.1, at0, x.2)) (hdir : dir + 22 ≤ b.length) (hz : b.length ≤ 70000) (hp : x.2 + 30 ≤ b.length)
    (hhead : x.1.head < 4294967296) (hpk : x.1.packed < 4294967296) (hnm : x.1.name.length < 65536) :
    Calls Tryz.prog 68 #[.pointer (some ⟨g, 0, none⟩), .pointer (some ⟨gl, o, none⟩), .int .i64 (dir : Int)] w (LocPost (localA b dir x) w gl base (.slice (some ⟨gl, 0, none⟩) n c) l k x) := by
  obtain ⟨⟨nm, me, pk, si, su, hd⟩, p⟩ := x
  dsimp only at hk hp hhead hpk hnm
  obtain ⟨R, hR⟩ : ∃ R, localA b dir (⟨nm, me, pk, si, su, hd⟩, p) = R := ⟨_, rfl⟩
  rw [hR]
  unfold localA at hR
  dsimp only at hR
  have hE := h
  obtain ⟨A, cb, mk, q, hgB, _, hBz, hB, hr, hcb, _, _, hcl⟩ := h
  have hzl : k < l.length := (List.getElem?_eq_some_iff.1 hk).1
  have hlt : gl < w.heap.size := (hl.blk rfl).2
  have fz : ∀ j, w.frozen? ⟨gl, j, none⟩ = false := fun j => hl.frz j
  have q0 : w.cell? ⟨gl, o, none⟩ = some (.string ⟨nm.toArray⟩) := by subst ho; exact hl.cell fndCels (j := 0) hk rfl
  have q2 : w.cell? ⟨gl, o + 2, none⟩ = some (.int .i64 (pk : Int)) := by subst ho; exact hl.cell fndCels (j := 2) hk rfl
  have q5 : w.cell? ⟨gl, o + 5, none⟩ = some (.int .i64 at0) := by subst ho; exact hl.cell fndCels (j := 5) hk rfl
  have q6 : w.cell? ⟨gl, o + 6, none⟩ = some (.int .i64 (hd : Int)) := by subst ho; exact hl.cell fndCels (j := 6) hk rfl
  have q7 : w.cell? ⟨gl, o + 7, none⟩ = some (.int .i64 (p : Int)) := by subst ho; exact hl.cell fndCels (j := 7) hk rfl
  have c0 : w.cell? ⟨g, 0, none⟩ = some (.slice A b.length cb) := (hB.cell 0).trans rfl
  have hne : g ≠ gl := by omega
  have HO := bx ho
  clear ho
  have hG0 : w.grownBy w (some gl) := gb_below (Below.refl _ _) _
  by_cases e1 : dir < hd + 30 ∨ signA b hd 3 4 = false
  · have HR := bx (show R = none from by rw [← hR, if_pos (by rcases e1 with e | e; exact .inl e; exact .inr (.inl e))])
    have hv : (decide (hd + 30 ≤ dir) && signA b hd 3 4) = false := by
      rcases e1 with e | e
      · rw [decide_eq_false (by omega)]; rfl
      · rw [e, Bool.and_false]
    have HIS := bx (fun nq => (is_quiet g b hd 30 dir 3 3 4 (w.drewN nq) (hE.below (below_drewN (Below.refl _ _) nq)).d (.inr (.inr ⟨rfl, rfl, rfl⟩)) (by omega) (by omega) (by omega) (by omega)))
    rw [hv] at HIS
    have HG0 := bx hG0
    clear hR e1 hv hl hk hE hr hB hG0
    go_enter Tryz.func68, Tryz.ntmps68
    go_wp2
    go_quiet ((go_at_call 65; exact Calls.quiet_of (HIS.out _)))
    go_wp2
    go_ret
    exact LocPost.bad HR.out (gb_drewN HG0.out _)
  have e1a : hd + 30 ≤ dir := by omega
  have e1b : signA b hd 3 4 = true := by
    cases hs : signA b hd 3 4 with
    | true => rfl
    | false => exact absurd (.inr hs) e1
  have HIS := bx (fun nq => (is_quiet g b hd 30 dir 3 3 4 (w.drewN nq) (hE.below (below_drewN (Below.refl _ _) nq)).d (.inr (.inr ⟨rfl, rfl, rfl⟩)) (by omega) (by omega) (by omega) (by omega)))
  rw [decide_eq_true e1a, e1b] at HIS
  obtain ⟨ad, x0, rfl, hadB, _, _⟩ := hr.byte (k := hd) (by omega)
  obtain ⟨s1, hs1⟩ : ∃ s, (⟨((b.drop (hd + 4)).take 24).toArray⟩ : ByteArray) = s := ⟨_, rfl⟩
  obtain ⟨s2, hs2⟩ : ∃ s, (⟨((b.drop (p + 6)).take 24).toArray⟩ : ByteArray) = s := ⟨_, rfl⟩
  have hcv1 := fun nq => run_cut_str (hr.drewN nq) (i := hd + 4) (m := 24) (c := cb - (hd + 4)) (n := ((hd : Int) + 28).toNat - (hd + 4)) (by omega) (by omega) hs1
  have hcv2 := fun nq => run_cut_str (hr.drewN nq) (i := p + 6) (m := 24) (c := cb - (p + 6)) (n := ((p : Int) + 30).toNat - (p + 6)) (by omega) (by omega) hs2
  rw [show ad.add (hd + 4) = ⟨ad.block, ad.off + (hd + 3 + 1), none⟩ from add_pos ad (hd + 3)] at hcv1
  rw [show ad.add (p + 6) = ⟨ad.block, ad.off + (p + 5 + 1), none⟩ from add_pos ad (p + 5)] at hcv2
  have u1 : IntKind.i64.wrap ((hd : Int) + 4) = (hd : Int) + 4 := IntWalk.i64_in _ (by omega)
  have u2 : IntKind.i64.wrap ((hd : Int) + 28) = (hd : Int) + 28 := IntWalk.i64_in _ (by omega)
  have u3 : IntKind.i64.wrap ((p : Int) + 6) = (p : Int) + 6 := IntWalk.i64_in _ (by omega)
  have u4 : IntKind.i64.wrap ((p : Int) + 30) = (p : Int) + 30 := IntWalk.i64_in _ (by omega)
  have v1 : (0 : Int) ≤ (hd : Int) + 4 := by omega
  have v2 : (hd : Int) + 4 ≤ (hd : Int) + 28 := by omega
  have v3 : (hd : Int) + 28 ≤ (cb : Int) := by omega
  have v4 : ((hd : Int) + 4).toNat = hd + 4 := by omega
  have v5 : ¬ cb = hd + 4 := by omega
  have v6 : (0 : Int) ≤ (p : Int) + 6 := by omega
  have v7 : (p : Int) + 6 ≤ (p : Int) + 30 := by omega
  have v8 : (p : Int) + 30 ≤ (cb : Int) := by omega
  have v9 : ((p : Int) + 6).toNat = p + 6 := by omega
  have va : ¬ cb = p + 6 := by omega
  by_cases e2 : (b.drop (hd + 4)).take 24 = (b.drop (p + 6)).take 24
  case neg =>
    have HR := bx (show R = none from by rw [← hR, if_pos (.inr (.inr e2))])
    have hst : (s1.toList == s2.toList) = false := tl_diff (by rw [← hs1, ← hs2]; simpa using e2)
    have HG0 := bx hG0
    clear hR e1 e1b e2 hl hk hE hr hB hG0 hs1 hs2
    go_enter Tryz.func68, Tryz.ntmps68
    go_wp2
    go_quiet ((go_at_call 65; exact Calls.quiet_of (HIS.out _)))
    go_wp2
    go_ret
    exact LocPost.bad HR.out (gb_drewN HG0.out _)
  have hst : (s1.toList == s2.toList) = true := tl_same (by rw [← hs1, ← hs2]; simpa using e2)
  rw [if_neg (by rintro (h | h | h); omega; rw [e1b] at h; cases h; exact h e2)] at hR
  obtain ⟨ex, hex⟩ : ∃ ex, numA b (hd + 28) 2 = ex := ⟨_, rfl⟩
  have lex : ex < 65536 := by rw [← hex]; exact numA_2 _ _
  rw [hex] at hR
  obtain ⟨ln, hln⟩ : ∃ ln, nm.length = ln := ⟨_, rfl⟩
  rw [hln] at hR hnm
  have HEX := bx hex
  have HLN := bx hln
  have hsz : (⟨nm.toArray⟩ : ByteArray).size = ln := by rw [← hln]; rfl
  obtain ⟨sn, hsn⟩ : ∃ s, (⟨nm.toArray⟩ : ByteArray) = s := ⟨_, rfl⟩
  rw [hsn] at q0 hsz
  have HR0 := bx hR
  have HE := bx hE
  have HL := bx hl
  have HK := bx hk
  have HRB := bx hr
  have HSN := bx hsn
  have HG0 := bx hG0
  have HBK := bx hB
  have x1 : IntKind.i64.wrap ((hd : Int) + 30) = (hd : Int) + 30 := IntWalk.i64_in _ (by omega)
  have x2 : IntKind.i64.wrap ((hd : Int) + 30 + (ln : Int)) = (hd : Int) + 30 + (ln : Int) := IntWalk.i64_in _ (by omega)
  have x3 : IntKind.i64.wrap ((hd : Int) + 30 + (ln : Int) + (ex : Int)) = (hd : Int) + 30 + (ln : Int) + (ex : Int) := IntWalk.i64_in _ (by omega)
  clear hR e1 e1b e2 hl hk hE hr hB hG0 hs1 hs2 hex hln hsn
  go_enter Tryz.func68, Tryz.ntmps68
  go_wp2
  go_quiet ((go_at_call 65; exact Calls.quiet_of (HIS.out _)))
  rename Nat => nq
  go_wp2
  obtain ⟨w1, hw1⟩ : ∃ w1, w.drewN nq = w1 := ⟨_, rfl⟩
  rw [hw1]
  have hb1 : Below w.heap.size w w1 := by rw [← hw1]; exact below_drewN (Below.refl _ _) nq
  have HG1 := bx (gb_below hb1 (some gl))
  have HE1 := bx (HE.out.below (hb1.mono hBz))
  have HL1 : Bx (OwS fndL 8 w1 base 133 (.slice (some ⟨gl, 0, none⟩) n c) l) := by rw [← hw1]; exact bx (HL.out.drewN nq)
  have hcells : ∀ q, w1.cell? q = w.cell? q := by rw [← hw1]; intro q; rfl
  have hfr : ∀ q, w1.frozen? q = w.frozen? q := by rw [← hw1]; intro q; rfl
  have hRB1 : RB w1 B (some ad) b := by rw [← hw1]; exact HRB.out.drewN nq
  have q0' := (hcells _).trans q0
  have q2' := (hcells _).trans q2
  have q5' := (hcells _).trans q5
  have q6' := (hcells _).trans q6
  have q7' := (hcells _).trans q7
  have c0' := (hcells _).trans c0
  have fz' := (hfr ⟨gl, o + 5, none⟩).trans (fz (o + 5))
  have HRB1 := bx hRB1
  clear hw1 hb1 hcells hfr q0 q2 q5 q6 q7 c0 fz hcv1 hcv2 hst HE HL HRB HIS u1 u2 u3 u4 v1 v2 v3 v4 v5 v6 v7 v8 v9 va hRB1 HG0 HBK
  obtain ⟨av, hav⟩ : ∃ av, hd + 30 + ln + ex = av := ⟨_, rfl⟩
  have hav' : (hd : Int) + 30 + (ln : Int) + (ex : Int) = (av : Int) := by omega
  obtain ⟨F, hF⟩ : ∃ F, cellF w1.drew ⟨gl, o + 5, none⟩ (.int .i64 ((hd : Int) + 30 + (ln : Int) + (ex : Int))) = F := ⟨_, rfl⟩
  have hF0 : w1.drew = F 0 := by rw [← hF]; rfl
  have hF1 : (F 0).setCell ⟨gl, o + 5, none⟩ (.int .i64 ((hd : Int) + 30 + (ln : Int) + (ex : Int))) = F 1 := by rw [← hF]; rfl
  have hFb : ∀ n, Below B w1 (F n) := fun n => by
    rw [← hF]
    match n with
    | 0 => exact below_drewN (Below.refl _ _) 1
    | _ + 1 => exact (below_drewN (Below.refl _ _) 1).setCell hgl _
  have z0 : ∀ n, (F n).cell? ⟨gl, o, none⟩ = some (.string sn) := fun n => by
    rw [← hF]
    match n with
    | 0 => exact q0'
    | _ + 1 => exact (World.cell?_setCell_other _ _ _ _ (by simp)).trans q0'
  have zf : ∀ n, (F n).frozen? ⟨gl, o + 5, none⟩ = false := fun n => by
    rw [← hF]
    match n with
    | 0 => exact fz'
    | _ + 1 => exact (World.frozen?_setCell _ _ _ _).trans fz'
  have z5 : ∃ u, (F 0).cell? ⟨gl, o + 5, none⟩ = some u := ⟨_, by rw [← hF0]; exact q5'⟩
  obtain ⟨u5, z5⟩ := z5
  have HDF := bx (fun n => (HE1.out.below (hFb n)).d)
  have y0 := z0 1
  have y2 : (F 1).cell? ⟨gl, o + 2, none⟩ = some (.int .i64 (pk : Int)) := by rw [← hF1, ← hF0]; exact (World.cell?_setCell_other _ _ _ _ (by simp)).trans q2'
  have y5 : (F 1).cell? ⟨gl, o + 5, none⟩ = some (.int .i64 (av : Int)) := by rw [← hF1, hav']; exact World.cell?_setCell_same _ _ _ z5
  have y9 : (F 1).cell? ⟨g, 0, none⟩ = some (.slice (some ad) b.length cb) := by rw [← hF1, ← hF0]; exact (World.cell?_setCell_other _ _ _ _ (by simp)).trans c0'
  have HOw : Bx (OwS fndL 8 (F 1) base 133 (.slice (some ⟨gl, 0, none⟩) n c) (l.set k (⟨nm, me, pk, si, su, hd⟩, (av : Int), p))) := by
    rw [← hF1, ← hF0, HO.out, hav']
    exact bx (HL1.out.drew.set fndCels (j := 5) HK.out (by omega) rfl)
  have HR3 : Bx (RB (F 1) B (some ad) b) := bx (HRB1.out.below (hFb 1) (Nat.le_refl _))
  have HG2 : Bx (w.grownBy (F 1) (some gl)) := by rw [← hF1, ← hF0]; exact bx (gb_set (gb_drewN HG1.out 1) _ _)
  rw [hav] at HR0
  have HF0 := bx hF0
  have HF1 := bx hF1
  have HAV := bx hav
  have HAV' := bx hav'
  have Y0 := bx y0
  have Y2 := bx y2
  have Y5 := bx y5
  have Y9 := bx y9
  clear hF hF0 hF1 hFb q0' q2' q5' q6' q7' c0' fz' HL1 HRB1 HG1 HE1 hav hav' y0 y2 y5 y9
  have a1 : hd + 28 + 2 ≤ b.length := by omega
  have x4 : IntKind.i64.wrap ((hd : Int) + 28) = (hd : Int) + 28 := IntWalk.i64_in _ (by omega)
  refine wp_region_same 18 F (by kernel_rfl) (by kernel_rfl) (by kernel_rfl) (by kernel_rfl) (by decide) HF0.out (fun _ _ _ d _ h => by cases d <;> exact h) ?_
  simp only [List.take_succ_cons, List.take_zero, List.drop_succ_cons, List.drop_zero]
  repeat (
    refine wpSame_step (fun K hK => ?_)
    simp only [SameAt]
    go_simp
    first
      | (refine hK _ ?_; clear hK K)
      | (apply Exists.intro
         refine ⟨fun _ => ?_, hK _ ?_⟩
         (with_reducible exact num_at g b hd 28 2 28 2 _ (HDF.out _) rfl rfl (by omega) (by omega) a1 HEX.out)
         clear hK K))
  refine wpSame_nil ?_
  refine wpChain_step rfl (fun K hK => ?_)
  go_simp
  rw [HF1.out]
  refine hK _ _ ⟨1, rfl⟩ ?_
  clear hK K
  refine wpChain_nil ?_
  obtain ⟨w3, hw3⟩ : ∃ w3, F 1 = w3 := ⟨_, rfl⟩
  rw [hw3] at HOw HR3 HG2 Y0 Y2 Y5 Y9
  rw [hw3]
  have y0 := Y0.out
  have y2 := Y2.out
  have y5 := Y5.out
  have y9 := Y9.out
  clear hw3 HF0 HF1 HDF z0 zf z5 Y0 Y2 Y5 Y9 x1 x3 x4 a1
  by_cases e3 : dir < av
  · have e3I : (dir : Int) < (av : Int) := by omega
    have HR := bx (show R = none from by rw [← HR0.out, if_pos (.inl e3)])
    clear HR0
    go_wp2
    go_quiet (fail)
    go_wp2
    go_ret
    exact LocPost.bad HR.out (gb_drewN HG2.out _)
  have e3I : ¬ (dir : Int) < (av : Int) := by omega
  have e3K : decide (dir < av) = false := decide_eq_false e3
  have e3J : (av : Int) ≤ (dir : Int) := by omega
  have x5 : IntKind.i64.wrap ((dir : Int) - (av : Int)) = (dir : Int) - (av : Int) := IntWalk.i64_in _ (by omega)
  by_cases e4 : dir < av + pk
  · have e4I : (dir : Int) - (av : Int) < (pk : Int) := by omega
    have HR := bx (show R = none from by rw [← HR0.out, if_pos (.inr (.inl e4))])
    clear HR0
    go_wp2
    go_quiet (fail)
    go_wp2
    go_ret
    exact LocPost.bad HR.out (gb_drewN HG2.out _)
  have e4I : ¬ (dir : Int) - (av : Int) < (pk : Int) := by omega
  have e4K : decide ((dir : Int) - (av : Int) < (pk : Int)) = false := decide_eq_false e4I
  obtain ⟨s3, hs3⟩ : ∃ s, (⟨((b.drop (hd + 30)).take ln).toArray⟩ : ByteArray) = s := ⟨_, rfl⟩
  have hle : hd + 30 + ln ≤ b.length := by have := HAV.out; omega
  have hcv3 := fun nq => run_cut_str (HR3.out.drewN nq) (i := hd + 30) (m := ln) (c := cb - (hd + 30)) (n := ((hd : Int) + 30 + (ln : Int)).toNat - (hd + 30)) (by omega) hle hs3
  rw [show ad.add (hd + 30) = ⟨ad.block, ad.off + (hd + 29 + 1), none⟩ from add_pos ad (hd + 29)] at hcv3
  have u1 : IntKind.i64.wrap ((hd : Int) + 30) = (hd : Int) + 30 := IntWalk.i64_in _ (by omega)
  have v1 : (0 : Int) ≤ (hd : Int) + 30 := by omega
  have v2 : (hd : Int) + 30 ≤ (hd : Int) + 30 + (ln : Int) := by omega
  have v3 : (hd : Int) + 30 + (ln : Int) ≤ (cb : Int) := by have := hle; omega
  have v4 : ((hd : Int) + 30).toNat = hd + 30 := Int.toNat_natCast (hd + 30)
  have v5 : ¬ cb = hd + 30 := by omega
  by_cases e5 : (b.drop (hd + 30)).take ln = nm
  case neg =>
    have hst : (s3.toList == sn.toList) = false := tl_diff (by rw [← hs3, ← HSN.out]; simpa using e5)
    clear hs3
    have HR := bx (show R = none from by rw [← HR0.out, if_pos (.inr (.inr e5))])
    clear HR0
    go_wp2
    go_quiet (fail)
    go_wp2
    go_ret
    exact LocPost.bad HR.out (gb_drewN HG2.out _)
  have hst : (s3.toList == sn.toList) = true := tl_same (by rw [← hs3, ← HSN.out]; simpa using e5)
  have HR := bx (show R = some av from by rw [← HR0.out, if_neg (by rintro (h | h | h); exact e3 h; exact e4 h; exact h e5)])
  clear HR0 hs3 e3 e4 e5
  go_wp2
  go_quiet (fail)
  go_wp2
  go_ret
  exact LocPost.good HR.out (gb_drewN HG2.out _) (HOw.out.drewN _)
end Go.Proofs.YtlmcpkomjofcgaaGreatDoor
namespace Go.Proofs.YtlmcpkomjofcgaaGreatDoor
open Go.RowKit
theorem range_one (q : Nat) : ∀ n, (List.range n).filter (fun j => decide (j = q)) = if q < n then [q] else [] := by
  intro n
  induction n with
  | zero => rfl
  | succ n ih =>
    rw [List.range_succ, List.filter_append, ih]
    by_cases h : q < n
    · rw [if_pos h, if_pos (by omega)]; simp; omega
    · rw [if_neg h]
      by_cases e : n = q
      · subst e; simp
      · rw [if_neg (by omega)]; simp; omega
theorem endP_one {b : List UInt8} {q : Nat} (h : q < b.length - 21) (hq : endA b q = true) (hu : ∀ j, j < b.length - 21 → endA b j = true → j = q) : endP b = some q := by
  have e : endsA b = [q] := by
    unfold endsA
    rw [List.filter_congr (q := fun j => decide (j = q)) (fun j hj => by
      rw [List.mem_range] at hj
      cases hj2 : endA b j with
      | true => rw [decide_eq_true (hu j hj hj2)]
      | false => rw [decide_eq_false (fun e => by subst e; rw [hq] at hj2; cases hj2)]), range_one, if_pos h]
  unfold endP; rw [e]
theorem endP_none {b : List UInt8} (h : ∀ j, j < b.length - 21 → endA b j = false) : endP b = none := by
  have e : endsA b = [] := by
    unfold endsA
    rw [List.filter_eq_nil_iff]
    intro j hj
    rw [List.mem_range] at hj
    rw [h j hj]; decide
  unfold endP; rw [e]
theorem endP_two {b : List UInt8} {q k : Nat} (hne : q ≠ k) (hq : q < b.length - 21) (hk : k < b.length - 21) (h1 : endA b q = true) (h2 : endA b k = true) : endP b = none := by
  have m1 : q ∈ endsA b := by unfold endsA; rw [List.mem_filter, List.mem_range]; exact ⟨hq, h1⟩
  have m2 : k ∈ endsA b := by unfold endsA; rw [List.mem_filter, List.mem_range]; exact ⟨hk, h2⟩
  unfold endP
  generalize endsA b = l at m1 m2
  match l with
  | [] => rfl
  | [p] => simp at m1 m2; exact absurd (m1.trans m2.symm) hne
  | _ :: _ :: _ => rfl
/-- What was found among the places ahead of k. -/
def EndSt (b : List UInt8) (k : Nat) (v : Int) : Prop := (v = -1 ∧ ∀ j, j < k → endA b j = false) ∨ (∃ q : Nat, q < k ∧ v = (q : Int) ∧ endA b q = true ∧ ∀ j, j < k → endA b j = true → j = q)
def endI (b : List UInt8) : Int := match endP b with
  | none => -1
  | some p => (p : Int)
theorem EndSt.fin {b : List UInt8} {v : Int} (h : EndSt b (b.length - 21) v) : v = endI b := by
  unfold endI
  rcases h with ⟨h1, h2⟩ | ⟨q, h1, h2, h3, h4⟩
  · rw [endP_none h2]; exact h1
  · rw [endP_one h1 h3 h4]; exact h2
theorem EndSt.skip {b : List UInt8} {k : Nat} {v : Int} (h : EndSt b k v) (hk : endA b k = false) : EndSt b (k + 1) v := by
  rcases h with ⟨h1, h2⟩ | ⟨q, h1, h2, h3, h4⟩
  · exact .inl ⟨h1, fun j hj => by
      by_cases e : j = k
      · subst e; exact hk
      · exact h2 j (by omega)⟩
  · exact .inr ⟨q, by omega, h2, h3, fun j hj hj2 => by
      by_cases e : j = k
      · subst e; rw [hk] at hj2; cases hj2
      · exact h4 j (by omega) hj2⟩
theorem EndSt.hit {b : List UInt8} {k : Nat} {v : Int} (h : EndSt b k v) (hv : v < 0) (hk : endA b k = true) : EndSt b (k + 1) (k : Int) := by
  rcases h with ⟨h1, h2⟩ | ⟨q, h1, h2, h3, h4⟩
  · exact .inr ⟨k, by omega, rfl, hk, fun j hj hj2 => by
      by_cases e : j = k
      · exact e
      · rw [h2 j (by omega)] at hj2; cases hj2⟩
  · omega
theorem EndSt.two {b : List UInt8} {k : Nat} {v : Int} (h : EndSt b k v) (hv : 0 ≤ v) (hk : endA b k = true) (hl : k < b.length - 21) : endI b = -1 := by
  rcases h with ⟨h1, h2⟩ | ⟨q, h1, h2, h3, h4⟩
  · omega
  · unfold endI; rw [endP_two (q := q) (k := k) (by omega) (by omega) hl h3 hk]
theorem signA_get {b : List UInt8} {p : Nat} {x y a0 a1 a2 a3 : UInt8} (h0 : b[p]? = some a0) (h1 : b[p + 1]? = some a1) (h2 : b[p + 2]? = some a2) (h3 : b[p + 3]? = some a3) : signA b p x y = decide (a0 = 80 ∧ a1 = 75 ∧ a2 = x ∧ a3 = y) := by
  unfold signA
  simp only [List.getD_eq_getElem?_getD, h0, h1, h2, h3, Option.getD_some]
theorem u8_beq (a x : UInt8) {z : Int} (hz : z = (x.toNat : Int)) : ((a.toNat : Int) == z) = decide (a = x) := by
  subst hz
  by_cases h : a = x
  · subst h; simp
  · rw [decide_eq_false h, beq_eq_false_iff_ne]; exact fun e => h (UInt8.toNat_inj.1 (by omega))
end Go.Proofs.YtlmcpkomjofcgaaGreatDoor
namespace Go.Proofs.YtlmcpkomjofcgaaGreatDoor
open Go.RowKit
/-- What was found among the places ahead of k: the last one, how many. -/
def EndC (b : List UInt8) (k p e : Nat) : Prop := e ≤ k ∧ ((e = 0 ∧ p = 0 ∧ ∀ j, j < k → endA b j = false) ∨ (e = 1 ∧ p < k ∧ endA b p = true ∧ ∀ j, j < k → endA b j = true → j = p) ∨ (2 ≤ e ∧ ∃ q r, q ≠ r ∧ q < k ∧ r < k ∧ endA b q = true ∧ endA b r = true))
theorem EndC.start (b : List UInt8) : EndC b 0 0 0 := ⟨Nat.le_refl _, .inl ⟨rfl, rfl, fun j hj => absurd hj (by omega)⟩⟩
theorem EndC.skip {b : List UInt8} {k p e : Nat} (h : EndC b k p e) (hk : endA b k = false) : EndC b (k + 1) p e := by
  obtain ⟨h0, h⟩ := h
  refine ⟨by omega, ?_⟩
  rcases h with ⟨h1, h2, h3⟩ | ⟨h1, h2, h3, h4⟩ | ⟨h1, q, r, h2, h3, h4, h5⟩
  · exact .inl ⟨h1, h2, fun j hj => by
      by_cases e : j = k
      · subst e; exact hk
      · exact h3 j (by omega)⟩
  · exact .inr (.inl ⟨h1, by omega, h3, fun j hj hj2 => by
      by_cases e : j = k
      · subst e; rw [hk] at hj2; cases hj2
      · exact h4 j (by omega) hj2⟩)
  · exact .inr (.inr ⟨h1, q, r, h2, by omega, by omega, h5⟩)
theorem EndC.hit {b : List UInt8} {k p e : Nat} (h : EndC b k p e) (hk : endA b k = true) : EndC b (k + 1) k (e + 1) := by
  obtain ⟨h0, h⟩ := h
  refine ⟨by omega, ?_⟩
  rcases h with ⟨h1, h2, h3⟩ | ⟨h1, h2, h3, h4⟩ | ⟨h1, q, r, h2, h3, h4, h5⟩
  · exact .inr (.inl ⟨by omega, by omega, hk, fun j hj hj2 => by
      by_cases e : j = k
      · exact e
      · rw [h3 j (by omega)] at hj2; cases hj2⟩)
  · exact .inr (.inr ⟨by omega, p, k, by omega, by omega, by omega, h3, hk⟩)
  · exact .inr (.inr ⟨by omega, q, r, h2, by omega, by omega, h5⟩)
theorem EndC.none {b : List UInt8} {p e : Nat} (h : EndC b (b.length - 21) p e) (he : e ≠ 1) : endP b = none := by
  obtain ⟨_, ⟨h1, h2, h3⟩ | ⟨h1, _⟩ | ⟨h1, q, r, h2, h3, h4, h5, h6⟩⟩ := h
  · exact endP_none h3
  · exact absurd h1 he
  · exact endP_two h2 h3 h4 h5 h6
theorem EndC.some {b : List UInt8} {p e : Nat} (h : EndC b (b.length - 21) p e) (he : e = 1) : endP b = some p := by
  obtain ⟨_, ⟨h1, h2, h3⟩ | ⟨h1, h2, h3, h4⟩ | ⟨h1, _⟩⟩ := h
  · omega
  · exact endP_one h2 h3 h4
  · omega
/-- What comes behind the records; behind the locals. -/
def dirK (b : List UInt8) (dir p : Nat) (x : List (Rec × Nat) × Nat) : Rz (List (Rec × Nat)) := if x.2 ≠ p then .err 11 else match localsA b dir x.1 with
  | none => .err 15
  | some l => if anyOver l = true then .err 16 else .ok l
theorem bookA_dirK (b : List UInt8) (dir p n : Nat) : bookA b dir p n = (centA b p n dir []).bind (dirK b dir p) := rfl
def locK (l : List (Rec × Nat)) : Rz (List (Rec × Nat)) := if anyOver l = true then .err 16 else .ok l
/-- The locals of what is left, behind those that are done. -/
def locR (b : List UInt8) (dir : Nat) (done rest : List (Rec × Nat)) : Rz (List (Rec × Nat)) := match localsA b dir rest with
  | none => .err 15
  | some r => locK (done ++ r)
theorem dirK_loc {b : List UInt8} {dir p : Nat} {l : List (Rec × Nat)} : dirK b dir p (l, p) = locR b dir [] l := by
  unfold dirK locR locK
  rw [if_neg (by simp)]
  cases localsA b dir l <;> rfl
theorem locR_bad {b : List UInt8} {dir : Nat} {done rest : List (Rec × Nat)} {x : Rec × Nat} (h : localA b dir x = none) : locR b dir done (x :: rest) = .err 15 := by
  unfold locR localsA; rw [h]
theorem locR_good {b : List UInt8} {dir a : Nat} {done rest : List (Rec × Nat)} {x : Rec × Nat} (h : localA b dir x = some a) : locR b dir done (x :: rest) = locR b dir (done ++ [(x.1, a)]) rest := by
  unfold locR
  rw [localsA, h]
  cases localsA b dir rest with
  | none => rfl
  | some r => simp
theorem locR_nil {b : List UInt8} {dir : Nat} {done : List (Rec × Nat)} : locR b dir done [] = locK done := by
  unfold locR; rw [localsA]; simp
end Go.Proofs.YtlmcpkomjofcgaaGreatDoor
namespace Go.Proofs.YtlmcpkomjofcgaaGreatDoor
open Go.RowKit Go.Shelf Go.Lib Go.Sort
def cmpF (x y : Ent) : Int := Lib.compareInt (x.1.head : Int) (y.1.head : Int)
theorem ltHead (x y : Ent) : ltOf cmpF x y = decide (x.1.head < y.1.head) := by
  unfold ltOf cmpF Lib.compareInt
  by_cases h1 : x.1.head < y.1.head
  · have : (x.1.head : Int) < (y.1.head : Int) := by omega
    simp [h1, this]
  · have h1' : ¬ (x.1.head : Int) < (y.1.head : Int) := by omega
    by_cases h2 : (y.1.head : Int) < (x.1.head : Int) <;> simp [h1, h1', h2]
theorem swoHead : SWO (ltOf cmpF) where
  irrefl x := by rw [ltHead]; simp
  trans x y z h1 h2 := by rw [ltHead] at *; simp at *; omega
  ntrans x y z h1 h2 := by rw [ltHead] at *; simp at *; omega
set_option maxHeartbeats 1000000 in
theorem cmp_closure (x y : Ent) (W : World) : Calls Tryz.prog 70 #[.agg (fndC x.1 x.2.1 x.2.2), .agg (fndC y.1 y.2.1 y.2.2)] W fun e w' => e = .returned (.int .i64 (cmpF x y)) ∧ ∃ q os', w' = grow (W.drewN q) os' := by
  obtain ⟨⟨n1, m1, p1, s1, u1, h1⟩, a1, q1⟩ := x
  obtain ⟨⟨n2, m2, p2, s2, u2, h2⟩, a2, q2⟩ := y
  have hcon := fun W' => Tryz.cmp_Compare_int (h1 : Int) (h2 : Int) W'
  unfold cmpF
  dsimp only
  generalize Lib.compareInt (h1 : Int) (h2 : Int) = r at hcon ⊢
  unfold fndC
  dsimp only
  go_enter Tryz.func70, Tryz.ntmps70
  go_wp2_with (go_at_call 71; refine (hcon _).mono ?_; rintro e w' ⟨rfl, rfl⟩)
  go_ret
  exact ⟨rfl, 0, _, by rw [alloc_eq_grow, alloc_eq_grow, grow_grow]; rfl⟩
/-- What the sort leaves. -/
def Sorted (s : List Ent) : Prop := s.Pairwise (fun x y => x.1.head ≤ y.1.head)
theorem get!_of {α : Type} [Inhabited α] (l : List α) (i : Nat) (h : i < l.length) : l.toArray[i]! = l[i] := by
  rw [getElem!_pos l.toArray i (by simpa using h)]; simp
instance : Inhabited Ent := ⟨(⟨[], 0, 0, 0, 0, 0⟩, 0, 0)⟩
theorem holds_of_ows {w : World} {base gl n c : Nat} {l : List Ent} (h : OwS fndL 8 w base 133 (.slice (some ⟨gl, 0, none⟩) n c) l) : HoldsK fndL 8 w gl 0 l.toArray := by
  intro j hj
  have hj' : j < l.length * 8 := by simpa using hj
  have hq : j / 8 < l.length := by omega
  refine ⟨?_, by rw [Nat.zero_add]; exact h.frz j⟩
  rw [get_flatK _ _ _ _ (by simpa using hj'), get!_of l _ hq]
  have hu : (fndL l[j / 8])[j % 8]? = some ((fndL l[j / 8])[j % 8]!) := by
    have hl : j % 8 < (fndL l[j / 8]).length := by rw [fndCels.len]; omega
    rw [getElem!_pos (fndL l[j / 8]) (j % 8) hl, List.getElem?_eq_getElem hl]
  have := h.cell fndCels (k := j / 8) (j := j % 8) (List.getElem?_eq_getElem hq) hu
  rw [show j / 8 * 8 + j % 8 = 0 + j by omega] at this
  exact this
/-- The sorted row's cells. -/
def RowOf (w : World) (gl : Nat) (s : List Ent) : Prop := ∀ k j x u, s[k]? = some x → (fndL x)[j]? = some u → w.cell? ⟨gl, k * 8 + j, none⟩ = some u
theorem rowOf_holds {w : World} {gl : Nat} {d : Array Ent} (h : HoldsK fndL 8 w gl 0 d) : RowOf w gl d.toList := by
  intro k j x u hx hu
  have hk : k < d.size := by simpa using (List.getElem?_eq_some_iff.1 hx).1
  have hj : j < 8 := by rw [← fndCels.len x]; exact (List.getElem?_eq_some_iff.1 hu).1
  have := (h (k * 8 + j) (by simp; omega)).1
  rw [get_flatK _ _ _ _ (by omega), show (k * 8 + j) / 8 = k by omega, show (k * 8 + j) % 8 = j by omega, Nat.zero_add] at this
  rw [this]
  have hx' : d[k]! = x := by
    rw [getElem!_pos d k hk]
    rw [List.getElem?_eq_getElem (by simpa using hk)] at hx
    simpa using hx
  rw [hx', getElem!_pos (fndL x) j (List.getElem?_eq_some_iff.1 hu).1]
  rw [List.getElem?_eq_getElem (List.getElem?_eq_some_iff.1 hu).1] at hu
  exact hu
theorem sorted_of {d : Array Ent} {n : Nat} (hn : d.size = n) (h : SortedIn (ltOf cmpF) 0 n d) : Sorted d.toList := by
  unfold Sorted
  rw [List.pairwise_iff_getElem]
  intro i j hi hj hij
  have := h i j (Nat.zero_le _) hij (by rw [← hn]; simpa using hj)
  rw [ltHead, getElem!_pos d i (by simpa using hi), getElem!_pos d j (by simpa using hj)] at this
  simp at this
  simpa using this
theorem perm_of {d : Array Ent} {l : List Ent} (h : PermIn 0 l.toArray.size l.toArray d) : d.toList.Perm l := by
  obtain ⟨h1, _, h3⟩ := h
  have e1 : d.extract 0 l.toArray.size = d := by
    have := h1.symm; simp at this
    rw [← h1]; simp
  rw [e1] at h3
  simpa using h3
theorem sort_any (gl n c base : Nat) (l : List Ent) (w : World) (hl : OwS fndL 8 w base 133 (.slice (some ⟨gl, 0, none⟩) n c) l) (hn : l.length = n) (hz : n ≤ 100000) :
    Calls Tryz.prog 69 #[.slice (some ⟨gl, 0, none⟩) n c, .func (.func 70) #[] #[]] w fun e w' =>
      e = .returned (.tuple #[]) ∧ w.grownBy w' (some gl) ∧ ∃ s : List Ent, s.Perm l ∧ Sorted s ∧ RowOf w' gl s := by
  have hblk := (hl.blk rfl).2
  have hH := holds_of_ows hl
  have eg : ∀ args w, (callFunc 70 args).run Tryz.prog w = .ok (.enter 70 args) w := enters_of Tryz.func70 (by kernel_rfl) rfl
  have hcmp : CmpLays Tryz.prog 70 #[] fndL 8 cmpF gl 0 l.toArray.size w := fun _ _ _ _ x y => cmp_closure x y _
  have hcon := AnyQ.slices_SortFunc Tryz.sortFound 8 Tryz.isAgg133 Tryz.sizeOf133 fndL fndCels.len fndCels.one cmpF swoHead 70 #[] gl 0 c l.toArray w eg hcmp hH hblk (by simp; omega)
  change Calls Tryz.prog 69 _ _ _ at hcon
  rw [show l.toArray.size = n by simpa using hn] at hcon
  refine hcon.mono ?_
  rintro e w' ⟨rfl, d, q, os, hp, hs, rfl⟩
  have hsz : d.size = n := by rw [hp.1]; simpa using hn
  refine ⟨rfl, ?_, d.toList, perm_of (by rw [show l.toArray.size = n by simpa using hn]; exact hp), sorted_of hsz hs, rowOf_holds (holdsK_sortWorldK_c fndL 8 w gl 0 l.toArray d q os hH hblk (by rw [hsz]; simp [hn]))⟩
  refine ⟨rfl, rfl, rfl, size_sortWorldK_c fndL 8 w gl 0 q d os, fun k hk hne => ?_⟩
  have hne' : ¬ gl = k := fun e => hne (by rw [e])
  unfold sortWorldK putRowK putRow
  rw [heap_grow_old _ os (by simpa [mapBlock, Sort.ahead] using hk)]
  simp [mapBlock, Sort.ahead, Array.getElem?_modify, hne']
theorem sort_both (A : Option Addr) (n c base : Nat) (l : List Ent) (w : World) (hl : OwS fndL 8 w base 133 (.slice A n c) l) (hn : l.length = n) (hz : n ≤ 100000) :
    Calls Tryz.prog 69 #[.slice A n c, .func (.func 70) #[] #[]] w fun e w' =>
      e = .returned (.tuple #[]) ∧ Below base w w' ∧ (∃ row : Option Nat, w.grownBy w' row ∧ ∀ g, row = some g → A = some ⟨g, 0, none⟩) ∧ ∃ s : List Ent, s.Perm l ∧ Sorted s ∧ ∀ gl, A = some ⟨gl, 0, none⟩ → RowOf w' gl s := by
  rcases Nat.eq_zero_or_pos n with h0 | h0
  · subst h0
    have hl0 : l = [] := List.eq_nil_of_length_eq_zero hn
    subst hl0
    have hcon := AnyF.slices_SortFunc_none Tryz.sortFound A c (.func (.func 70) #[] #[]) w
    change Calls Tryz.prog 69 _ _ _ at hcon
    refine hcon.mono ?_
    rintro e w' ⟨rfl, rfl⟩
    exact ⟨rfl, RowKit.Below.refl _ _, ⟨none, gb_below (RowKit.Below.refl _ _) _, fun _ h => by cases h⟩, [], List.Perm.refl _, List.Pairwise.nil, fun _ _ _ _ _ _ h => by simp at h⟩
  · obtain ⟨gl, cc, hv, hb, _⟩ := hl.form (by omega)
    injection hv with hv1 hv2 hv3
    subst hv1
    refine (sort_any gl n c base l w hl hn hz).mono ?_
    rintro e w' ⟨rfl, hg, s, hp, hs, hr⟩
    exact ⟨rfl, gb_low hg hb (hl.blk rfl).2, ⟨some gl, hg, fun g h => by injection h with h; rw [h]⟩, s, hp, hs, fun q hq => by injection hq with hq; injection hq with hq; subst hq; exact hr⟩
end Go.Proofs.YtlmcpkomjofcgaaGreatDoor
namespace Go.Proofs.YtlmcpkomjofcgaaGreatDoor
open Go.RowKit

theorem ext_one (q s : ByteArray) (k : Nat) (h : k < s.size) : (q ++ s.extract k (k + 1)).data.toList = q.data.toList ++ [s[k]] := by
  rw [ByteArray.data_append, Array.toList_append, ByteArray.data_extract, Array.toList_extract, List.extract_eq_take_drop, List.drop_eq_getElem_cons (by exact h)]
  simp; rfl
theorem neq_t {x : UInt8} {z : Int} {c : Nat} (hz : z = (c : Int)) (hc : c < 256) (h : ¬ x = UInt8.ofNat c) : ((x.toNat : Int) != z) = true := by
  rw [bne_iff_ne]
  intro e
  apply h
  apply UInt8.toNat_inj.1
  have : (UInt8.ofNat c).toNat = c := by simp [UInt8.toNat_ofNat']; omega
  omega
theorem neq_f {x : UInt8} {z : Int} {c : Nat} (hz : z = (c : Int)) (hc : c < 256) (h : x = UInt8.ofNat c) : ((x.toNat : Int) != z) = false := by
  have : (UInt8.ofNat c).toNat = c := by simp [UInt8.toNat_ofNat']; omega
  rw [bne_eq_false_iff_eq, h, this, hz]
theorem beq_t {x : UInt8} {z : Int} {c : Nat} (hz : z = (c : Int)) (hc : c < 256) (h : x = UInt8.ofNat c) : ((x.toNat : Int) == z) = true := by
  have : (UInt8.ofNat c).toNat = c := by simp [UInt8.toNat_ofNat']; omega
  rw [beq_iff_eq, h, this, hz]
theorem beq_f {x : UInt8} {z : Int} {c : Nat} (hz : z = (c : Int)) (hc : c < 256) (h : ¬ x = UInt8.ofNat c) : ((x.toNat : Int) == z) = false := by
  have := neq_t hz hc h
  rw [bne_iff_ne] at this
  rw [beq_eq_false_iff_ne]; exact this
/-- What is still to be answered at sign k, the part being q. -/
def NmR (R : Bool) (l q : List UInt8) (k : Nat) : Prop := (k ≤ l.length ∧ R = nmF q (l.drop k)) ∨ (k = l.length + 1 ∧ R = true)
set_option maxHeartbeats 2000000 in
theorem rname_any (s : ByteArray) (w : World) (hs : s.size ≤ 140737488351232) :
    Calls Tryz.prog 55 #[.string s] w fun e w' => e = .returned (.bool (nameA s.data.toList)) ∧ Below w.heap.size w w' := by
  rw [nameA_nmF]
  by_cases he : s.data.toList = []
  · have h2 := size_zero he
    rw [he]
    clear he
    go_enter Tryz.func55, Tryz.ntmps55
    go_wp2
    go_ret
    exact ⟨rfl, Below.refl _ _⟩
  have hem : s.data.toList.isEmpty = false := by rw [List.isEmpty_eq_false_iff]; exact he
  have h0 := size_pos he
  rw [hem]
  by_cases hl : 64 < s.size
  · have hd : decide (s.data.toList.length ≤ 64) = false := by rw [size_len]; simp; omega
    rw [hd]
    clear he hem hd
    go_enter Tryz.func55, Tryz.ntmps55
    go_wp2
    go_ret
    exact ⟨rfl, Below.refl _ _⟩
  have hd : decide (s.data.toList.length ≤ 64) = true := by rw [size_len]; simp; omega
  rw [hd]
  obtain ⟨R, hR⟩ : ∃ R, nmF [] s.data.toList = R := ⟨_, rfl⟩
  rw [hR]
  have HF : Bx (R = true → ¬ s[0] = 47) := bx (fun h => by
    rw [← hR, show s.data.toList = s[0] :: s.data.toList.drop 1 by
      exact List.drop_eq_getElem_cons (l := s.data.toList) (i := 0) h0] at h
    exact nmF_first h)
  have HR0 : Bx (NmR R s.data.toList [] 0) := bx (.inl ⟨by omega, by rw [← hR]; rfl⟩)
  have hl1 : ¬ (s.size : Int) < 1 := by omega
  have hl2 : ¬ (64 : Int) < (s.size : Int) := by omega
  clear he hem hd hR
  go_enter Tryz.func55, Tryz.ntmps55
  go_wp2
  go_loop [3, 4] (fun v i => ∃ (k : Nat) (q : ByteArray), k ≤ s.size + 1 ∧ q.size ≤ k ∧ i = .int .i64 (k : Int) ∧ v = .string q ∧ Bx (NmR R s.data.toList q.data.toList k)) (fun _ i => s.size + 1 - (intOf i).toNat)
  case atStart => exact ⟨0, ⟨#[]⟩, by omega, by decide, rfl, rfl, HR0⟩
  case round =>
    obtain ⟨k, q, hk, hqk, rfl, rfl, HN⟩ := hrel
    by_cases hk1 : k = s.size + 1
    · have HRT : Bx (R = true) := bx (by
        rcases HN.out with ⟨h, _⟩ | ⟨_, h⟩
        · rw [size_len] at h; omega
        · exact h)
      have hb := neq_t (x := s[0]) (z := 47) (c := 47) rfl (by decide) (HF.out HRT.out)
      have hkk : ¬ (k : Int) ≤ (s.size : Int) := by omega
      clear hk1 HN HF
      go_wp2
      go_ret
      exact ⟨ret_bool (by rw [HRT.out]), Below.refl _ _⟩
    have hkk : (k : Int) ≤ (s.size : Int) := by omega
    have HRE : Bx (R = nmF q.data.toList (s.data.toList.drop k)) := bx (by
      rcases HN.out with ⟨_, h⟩ | ⟨h, _⟩
      · exact h
      · rw [size_len] at h; omega)
    have fail : R = false → Bx (Ending.returned (.bool false) = Ending.returned (.bool (!false && true && R))) := fun h => bx (by rw [h]; rfl)
    clear HN
    by_cases hks : k < s.size
    · have hdr : s.data.toList.drop k = s[k] :: s.data.toList.drop (k + 1) := List.drop_eq_getElem_cons (l := s.data.toList) (i := k) hks
      have hre := HRE.out
      rw [hdr, nmF] at hre
      have hks' : (k : Int) < (s.size : Int) := by omega
      by_cases hc : s[k] = 47
      · have d1 := neq_f (x := s[k]) (z := 47) (c := 47) rfl (by decide) hc
        rw [if_pos hc] at hre
        by_cases e1 : q.data.toList = [46]
        · have HX := fail (by rw [hre, e1]; rfl)
          have t1 := tl_eq e1
          clear fail hre hc hdr e1
          go_wp2
          go_ret
          exact ⟨HX.out, Below.refl _ _⟩
        have t1 := tl_ne e1
        by_cases e2 : q.data.toList = [46, 46]
        · have HX := fail (by rw [hre, e2]; rfl)
          have t2 := tl_eq e2
          clear fail hre hc hdr e1 e2
          go_wp2
          go_ret
          exact ⟨HX.out, Below.refl _ _⟩
        have t2 := tl_ne e2
        by_cases e3 : q.data.toList = []
        · have HX := fail (by rw [hre, e3]; simp)
          have t3 := tl_none e3
          clear fail hre hc hdr e1 e2 e3
          go_wp2
          go_ret
          exact ⟨HX.out, Below.refl _ _⟩
        · have t3 := tl_some e3
          have HX : Bx (NmR R s.data.toList [] (k + 1)) := bx (.inl ⟨by rw [size_len]; omega, by
            rw [hre]; unfold partOk
            rw [show (q.data.toList == [46]) = false by simpa using e1, show (q.data.toList == [46, 46]) = false by simpa using e2, show q.data.toList.isEmpty = false by rw [List.isEmpty_eq_false_iff]; exact e3]; rfl⟩)
          clear fail hre hc hdr e1 e2 e3
          go_wp2
          go_round
          case rel => exact ⟨k + 1, ⟨#[]⟩, by omega, Nat.zero_le _, by go_num, rfl, HX⟩
          case measure => simp [intOf]; omega
      · have d1 := neq_t (x := s[k]) (z := 47) (c := 47) rfl (by decide) hc
        rw [if_neg hc] at hre
        by_cases e0 : s[k] = 0
        · have d2 := beq_t (x := s[k]) (z := 0) (c := 0) rfl (by decide) e0
          have HX := fail (by rw [hre, if_pos (.inl e0)])
          clear fail hre hc hdr e0
          go_wp2
          go_ret
          exact ⟨HX.out, Below.refl _ _⟩
        have d2 := beq_f (x := s[k]) (z := 0) (c := 0) rfl (by decide) e0
        by_cases e9 : s[k] = 92
        · have d3 := beq_t (x := s[k]) (z := 92) (c := 92) rfl (by decide) e9
          have HX := fail (by rw [hre, if_pos (.inr e9)])
          clear fail hre hc hdr e0 e9
          go_wp2
          go_ret
          exact ⟨HX.out, Below.refl _ _⟩
        have d3 := beq_f (x := s[k]) (z := 92) (c := 92) rfl (by decide) e9
        rw [if_neg (by rintro (h | h); exact e0 h; exact e9 h)] at hre
        have HX : Bx (NmR R s.data.toList (q ++ s.extract k (k + 1)).data.toList (k + 1)) := bx (.inl ⟨by rw [size_len]; omega, by rw [hre, ext_one q s k hks]⟩)
        have HSZ : Bx ((q ++ s.extract k (k + 1)).size ≤ k + 1) := bx (by rw [ByteArray.size_append, ByteArray.size_extract]; omega)
        clear fail hre hc hdr e0 e9
        go_wp2
        go_round
        case rel => exact ⟨k + 1, _, by omega, HSZ.out, by go_num, rfl, HX⟩
        case measure => simp [intOf]; omega
    · have hkn : k = s.size := by omega
      have hre := HRE.out
      rw [List.drop_eq_nil_of_le (by rw [size_len]; omega), nmF] at hre
      have hks' : ¬ (k : Int) < (s.size : Int) := by omega
      have hk0 : ((k : Int) == 0) = false := by rw [beq_eq_false_iff_ne]; omega
      by_cases e1 : q.data.toList = [46]
      · have HX := fail (by rw [hre, e1]; rfl)
        have t1 := tl_eq e1
        clear fail hre e1 hkn
        go_wp2
        go_ret
        exact ⟨HX.out, Below.refl _ _⟩
      have t1 := tl_ne e1
      by_cases e2 : q.data.toList = [46, 46]
      · have HX := fail (by rw [hre, e2]; rfl)
        have t2 := tl_eq e2
        clear fail hre e1 e2 hkn
        go_wp2
        go_ret
        exact ⟨HX.out, Below.refl _ _⟩
      have t2 := tl_ne e2
      have HX : Bx (NmR R s.data.toList [] (k + 1)) := bx (.inr ⟨by rw [size_len, hkn], by
        rw [hre]; unfold partOk
        rw [show (q.data.toList == [46]) = false by simpa using e1, show (q.data.toList == [46, 46]) = false by simpa using e2]; rfl⟩)
      by_cases e3 : q.data.toList = []
      · have t3 := tl_none e3
        clear fail hre e1 e2 e3 hkn
        go_wp2
        go_round
        case rel => exact ⟨k + 1, ⟨#[]⟩, by omega, Nat.zero_le _, by go_num, rfl, HX⟩
        case measure => simp [intOf]; omega
      · have t3 := tl_some e3
        clear fail hre e1 e2 e3 hkn
        go_wp2
        go_round
        case rel => exact ⟨k + 1, ⟨#[]⟩, by omega, Nat.zero_le _, by go_num, rfl, HX⟩
        case measure => simp [intOf]; omega
end Go.Proofs.YtlmcpkomjofcgaaGreatDoor
namespace Go.Proofs.YtlmcpkomjofcgaaGreatDoor
open Go.RowKit

theorem num64_leN {s : List UInt8} (h : s.length ≤ 4) : num64 s.reverse = (leN s : Int) := by
  have hlt : leN s < 256 ^ 4 := leN_lt_of _ h
  have p4 : (256 : Nat) ^ 4 = 4294967296 := by decide
  rw [num64_eq, beN_eq, List.reverse_reverse]
  exact IntWalk.wrap64_in _ ⟨by omega, by rw [p4] at hlt; omega⟩
set_option maxHeartbeats 1000000 in
theorem rnum_ok (A : Option Addr) (n c p k : Nat) (b : List UInt8) (w : World) (hn : b.length = n) (hnc : n ≤ c) (hc : (c : Int) ≤ 9223372036854775807) (h1 : 1 ≤ k) (h2 : k ≤ 4) (hp : p + k ≤ n) (hr : RB w w.heap.size A b) :
    Calls Tryz.prog 38 #[.slice A n c, .int .i64 (p : Int), .int .i64 (k : Int)] w fun e w' => e = .returned (.int .i64 (numA b p k : Int)) ∧ Below w.heap.size w w' := by
  have hlk := refLittle_ok A c p k w b n hn (by omega) hc h1 (by omega) (by omega) hr
  have e : num64 ((b.drop p).take k).reverse = (numA b p k : Int) := num64_leN (by simp; omega)
  rw [e] at hlk
  have HK := bx hlk
  clear hlk e hn hr
  go_enter Tryz.func38, Tryz.ntmps38
  go_wp2_with fail
  refine HK.out.mono ?_
  rintro e w1 ⟨rfl, hb⟩
  go_wp2
  go_ret
  exact ⟨rfl, hb⟩
set_option maxHeartbeats 2000000 in
theorem rsign_ok (A : Option Addr) (n c p : Nat) (b : List UInt8) (x y : UInt8) (xi yi : Int) (w : World) (hx : xi = (x.toNat : Int)) (hy : yi = (y.toNat : Int)) (hn : b.length = n) (hz : n ≤ 1000000000) (hp : p + 4 ≤ n) (hr : RB w w.heap.size A b) :
    Calls Tryz.prog 53 #[.slice A n c, .int .i64 (p : Int), .int .u8 xi, .int .u8 yi] w fun e w' => e = .returned (.bool (signA b p x y)) ∧ w' = w := by
  obtain ⟨ad, a0, rfl, hb0, hx0, c0⟩ := hr.byte (k := p) (by omega)
  obtain ⟨ad1, a1, hA1, hb1, hx1, c1⟩ := hr.byte (k := p + 1) (by omega)
  injection hA1 with hA1; subst hA1
  obtain ⟨ad2, a2, hA2, hb2, hx2, c2⟩ := hr.byte (k := p + 2) (by omega)
  injection hA2 with hA2; subst hA2
  obtain ⟨ad3, a3, hA3, hb3, hx3, c3⟩ := hr.byte (k := p + 3) (by omega)
  injection hA3 with hA3; subst hA3
  rw [signA_get hx0.out hx1.out hx2.out hx3.out]
  have t0 := u8_beq a0 80 (z := 80) rfl
  have t1 := u8_beq a1 75 (z := 75) rfl
  have t2 := u8_beq a2 x hx
  have t3 := u8_beq a3 y hy
  rw [show ad.add (p + 1) = ⟨ad.block, ad.off + (p + 1), none⟩ from add_pos ad p] at c1
  rw [show ad.add (p + 2) = ⟨ad.block, ad.off + (p + 2), none⟩ from add_pos ad (p + 1)] at c2
  rw [show ad.add (p + 3) = ⟨ad.block, ad.off + (p + 3), none⟩ from add_pos ad (p + 2)] at c3
  have e1 : ((p : Int) + 1).toNat = p + 1 := by omega
  have e2 : ((p : Int) + 2).toNat = p + 2 := by omega
  have e3 : ((p : Int) + 3).toNat = p + 3 := by omega
  clear hr hx0 hx1 hx2 hx3 hx hy hn
  by_cases h0 : a0 = 80
  · rw [decide_eq_true h0] at t0
    by_cases h1 : a1 = 75
    · rw [decide_eq_true h1] at t1
      by_cases h2 : a2 = x
      · rw [decide_eq_true h2] at t2
        have HD : Bx (decide (a0 = 80 ∧ a1 = 75 ∧ a2 = x ∧ a3 = y) = decide (a3 = y)) := bx (by simp [h0, h1, h2])
        rw [HD.out]
        clear h0 h1 h2 HD
        go_enter Tryz.func53, Tryz.ntmps53
        go_wp2
        go_ret
        exact ⟨ret_v (by rw [← t3]; rfl), rfl⟩
      · rw [decide_eq_false h2] at t2
        have HD : Bx (decide (a0 = 80 ∧ a1 = 75 ∧ a2 = x ∧ a3 = y) = false) := bx (by simp [h2])
        rw [HD.out]
        clear h0 h1 h2 HD
        go_enter Tryz.func53, Tryz.ntmps53
        go_wp2
        go_ret
        exact ⟨rfl, rfl⟩
    · rw [decide_eq_false h1] at t1
      have HD : Bx (decide (a0 = 80 ∧ a1 = 75 ∧ a2 = x ∧ a3 = y) = false) := bx (by simp [h1])
      rw [HD.out]
      clear h0 h1 HD
      go_enter Tryz.func53, Tryz.ntmps53
      go_wp2
      go_ret
      exact ⟨rfl, rfl⟩
  · rw [decide_eq_false h0] at t0
    have HD : Bx (decide (a0 = 80 ∧ a1 = 75 ∧ a2 = x ∧ a3 = y) = false) := bx (by simp [h0])
    rw [HD.out]
    clear h0 HD
    go_enter Tryz.func53, Tryz.ntmps53
    go_wp2
    go_ret
    exact ⟨rfl, rfl⟩
/-! Where the end record stands. -/
set_option maxHeartbeats 2000000 in
theorem rend_any (A : Option Addr) (n c : Nat) (b : List UInt8) (w : World) (hn : b.length = n) (hz : n ≤ 1000000000) (hnc : n ≤ c) (hc : (c : Int) ≤ 9223372036854775807) (hr : RB w w.heap.size A b) :
    Calls Tryz.prog 37 #[.slice A n c] w fun e w' => e = .returned (.int .i64 (endI b)) ∧ Below w.heap.size w w' := by
  have HN := bx hn
  obtain ⟨R, hR⟩ : ∃ R, endI b = R := ⟨_, rfl⟩
  rw [hR]
  have HR := bx hR
  clear hn hR
  go_enter Tryz.func37, Tryz.ntmps37
  go_wp2
  go_loopw [3, 4] (fun v i wr => ∃ (k : Nat) (z : Int), k ≤ n - 21 ∧ i = .int .i64 (k : Int) ∧ v = .int .i64 z ∧ Bx (EndSt b k z) ∧ Below w.heap.size w wr) (fun _ i _ => n - (intOf i).toNat)
  case atStart => exact ⟨0, -1, by omega, rfl, rfl, bx (.inl ⟨rfl, fun j hj => absurd hj (by omega)⟩), Below.refl _ _⟩
  case round =>
    obtain ⟨k, z, hk, rfl, rfl, HE, hb⟩ := hrel
    have hsz := hb.size
    by_cases hk0 : k + 22 ≤ n
    · have hkI : (k : Int) + 22 ≤ (n : Int) := by omega
      have hrr : RB wr wr.heap.size A b := (RL.below hr hb (Nat.le_refl _)).more hsz
      have hsg := rsign_ok A n c k b 5 6 5 6 wr rfl rfl HN.out hz (by omega) hrr
      have hnm := rnum_ok A n c (k + 20) 2 b wr HN.out hnc hc (by omega) (by omega) (by omega) hrr
      rw [show ((k + 20 : Nat) : Int) = (k : Int) + 20 by omega] at hnm
      obtain ⟨sg, hs⟩ : ∃ sg, signA b k 5 6 = sg := ⟨_, rfl⟩
      obtain ⟨N, hN⟩ : ∃ N, numA b (k + 20) 2 = N := ⟨_, rfl⟩
      rw [hs] at hsg
      rw [hN] at hnm
      have HD : Bx (endA b k = (sg && decide (N = n - k - 22))) := bx (by unfold endA; rw [hs, hN, HN.out])
      have HSG := bx hsg
      have HNM := bx hnm
      clear hsg hnm hs hN hrr hr
      cases sg
      case false =>
        have HX := bx (HE.out.skip HD.out)
        go_wp2_with fail
        refine HSG.out.mono ?_
        rintro e w1 ⟨rfl, rfl⟩
        go_wp2
        go_roundw
        case rel => exact ⟨k + 1, z, by omega, by go_num, rfl, HX, hb⟩
        case measure => simp [intOf]; omega
      case true =>
        by_cases hNk : N = n - k - 22
        · have hNI : ((N : Int) == (n : Int) - (k : Int) - 22) = true := by rw [beq_iff_eq]; omega
          have hEA : endA b k = true := by rw [HD.out, decide_eq_true hNk]; rfl
          by_cases hz0 : 0 ≤ z
          · have HX : Bx (R = -1) := bx (by rw [← HR.out]; exact HE.out.two hz0 hEA (by rw [HN.out]; omega))
            clear hNk hEA
            go_wp2_with fail
            refine HSG.out.mono ?_
            rintro e w1 ⟨rfl, rfl⟩
            go_wp2_with fail
            refine HNM.out.mono ?_
            rintro e w2 ⟨rfl, hb2⟩
            go_wp2
            go_ret
            exact ⟨ret_v (by rw [HX.out]; rfl), hb.trans (hb2.mono hsz)⟩
          · have HX := bx (HE.out.hit (by omega) hEA)
            clear hNk hEA
            go_wp2_with fail
            refine HSG.out.mono ?_
            rintro e w1 ⟨rfl, rfl⟩
            go_wp2_with fail
            refine HNM.out.mono ?_
            rintro e w2 ⟨rfl, hb2⟩
            go_wp2
            go_roundw
            case rel => exact ⟨k + 1, _, by omega, by go_num, rfl, HX, hb.trans (hb2.mono hsz)⟩
            case measure => simp [intOf]; omega
        · have hNI : ((N : Int) == (n : Int) - (k : Int) - 22) = false := by rw [beq_eq_false_iff_ne]; omega
          have HX := bx (HE.out.skip (by rw [HD.out, decide_eq_false hNk]; rfl))
          clear hNk
          go_wp2_with fail
          refine HSG.out.mono ?_
          rintro e w1 ⟨rfl, rfl⟩
          go_wp2_with fail
          refine HNM.out.mono ?_
          rintro e w2 ⟨rfl, hb2⟩
          go_wp2
          go_roundw
          case rel => exact ⟨k + 1, z, by omega, by go_num, rfl, HX, hb.trans (hb2.mono hsz)⟩
          case measure => simp [intOf]; omega
    · have HX : Bx (R = z) := bx (by
        have hkn : k = b.length - 21 := by rw [HN.out]; omega
        rw [← HR.out]
        exact (EndSt.fin (by rw [← hkn]; exact HE.out)).symm)
      have hkI : ¬ (k : Int) + 22 ≤ (n : Int) := by omega
      go_wp2
      go_ret
      exact ⟨ret_v (by rw [HX.out]; rfl), hb⟩
end Go.Proofs.YtlmcpkomjofcgaaGreatDoor
