/- Signatures: four bytes as a key. -/
import Derived.Test.YtokojichjliieaaDoorArcQ
import Derived.Test.YtokojichjliieaaDoorMapR
import Derived.Test.YtokojichjliieaaDoorOctLe
import Derived.Test.YtokojichjliieaaDoorOctLr
import Derived.Test.YtokojichjliieaaDoorRow
import Derived.Test.YtokojichjliieaaDoorFrame
import Derived.DeepKeys4
import Derived.BigQuiet
import Derived.Outline
namespace Go.Proofs.YtokojichjliieaaDoor
open Go.RowKit

/-- Four bytes. -/
abbrev Quad := UInt8 × UInt8 × UInt8 × UInt8
def quadV (x : Quad) : Value := .agg #[bV x.1, bV x.2.1, bV x.2.2.1, bV x.2.2.2]
def quadB (b : List UInt8) (i : Nat) : Quad := (b.getD i 0, b.getD (i + 1) 0, b.getD (i + 2) 0, b.getD (i + 3) 0)
theorem quad_inj (x y : Quad) (h : quadV x = quadV y) : x = y := by
  unfold quadV bV at h
  simp only [Value.agg.injEq, Array.mk.injEq, List.cons.injEq, Value.int.injEq, and_true, true_and] at h
  have e : ∀ {p q : UInt8}, (p.toNat : Int) = (q.toNat : Int) → p = q := fun h => UInt8.toNat_inj.1 (by omega)
  exact Prod.ext (e h.1) (Prod.ext (e h.2.1) (Prod.ext (e h.2.2.1) (e h.2.2.2)))

theorem quadLaw : WideMaps.KeyLaw Tryd.prog 79 := deep_law_laid laidOut (m := 2) (by omega) (of_decide_eq_true (by kernel_rfl)) (by kernel_rfl) (by rw [Tryd.underlying79])
theorem quadK : Maps.Keyed Tryd.prog 79 := Maps.Keyed.of_law quadLaw
theorem quad_key (x : Quad) : ∃ kl, keyOf Tryd.prog 79 (quadV x) = some kl := by
  have hk : Tryd.prog.keyType 79 = true := by kernel_rfl
  have hc : Tryd.prog.cellsOf 79 = 4 := by kernel_rfl
  have hc1 : Tryd.prog.cellsOf 5 = 1 := by kernel_rfl
  have hpos : 0 < Tryd.prog.types.size := of_decide_eq_true (by kernel_rfl)
  obtain ⟨m, hm⟩ : ∃ m, Tryd.prog.types.size = m + 1 := ⟨Tryd.prog.types.size - 1, by omega⟩
  have hw : ∀ y : UInt8, (Lit.int .u8 (y.toNat : Int)).wf = true := fun y => by
    have := y.toNat_lt
    simp [Lit.wf, show IntKind.u8.min = 0 from rfl, show IntKind.u8.max = 255 from rfl]; omega
  have w1 := hw x.1
  have w2 := hw x.2.1
  have w3 := hw x.2.2.1
  have w4 := hw x.2.2.2
  have hcl : (Value.agg #[.int .u8 (x.1.toNat : Int), .int .u8 (x.2.1.toNat : Int), .int .u8 (x.2.2.1.toNat : Int), .int .u8 (x.2.2.2.toNat : Int)]).cells.toList = [.int .u8 (x.1.toNat : Int), .int .u8 (x.2.1.toNat : Int), .int .u8 (x.2.2.1.toNat : Int), .int .u8 (x.2.2.2.toNat : Int)] := rfl
  unfold keyOf quadV bV
  rw [hcl, Tryd.underlying79]
  simp [hk, Value.formed, Tryd.underlying79, hc, hm, Program.keyLits, hc1, Tryd.underlying5, show List.range 4 = [0, 1, 2, 3] from rfl, w1, w2, w3, w4]
/-- Which signature begins what. -/
def kindN (x : Quad) : Nat := if x = (80, 75, 3, 4) then 3 else if x = (80, 75, 1, 2) then 2 else if x = (80, 75, 5, 6) then 1 else 0
def kindG (x : Quad) : Option Value := if x = (80, 75, 3, 4) then some (.int .u8 3) else if x = (80, 75, 1, 2) then some (.int .u8 2) else if x = (80, 75, 5, 6) then some (.int .u8 1) else none
theorem kindG_get (x : Quad) : (kindG x).getD (.int .u8 0) = .int .u8 (kindN x : Int) := by
  unfold kindG kindN
  split
  · rfl
  · split
    · rfl
    · split <;> rfl
theorem kindN_is (b : List UInt8) (p : Nat) {what : Nat} {x y : UInt8} (h : (what = 1 ∧ x = 5 ∧ y = 6) ∨ (what = 2 ∧ x = 1 ∧ y = 2) ∨ (what = 3 ∧ x = 3 ∧ y = 4)) : decide (kindN (quadB b p) = what) = signA b p x y := by
  unfold signA kindN quadB
  simp only [Prod.mk.injEq]
  generalize b.getD p 0 = a0
  generalize b.getD (p + 1) 0 = a1
  generalize b.getD (p + 2) 0 = a2
  generalize b.getD (p + 3) 0 = a3
  rw [decide_eq_decide]
  rcases h with ⟨rfl, rfl, rfl⟩ | ⟨rfl, rfl, rfl⟩ | ⟨rfl, rfl, rfl⟩
  · constructor
    · intro h; split at h
      · cases h
      · split at h
        · cases h
        · split at h
          · assumption
          · cases h
    · rintro ⟨rfl, rfl, rfl, rfl⟩; decide
  · constructor
    · intro h; split at h
      · cases h
      · split at h
        · assumption
        · split at h <;> cases h
    · rintro ⟨rfl, rfl, rfl, rfl⟩; decide
  · constructor
    · intro h; split at h
      · assumption
      · split at h
        · cases h
        · split at h <;> cases h
    · rintro ⟨rfl, rfl, rfl, rfl⟩; decide
/-- Four bytes of a row, as an array. -/
theorem run_quad {P : Program} (w : World) (a : Addr) (T e : TypeId) (c : Nat) (ht : P.underlying T = some (.array 4 e)) : (Instr.arrayAt T (.slice (some a) 4 c)).run P w = .ok (.pointer (some a)) w := by
  simp [Instr.arrayAt, run_underlying ht]
theorem quad_cells {b : List UInt8} {w : World} {B : Nat} {ad : Addr} {i : Nat} (h : RB w B (some ad) b) (hi : i + 4 ≤ b.length) : ∀ j, j < 4 → w.cell? ((ad.add i).add j) = some (bV (b.getD (i + j) 0)) := by
  intro j hj
  obtain ⟨ad', x, hA, _, hx, hc⟩ := RL.atl h (k := i + j) (by omega)
  injection hA with hA
  subst hA
  rw [addadd, hc, List.getD_eq_getElem?_getD, hx.out]; rfl
theorem quad_four {b : List UInt8} {w : World} {B : Nat} {ad : Addr} {i : Nat} (h : RB w B (some ad) b) (hi : i + 4 ≤ b.length) {x y z u : Int} (hx : ((quadB b i).1.toNat : Int) = x) (hy : ((quadB b i).2.1.toNat : Int) = y) (hz : ((quadB b i).2.2.1.toNat : Int) = z) (hu : ((quadB b i).2.2.2.toNat : Int) = u) :
    w.cell? (ad.add i) = some (.int .u8 x) ∧ w.cell? ⟨(ad.add i).block, (ad.add i).off + 1, none⟩ = some (.int .u8 y) ∧ w.cell? ⟨(ad.add i).block, (ad.add i).off + 2, none⟩ = some (.int .u8 z) ∧ w.cell? ⟨(ad.add i).block, (ad.add i).off + 3, none⟩ = some (.int .u8 u) := by
  subst hx hy hz hu
  have h0 := quad_cells h hi 0 (by omega)
  have h1 := quad_cells h hi 1 (by omega)
  have h2 := quad_cells h hi 2 (by omega)
  have h3 := quad_cells h hi 3 (by omega)
  rw [addadd] at h0
  rw [add_pos] at h1 h2 h3
  exact ⟨h0, h1, h2, h3⟩
end Go.Proofs.YtokojichjliieaaDoor
