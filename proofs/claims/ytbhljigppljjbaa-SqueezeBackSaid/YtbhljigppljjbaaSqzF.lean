/- Three bytes as a key. -/
import Derived.Test.YtbhljigppljjbaaSqzE
namespace Go.Proofs.Ytbhljigppljjbaa
open Go.RowKit

/-- Three bytes. -/
abbrev Tri := UInt8 × UInt8 × UInt8
def triV (x : Tri) : Value := .agg #[bV x.1, bV x.2.1, bV x.2.2]
def Tri.list (x : Tri) : List UInt8 := [x.1, x.2.1, x.2.2]
def triB (b : List UInt8) (i : Nat) : Tri := (b.getD i 0, b.getD (i + 1) 0, b.getD (i + 2) 0)
theorem triB_list {b : List UInt8} {i : Nat} (h : i + 3 ≤ b.length) : (triB b i).list = keyB b i := by
  unfold triB Tri.list keyB
  apply List.ext_getElem?
  intro j
  rw [List.getElem?_take, List.getElem?_drop]
  rcases j with _ | _ | _ | j
  · rw [if_pos (by omega), List.getD_eq_getElem?_getD, List.getElem?_eq_getElem (by omega : i < b.length)]; simp
  · rw [if_pos (by omega), List.getElem?_eq_getElem (by omega : i + 1 < b.length)]; simp [List.getElem?_eq_getElem (by omega : i + 1 < b.length)]
  · rw [if_pos (by omega), List.getElem?_eq_getElem (by omega : i + 2 < b.length)]; simp [List.getElem?_eq_getElem (by omega : i + 2 < b.length)]
  · rw [if_neg (by omega)]; simp
theorem Tri.list_inj {x y : Tri} (h : x.list = y.list) : x = y := by
  unfold Tri.list at h
  simp only [List.cons.injEq, and_true] at h
  exact Prod.ext h.1 (Prod.ext h.2.1 h.2.2)
theorem tri_inj (x y : Tri) (h : triV x = triV y) : x = y := by
  unfold triV bV at h
  simp only [Value.agg.injEq, Array.mk.injEq, List.cons.injEq, Value.int.injEq, and_true, true_and] at h
  have e : ∀ {p q : UInt8}, (p.toNat : Int) = (q.toNat : Int) → p = q := fun h => UInt8.toNat_inj.1 (by omega)
  exact Prod.ext (e h.1) (Prod.ext (e h.2.1) (e h.2.2))
theorem triLaw : WideMaps.KeyLaw Try.prog 76 := deep_law_laid laidOut (m := 2) (by omega) (of_decide_eq_true (by kernel_rfl)) (by kernel_rfl) (by rw [Try.underlying76])
theorem triK : Maps.Keyed Try.prog 76 := Maps.Keyed.of_law triLaw
theorem tri_key (x : Tri) : ∃ kl, keyOf Try.prog 76 (triV x) = some kl := by
  have hk : Try.prog.keyType 76 = true := by kernel_rfl
  have hc : Try.prog.cellsOf 76 = 3 := by kernel_rfl
  have hc1 : Try.prog.cellsOf 5 = 1 := by kernel_rfl
  have hpos : 0 < Try.prog.types.size := of_decide_eq_true (by kernel_rfl)
  obtain ⟨m, hm⟩ : ∃ m, Try.prog.types.size = m + 1 := ⟨Try.prog.types.size - 1, by omega⟩
  have hw : ∀ y : UInt8, (Lit.int .u8 (y.toNat : Int)).wf = true := fun y => by
    have := y.toNat_lt
    simp [Lit.wf, show IntKind.u8.min = 0 from rfl, show IntKind.u8.max = 255 from rfl]; omega
  have w1 := hw x.1
  have w2 := hw x.2.1
  have w3 := hw x.2.2
  have hcl : (Value.agg #[.int .u8 (x.1.toNat : Int), .int .u8 (x.2.1.toNat : Int), .int .u8 (x.2.2.toNat : Int)]).cells.toList = [.int .u8 (x.1.toNat : Int), .int .u8 (x.2.1.toNat : Int), .int .u8 (x.2.2.toNat : Int)] := rfl
  unfold keyOf triV bV
  rw [hcl, Try.underlying76]
  simp [hk, Value.formed, Try.underlying76, hc, hm, Program.keyLits, hc1, Try.underlying5, show List.range 3 = [0, 1, 2] from rfl, w1, w2, w3]
/-- What the map of the last places holds ahead of place i. -/
def lastG (b : List UInt8) (i : Nat) (x : Tri) : Option Value := (lastK b i x.list).map fun a => .int .i64 (a : Int)
theorem lastG_succ {b : List UInt8} {i : Nat} (h : i + 3 ≤ b.length) (x : Tri) : lastG b (i + 1) x = if x = triB b i then some (.int .i64 (i : Int)) else lastG b i x := by
  unfold lastG
  rw [lastK]
  by_cases e : x = triB b i
  · rw [if_pos e, if_pos ⟨h, by rw [e, triB_list h]⟩]; rfl
  · rw [if_neg e, if_neg (fun hh => e (Tri.list_inj (by rw [triB_list h]; exact hh.2.symm)))]
theorem lastG_late {b : List UInt8} {i : Nat} (h : ¬ i + 3 ≤ b.length) (x : Tri) : lastG b (i + 1) x = lastG b i x := by
  unfold lastG
  rw [lastK, if_neg (fun hh => h hh.1)]
theorem WrS.start {Av : Nat → Prop} {w : World} {g : Nat} {C D : Value} (h : Bk w g 71 #[.slice none 0 0, .int .i64 0, C, D]) (hg : ¬ Av g) (hA : ∀ k, Av k → k < w.heap.size) : WrS Av w g C D (0, 0) :=
  ⟨.slice none 0 0, h, OwL.nil, fun k (hk : none = some k) => by injection hk, hg, hA, (by show 0 < 2 ^ 0; decide), (by show 0 ≤ 400000; omega)⟩
/-- A block that was made stays too. -/
theorem WrS.wider {Av : Nat → Prop} {w : World} {g : Nat} {C D : Value} {S : Pt} (h : WrS Av w g C D S) (o : Obj) : WrS (fun k => Av k ∨ k = w.heap.size) (w.alloc o) g C D S := by
  obtain ⟨v, h1, h2, h3, h4, h5, h6⟩ := h
  refine ⟨v, h1.alloc o, h2.alloc o, fun k hk => ?_, ?_, ?_, h6⟩
  · rintro (e | e)
    · exact h3 k hk e
    · obtain ⟨A, n, c, rfl, _, _⟩ := OwL.sl h2
      rcases h2.2 with ⟨e2, _⟩ | ⟨gg, cap, cur, e2, _, hh, _⟩
      · rw [e2] at hk; cases hk
      · rw [e2] at hk
        injection hk with hk
        have hk : gg = k := hk
        have : gg < w.heap.size := by
          rcases Nat.lt_or_ge gg w.heap.size with hl | hl
          · exact hl
          · rw [Array.getElem?_eq_none hl] at hh; cases hh
        omega
  · have := h1.lt
    rintro (e | e)
    · exact h4 e
    · omega
  · rintro k (e | e)
    · have := h5 k e; simp; omega
    · simp; omega
theorem toksF_fuel (b : List UInt8) : ∀ f f' i, b.length - i ≤ f → b.length - i ≤ f' → toksF b f i = toksF b f' i := by
  intro f
  induction f with
  | zero =>
    intro f' i h1 h2
    cases f' with
    | zero => rfl
    | succ f' => rw [toksF, toksF, if_neg (by omega)]
  | succ f ih =>
    intro f' i h1 h2
    cases f' with
    | zero => rw [toksF, toksF, if_neg (by omega)]
    | succ f' =>
      rw [toksF, toksF]
      by_cases h : i < b.length
      · rw [if_pos h, if_pos h]
        congr 1
        have hw : 1 ≤ (tokAt b i).wide := by
          unfold tokAt pick
          split
          · split
            · split
              · exact Nat.le_refl _
              · show 1 ≤ matB b i _; omega
            · exact Nat.le_refl _
          · exact Nat.le_refl _
        exact ih f' _ (by omega) (by omega)
      · rw [if_neg h, if_neg h]
theorem toksF_step {b : List UInt8} {i : Nat} (h : i < b.length) : toksF b (b.length - i) i = tokAt b i :: toksF b (b.length - (i + (tokAt b i).wide)) (i + (tokAt b i).wide) := by
  obtain ⟨f, hf⟩ : ∃ f, b.length - i = f + 1 := ⟨b.length - i - 1, by omega⟩
  rw [hf, toksF, if_pos h]
  congr 1
  have hw : 1 ≤ (tokAt b i).wide := by
    unfold tokAt pick
    split
    · split
      · split
        · exact Nat.le_refl _
        · show 1 ≤ matB b i _; omega
      · exact Nat.le_refl _
    · exact Nat.le_refl _
  exact toksF_fuel b _ _ _ (by omega) (by omega)
theorem toksF_done {b : List UInt8} {i : Nat} (h : b.length ≤ i) (f : Nat) : toksF b f i = [] := by
  cases f with
  | zero => rfl
  | succ f => rw [toksF, if_neg (by omega)]
end Go.Proofs.Ytbhljigppljjbaa
