/- Plain facts: units and bytes there and back; descriptors put together. -/
import Derived.Test.YthlplphpikboiaaDoorNameW
import Derived.Test.YthlplphpikboiaaDoorNameM
namespace Go.Proofs.YthlplphpikboiaaDoor
open Go.Lib

theorem unitsGo_len {f : Nat} : ∀ {us vs : List UInt16} {l : List UInt8}, unitsGo f us l = some vs → vs.length ≤ us.length + l.length := by
  induction f with
  | zero => intro us vs l h; cases l with
    | nil => rw [unitsGo_nil] at h; injection h with h; subst h; omega
    | cons a r => cases h
  | succ f ih =>
    intro us vs l h
    cases l with
    | nil => rw [unitsGo_nil] at h; injection h with h; subst h; omega
    | cons a r =>
      simp only [unitsGo] at h
      split at h
      · cases h
      · rename_i v n h3
        have h1 := ih h
        have h2 : 1 ≤ n := by rcases unit3_inv h3 with ⟨h4, _⟩ | ⟨h4, _⟩ | ⟨h4, _⟩ <;> omega
        simp only [List.length_append, List.length_drop, List.length_cons, List.length_nil] at h1 ⊢
        omega
theorem unitsV_len (l : List UInt8) : (unitsV l).1.length ≤ l.length := by
  unfold unitsV
  cases h : unitsB l with
  | none => simp
  | some us => have := unitsGo_len h; simpa using this
/-- The bytes of a unit are read as this unit. -/
theorem unit3_of (x : UInt16) : ∃ (a : UInt8) (t : List UInt8), unitB x = a :: t ∧ ∀ r : List UInt8, unit3 a.toNat (t ++ r)[0]? (t ++ r)[1]? = some (x.toNat, (unitB x).length) := by
  have hx := x.toNat_lt
  have hu := hx
  by_cases h1 : 0 < x.toNat ∧ x.toNat < 128
  · have e : unitB x = [UInt8.ofNat x.toNat] := by unfold unitB; rw [if_pos h1]
    refine ⟨_, [], e, fun r => ?_⟩
    rw [e]
    have hn : (UInt8.ofNat x.toNat).toNat = x.toNat := by rw [UInt8.toNat_ofNat']; omega
    rw [hn]; exact unit3_one h1.1 h1.2
  · by_cases h2 : x.toNat < 2048
    · have e : unitB x = [UInt8.ofNat (192 + x.toNat / 64), UInt8.ofNat (128 + x.toNat % 64)] := by unfold unitB; rw [if_neg h1, if_pos h2]
      refine ⟨_, _, e, fun r => ?_⟩
      rw [e]
      have ha : (UInt8.ofNat (192 + x.toNat / 64)).toNat = 192 + x.toNat / 64 := by rw [UInt8.toNat_ofNat']; omega
      have hb : (UInt8.ofNat (128 + x.toNat % 64)).toNat = 128 + x.toNat % 64 := by rw [UInt8.toNat_ofNat']; omega
      have hv : two (UInt8.ofNat (192 + x.toNat / 64)).toNat (UInt8.ofNat (128 + x.toNat % 64)).toNat = x.toNat := by rw [ha, hb]; unfold two; omega
      have := unit3_two (a := (UInt8.ofNat (192 + x.toNat / 64)).toNat) (b := ([UInt8.ofNat (128 + x.toNat % 64)] ++ r)[0]?) (c := ([UInt8.ofNat (128 + x.toNat % 64)] ++ r)[1]?) (x := UInt8.ofNat (128 + x.toNat % 64)) (by rw [ha]; omega) rfl (by rw [hb]; omega) (by rw [hv]; omega)
      rw [hv] at this; exact this
    · have e : unitB x = [UInt8.ofNat (224 + x.toNat / 4096), UInt8.ofNat (128 + x.toNat / 64 % 64), UInt8.ofNat (128 + x.toNat % 64)] := by unfold unitB; rw [if_neg h1, if_neg h2]
      refine ⟨_, _, e, fun r => ?_⟩
      rw [e]
      have ha : (UInt8.ofNat (224 + x.toNat / 4096)).toNat = 224 + x.toNat / 4096 := by rw [UInt8.toNat_ofNat']; omega
      have hb : (UInt8.ofNat (128 + x.toNat / 64 % 64)).toNat = 128 + x.toNat / 64 % 64 := by rw [UInt8.toNat_ofNat']; omega
      have hc : (UInt8.ofNat (128 + x.toNat % 64)).toNat = 128 + x.toNat % 64 := by rw [UInt8.toNat_ofNat']; omega
      have hv : three (UInt8.ofNat (224 + x.toNat / 4096)).toNat (UInt8.ofNat (128 + x.toNat / 64 % 64)).toNat (UInt8.ofNat (128 + x.toNat % 64)).toNat = x.toNat := by rw [ha, hb, hc]; unfold three; omega
      have := unit3_three (a := (UInt8.ofNat (224 + x.toNat / 4096)).toNat) (b := ([UInt8.ofNat (128 + x.toNat / 64 % 64), UInt8.ofNat (128 + x.toNat % 64)] ++ r)[0]?) (c := ([UInt8.ofNat (128 + x.toNat / 64 % 64), UInt8.ofNat (128 + x.toNat % 64)] ++ r)[1]?) (x := UInt8.ofNat (128 + x.toNat / 64 % 64)) (y := UInt8.ofNat (128 + x.toNat % 64)) (by rw [ha]; omega) rfl rfl (by rw [hb]; omega) (by rw [hc]; omega) (by rw [hv]; omega)
      rw [hv] at this; exact this
theorem unitsGo_text (us : List UInt16) : ∀ (f : Nat) (vs : List UInt16), us.length ≤ f → unitsGo f vs (textB us) = some (vs ++ us) := by
  induction us with
  | nil => intro f vs _; rw [show textB [] = [] from rfl, unitsGo_nil]; simp
  | cons x r ih =>
    intro f vs hf
    obtain ⟨g, rfl⟩ : ∃ g, f = g + 1 := ⟨f - 1, by simp at hf; omega⟩
    obtain ⟨a, t, e, h⟩ := unit3_of x
    have ht : textB (x :: r) = a :: (t ++ textB r) := by
      show unitB x ++ textB r = _
      rw [e]; rfl
    rw [ht]
    simp only [unitsGo]
    rw [h (textB r)]
    simp only
    rw [← ht]
    have hd : (textB (x :: r)).drop (unitB x).length = textB r := by
      show (unitB x ++ textB r).drop _ = _
      simp
    rw [hd, ih g _ (by simpa using hf)]
    simp
theorem textB_len (us : List UInt16) : us.length ≤ (textB us).length ∧ (textB us).length ≤ 3 * us.length := by
  induction us with
  | nil => simp [textB]
  | cons x r ih =>
    have e : textB (x :: r) = unitB x ++ textB r := rfl
    have := unitB_len x
    rw [e, List.length_append, List.length_cons]; omega
theorem units_text (us : List UInt16) : unitsV (textB us) = (us, 0) := by
  refine unitsV_yes ?_
  unfold unitsB
  rw [unitsGo_text us _ [] (textB_len us).1]; simp
theorem unitsGo_back {f : Nat} : ∀ {us vs : List UInt16} {l : List UInt8}, unitsGo f us l = some vs → textB vs = textB us ++ l := by
  induction f with
  | zero => intro us vs l h; cases l with
    | nil => rw [unitsGo_nil] at h; injection h with h; subst h; simp
    | cons a r => cases h
  | succ f ih =>
    intro us vs l h
    cases l with
    | nil => rw [unitsGo_nil] at h; injection h with h; subst h; simp
    | cons a r =>
      simp only [unitsGo] at h
      split at h
      · cases h
      · rename_i v n h3
        have h1 := ih h
        rw [h1, textB_snoc, List.append_assoc]
        congr 1
        have key : unitB (UInt16.ofNat v) = (a :: r).take n := by
          have h3' := h3
          rcases unit3_inv h3 with ⟨rfl, rfl, _⟩ | ⟨rfl, x, hx, rfl, _⟩ | ⟨rfl, x, y, hx, hy, rfl, _⟩
          · exact (hit1 a _ _).2 h3'
          · match r, hx with
            | b :: r', hx =>
              simp at hx; subst hx
              exact (hit2 a b _).2 h3'
          · match r, hx, hy with
            | b :: c :: r', hx, hy =>
              simp at hx hy; subst hx; subst hy
              exact (hit3 a b c).2 h3'
        rw [key, List.take_append_drop]
theorem text_units {l : List UInt8} {us : List UInt16} (h : unitsB l = some us) : textB us = l := by
  have := unitsGo_back h; simpa [textB] using this

/-- What stands behind a descriptor makes no difference. -/
theorem skipB_app {p t : List UInt8} (h : skipB p < p.length) : skipB (p ++ t) = skipB p := by
  induction p with
  | nil => simp at h
  | cons c r ih =>
    simp only [List.cons_append]
    unfold skipB at h ⊢
    split
    · rename_i hc
      rw [if_pos hc] at h
      rw [ih (by simpa using h)]
    · rfl
theorem indexByte_app {p t : List UInt8} {c : UInt8} (h : 0 ≤ indexByte p c) : indexByte (p ++ t) c = indexByte p c := by
  induction p with
  | nil => simp [indexByte] at h
  | cons b r ih =>
    simp only [List.cons_append]
    unfold indexByte at h ⊢
    by_cases hb : (b == c) = true
    · rw [hb]; simp
    · have hb' : (b == c) = false := by simpa using hb
      rw [hb'] at h ⊢
      have hr : 0 ≤ indexByte r c := by
        have hge := indexByte_ge r c
        by_cases h2 : indexByte r c = -1
        · rw [h2] at h; simp at h
        · omega
      rw [ih hr]
theorem headN_app {p t : List UInt8} (h : 0 < headN p) : headN (p ++ t) = headN p := by
  unfold headN at h ⊢
  split at h
  · omega
  · rename_i h8
    split at h
    · omega
    · rename_i c hc
      have hlt := (List.getElem?_eq_some_iff.1 hc).1
      rw [skipB_app hlt, if_neg h8, if_neg h8, List.getElem?_append_left hlt, hc]
      simp only
      split
      · rfl
      · rename_i hp
        rw [if_neg hp] at h
        split at h
        · rename_i h7
          obtain ⟨rfl, h0, hcl⟩ := h7
          have hb := semi_behind hc h0
          rw [indexByte_app h0]
          have e : ((p ++ t).drop (skipB p + 1)).take ((indexByte p 59).toNat - (skipB p + 1)) = (p.drop (skipB p + 1)).take ((indexByte p 59).toNat - (skipB p + 1)) := by
            rw [List.drop_append_of_le_length (by omega), List.take_append_of_le_length (by rw [List.length_drop]; omega)]
          rw [e]
        · omega
theorem headN_bound (l : List UInt8) : headN l ≤ 68 := by
  unfold headN
  split
  · omega
  · split
    · omega
    · rename_i h8 _ c hc
      split
      · omega
      · split
        · rename_i h7
          obtain ⟨rfl, h0, hcl⟩ := h7
          have hb := semi_behind hc h0
          unfold classOk at hcl
          simp only [Bool.and_eq_true, decide_eq_true_eq, List.length_take, List.length_drop] at hcl
          omega
        · omega
theorem descB_iff (p : List UInt8) : descB p = true ↔ 0 < headN p ∧ headN p = p.length := by unfold descB; simp
theorem descB_bound {p : List UInt8} (h : descB p = true) : p.length ≤ 68 := by
  have h1 := (descB_iff p).1 h
  have := headN_bound p; omega
def slotSum (ps : List (List UInt8)) : Int := ps.foldr (fun p k => slotsN p + k) 0
theorem slotSum_snoc (ps : List (List UInt8)) (p : List UInt8) : slotSum (ps ++ [p]) = slotSum ps + slotsN p := by
  induction ps with
  | nil => simp [slotSum]
  | cons q r ih => unfold slotSum at ih ⊢; simp only [List.cons_append, List.foldr_cons]; rw [ih]; omega
theorem slotSum_range (ps : List (List UInt8)) : 0 ≤ slotSum ps ∧ slotSum ps ≤ 2 * ps.length := by
  induction ps with
  | nil => simp [slotSum]
  | cons q r ih => have := slotsN_range q; unfold slotSum at ih ⊢; simp only [List.foldr_cons, List.length_cons]; omega
theorem descB_head {p : List UInt8} (h : descB p = true) : ∃ c t, p = c :: t ∧ ¬ c = 41 := by
  cases p with
  | nil => exact absurd h (by decide)
  | cons c t =>
    refine ⟨c, t, rfl, fun e => ?_⟩
    subst e
    have := ((descB_iff _).1 h).1
    unfold headN skipB at this
    simp [primL] at this
theorem methGo_parts (ps : List (List UInt8)) : ∀ (f : Nat) (qs : List (List UInt8)) (k : Int) (r : List UInt8), (∀ p ∈ ps, descB p = true) → ps.length < f → resB r = true →
    methGo f qs k (ps.flatten ++ 41 :: r) = if k + slotSum ps < 64 then some (qs ++ ps, r) else none := by
  induction ps with
  | nil =>
    intro f qs k r _ hf hr
    obtain ⟨g, rfl⟩ : ∃ g, f = g + 1 := ⟨f - 1, by simp at hf; omega⟩
    simp only [List.flatten_nil, List.nil_append, methGo, if_true, hr, and_true, slotSum, List.foldr_nil, Int.add_zero, List.append_nil]
  | cons p ps ih =>
    intro f qs k r hd hf hr
    obtain ⟨g, rfl⟩ : ∃ g, f = g + 1 := ⟨f - 1, by simp at hf; omega⟩
    have hp := hd p (by simp)
    obtain ⟨c, t, hc, hne⟩ := descB_head hp
    obtain ⟨h1, h2⟩ := (descB_iff p).1 hp
    have e : (p :: ps).flatten ++ 41 :: r = p ++ (ps.flatten ++ 41 :: r) := by simp
    rw [e]
    have hh : headN (p ++ (ps.flatten ++ 41 :: r)) = (p.length - 1) + 1 := by rw [headN_app h1]; omega
    rw [methGo_step (by rw [hc]; rfl) hne hh, show p.length - 1 + 1 = p.length by omega, List.take_left, List.drop_left]
    rw [ih g _ _ r (fun q hq => hd q (by simp [hq])) (by simpa using hf) hr]
    have : k + slotsN p + slotSum ps = k + slotSum (p :: ps) := by unfold slotSum; simp only [List.foldr_cons]; omega
    rw [this]; simp
theorem flatten_len (ps : List (List UInt8)) (h : ∀ p ∈ ps, descB p = true) : ps.length ≤ ps.flatten.length ∧ ps.flatten.length ≤ 68 * ps.length := by
  induction ps with
  | nil => simp
  | cons p r ih =>
    have h1 := descB_bound (h p (by simp))
    have h2 := ((descB_iff p).1 (h p (by simp)))
    have h3 := ih fun q hq => h q (by simp [hq])
    simp only [List.flatten_cons, List.length_append, List.length_cons]; omega
/-- Descriptors put together are a method's descriptor. -/
theorem methV_parts (ps : List (List UInt8)) (r : List UInt8) (h : ∀ p ∈ ps, descB p = true) (hr : resB r = true) :
    methV (40 :: (ps.flatten ++ 41 :: r)) = if slotSum ps < 64 then (ps, r, 0) else ([], [], 24) := by
  have hl := flatten_len ps h
  have := methGo_parts ps ((ps.flatten ++ 41 :: r).length + 1) [] 0 r h (by rw [List.length_append, List.length_cons]; omega) hr
  rw [Int.zero_add, List.nil_append] at this
  by_cases h64 : slotSum ps < 64
  · rw [if_pos h64] at this ⊢
    exact methV_yes (by rw [methB_open]; exact this)
  · rw [if_neg h64] at this ⊢
    exact methV_no (by rw [methB_open]; exact this)
end Go.Proofs.YthlplphpikboiaaDoor
