/- Plain facts on what a block tells. -/
import Derived.Test.YtbhljigppljjbaaInfQ
import Derived.Test.YtbhljigppljjbaaInfB
namespace Go.Proofs.Ytbhljigppljjbaa

theorem tk_cases (b : List UInt8) (p n : Nat) : (∃ v, tk b p n = .ok (v, p + n) ∧ v < 2 ^ n ∧ p + n ≤ 8 * b.length) ∨ (tk b p n = .err 2 ∧ 8 * b.length < p + n) := by
  by_cases h : p + n ≤ 8 * b.length
  · exact .inl ⟨takeN b p n, by rw [tk, if_pos h], takeN_lt b p n, h⟩
  · exact .inr ⟨by rw [tk, if_neg h], by omega⟩
/-- What a told block's lengths are, behind its three numbers. -/
def toldA (b : List UInt8) (x y : Nat) (u : List Nat × Nat) : Rz ((List Nat × List Nat) × Nat) :=
  (allP0 u.1 (x + 257 + (y + 1)) b u.2).bind fun v => if v.1.getD 256 0 = 0 then .err 5 else .ok ((v.1.take (x + 257), v.1.drop (x + 257)), v.2)
def toldC (b : List UInt8) (x y : Nat) (u : List Nat × Nat) : Rz ((List Nat × List Nat) × Nat) := if codeB u.1 false = false then .err 5 else toldA b x y u
def toldG (b : List UInt8) (x y z q : Nat) : Rz ((List Nat × List Nat) × Nat) :=
  if 286 < x + 257 ∨ 30 < y + 1 then .err 5 else (lensF b (ordL.take (z + 4)) (List.replicate 19 0) q).bind (toldC b x y)
theorem told_cases (b : List UInt8) (p : Nat) : (tksF b [5, 5, 4] [] p = .err 2 ∧ toldP b p = .err 2) ∨ ∃ x y z q, tksF b [5, 5, 4] [] p = .ok ([x, y, z], q) ∧ toldP b p = toldG b x y z q ∧ x < 32 ∧ y < 32 ∧ z < 16 ∧ q ≤ 8 * b.length := by
  rcases tk_cases b p 5 with ⟨x, h1, hx, _⟩ | ⟨h1, _⟩
  · rcases tk_cases b (p + 5) 5 with ⟨y, h2, hy, _⟩ | ⟨h2, _⟩
    · rcases tk_cases b (p + 5 + 5) 4 with ⟨z, h3, hz, hq⟩ | ⟨h3, _⟩
      · right
        refine ⟨x, y, z, p + 5 + 5 + 4, ?_, ?_, hx, hy, hz, hq⟩
        · simp only [tksF, h1, Rz.bind, h2, h3, List.nil_append, List.cons_append]
        · simp only [toldP, h1, Rz.bind, h2, h3]; rfl
      · left
        exact ⟨by simp only [tksF, h1, Rz.bind, h2, h3], by simp only [toldP, h1, Rz.bind, h2, h3]⟩
    · left
      exact ⟨by simp only [tksF, h1, Rz.bind, h2], by simp only [toldP, h1, Rz.bind, h2]⟩
  · left
    exact ⟨by simp only [tksF, h1, Rz.bind], by simp only [toldP, h1, Rz.bind]⟩
theorem blk_cases (lim : Nat) (out b : List UInt8) (p : Nat) : (tksF b [1, 2] [] p = .err 2 ∧ blkP lim out b p = .err 2) ∨ ∃ x y q, tksF b [1, 2] [] p = .ok ([x, y], q) ∧ blkP lim out b p = ((bodyP lim out y b q).bind fun z => .ok ((decide (x = 1), z.1), z.2)) ∧ x < 2 ∧ y < 4 ∧ q ≤ 8 * b.length ∧ p < q := by
  rcases tk_cases b p 1 with ⟨x, h1, hx, _⟩ | ⟨h1, _⟩
  · rcases tk_cases b (p + 1) 2 with ⟨y, h2, hy, hq⟩ | ⟨h2, _⟩
    · right
      refine ⟨x, y, p + 1 + 2, ?_, ?_, hx, hy, hq, by omega⟩
      · simp only [tksF, h1, Rz.bind, h2, List.nil_append, List.cons_append]
      · simp only [blkP, h1, Rz.bind, h2]
    · left
      exact ⟨by simp only [tksF, h1, Rz.bind, h2], by simp only [blkP, h1, Rz.bind, h2]⟩
  · left
    exact ⟨by simp only [tksF, h1, Rz.bind], by simp only [blkP, h1, Rz.bind]⟩
theorem lensF_step {b : List UInt8} {ks L : List Nat} {j k q : Nat} (hj : ks[j]? = some k) (hq : q + 3 ≤ 8 * b.length) : lensF b (ks.drop j) L q = lensF b (ks.drop (j + 1)) (L.set k (takeN b q 3)) (q + 3) := by
  have hjl : j < ks.length := by
    rcases Nat.lt_or_ge j ks.length with h | h
    · exact h
    · rw [List.getElem?_eq_none h] at hj; cases hj
  rw [List.getElem?_eq_getElem hjl] at hj
  injection hj with hj
  rw [List.drop_eq_getElem_cons hjl, lensF, hj, tk, if_pos hq]; rfl
theorem lensF_short {b : List UInt8} {ks L : List Nat} {j k q : Nat} (hj : ks[j]? = some k) (hq : 8 * b.length < q + 3) : lensF b (ks.drop j) L q = .err 2 := by
  have hjl : j < ks.length := by
    rcases Nat.lt_or_ge j ks.length with h | h
    · exact h
    · rw [List.getElem?_eq_none h] at hj; cases hj
  rw [List.getElem?_eq_getElem hjl] at hj
  injection hj with hj
  rw [List.drop_eq_getElem_cons hjl, lensF, hj, tk, if_neg (by omega)]; rfl
theorem ordL_at {z j : Nat} (hz : z < 16) (hj : j < z + 4) : (ordL.take (z + 4))[j]? = some (ordL.getD j 0) ∧ ordL.getD j 0 < 19 := by
  have hl : j < 19 := by omega
  have h1 : ∀ j, j < 19 → ordL[j]? = some (ordL.getD j 0) ∧ ordL.getD j 0 < 19 := by decide
  rw [List.getElem?_take, if_pos hj]
  exact h1 j hl
theorem ordL_len {z : Nat} (hz : z < 16) : (ordL.take (z + 4)).length = z + 4 := by
  rw [List.length_take]
  have : ordL.length = 19 := rfl
  omega
theorem symAt_lt {l : List Nat} {n c s : Nat} (h : symAt l n c = some s) : s < l.length := by
  unfold symAt symK at h
  split at h
  · cases h
  · split at h
    · have := List.mem_of_getElem? h
      unfold symsP at this
      rw [List.mem_filter] at this
      simpa using this.1
    · cases h
theorem nextF_lt {l : List Nat} {b : List UInt8} : ∀ {f n c p s q}, nextF l b f n c p = .ok (s, q) → s < l.length := by
  intro f
  induction f with
  | zero => intro n c p s q h; rw [nextF] at h; cases h
  | succ f ih =>
    intro n c p s q h
    rw [nextF] at h
    split at h
    · split at h
      · rename_i hs
        injection h with h
        injection h with h1 h2
        subst h1
        exact symAt_lt hs
      · exact ih h
    · cases h
theorem nextP_lt {l : List Nat} {b : List UInt8} {p s q : Nat} (h : nextP l b p = .ok (s, q)) : s < l.length := nextF_lt h
/-- One run of lengths. -/
theorem allF_full {lens : List Nat} {b : List UInt8} {total f p : Nat} {all : List Nat} (h : total ≤ all.length) : allF lens b total (f + 1) p all = .ok (all, p) := by rw [allF, if_pos h]
theorem allF_err {lens : List Nat} {b : List UInt8} {total f p : Nat} {all : List Nat} {k : Int} (h : all.length < total) (hN : nextP lens b p = .err k) : allF lens b total (f + 1) p all = .err k := by rw [allF, if_neg (by omega), hN]; rfl
theorem allF_ok {lens : List Nat} {b : List UInt8} {total f p s q : Nat} {all : List Nat} (h : all.length < total) (hN : nextP lens b p = .ok (s, q)) : allF lens b total (f + 1) p all = if s = 16 ∧ all = [] then .err 6
      else (tk b q (runP s all).2.2).bind fun y => if total < all.length + ((runP s all).2.1 + y.1) then .err 6
        else allF lens b total f y.2 (all ++ List.replicate ((runP s all).2.1 + y.1) (runP s all).1) := by rw [allF, if_neg (by omega), hN]; rfl
theorem runP_bd {s : Nat} {all : List Nat} (hs : s < 19) (ha : ∀ x ∈ all, x ≤ 15) (hne : ¬ (s = 16 ∧ all = [])) : (runP s all).1 ≤ 15 ∧ (runP s all).2.1 ≤ 11 ∧ 1 ≤ (runP s all).2.1 ∧ (runP s all).2.2 ≤ 7 := by
  unfold runP
  split
  · rename_i h
    refine ⟨?_, by show 3 ≤ 11; omega, by show 1 ≤ 3; omega, by show 2 ≤ 7; omega⟩
    have hn : all ≠ [] := fun e => hne ⟨h, e⟩
    show all.getLastD 0 ≤ 15
    rw [List.getLastD_eq_getLast?, List.getLast?_eq_some_getLast hn]
    exact ha _ (List.getLast_mem hn)
  · split
    · exact ⟨by show 0 ≤ 15; omega, by show 3 ≤ 11; omega, by show 1 ≤ 3; omega, by show 3 ≤ 7; omega⟩
    · split
      · exact ⟨by show 0 ≤ 15; omega, by show 11 ≤ 11; omega, by show 1 ≤ 11; omega, by show 7 ≤ 7; omega⟩
      · exact ⟨by show s ≤ 15; omega, by show 1 ≤ 11; omega, by show 1 ≤ 1; omega, by show 0 ≤ 7; omega⟩
end Go.Proofs.Ytbhljigppljjbaa
