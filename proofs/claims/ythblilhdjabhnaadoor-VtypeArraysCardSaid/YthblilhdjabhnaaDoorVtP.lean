/- Plain facts on the types that the check reckons with: which class stands for which. -/
import Derived.Laws.BitsLemmas
import GoSem.Claims
namespace Go.Proofs.YthblilhdjabhnaaDoor

abbrev Byts := List UInt8
def objL : Byts := [106, 97, 118, 97, 47, 108, 97, 110, 103, 47, 79, 98, 106, 101, 99, 116]
/-- A header: its name, the name above it, its flags, the row of its interfaces. -/
abbrev Hdr := Byts × Byts × Int × (Option Addr × Nat × Nat)
def findH : List Hdr → Byts → Option Hdr
  | [], _ => none
  | h :: r, x => if h.1 = x then some h else findH r x
def ifaceB (a : Int) : Bool := bits .and .i64 a 512 != 0
def chain (known : List Hdr) (to : Byts) : Nat → Byts → Bool × Byts
  | 0, _ => (false, [])
  | n + 1, x => match findH known x with
    | none => (false, x)
    | some h => if h.2.1 = to then (true, []) else if h.2.1 = [] then (false, []) else chain known to n h.2.1
def classU (known : List Hdr) (x to : Byts) : Bool × Byts := match findH known to with
  | none => (false, to)
  | some h => if ifaceB h.2.2.1 = true then (true, []) else chain known to known.length x
def isArr (s : Byts) : Bool := s.head? == some 91
def elem (s : Byts) : Option Byts :=
  if isArr (s.drop 1) = true then some (s.drop 1)
  else if 1 < (s.drop 1).length ∧ (s.drop 1).head? = some 76 ∧ (s.drop 1).getLast? = some 59 then some ((s.drop 2).dropLast)
  else none
def under (known : List Hdr) : Nat → Byts → Byts → Bool × Byts
  | 0, _, _ => (false, [])
  | f + 1, x, to =>
    if x = to ∨ to = objL then (true, [])
    else if x = [] ∨ to = [] then (false, [])
    else if isArr x = true ∧ isArr to = true then match elem x, elem to with
      | some a, some b => under known f a b
      | _, _ => (false, [])
    else if isArr x = true ∨ isArr to = true then (false, [])
    else classU known x to
def underV (known : List Hdr) (x to : Byts) : Bool × Byts := under known (x.length + 1) x to
theorem elem_lt {s a : Byts} (h : elem s = some a) (hs : s ≠ []) : a.length < s.length := by
  have h0 : 0 < s.length := List.length_pos_iff.2 hs
  unfold elem at h
  split at h
  · injection h with h; subst h; simp; omega
  · split at h
    · injection h with h; subst h; simp; omega
    · cases h
theorem under_fuel (known : List Hdr) : ∀ (f g : Nat) (x to : Byts), x.length < f → x.length < g → under known f x to = under known g x to := by
  intro f
  induction f with
  | zero => intro g x to h; omega
  | succ f ih =>
    intro g x to hf hg
    obtain ⟨g, rfl⟩ : ∃ k, g = k + 1 := ⟨g - 1, by omega⟩
    unfold under
    split
    · rfl
    · split
      · rfl
      · rename_i h2
        split
        · cases ha : elem x with
          | none => rfl
          | some a =>
            cases hb : elem to with
            | none => rfl
            | some b =>
              have := elem_lt ha (fun e => h2 (.inl e))
              exact ih g a b (by omega) (by omega)
        · rfl
theorem underV_step (known : List Hdr) (x to : Byts) : underV known x to =
    if x = to ∨ to = objL then (true, [])
    else if x = [] ∨ to = [] then (false, [])
    else if isArr x = true ∧ isArr to = true then match elem x, elem to with
      | some a, some b => underV known a b
      | _, _ => (false, [])
    else if isArr x = true ∨ isArr to = true then (false, [])
    else classU known x to := by
  unfold underV
  conv => lhs; unfold under
  split
  · rfl
  · split
    · rfl
    · rename_i h2
      split
      · cases ha : elem x with
        | none => rfl
        | some a =>
          cases hb : elem to with
          | none => rfl
          | some b =>
            have := elem_lt ha (fun e => h2 (.inl e))
            exact under_fuel known _ _ a b (by omega) (by omega)
      · rfl

theorem findH_app {known more : List Hdr} {x : Byts} {h : Hdr} (hf : findH known x = some h) : findH (known ++ more) x = some h := by
  induction known with
  | nil => cases hf
  | cons k r ih =>
    unfold findH at hf
    rw [List.cons_append]
    unfold findH
    split
    · rename_i h1; rw [if_pos h1] at hf; exact hf
    · rename_i h1; rw [if_neg h1] at hf; exact ih hf
theorem findH_mem {known : List Hdr} {x : Byts} {h : Hdr} (hf : findH known x = some h) : x ∈ known.map (·.1) := by
  induction known with
  | nil => cases hf
  | cons k r ih =>
    unfold findH at hf
    split at hf
    · rename_i h1; simp [h1]
    · simp only [List.map_cons, List.mem_cons]; exact .inr (ih hf)
/-- No more different things than places. -/
theorem nodup_le {α : Type} [DecidableEq α] : ∀ (l m : List α), l.Nodup → (∀ x ∈ l, x ∈ m) → l.length ≤ m.length
  | [], _, _, _ => Nat.zero_le _
  | a :: r, m, hn, hs => by
    obtain ⟨h1, h2⟩ := List.nodup_cons.1 hn
    have ham : a ∈ m := hs a (by simp)
    have := nodup_le r (m.erase a) h2 (fun x hx => (List.mem_erase_of_ne (fun e => h1 (by rw [← e]; exact hx))).2 (hs x (by simp [hx])))
    rw [List.length_erase_of_mem ham] at this
    have : 0 < m.length := List.length_pos_of_mem ham
    simp only [List.length_cons]; omega
def nextH (known : List Hdr) (x : Byts) : Byts := match findH known x with
  | none => []
  | some h => h.2.1
def nth (known : List Hdr) (x : Byts) : Nat → Byts
  | 0 => x
  | n + 1 => nextH known (nth known x n)
theorem nth_add (known : List Hdr) (x : Byts) (a b : Nat) : nth known x (a + b) = nth known (nth known x a) b := by
  induction b with
  | zero => rfl
  | succ b ih => rw [← Nat.add_assoc]; simp only [nth]; rw [ih]
theorem nth_succ (known : List Hdr) (x : Byts) (n : Nat) : nth known (nextH known x) n = nth known x (n + 1) := by
  rw [Nat.add_comm, nth_add]; rfl
/-- Given up: all were known, none was the aim, none the end. -/
theorem chain_up {known : List Hdr} {to : Byts} : ∀ {n : Nat} {x : Byts}, x ≠ [] → (∀ i, i < n → ∃ h, findH known (nth known x i) = some h ∧ ¬ nth known x (i + 1) = to ∧ ¬ nth known x (i + 1) = []) ∨ ∃ r, chain known to n x = r ∧ ∀ more m, n ≤ m → r.2 = [] → chain (known ++ more) to m x = r := by
  intro n
  induction n with
  | zero => intro x _; exact .inl (fun i h => by omega)
  | succ n ih =>
    intro x hx
    cases hf : findH known x with
    | none =>
      refine .inr ⟨_, rfl, fun more m hm hr => ?_⟩
      unfold chain at hr
      rw [hf] at hr
      exact absurd hr hx
    | some h =>
      have hn : nextH known x = h.2.1 := by unfold nextH; rw [hf]
      by_cases h1 : h.2.1 = to
      · refine .inr ⟨_, rfl, fun more m hm hr => ?_⟩
        obtain ⟨m, rfl⟩ : ∃ k, m = k + 1 := ⟨m - 1, by omega⟩
        unfold chain
        rw [hf, findH_app hf]
        simp [h1]
      · by_cases h2 : h.2.1 = []
        · refine .inr ⟨_, rfl, fun more m hm hr => ?_⟩
          obtain ⟨m, rfl⟩ : ∃ k, m = k + 1 := ⟨m - 1, by omega⟩
          unfold chain
          rw [hf, findH_app hf]
          simp only
          rw [if_neg h1, if_pos h2, if_neg h1, if_pos h2]
        · rcases ih (x := h.2.1) h2 with h3 | ⟨r, hr1, hr2⟩
          · refine .inl fun i hi => ?_
            cases i with
            | zero => exact ⟨h, hf, by show ¬ nextH known x = to; rw [hn]; exact h1, by show ¬ nextH known x = []; rw [hn]; exact h2⟩
            | succ i =>
              have := h3 i (by omega)
              rw [← hn, nth_succ, nth_succ] at this
              exact this
          · refine .inr ⟨r, ?_, fun more m hm hr => ?_⟩
            · unfold chain; rw [hf]; simp only; rw [if_neg h1, if_neg h2]; exact hr1
            · obtain ⟨m, rfl⟩ : ∃ k, m = k + 1 := ⟨m - 1, by omega⟩
              unfold chain
              rw [findH_app hf]
              simp only
              rw [if_neg h1, if_neg h2]
              exact hr2 more m (by omega) hr
/-- Among the names of headers one that isn't the aim comes twice, if there are as many as headers. -/
theorem twice {known : List Hdr} {to x : Byts} (hto : to ∈ known.map (·.1)) (hx : ¬ x = to) (h : ∀ i, i < known.length → ∃ h, findH known (nth known x i) = some h ∧ ¬ nth known x (i + 1) = to ∧ ¬ nth known x (i + 1) = []) :
    ∃ i j, i < j ∧ j < known.length ∧ nth known x i = nth known x j := by
  have hne : ∀ i, i ≤ known.length → ¬ nth known x i = to := by
    intro i hi
    cases i with
    | zero => exact hx
    | succ i => obtain ⟨_, _, h1, _⟩ := h i (by omega); exact h1
  by_cases hn : ((List.range known.length).map (nth known x)).Nodup
  · exfalso
    have := nodup_le _ ((known.map (·.1)).erase to) hn (fun y hy => by
      obtain ⟨i, hi, rfl⟩ := List.mem_map.1 hy
      have hi' := List.mem_range.1 hi
      obtain ⟨h0, hf, _⟩ := h i hi'
      exact (List.mem_erase_of_ne (hne i (by omega))).2 (findH_mem hf))
    rw [List.length_erase_of_mem hto] at this
    have h0 : 0 < (known.map (·.1)).length := List.length_pos_of_mem hto
    simp only [List.length_map, List.length_range] at this h0
    omega
  · rw [List.nodup_iff_pairwise_ne, List.pairwise_map] at hn
    have h2 : ¬ ∀ i j, i < j → j < known.length → nth known x i ≠ nth known x j := by
      intro hall
      apply hn
      rw [List.pairwise_iff_getElem]
      intro i j hi hj hij
      simp only [List.length_range] at hi hj
      simp only [List.getElem_range]
      exact hall i j hij hj
    simp only [Classical.not_forall] at h2
    obtain ⟨i, j, h3, h4, h5⟩ := h2
    exact ⟨i, j, h3, h4, Classical.not_not.1 h5⟩
theorem nth_back {known : List Hdr} {x : Byts} {i j : Nat} (hij : i < j) (he : nth known x i = nth known x j) : ∀ m, ∃ l, l < j ∧ nth known x m = nth known x l := by
  intro m
  induction m using Nat.strongRecOn with
  | ind m ih =>
    rcases Nat.lt_or_ge m j with h | h
    · exact ⟨m, h, rfl⟩
    · obtain ⟨l, hl, e⟩ := ih (i + (m - j)) (by omega)
      refine ⟨l, hl, ?_⟩
      rw [← e, nth_add, he, ← nth_add]
      congr 1; omega
/-- What was given up is given up among more headers too. -/
theorem chain_more {known : List Hdr} {to x : Byts} (hto : to ∈ known.map (·.1)) (hx : ¬ x = to) (hx0 : x ≠ []) (more : List Hdr) (hr : (chain known to known.length x).2 = []) :
    chain (known ++ more) to (known ++ more).length x = chain known to known.length x := by
  rcases chain_up (known := known) (to := to) (n := known.length) hx0 with h | ⟨r, h1, h2⟩
  · obtain ⟨i, j, hij, hj, he⟩ := twice hto hx h
    have key : ∀ m q, chain (known ++ more) to m (nth known x q) = (false, []) := by
      intro m
      induction m with
      | zero => intro q; rfl
      | succ m ih =>
        intro q
        obtain ⟨l, hl, e⟩ := nth_back hij he q
        obtain ⟨h0, hf, h3, h4⟩ := h l (by omega)
        have hnx : h0.2.1 = nth known x (q + 1) := by
          show _ = nextH known (nth known x q)
          unfold nextH; rw [e, hf]
        have hnl : h0.2.1 = nth known x (l + 1) := by
          show _ = nextH known (nth known x l)
          unfold nextH; rw [hf]
        unfold chain
        rw [e, findH_app hf]
        simp only
        rw [if_neg (by rw [hnl]; exact h3), if_neg (by rw [hnl]; exact h4), hnx]
        exact ih (q + 1)
    have key2 : ∀ m q, q + m ≤ known.length → chain known to m (nth known x q) = (false, []) := by
      intro m
      induction m with
      | zero => intro q _; rfl
      | succ m ih =>
        intro q hq
        obtain ⟨h0, hf, h3, h4⟩ := h q (by omega)
        have hnx : h0.2.1 = nth known x (q + 1) := by
          show _ = nextH known (nth known x q)
          unfold nextH; rw [hf]
        unfold chain
        rw [hf]
        simp only
        rw [if_neg (by rw [hnx]; exact h3), if_neg (by rw [hnx]; exact h4), hnx]
        exact ih (q + 1) (by omega)
    rw [show x = nth known x 0 from rfl, key, key2 _ 0 (by omega)]
  · rw [h1] at hr ⊢
    exact h2 more _ (by simp) hr
theorem classU_more {known more : List Hdr} {x to : Byts} (hx : ¬ x = to) (hx0 : x ≠ []) (ht : to ≠ []) (hr : (classU known x to).2 = []) : classU (known ++ more) x to = classU known x to := by
  unfold classU at hr ⊢
  cases hf : findH known to with
  | none => rw [hf] at hr; exact absurd hr ht
  | some h =>
    rw [hf] at hr
    rw [findH_app hf]
    simp only at hr ⊢
    split
    · rfl
    · rename_i h1
      rw [if_neg h1] at hr
      exact chain_more (findH_mem hf) hx hx0 more hr
theorem under_more {known more : List Hdr} : ∀ (f : Nat) (x to : Byts), (under known f x to).2 = [] → under (known ++ more) f x to = under known f x to := by
  intro f
  induction f with
  | zero => intro x to _; rfl
  | succ f ih =>
    intro x to hr
    unfold under at hr ⊢
    split
    · rfl
    · rename_i h1
      rw [if_neg h1] at hr
      split
      · rfl
      · rename_i h2
        rw [if_neg h2] at hr
        split
        · rename_i h3
          rw [if_pos h3] at hr
          cases ha : elem x with
          | none => rfl
          | some a =>
            cases hb : elem to with
            | none => rfl
            | some b =>
              rw [ha, hb] at hr
              exact ih a b hr
        · rename_i h3
          rw [if_neg h3] at hr
          split
          · rfl
          · rename_i h4
            rw [if_neg h4] at hr
            exact classU_more (fun e => h1 (.inl e)) (fun e => h2 (.inl e)) (fun e => h2 (.inr e)) hr
theorem underV_more {known more : List Hdr} {x to : Byts} (hr : (underV known x to).2 = []) : underV (known ++ more) x to = underV known x to := under_more _ _ _ hr
/-- In brackets: as without. -/
def brack (n : Nat) (s : Byts) : Byts := List.replicate n 91 ++ (76 :: (s ++ [59]))
theorem elem_brack1 (s : Byts) : elem (brack 1 s) = some s := by
  have e : brack 1 s = 91 :: 76 :: (s ++ [59]) := rfl
  rw [e]
  unfold elem isArr
  simp
  rw [show ((76 : UInt8) :: (s ++ [59])) = (76 :: s) ++ [59] from rfl, List.getLast?_concat]
theorem elem_brack (n : Nat) (s : Byts) : elem (brack (n + 2) s) = some (brack (n + 1) s) := by
  have e : brack (n + 2) s = 91 :: brack (n + 1) s := by unfold brack; rw [List.replicate_succ]; rfl
  have e2 : brack (n + 1) s = 91 :: brack n s := by unfold brack; rw [List.replicate_succ]; rfl
  rw [e]
  unfold elem isArr
  rw [e2]
  simp
theorem isArr_brack (n : Nat) (s : Byts) : isArr (brack (n + 1) s) = true := by
  unfold isArr brack; rw [List.replicate_succ]; simp
theorem brack_inj {n : Nat} {s t : Byts} (h : brack n s = brack n t) : s = t := by
  unfold brack at h
  have := List.append_cancel_left h
  simpa using this
theorem under_brack (known : List Hdr) (n : Nat) (x to : Byts) : underV known (brack (n + 1) x) (brack (n + 1) to) = underV known x to := by
  induction n with
  | zero =>
    by_cases h : x = to
    · subst h
      rw [underV_step, if_pos (.inl rfl), underV_step, if_pos (.inl rfl)]
    · rw [underV_step, if_neg (by
        rintro (h1 | h1)
        · exact h (brack_inj h1)
        · unfold brack objL at h1; simp [List.replicate_succ] at h1), if_neg (by unfold brack; simp), if_pos ⟨isArr_brack _ _, isArr_brack _ _⟩, elem_brack1, elem_brack1]
  | succ n ih =>
    by_cases h : x = to
    · subst h
      rw [underV_step, if_pos (.inl rfl), underV_step, if_pos (.inl rfl)]
    · rw [underV_step, if_neg (by
        rintro (h1 | h1)
        · exact h (brack_inj h1)
        · unfold brack objL at h1; simp [List.replicate_succ] at h1), if_neg (by unfold brack; simp [List.replicate_succ]), if_pos ⟨isArr_brack _ _, isArr_brack _ _⟩, elem_brack, elem_brack]
      exact ih
theorem under_mixed (known : List Hdr) (n : Nat) (x to : Byts) (ht : isArr to = false) : underV known (brack (n + 1) x) to = (decide (to = objL), []) := by
  have hne : ¬ brack (n + 1) x = to := fun e => by rw [← e, isArr_brack] at ht; cases ht
  rw [underV_step]
  by_cases h : to = objL
  · rw [if_pos (.inr h)]; simp [h]
  · rw [if_neg (by rintro (h1 | h1); exact hne h1; exact h h1)]
    split
    · simp [h]
    · rw [if_neg (by rw [ht]; simp), if_pos (.inl (isArr_brack _ _))]; simp [h]
end Go.Proofs.YthblilhdjabhnaaDoor
