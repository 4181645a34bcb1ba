/- Plain facts on manifests: attributes read out of lines, a class named, attributes written, there and back. -/
import Derived.Test.YthkgnidafdiolaaDoorManS
namespace Go.Proofs.YthkgnidafdiolaaDoor
open Go.Lib

/-- Small letters; names; an attribute. -/
def smallB (c : UInt8) : UInt8 := if 65 ≤ c.toNat ∧ c.toNat ≤ 90 then c ||| 32 else c
def smallL (l : List UInt8) : List UInt8 := l.map smallB
def letB (c : UInt8) : Bool := decide (97 ≤ c.toNat ∧ c.toNat ≤ 122 ∨ 65 ≤ c.toNat ∧ c.toNat ≤ 90 ∨ 48 ≤ c.toNat ∧ c.toNat ≤ 57)
def letterB (c : UInt8) : Bool := letB c || c == 45 || c == 95
def nameB (s : List UInt8) : Bool := !s.isEmpty && decide (s.length ≤ 70) && (match s.head? with | some c => letB c | none => false) && s.all letterB
abbrev Attr := List UInt8 × List UInt8
def mvL : List UInt8 := [109, 97, 110, 105, 102, 101, 115, 116, 45, 118, 101, 114, 115, 105, 111, 110]
def mcL : List UInt8 := [109, 97, 105, 110, 45, 99, 108, 97, 115, 115]
def keyP (l : List UInt8) : List UInt8 := l.takeWhile (· != 58)
def restP (l : List UInt8) : List UInt8 := l.drop ((keyP l).length + 1)
def addLast : List Attr → List UInt8 → List Attr
  | [], _ => []
  | [a], v => [(a.1, a.2 ++ v)]
  | a :: b :: r, v => a :: addLast (b :: r) v
def fineL (l : List UInt8) : Bool := decide ((keyP l).length < l.length) && nameB (keyP l) && decide ((restP l).head? = some 32)
def longL (l : List UInt8) : Bool := decide (72 < l.length) || l.contains 0
def stepM (out : List Attr) (l : List UInt8) : Int × List Attr :=
  if longL l = true then (8, [])
  else if l.head? = some 32 then (if out = [] then (22, []) else (0, addLast out (l.drop 1)))
  else if fineL l = false then (22, [])
  else if smallL (keyP l) ∈ out.map (fun a => smallL a.1) then (14, [])
  else (0, out ++ [(keyP l, (restP l).drop 1)])
def endM (out : List Attr) : Int × List Attr := match out with
  | [] => (22, [])
  | a :: _ => if smallL a.1 = mvL then (0, out) else (22, [])
def readL : List (List UInt8) → List Attr → Int × List Attr
  | [], out => endM out
  | l :: r, out => if (stepM out l).1 = 0 then readL r (stepM out l).2 else ((stepM out l).1, [])
def readM (b : List UInt8) : Int × List Attr := if 32768 < b.length then (8, []) else readL (linesM b) []
/-- The main class. -/
def okC (c : UInt8) : Bool := !decide (c.toNat ≤ 32) && !decide (c.toNat = 127) && !([46, 59, 91, 92, 40, 41, 60, 62] : List UInt8).contains c
def classB (s : List UInt8) : Bool := ((cutL 47 s).all fun p => !p.isEmpty && p.all okC) && decide (s.length ≤ 58)
def slashB (c : UInt8) : UInt8 := if c = 46 then 47 else c
def mainP : List Attr → List UInt8 × Int
  | [] => ([], 22)
  | a :: r => if smallL a.1 = mcL then (if a.2.contains 47 = true ∨ classB (a.2.map slashB) = false then ([], 22) else (a.2.map slashB, 0)) else mainP r
def mainM (b : List UInt8) : List UInt8 × Int := if (readM b).1 = 0 then mainP (readM b).2 else ([], (readM b).1)
/-- Written. -/
def foldA : Nat → List UInt8 → List (List UInt8)
  | 0, _ => []
  | f + 1, s => if s = [] then [] else (32 :: s.take 71) :: foldA f (s.drop 71)
def attrS (a : Attr) : List UInt8 := a.1 ++ [58, 32] ++ a.2
def attrL (a : Attr) : List (List UInt8) := (attrS a).take 72 :: foldA (attrS a).length ((attrS a).drop 72)
def textL (ls : List (List UInt8)) : List UInt8 := ls.flatMap (· ++ [13, 10])
def writeT : List Attr → List UInt8 → Int × List UInt8
  | [], out => if 32768 < (out ++ [13, 10]).length then (8, []) else (0, out ++ [13, 10])
  | a :: r, out => if 32768 < a.2.length then (8, []) else if 32768 < (out ++ textL (attrL a)).length then (8, []) else writeT r (out ++ textL (attrL a))
def badV (v : List UInt8) : Bool := v.any fun c => c == 0 || c == 13 || c == 10
def checkW : List Attr → List (List UInt8) → Int
  | [], _ => 0
  | a :: r, seen => if nameB a.1 = false ∨ (seen = [] ∧ ¬ smallL a.1 = mvL) then 22 else if badV a.2 = true then 22 else if smallL a.1 ∈ seen then 14 else checkW r (seen ++ [smallL a.1])
def writeM (l : List Attr) : Int × List UInt8 := if ¬ checkW l [] = 0 then (checkW l [], []) else if l = [] then (22, []) else writeT l []

theorem writeT_long : ∀ (l : List Attr) (out : List UInt8), (∃ a ∈ l, 32768 < a.2.length) → writeT l out = (8, []) := by
  intro l
  induction l with
  | nil => rintro out ⟨a, ha, _⟩; cases ha
  | cons b r ih =>
    rintro out ⟨a, ha, hl⟩
    unfold writeT
    split
    · rfl
    · rename_i h1
      split
      · rfl
      · rcases List.mem_cons.1 ha with rfl | ha
        · exact absurd hl h1
        · exact ih _ ⟨a, ha, hl⟩
theorem writeT_fine : ∀ (l : List Attr) (out b : List UInt8), writeT l out = (0, b) → b = out ++ textL (l.flatMap attrL) ++ [13, 10] ∧ b.length ≤ 32768 := by
  intro l
  induction l with
  | nil =>
    intro out b h
    unfold writeT at h
    split at h
    · simp at h
    · rename_i h1
      simp only [Prod.mk.injEq, true_and] at h
      subst h
      exact ⟨by simp [textL], by omega⟩
  | cons a r ih =>
    intro out b h
    unfold writeT at h
    split at h
    · simp at h
    · split at h
      · simp at h
      · obtain ⟨h1, h2⟩ := ih _ _ h
        exact ⟨by rw [h1]; simp [textL], h2⟩
theorem writeT_err : ∀ (l : List Attr) (out : List UInt8), (writeT l out).1 = 0 ∨ (writeT l out).2 = [] := by
  intro l
  induction l with
  | nil => intro out; unfold writeT; split <;> simp
  | cons a r ih =>
    intro out
    unfold writeT
    split
    · exact .inr rfl
    · split
      · exact .inr rfl
      · exact ih _
theorem writeM_err (l : List Attr) : (writeM l).1 = 0 ∨ (writeM l).2 = [] := by
  unfold writeM
  split
  · exact .inr rfl
  · split
    · exact .inr rfl
    · exact writeT_err _ _
/-- Lines that are none but lines come back. -/
theorem lines_text {ls : List (List UInt8)} (h : ∀ x ∈ ls, x ≠ [] ∧ ∀ c ∈ x, c ≠ 13 ∧ c ≠ 10) : linesM (textL ls ++ [13, 10]) = ls := by
  induction ls with
  | nil => exact linesM_empty (.inr rfl) _
  | cons x r ih =>
    obtain ⟨h1, h2⟩ := h x (by simp)
    have e : textL (x :: r) ++ [13, 10] = x ++ 13 :: 10 :: (textL r ++ [13, 10]) := by simp [textL]
    rw [e, linesM_crlf h2 h1, ih (fun y hy => h y (by simp [hy]))]
theorem letter_fine {c : UInt8} (h : letterB c = true) : c ≠ 0 ∧ c ≠ 13 ∧ c ≠ 10 ∧ c ≠ 58 ∧ c ≠ 32 := by
  refine ⟨?_, ?_, ?_, ?_, ?_⟩ <;> (rintro rfl; revert h; decide)
theorem nameB_all {s : List UInt8} (h : nameB s = true) : s ≠ [] ∧ s.length ≤ 70 ∧ ∀ c ∈ s, letterB c = true := by
  unfold nameB at h
  simp only [Bool.and_eq_true, decide_eq_true_eq, List.all_eq_true] at h
  exact ⟨by cases s with | nil => simp at h | cons => simp, h.1.1.2, h.2⟩
theorem foldA_fine {p : UInt8 → Prop} : ∀ (f : Nat) (s : List UInt8), (∀ c ∈ s, p c) → p 32 → ∀ x ∈ foldA f s, x ≠ [] ∧ ∀ c ∈ x, p c := by
  intro f
  induction f with
  | zero => intro s _ _ x hx; cases hx
  | succ f ih =>
    intro s hs h32 x hx
    unfold foldA at hx
    split at hx
    · cases hx
    · rcases List.mem_cons.1 hx with rfl | hx
      · exact ⟨by simp, fun c hc => (List.mem_cons.1 hc).elim (fun e => e ▸ h32) (fun e => hs c (List.mem_of_mem_take e))⟩
      · exact ih _ (fun c hc => hs c (List.mem_of_mem_drop hc)) h32 x hx
theorem attrL_fine {p : UInt8 → Prop} {a : Attr} (h : ∀ c ∈ attrS a, p c) (h32 : p 32) : ∀ x ∈ attrL a, x ≠ [] ∧ ∀ c ∈ x, p c := by
  intro x hx
  unfold attrL at hx
  rcases List.mem_cons.1 hx with rfl | hx
  · exact ⟨by unfold attrS; cases a.1 <;> simp, fun c hc => h c (List.mem_of_mem_take hc)⟩
  · exact foldA_fine _ _ (fun c hc => h c (List.mem_of_mem_drop hc)) h32 x hx
theorem attrS_fine {a : Attr} (h1 : nameB a.1 = true) (h2 : badV a.2 = false) : ∀ c ∈ attrS a, c ≠ 0 ∧ c ≠ 13 ∧ c ≠ 10 := by
  intro c hc
  unfold attrS at hc
  simp only [List.mem_append, List.mem_cons, List.not_mem_nil, or_false] at hc
  rcases hc with (hc | hc | hc) | hc
  · obtain ⟨k0, k1, k2, _⟩ := letter_fine ((nameB_all h1).2.2 c hc); exact ⟨k0, k1, k2⟩
  · subst hc; decide
  · subst hc; decide
  · unfold badV at h2
    rw [List.any_eq_false] at h2
    have := h2 c hc
    simp at this
    exact ⟨this.1.1, this.1.2, this.2⟩
theorem addLast_app (out : List Attr) (n v w : List UInt8) : addLast (out ++ [(n, v)]) w = out ++ [(n, v ++ w)] := by
  induction out with
  | nil => rfl
  | cons a r ih =>
    cases r with
    | nil => rfl
    | cons b r => simp only [List.cons_append] at ih ⊢; simp only [addLast]; rw [ih]
theorem readL_fold (rest : List (List UInt8)) : ∀ (f : Nat) (s : List UInt8) (out : List Attr) (n v : List UInt8), s.length ≤ f → (∀ c ∈ s, c ≠ 0) → readL (foldA f s ++ rest) (out ++ [(n, v)]) = readL rest (out ++ [(n, v ++ s)]) := by
  intro f
  induction f with
  | zero =>
    intro s out n v hs _
    obtain rfl := List.eq_nil_of_length_eq_zero (Nat.le_zero.1 hs)
    simp [foldA]
  | succ f ih =>
    intro s out n v hs h0
    unfold foldA
    split
    · rename_i e; subst e; simp
    · rename_i hne
      have hst : stepM (out ++ [(n, v)]) (32 :: s.take 71) = (0, out ++ [(n, v ++ s.take 71)]) := by
        unfold stepM
        rw [if_neg (by
          unfold longL
          simp only [Bool.or_eq_true, decide_eq_true_eq, List.contains_iff_mem, not_or]
          refine ⟨by simp; omega, fun h => ?_⟩
          rcases List.mem_cons.1 h with h | h
          · cases h
          · exact h0 0 (List.mem_of_mem_take h) rfl), if_pos (show (32 :: s.take 71).head? = some 32 from rfl), if_neg (by simp)]
        rw [show (32 :: s.take 71).drop 1 = s.take 71 from rfl, addLast_app]
      rw [List.cons_append]
      rw [readL, hst]
      simp only [if_true]
      rw [ih (s.drop 71) out n _ (by
        have : 0 < s.length := List.length_pos_iff.2 hne
        simp; omega) (fun c hc => h0 c (List.mem_of_mem_drop hc)), List.append_assoc, List.take_append_drop]
theorem keyP_app {n : List UInt8} (h : ∀ c ∈ n, c ≠ 58) (y : List UInt8) : keyP (n ++ 58 :: y) = n := by
  unfold keyP
  induction n with
  | nil => rfl
  | cons c r ih =>
    rw [List.cons_append, List.takeWhile_cons, if_pos (by simpa using h c (by simp)), ih (fun d hd => h d (by simp [hd]))]
theorem readL_attr {a : Attr} {out : List Attr} {rest : List (List UInt8)} (h1 : nameB a.1 = true) (h2 : badV a.2 = false) (h3 : smallL a.1 ∉ out.map (fun a => smallL a.1)) : readL (attrL a ++ rest) out = readL rest (out ++ [a]) := by
  obtain ⟨hne, hl, hall⟩ := nameB_all h1
  have hf := attrS_fine h1 h2
  have e0 : (attrS a).take 72 = a.1 ++ 58 :: 32 :: a.2.take (70 - a.1.length) := by
    unfold attrS
    rw [List.append_assoc, List.take_append, List.take_of_length_le (by omega : a.1.length ≤ 72)]
    congr 1
    rw [show 72 - a.1.length = (70 - a.1.length) + 1 + 1 by omega]; rfl
  have e1 : (attrS a).drop 72 = a.2.drop (70 - a.1.length) := by
    unfold attrS
    rw [List.append_assoc, List.drop_append, List.drop_eq_nil_of_le (by omega : a.1.length ≤ 72), List.nil_append]
    rw [show 72 - a.1.length = (70 - a.1.length) + 1 + 1 by omega]; rfl
  have hst : stepM out ((attrS a).take 72) = (0, out ++ [(a.1, a.2.take (70 - a.1.length))]) := by
    have hk : keyP ((attrS a).take 72) = a.1 := by rw [e0]; exact keyP_app (fun c hc => (letter_fine (hall c hc)).2.2.2.1) _
    have hr : restP ((attrS a).take 72) = 32 :: a.2.take (70 - a.1.length) := by unfold restP; rw [hk, e0]; simp
    unfold stepM
    rw [if_neg (by
      unfold longL
      simp only [Bool.or_eq_true, decide_eq_true_eq, List.contains_iff_mem, not_or]
      refine ⟨by simp; omega, fun h => (hf 0 (List.mem_of_mem_take h)).1 rfl⟩), if_neg (by
      rw [e0]
      cases hn : a.1 with
      | nil => exact absurd hn hne
      | cons c r =>
        intro h
        simp at h
        exact (letter_fine (hall c (by rw [hn]; simp))).2.2.2.2 h), if_neg (by
      unfold fineL
      rw [hk, hr, h1]
      simp [e0]), hk, hr, if_neg h3]
    rfl
  unfold attrL
  rw [List.cons_append]
  rw [readL, hst]
  simp only [if_true]
  rw [readL_fold rest _ _ out _ _ (by simp) (fun c hc => (hf c (List.mem_of_mem_drop hc)).1), e1, List.take_append_drop]
theorem readL_attrs : ∀ (l : List Attr) (out : List Attr), checkW l (out.map fun a => smallL a.1) = 0 → readL (l.flatMap attrL) out = endM (out ++ l) := by
  intro l
  induction l with
  | nil => intro out _; simp [readL]
  | cons a r ih =>
    intro out h
    unfold checkW at h
    split at h
    · simp at h
    · rename_i h1
      split at h
      · simp at h
      · rename_i h2
        split at h
        · simp at h
        · rename_i h3
          have hn : nameB a.1 = true := by
            cases hh : nameB a.1 with
            | true => rfl
            | false => exact absurd (.inl hh) h1
          rw [List.flatMap_cons, readL_attr hn (by simpa using h2) h3, ih (out ++ [a]) (by rw [List.map_append]; exact h), List.append_assoc]; rfl
theorem check_fine : ∀ (l : List Attr) (seen : List (List UInt8)), checkW l seen = 0 → ∀ a ∈ l, nameB a.1 = true ∧ badV a.2 = false := by
  intro l
  induction l with
  | nil => intro seen _ a ha; cases ha
  | cons b r ih =>
    intro seen h a ha
    unfold checkW at h
    split at h
    · simp at h
    · rename_i h1
      split at h
      · simp at h
      · rename_i h2
        split at h
        · simp at h
        · rcases List.mem_cons.1 ha with rfl | ha
          · refine ⟨?_, by simpa using h2⟩
            cases hh : nameB a.1 with
            | true => rfl
            | false => exact absurd (.inl hh) h1
          · exact ih _ h a ha
/-- What is written is read as it was. -/
theorem write_back {l : List Attr} {b : List UInt8} (h : writeM l = (0, b)) : readM b = (0, l) := by
  unfold writeM at h
  split at h
  · rename_i h1; simp only [Prod.mk.injEq] at h; exact absurd h.1 h1
  · rename_i h1
    have hc : checkW l [] = 0 := Classical.not_not.1 h1
    split at h
    · simp at h
    · rename_i h2
      obtain ⟨hb, hlen⟩ := writeT_fine _ _ _ h
      rw [List.nil_append] at hb
      unfold readM
      rw [if_neg (by omega), hb, lines_text (by
        intro x hx
        obtain ⟨a, ha, hxa⟩ := List.mem_flatMap.1 hx
        obtain ⟨k1, k2⟩ := check_fine l [] hc a ha
        obtain ⟨q1, q2⟩ := attrL_fine (p := fun c => c ≠ 13 ∧ c ≠ 10) (fun c hc => (attrS_fine k1 k2 c hc).2) (by decide) x hxa
        exact ⟨q1, q2⟩), readL_attrs l [] hc, List.nil_append]
      cases l with
      | nil => exact absurd rfl h2
      | cons a r =>
        unfold endM
        simp only
        rw [if_pos]
        unfold checkW at hc
        split at hc
        · simp at hc
        · rename_i h3
          exact Classical.not_not.1 fun e => h3 (.inr ⟨rfl, e⟩)
/-- Ends of lines. -/
theorem normF_no13 {x : List UInt8} (h : ∀ c ∈ x, c ≠ 13) (y : List UInt8) : normF false (x ++ y) = x ++ normF false y := by
  induction x with
  | nil => rfl
  | cons c r ih =>
    have hc := h c (by simp)
    have e : (c == 13) = false := by simpa using hc
    simp only [List.cons_append, normF, hc, if_false, e, Bool.false_eq_true, and_false]
    rw [ih (fun d hd => h d (by simp [hd]))]
theorem norm_one {x : List UInt8} (h : ∀ c ∈ x, c ≠ 13) : normF false x = x := by
  have := normF_no13 h []
  simpa [normF] using this
theorem norm_two {x : List UInt8} (h : ∀ c ∈ x, c ≠ 13) : normF false (x.map fun c => if c = 10 then 13 else c) = x := by
  have key : ∀ p, normF p (x.map fun c => if c = 10 then 13 else c) = x := by
    induction x with
    | nil => intro p; rfl
    | cons c r ih =>
      intro p
      have hc := h c (by simp)
      rw [List.map_cons]
      by_cases h10 : c = 10
      · subst h10
        simp [normF, ih (fun d hd => h d (by simp [hd]))]
      · simp [normF, h10, hc, ih (fun d hd => h d (by simp [hd]))]
  exact key false
theorem norm_three {x : List UInt8} (h : ∀ c ∈ x, c ≠ 13) : normF false (x.flatMap fun c => if c = 10 then [13, 10] else [c]) = x := by
  induction x with
  | nil => rfl
  | cons c r ih =>
    have hc := h c (by simp)
    rw [List.flatMap_cons]
    have e : (c == 13) = false := by simpa using hc
    by_cases h10 : c = 10
    · subst h10
      simp [normF, ih (fun d hd => h d (by simp [hd]))]
    · simp [normF, h10, hc, e, ih (fun d hd => h d (by simp [hd]))]
theorem cutL_cat (a : UInt8) (x z : List UInt8) : cutL a (x ++ a :: z) = cutL a x ++ cutL a z := by
  induction x with
  | nil => simp [cutL]
  | cons c r ih =>
    rw [List.cons_append, cutL, cutL]
    split
    · rw [ih]; rfl
    · rw [ih]
      cases hx : cutL a r with
      | nil => exact absurd hx (cutL_ne a r)
      | cons y ys => rfl
theorem takeWhile_stop {α : Type} (p : α → Bool) (x : α) (hx : p x = false) (A B : List α) : (A ++ x :: B).takeWhile p = A.takeWhile p := by
  induction A with
  | nil => simp [hx]
  | cons y r ih =>
    rw [List.cons_append, List.takeWhile_cons, List.takeWhile_cons, ih]
theorem lines_behind {x : List UInt8} (h : ∀ c ∈ x, c ≠ 13) (y : List UInt8) : linesM (x ++ 10 :: 10 :: y) = linesM x := by
  unfold linesM
  rw [normF_no13 h, norm_one h, show normF false (10 :: 10 :: y) = 10 :: 10 :: normF false y by simp [normF]]
  unfold linesOf
  rw [cutL_cat, show cutL 10 (10 :: normF false y) = [] :: cutL 10 (normF false y) by simp [cutL]]
  exact takeWhile_stop _ _ rfl _ _
/-- Bytes one by one. -/
theorem u8_all {P : UInt8 → Prop} (h : ∀ n : Fin 256, P (UInt8.ofFin n)) (c : UInt8) : P c := h c.toFin
/-- A letter of a small name. -/
def smlB (c : UInt8) : Bool := decide (97 ≤ c.toNat ∧ c.toNat ≤ 122 ∨ 48 ≤ c.toNat ∧ c.toNat ≤ 57 ∨ c.toNat = 45 ∨ c.toNat = 95)
theorem sml_letter (c : UInt8) : smlB (smallB c) = letterB c := by
  revert c
  exact fun c => u8_all (P := fun c => smlB (smallB c) = letterB c) (by decide +kernel) c
theorem let_letter (c : UInt8) : letB c = (letterB c && !(c == 45) && !(c == 95)) := u8_all (P := fun c => letB c = (letterB c && !(c == 45) && !(c == 95))) (by decide +kernel) c
theorem small_one (c : UInt8) : (smallB c).toNat = if 65 ≤ c.toNat ∧ c.toNat ≤ 90 then c.toNat + 32 else c.toNat := u8_all (P := fun c => (smallB c).toNat = if 65 ≤ c.toNat ∧ c.toNat ≤ 90 then c.toNat + 32 else c.toNat) (by decide +kernel) c
theorem nameB_small {s : List UInt8} (h1 : s ≠ []) (h2 : s.length ≤ 70) (h3 : s.head? ≠ some 45) (h4 : s.head? ≠ some 95) : nameB s = (smallL s).all smlB := by
  cases s with
  | nil => exact absurd rfl h1
  | cons c r =>
    have e3 : (c == 45) = false := by simpa using h3
    have e4 : (c == 95) = false := by simpa using h4
    unfold nameB smallL
    rw [List.all_map]
    simp only [List.isEmpty_cons, Bool.not_false, Bool.true_and, List.head?_cons, decide_eq_true h2, List.all_cons, Function.comp_def, sml_letter, let_letter, e3, e4, Bool.and_true]
    cases letterB c <;> simp
theorem nameB_bad {s : List UInt8} (h : s = [] ∨ 70 < s.length ∨ s.head? = some 45 ∨ s.head? = some 95) : nameB s = false := by
  cases hh : nameB s with
  | false => rfl
  | true =>
    obtain ⟨h1, h2, h3⟩ := nameB_all hh
    rcases h with h | h | h | h
    · exact absurd h h1
    · omega
    · unfold nameB at hh; rw [h] at hh; simp [letB] at hh
    · unfold nameB at hh; rw [h] at hh; simp [letB] at hh
/-- A class's name, sign by sign: n are in the part at hand. -/
def clsR : Nat → List UInt8 → Bool
  | n, [] => decide (0 < n)
  | n, c :: r => if c = 47 then decide (0 < n) && clsR 0 r else okC c && clsR (n + 1) r
theorem clsR_split (r : List UInt8) : ∀ n, clsR n r = match cutL 47 r with
    | [] => false
    | p :: ps => decide (0 < n + p.length) && p.all okC && ps.all (fun p => !p.isEmpty && p.all okC) := by
  induction r with
  | nil => intro n; simp [clsR, cutL]
  | cons c r ih =>
    intro n
    unfold clsR cutL
    by_cases hc : c = 47
    · rw [if_pos hc, if_pos hc, ih 0]
      cases h : cutL 47 r with
      | nil => exact absurd h (cutL_ne _ _)
      | cons p ps =>
        simp only [List.length_nil, Nat.add_zero, List.all_nil, Bool.and_true, List.all_cons, Nat.zero_add]
        have e : decide (0 < p.length) = !p.isEmpty := by cases p <;> simp
        rw [e]
    · rw [if_neg hc, if_neg hc, ih (n + 1)]
      cases h : cutL 47 r with
      | nil => exact absurd h (cutL_ne _ _)
      | cons p ps =>
        simp only [List.length_cons, List.all_cons]
        have e : decide (0 < n + 1 + p.length) = true := by simp; omega
        have e2 : decide (0 < n + (p.length + 1)) = true := by simp; omega
        rw [e, e2]
        simp [Bool.and_assoc]
theorem classB_R (s : List UInt8) : classB s = (clsR 0 s && decide (s.length ≤ 58)) := by
  unfold classB
  rw [clsR_split s 0]
  cases h : cutL 47 s with
  | nil => exact absurd h (cutL_ne _ _)
  | cons p ps =>
    simp only [List.all_cons, Nat.zero_add]
    have e : decide (0 < p.length) = !p.isEmpty := by cases p <;> simp
    rw [e]
end Go.Proofs.YthkgnidafdiolaaDoor
