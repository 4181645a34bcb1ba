/- Attributes in memory; what Read answers; plain facts on its rounds. -/
import Derived.Test.YthkgnidafdiolaaDoorManC
import Derived.Test.YthkgnidafdiolaaDoorCel
import Derived.Test.YthkgnidafdiolaaDoorMap
import Derived.Lib.IndexLaws
import Derived.Lib.CutLaws
import Derived.Lib.IndexBytes
namespace Go.Proofs.YthkgnidafdiolaaDoor
open Go.RowKit

/-- An attribute's two cells. -/
def pairC (a : Attr) : List Value := [sV a.1, sV a.2]
theorem pairK : Cels pairC 2 := ⟨fun _ => rfl, by
  intro x u hu
  simp only [pairC, List.mem_cons, List.not_mem_nil, or_false] at hu
  rcases hu with rfl | rfl <;> rfl, by decide⟩
def ReadPost (R : Int × List Attr) (w : World) (e : Ending) (w' : World) : Prop :=
  ∃ A c, e = .returned (.tuple #[.slice A R.2.length c, .int .i64 R.1]) ∧ RS pairC w' w'.heap.size A R.2 ∧ Below w.heap.size w w'
theorem readPost_err {R : Int × List Attr} {w w' : World} {k : Int} (h : R = (k, [])) (hb : Below w.heap.size w w') : ReadPost R w (.returned (.tuple #[.slice none 0 0, .int .i64 k])) w' := by
  subst h; exact ⟨none, 0, rfl, RS.nil, hb⟩
theorem readPost_ok {R : Int × List Attr} {w w' : World} {l : List Attr} {base : Nat} {e : TypeId} {v : Value} (h : R = (0, l)) (ho : OwS pairC 2 w' base e v l) (hb : Below w.heap.size w w') : ReadPost R w (.returned (.tuple #[v, .int .i64 0])) w' := by
  subst h
  obtain ⟨A, c, rfl, hr, _⟩ := ho.rd
  exact ⟨A, c, rfl, hr, hb⟩

/-- What is known of the attributes that k lines gave. -/
def AttrsOk (out : List Attr) (k : Nat) : Prop := out.length ≤ k ∧ (out = [] ↔ k = 0) ∧ ∀ a ∈ out, nameB a.1 = true ∧ a.2.length ≤ 72 * k
theorem attrsOk_nil : AttrsOk [] 0 := ⟨Nat.le_refl _, by simp, by simp⟩
theorem addLast_ne {out : List Attr} {v : List UInt8} (h : out ≠ []) : addLast out v ≠ [] := by
  cases out with
  | nil => exact absurd rfl h
  | cons a r => cases r with
    | nil => simp [addLast]
    | cons b r => simp [addLast]
theorem addLast_len (out : List Attr) (v : List UInt8) : (addLast out v).length = out.length := by
  induction out with
  | nil => rfl
  | cons a r ih => cases r with
    | nil => rfl
    | cons b r => simp only [addLast, List.length_cons] at ih ⊢; omega
theorem addLast_set {out : List Attr} {v : List UInt8} {a : Attr} (h : out[out.length - 1]? = some a) : addLast out v = out.set (out.length - 1) (a.1, a.2 ++ v) := by
  induction out with
  | nil => simp at h
  | cons b r ih => cases r with
    | nil => simp at h; subst h; rfl
    | cons c r =>
      have := ih (by simpa using h)
      simp only [addLast, List.length_cons, Nat.add_sub_cancel] at this ⊢
      rw [this]; rfl
theorem addLast_mem {out : List Attr} {v : List UInt8} {x : Attr} (h : x ∈ addLast out v) : x ∈ out ∨ ∃ a ∈ out, x = (a.1, a.2 ++ v) := by
  induction out with
  | nil => cases h
  | cons b r ih => cases r with
    | nil => simp [addLast] at h; exact .inr ⟨b, by simp, h⟩
    | cons c r =>
      simp only [addLast] at h
      rcases List.mem_cons.1 h with rfl | h
      · exact .inl (by simp)
      · rcases ih h with h | ⟨a, ha, h⟩
        · exact .inl (List.mem_cons_of_mem _ h)
        · exact .inr ⟨a, List.mem_cons_of_mem _ ha, h⟩
theorem attrsOk_add {out : List Attr} {k : Nat} {l : List UInt8} (h : AttrsOk out k) (hk : ¬ k = 0) (hl : l.length ≤ 72) : AttrsOk (addLast out (l.drop 1)) (k + 1) := by
  obtain ⟨h1, h2, h3⟩ := h
  have hne : out ≠ [] := fun e => hk (h2.1 e)
  refine ⟨by rw [addLast_len]; omega, ⟨fun e => absurd e (addLast_ne hne), by omega⟩, fun a ha => ?_⟩
  rcases addLast_mem ha with ha | ⟨b, hb, rfl⟩
  · have := h3 a ha; exact ⟨this.1, by omega⟩
  · have := h3 b hb
    refine ⟨this.1, ?_⟩
    simp only [List.length_append, List.length_drop]; omega
theorem attrsOk_new {out : List Attr} {k : Nat} {l : List UInt8} (h : AttrsOk out k) (hn : nameB (keyP l) = true) (hl : l.length ≤ 72) : AttrsOk (out ++ [(keyP l, (restP l).drop 1)]) (k + 1) := by
  obtain ⟨h1, h2, h3⟩ := h
  refine ⟨by simp; omega, by simp, fun a ha => ?_⟩
  rcases List.mem_append.1 ha with ha | ha
  · have := h3 a ha; exact ⟨this.1, by omega⟩
  · simp at ha
    subst ha
    refine ⟨hn, ?_⟩
    unfold restP
    simp only [List.length_tail, List.length_drop]; omega
theorem fine_name {l : List UInt8} (h : fineL l = true) : nameB (keyP l) = true := by
  unfold fineL at h; simp at h; exact h.1.2
section
variable {p : List (List UInt8)} {k : Nat} {l : List UInt8} {out : List Attr} (hx : p[k]? = some l)
include hx
theorem drop_line : p.drop k = l :: p.drop (k + 1) := by
  have hk := (List.getElem?_eq_some_iff.1 hx).1
  rw [List.drop_eq_getElem_cons hk]
  rw [List.getElem?_eq_getElem hk] at hx; injection hx with hx; rw [hx]
theorem read_err {x : Int} (h : stepM out l = (x, [])) (hx0 : ¬ x = 0) : readL (p.drop k) out = (x, []) := by
  rw [drop_line hx, readL, h, if_neg hx0]
theorem read_on {q : List Attr} (h : stepM out l = (0, q)) : readL (p.drop k) out = readL (p.drop (k + 1)) q := by
  rw [drop_line hx, readL, h, if_pos rfl]
theorem read_long (h : longL l = true) : readL (p.drop k) out = (8, []) :=
  read_err hx (by unfold stepM; rw [if_pos h]) (by decide)
theorem read_lead (h : longL l = false) (h2 : l.head? = some 32) (h3 : out = []) : readL (p.drop k) out = (22, []) :=
  read_err hx (by unfold stepM; rw [if_neg (by rw [h]; decide : ¬ longL l = true), if_pos h2, if_pos h3]) (by decide)
theorem read_more (h : longL l = false) (h2 : l.head? = some 32) (h3 : ¬ out = []) : readL (p.drop k) out = readL (p.drop (k + 1)) (addLast out (l.drop 1)) :=
  read_on hx (by unfold stepM; rw [if_neg (by rw [h]; decide : ¬ longL l = true), if_pos h2, if_neg h3])
theorem read_bad (h : longL l = false) (h2 : ¬ l.head? = some 32) (h3 : fineL l = false) : readL (p.drop k) out = (22, []) :=
  read_err hx (by unfold stepM; rw [if_neg (by rw [h]; decide : ¬ longL l = true), if_neg h2, if_pos h3]) (by decide)
theorem read_twice (h : longL l = false) (h2 : ¬ l.head? = some 32) (h3 : fineL l = true) (h4 : smallL (keyP l) ∈ out.map (fun a => smallL a.1)) : readL (p.drop k) out = (14, []) :=
  read_err hx (by unfold stepM; rw [if_neg (by rw [h]; decide : ¬ longL l = true), if_neg h2, if_neg (by rw [h3]; decide : ¬ fineL l = false), if_pos h4]) (by decide)
theorem read_new (h : longL l = false) (h2 : ¬ l.head? = some 32) (h3 : fineL l = true) (h4 : ¬ smallL (keyP l) ∈ out.map (fun a => smallL a.1)) : readL (p.drop k) out = readL (p.drop (k + 1)) (out ++ [(keyP l, (restP l).drop 1)]) :=
  read_on hx (by unfold stepM; rw [if_neg (by rw [h]; decide : ¬ longL l = true), if_neg h2, if_neg (by rw [h3]; decide : ¬ fineL l = false), if_neg h4])
end
theorem read_end {p : List (List UInt8)} {out : List Attr} : readL (p.drop p.length) out = endM out := by rw [List.drop_length]; rfl
theorem linesOf_ne {s x : List UInt8} (h : x ∈ linesOf s) : x ≠ [] := by
  unfold linesOf at h
  have : ∀ (q : List (List UInt8)), x ∈ q.takeWhile (fun l => !l.isEmpty) → x ≠ [] := by
    intro q
    induction q with
    | nil => intro h; cases h
    | cons a r ih =>
      intro h
      rw [List.takeWhile_cons] at h
      split at h
      · rename_i ha
        rcases List.mem_cons.1 h with rfl | h
        · cases x with
          | nil => simp at ha
          | cons => simp
        · exact ih h
      · cases h
  exact this _ h
theorem linesM_ne {s x : List UInt8} (h : x ∈ linesM s) : x ≠ [] := linesOf_ne h
theorem cutL_count (a : UInt8) (s : List UInt8) : (cutL a s).length ≤ s.length + 1 := by
  induction s with
  | nil => simp [cutL]
  | cons c r ih =>
    unfold cutL
    split
    · simp; omega
    · split
      · simp
      · rename_i y ys h; rw [h] at ih; simp at ih ⊢; omega
theorem normF_len (p : Bool) (s : List UInt8) : (normF p s).length ≤ s.length := by
  induction s generalizing p with
  | nil => simp [normF]
  | cons c r ih =>
    unfold normF
    split
    · have := ih false; simp; omega
    · have := ih (c == 13); simp; omega
theorem takeWhile_len {α : Type} (f : α → Bool) (l : List α) : (l.takeWhile f).length ≤ l.length := (List.takeWhile_sublist f).length_le
theorem linesM_len (s : List UInt8) : (linesM s).length ≤ s.length + 1 := by
  unfold linesM linesOf
  have h1 := takeWhile_len (fun l => !l.isEmpty) (cutL 10 (normF false s))
  have h2 := cutL_count 10 (normF false s)
  have h3 := normF_len false s
  omega
theorem cutL_sz (a : UInt8) (s : List UInt8) : ∀ x ∈ cutL a s, x.length ≤ s.length := by
  induction s with
  | nil => intro x hx; simp [cutL] at hx; subst hx; simp
  | cons c r ih =>
    intro x hx
    unfold cutL at hx
    split at hx
    · rcases List.mem_cons.1 hx with rfl | hx
      · simp
      · have := ih x hx; simp; omega
    · split at hx
      · rename_i h; exact absurd h (cutL_ne a r)
      · rename_i y ys h
        rcases List.mem_cons.1 hx with rfl | hx
        · have := ih y (by rw [h]; simp); simp; omega
        · have := ih x (by rw [h]; simp [hx]); simp; omega
theorem linesM_sz {s x : List UInt8} (h : x ∈ linesM s) : x.length ≤ s.length := by
  unfold linesM linesOf at h
  have h1 := cutL_sz 10 (normF false s) x ((List.takeWhile_sublist _).subset h)
  have := normF_len false s
  omega
/-- What is read is known. -/
theorem readL_ok : ∀ (p : List (List UInt8)) (out : List Attr) (k : Nat), AttrsOk out k → AttrsOk (readL p out).2 (k + p.length) ∨ (readL p out).2 = [] := by
  intro p
  induction p with
  | nil =>
    intro out k h
    unfold readL endM
    cases out with
    | nil => exact .inr rfl
    | cons a r =>
      simp only
      split
      · exact .inl h
      · exact .inr rfl
  | cons l r ih =>
    intro out k h
    unfold readL
    split
    · rename_i hs
      unfold stepM at hs ⊢
      by_cases a1 : longL l = true
      · rw [if_pos a1] at hs; cases hs
      · rw [if_neg a1] at hs ⊢
        have hl : l.length ≤ 72 := by
          unfold longL at a1; simp at a1; omega
        by_cases a2 : l.head? = some 32
        · rw [if_pos a2] at hs ⊢
          by_cases a3 : out = []
          · rw [if_pos a3] at hs; cases hs
          · rw [if_neg a3]
            have := ih (addLast out (l.drop 1)) (k + 1) (attrsOk_add h (fun e => a3 (h.2.1.2 e)) hl)
            rwa [show k + 1 + r.length = k + (l :: r).length by simp; omega] at this
        · rw [if_neg a2] at hs ⊢
          by_cases a3 : fineL l = false
          · rw [if_pos a3] at hs; cases hs
          · rw [if_neg a3] at hs ⊢
            by_cases a4 : smallL (keyP l) ∈ out.map (fun a => smallL a.1)
            · rw [if_pos a4] at hs; cases hs
            · rw [if_neg a4]
              have := ih (out ++ [(keyP l, (restP l).drop 1)]) (k + 1) (attrsOk_new h (fine_name (by simpa using a3)) hl)
              rwa [show k + 1 + r.length = k + (l :: r).length by simp; omega] at this
    · exact .inr rfl
theorem readM_ok (b : List UInt8) : (readM b).2.length ≤ 32769 ∧ ∀ a ∈ (readM b).2, nameB a.1 = true ∧ a.2.length ≤ 72 * 32769 := by
  unfold readM
  split
  · exact ⟨by simp, by simp⟩
  · rename_i h
    have hl := linesM_len b
    rcases readL_ok (linesM b) [] 0 attrsOk_nil with ⟨h1, _, h3⟩ | h1
    · exact ⟨by omega, fun a ha => ⟨(h3 a ha).1, by have := (h3 a ha).2; omega⟩⟩
    · rw [h1]; exact ⟨by simp, by simp⟩
/-- The sign at which a line is cut. -/
theorem keyP_idx (l : List UInt8) : (Lib.indexByte l 58 = -1 ∧ keyP l = l) ∨ (Lib.indexByte l 58 = ((keyP l).length : Nat) ∧ (keyP l).length < l.length) := by
  unfold keyP
  induction l with
  | nil => exact .inl ⟨rfl, rfl⟩
  | cons c r ih =>
    unfold Lib.indexByte
    by_cases h : c = 58
    · subst h
      right
      simp
    · have h' : (c == 58) = false := by simpa using h
      have h'' : (c != 58) = true := by simpa using h
      rw [List.takeWhile_cons, if_pos h'']
      simp only [h', Bool.false_eq_true, if_false]
      rcases ih with ⟨h1, h2⟩ | ⟨h1, h2⟩
      · left
        rw [h1, h2]; simp
      · right
        rw [h1]
        refine ⟨?_, by simp; omega⟩
        have : ((((List.takeWhile (fun x => x != 58) r).length : Nat) : Int) == -1) = false := by simp
        rw [this]; simp
theorem take_key (l : List UInt8) : l.take (keyP l).length = keyP l := by
  unfold keyP
  induction l with
  | nil => rfl
  | cons c r ih =>
    rw [List.takeWhile_cons]
    split
    · rw [List.length_cons, List.take_succ_cons, ih]
    · rfl
theorem cut_key (l : List UInt8) : Lib.cut l [58] = (if (keyP l).length < l.length then (keyP l, restP l, true) else (l, [], false)) := by
  unfold Lib.cut
  rw [Lib.index_one]
  rcases keyP_idx l with ⟨h1, h2⟩ | ⟨h1, h2⟩
  · rw [h1, h2, if_neg (by omega), if_neg (by omega)]
  · rw [h1, if_pos h2, if_pos (by omega)]
    simp [take_key, restP]
end Go.Proofs.YthkgnidafdiolaaDoor
