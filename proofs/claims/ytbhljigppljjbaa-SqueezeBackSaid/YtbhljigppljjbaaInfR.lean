/- Plain facts on unpacking: what a greater limit turns; stored blocks. -/
import Derived.Test.YtbhljigppljjbaaInfQ
namespace Go.Proofs.Ytbhljigppljjbaa

/-- With a greater limit the answer is the same, unless the lesser one was passed. -/
def Lm (S : Nat → Rz (List UInt8 × Nat)) (n0 lim lim' : Nat) : Prop :=
  (S lim = .err 8 ∧ ∀ r p, S lim' = .ok (r, p) → lim < r.length) ∨ (S lim' = S lim ∧ ∀ r p, S lim = .ok (r, p) → n0 ≤ r.length ∧ r.length ≤ lim)
theorem Lm.low {S : Nat → Rz (List UInt8 × Nat)} {n0 n1 lim lim' : Nat} (h : Lm S n1 lim lim') (hn : n0 ≤ n1) : Lm S n0 lim lim' := by
  rcases h with h | ⟨h1, h2⟩
  · exact .inl h
  · exact .inr ⟨h1, fun r p hr => by have := h2 r p hr; omega⟩
theorem Lm.const {n0 lim lim' : Nat} (e : Int) : Lm (fun _ => .err e) n0 lim lim' := .inr ⟨rfl, fun r p h => by cases h⟩
theorem Lm.bind {α : Type} {n0 lim lim' : Nat} (x : Rz α) (F : α → Nat → Rz (List UInt8 × Nat)) (h : ∀ a, x = .ok a → Lm (F a) n0 lim lim') : Lm (fun L => x.bind fun a => F a L) n0 lim lim' := by
  cases x with
  | ok a => exact h a rfl
  | err e => exact Lm.const e
theorem Lm.grow {S : Nat → Rz (List UInt8 × Nat)} {n1 lim' : Nat} (h : Lm S n1 lim' lim') {r : List UInt8} {p : Nat} (hr : S lim' = .ok (r, p)) : n1 ≤ r.length := by
  rcases h with ⟨h1, _⟩ | ⟨_, h2⟩
  · rw [hr] at h1; cases h1
  · exact (h2 r p hr).1
/-- A check of the limit ahead of what goes on. -/
theorem Lm.check {S : Nat → Rz (List UInt8 × Nat)} {n0 n1 lim lim' : Nat} (hl : lim ≤ lim') (h0 : n0 ≤ n1) (h : n1 ≤ lim → Lm S n1 lim lim') (h' : n1 ≤ lim' → Lm S n1 lim' lim') : Lm (fun L => if L < n1 then .err 8 else S L) n0 lim lim' := by
  by_cases h1 : lim < n1
  · left
    refine ⟨if_pos h1, fun r p hr => ?_⟩
    by_cases h2 : lim' < n1
    · simp only [if_pos h2] at hr; cases hr
    · simp only [if_neg h2] at hr
      have := (h' (by omega)).grow hr; omega
  · have h2 : ¬ lim' < n1 := by omega
    rcases h (by omega) with ⟨a1, a2⟩ | ⟨a1, a2⟩
    · exact .inl ⟨by simp only [if_neg h1]; exact a1, fun r p hr => a2 r p (by simp only [if_neg h2] at hr; exact hr)⟩
    · exact .inr ⟨by simp only [if_neg h1, if_neg h2]; exact a1, fun r p hr => by simp only [if_neg h1] at hr; have := a2 r p hr; omega⟩
theorem copyN_len (far : Nat) : ∀ n out, (copyN far n out).length = out.length + n := by
  intro n
  induction n with
  | zero => intro out; rfl
  | succ n ih => intro out; rw [copyN, ih]; simp; omega
theorem sym_lim (lit dist : List Nat) (b : List UInt8) : ∀ f p out lim lim', out.length ≤ lim → lim ≤ lim' → Lm (fun L => symF lit dist b L f p out) out.length lim lim' := by
  intro f
  induction f with
  | zero => intro p out lim lim' _ _; exact Lm.const 0
  | succ f ih =>
    intro p out lim lim' ho hl
    simp only [symF]
    refine Lm.bind _ _ fun x hx => ?_
    by_cases h1 : x.1 = 256
    · simp only [if_pos h1]
      exact .inr ⟨rfl, fun r q h => by injection h with h; injection h with h2 h3; subst h2; exact ⟨Nat.le_refl _, ho⟩⟩
    · simp only [if_neg h1]
      by_cases h2 : x.1 < 256
      · simp only [if_pos h2]
        have e : (fun L => if L ≤ out.length then (.err 8 : Rz (List UInt8 × Nat)) else symF lit dist b L f x.2 (out ++ [UInt8.ofNat x.1])) = fun L => if L < out.length + 1 then .err 8 else symF lit dist b L f x.2 (out ++ [UInt8.ofNat x.1]) := by
          funext L
          by_cases hL : L ≤ out.length
          · rw [if_pos hL, if_pos (by omega)]
          · rw [if_neg hL, if_neg (by omega)]
        rw [e]
        have hn : (out ++ [UInt8.ofNat x.1]).length = out.length + 1 := by simp
        refine Lm.check hl (by omega) (fun h => ?_) (fun h => ?_)
        · have := ih x.2 (out ++ [UInt8.ofNat x.1]) lim lim' (by omega) hl
          rwa [hn] at this
        · have := ih x.2 (out ++ [UInt8.ofNat x.1]) lim' lim' (by omega) (Nat.le_refl _)
          rwa [hn] at this
      · simp only [if_neg h2]
        by_cases h3 : 285 < x.1
        · simp only [if_pos h3]; exact Lm.const 6
        · simp only [if_neg h3]
          refine Lm.bind _ _ fun y hy => Lm.bind _ _ fun z hz => ?_
          by_cases h4 : 29 < z.1
          · simp only [if_pos h4]; exact Lm.const 6
          · simp only [if_neg h4]
            refine Lm.bind _ _ fun u hu => ?_
            by_cases h5 : out.length < (dstP z.1).1 + u.1
            · simp only [if_pos h5]; exact Lm.const 7
            · simp only [if_neg h5]
              have hn := copyN_len ((dstP z.1).1 + u.1) ((lenP x.1).1 + y.1) out
              refine Lm.check hl (by omega) (fun h => ?_) (fun h => ?_)
              · have := ih u.2 (copyN ((dstP z.1).1 + u.1) ((lenP x.1).1 + y.1) out) lim lim' (by omega) hl
                rwa [hn] at this
              · have := ih u.2 (copyN ((dstP z.1).1 + u.1) ((lenP x.1).1 + y.1) out) lim' lim' (by omega) (Nat.le_refl _)
                rwa [hn] at this
theorem coded_lim (b : List UInt8) (lit dist : List Nat) (p : Nat) (out : List UInt8) (lim lim' : Nat) (ho : out.length ≤ lim) (hl : lim ≤ lim') : Lm (fun L => codedP L out lit dist b p) out.length lim lim' := by
  unfold codedP
  by_cases h1 : codeB lit false = false
  · simp only [if_pos h1]; exact Lm.const 5
  · simp only [if_neg h1]
    by_cases h2 : codeB dist true = false
    · simp only [if_pos h2]; exact Lm.const 5
    · simp only [if_neg h2]; exact sym_lim lit dist b _ p out lim lim' ho hl
theorem stored_lim (b : List UInt8) (p : Nat) (out : List UInt8) (lim lim' : Nat) (ho : out.length ≤ lim) (hl : lim ≤ lim') : Lm (fun L => storedP b L p out) out.length lim lim' := by
  unfold storedP
  generalize byteN b ((p + 7) / 8) + 256 * byteN b ((p + 7) / 8 + 1) = n
  by_cases h1 : b.length < (p + 7) / 8 + 4
  · simp only [if_pos h1]; exact Lm.const 2
  · simp only [if_neg h1]
    by_cases h2 : n + (byteN b ((p + 7) / 8 + 2) + 256 * byteN b ((p + 7) / 8 + 3)) ≠ 65535
    · simp only [if_pos h2]; exact Lm.const 4
    · simp only [if_neg h2]
      have key : ∀ lim lim', out.length + n ≤ lim → Lm (fun _ => if b.length < (p + 7) / 8 + 4 + n then (.err 2 : Rz (List UInt8 × Nat)) else .ok (out ++ (b.drop ((p + 7) / 8 + 4)).take n, 8 * ((p + 7) / 8 + 4 + n))) (out.length + n) lim lim' := fun lim lim' h => by
        by_cases h3 : b.length < (p + 7) / 8 + 4 + n
        · simp only [if_pos h3]; exact Lm.const 2
        · simp only [if_neg h3]
          refine .inr ⟨rfl, fun r q hr => ?_⟩
          injection hr with hr; injection hr with hr _
          subst hr
          simp only [List.length_append, List.length_take, List.length_drop]; omega
      exact Lm.check hl (by omega) (fun h => key _ _ h) (fun h => key _ _ h)
theorem body_lim (b : List UInt8) (k p : Nat) (out : List UInt8) (lim lim' : Nat) (ho : out.length ≤ lim) (hl : lim ≤ lim') : Lm (fun L => bodyP L out k b p) out.length lim lim' := by
  have h9 := coded_lim b fixLit fixDist p out lim lim' ho hl
  unfold bodyP
  generalize fixLit = A at h9 ⊢
  generalize fixDist = B at h9 ⊢
  by_cases h1 : k = 0
  · simp only [if_pos h1]; exact stored_lim b p out lim lim' ho hl
  · simp only [if_neg h1]
    by_cases h2 : k = 3
    · simp only [if_pos h2]; exact Lm.const 3
    · simp only [if_neg h2]
      by_cases h3 : k = 2
      · simp only [if_pos h3]
        exact Lm.bind (toldP b p) (fun u L => codedP L out u.1.1 u.1.2 b u.2) (fun u _ => coded_lim b u.1.1 u.1.2 u.2 out lim lim' ho hl)
      · simp only [if_neg h3]; exact h9
theorem bind_assoc {α β γ : Type} (x : Rz α) (f : α → Rz β) (g : β → Rz γ) : (x.bind f).bind g = x.bind fun a => (f a).bind g := by cases x <;> rfl
theorem ok_bind {α β : Type} (a : α) (f : α → Rz β) : (Rz.ok a).bind f = f a := rfl
theorem allB_eq (lim : Nat) (b : List UInt8) (f p : Nat) (out : List UInt8) : allB lim b (f + 1) p out = (tk b p 1).bind fun x => (tk b x.2 2).bind fun y => (bodyP lim out y.1 b y.2).bind fun z => if x.1 = 1 then .ok z else allB lim b f z.2 z.1 := by
  rw [allB, blkP, bind_assoc]
  refine bind_congr fun x _ => ?_
  rw [bind_assoc]
  refine bind_congr fun y _ => ?_
  rw [bind_assoc]
  refine bind_congr fun z _ => ?_
  rw [ok_bind]
  by_cases h : x.1 = 1
  · rw [if_pos h, if_pos (by simpa using h)]
  · rw [if_neg h, if_neg (by simpa using h)]
theorem Lm.then {S : Nat → Rz (List UInt8 × Nat)} {T : Nat → List UInt8 × Nat → Rz (List UInt8 × Nat)} {n0 lim lim' : Nat} (h1 : Lm S n0 lim lim') (h1' : Lm S n0 lim' lim')
    (h2 : ∀ z : List UInt8 × Nat, z.1.length ≤ lim → Lm (fun L => T L z) z.1.length lim lim') (h2' : ∀ z : List UInt8 × Nat, z.1.length ≤ lim' → Lm (fun L => T L z) z.1.length lim' lim') : Lm (fun L => (S L).bind (T L)) n0 lim lim' := by
  rcases h1 with ⟨a1, a2⟩ | ⟨a1, a2⟩
  · left
    refine ⟨by show (S lim).bind _ = _; rw [a1]; rfl, fun r q hr => ?_⟩
    obtain ⟨⟨z, pz⟩, hz, hr⟩ := bind_ok hr
    have h3 := a2 z pz hz
    rcases h1' with ⟨h4, _⟩ | ⟨_, h4⟩
    · rw [hz] at h4; cases h4
    · have h5 := h4 z pz hz
      have := (h2' (z, pz) h5.2).grow hr
      simp only at this; omega
  · cases hz : S lim with
    | err e =>
      refine .inr ⟨by show (S lim').bind _ = (S lim).bind _; rw [a1, hz]; rfl, fun r q hr => ?_⟩
      have hr' : (S lim).bind (T lim) = .ok (r, q) := hr
      rw [hz] at hr'; cases hr'
    | ok z =>
      have h3 := a2 z.1 z.2 hz
      have e1 : (S lim).bind (T lim) = T lim z := by rw [hz]; rfl
      have e2 : (S lim').bind (T lim') = T lim' z := by rw [a1, hz]; rfl
      have h4 := (h2 z h3.2).low h3.1
      unfold Lm at h4 ⊢
      simp only [e1, e2]
      exact h4
theorem all_lim (b : List UInt8) : ∀ f p out lim lim', out.length ≤ lim → lim ≤ lim' → Lm (fun L => allB L b f p out) out.length lim lim' := by
  intro f
  induction f with
  | zero => intro p out lim lim' _ _; exact Lm.const 0
  | succ f ih =>
    intro p out lim lim' ho hl
    have key : ∀ (x y : Nat × Nat), Lm (fun L => (bodyP L out y.1 b y.2).bind fun z => if x.1 = 1 then .ok z else allB L b f z.2 z.1) out.length lim lim' := fun x y => by
      refine Lm.then (S := fun L => bodyP L out y.1 b y.2) (T := fun L z => if x.1 = 1 then .ok z else allB L b f z.2 z.1) (body_lim b y.1 y.2 out lim lim' ho hl) (body_lim b y.1 y.2 out lim' lim' (by omega) (Nat.le_refl _)) (fun z hz => ?_) (fun z hz => ?_)
      · by_cases hx : x.1 = 1
        · simp only [if_pos hx]
          exact .inr ⟨rfl, fun r q hr => by injection hr with hr; subst hr; exact ⟨Nat.le_refl _, hz⟩⟩
        · simp only [if_neg hx]; exact ih z.2 z.1 lim lim' hz hl
      · by_cases hx : x.1 = 1
        · simp only [if_pos hx]
          exact .inr ⟨rfl, fun r q hr => by injection hr with hr; subst hr; exact ⟨Nat.le_refl _, hz⟩⟩
        · simp only [if_neg hx]; exact ih z.2 z.1 lim' lim' hz (Nat.le_refl _)
    have e : (fun L => allB L b (f + 1) p out) = fun L => (tk b p 1).bind fun x => (tk b x.2 2).bind fun y => (bodyP L out y.1 b y.2).bind fun z => if x.1 = 1 then .ok z else allB L b f z.2 z.1 := by funext L; exact allB_eq L b f p out
    rw [e]
    exact Lm.bind (tk b p 1) (fun (x : Nat × Nat) L => (tk b x.2 2).bind fun y => (bodyP L out y.1 b y.2).bind fun z => if x.1 = 1 then .ok z else allB L b f z.2 z.1) fun x hx =>
      Lm.bind (tk b x.2 2) (fun (y : Nat × Nat) L => (bodyP L out y.1 b y.2).bind fun z => if x.1 = 1 then .ok z else allB L b f z.2 z.1) fun y hy => key x y
/-- Two limits. -/
theorem infl_lim (b : List UInt8) {s g : Nat} (hs : s ≤ g) (hg : g ≤ 32768) :
    (∀ r n, inflP b s = .ok (r, n) → r.length ≤ s) ∧ ((inflP b s = .err 8 ∧ ∀ r n, inflP b g = .ok (r, n) → s < r.length) ∨ inflP b g = inflP b s) := by
  have h := all_lim b (8 * b.length + 1) 0 [] s g (by simp) hs
  have e : ∀ L : Nat, L ≤ 32768 → inflP b L = (allP L b 0).bind fun x => .ok (x.1, (x.2 + 7) / 8) := fun L hL => by
    unfold inflP; rw [if_neg (by omega), Int.toNat_natCast]
  rw [e s (by omega), e g hg]
  unfold allP
  rcases h with ⟨h1, h2⟩ | ⟨h1, h2⟩
  · simp only at h1 h2
    rw [h1]
    refine ⟨fun r n hr => (by cases hr), .inl ⟨rfl, fun r n hr => ?_⟩⟩
    obtain ⟨⟨x, p⟩, hx, hr⟩ := bind_ok hr
    injection hr with hr; injection hr with hr _; subst hr
    exact h2 x p hx
  · simp only at h1 h2
    refine ⟨fun r n hr => ?_, .inr (by rw [h1])⟩
    obtain ⟨⟨x, p⟩, hx, hr⟩ := bind_ok hr
    injection hr with hr; injection hr with hr _; subst hr
    exact (h2 x p hx).2
end Go.Proofs.Ytbhljigppljjbaa
