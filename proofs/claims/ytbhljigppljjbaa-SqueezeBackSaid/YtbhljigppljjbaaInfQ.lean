/- Plain facts on unpacking: what is read hangs on the bits that are passed alone; what is cut off is missed. -/
import Derived.Test.YtbhljigppljjbaaInfP
namespace Go.Proofs.Ytbhljigppljjbaa

/-- A reader of bits: its answer, and where it stands behind it. -/
abbrev Ps (α : Type) := List UInt8 → Nat → Rz (α × Nat)
structure Good {α : Type} (P : Ps α) : Prop where
  mono : ∀ b p a p', p ≤ 8 * b.length → P b p = .ok (a, p') → p ≤ p' ∧ p' ≤ 8 * b.length
  agree : ∀ b c p a p', p ≤ 8 * b.length → P b p = .ok (a, p') → (∀ i, i < p' → bitAt b i = bitAt c i) → p' ≤ 8 * c.length → P c p = .ok (a, p')
  cut : ∀ b k p a p', k ≤ b.length → p ≤ 8 * k → P b p = .ok (a, p') → 8 * k < p' → P (b.take k) p = .err 2
theorem bitAt_take {b : List UInt8} {k i : Nat} (h : i < 8 * k) : bitAt (b.take k) i = bitAt b i := by
  unfold bitAt
  rw [List.getD_eq_getElem?_getD, List.getD_eq_getElem?_getD, List.getElem?_take, if_pos (by omega)]
theorem takeN_agree {b c : List UInt8} {p n : Nat} (h : ∀ i, i < p + n → bitAt b i = bitAt c i) : takeN b p n = takeN c p n := by
  induction n with
  | zero => rfl
  | succ n ih => unfold takeN; rw [ih (fun i hi => h i (by omega)), h (p + n) (by omega)]
theorem Good.ret {α : Type} (a : α) : Good (fun _ p => .ok (a, p)) :=
  ⟨fun b p a' p' hp h => by injection h with h; injection h with h1 h2; omega,
   fun b c p a' p' _ h _ _ => h,
   fun b k p a' p' _ hp h hk => by injection h with h; injection h with h1 h2; omega⟩
theorem Good.fail {α : Type} (e : Int) : Good (fun _ _ => (.err e : Rz (α × Nat))) :=
  ⟨fun _ _ _ _ _ h => (by cases h), fun _ _ _ _ _ _ h _ _ => (by cases h), fun _ _ _ _ _ _ _ h _ => (by cases h)⟩
theorem Good.bits (n : Nat) : Good (fun b p => tk b p n) := by
  refine ⟨fun b p a p' hp h => ?_, fun b c p a p' hp h ha hc => ?_, fun b k p a p' hk hp h hl => ?_⟩
  · unfold tk at h
    split at h
    · injection h with h; injection h with h1 h2; omega
    · cases h
  · unfold tk at h ⊢
    split at h
    · injection h with h; injection h with h1 h2
      subst h1; subst h2
      rw [if_pos (by omega), takeN_agree ha]
    · cases h
  · unfold tk at h ⊢
    split at h
    · injection h with h; injection h with h1 h2
      rw [if_neg (by rw [List.length_take]; omega)]
    · cases h
theorem bind_ok {α β : Type} {x : Rz α} {f : α → Rz β} {r : β} (h : x.bind f = .ok r) : ∃ a, x = .ok a ∧ f a = .ok r := by
  cases x with
  | ok a => exact ⟨a, rfl, h⟩
  | err e => cases h
theorem Good.bind {α β : Type} {A : Ps α} {F : α → Ps β} (hA : Good A) (hF : ∀ a, Good (F a)) : Good (fun b p => (A b p).bind fun x => F x.1 b x.2) := by
  refine ⟨fun b p a p' hp h => ?_, fun b c p a p' hp h ha hc => ?_, fun b k p a p' hk hp h hl => ?_⟩
  · obtain ⟨⟨x, p1⟩, h1, h2⟩ := bind_ok h
    have m1 := hA.mono b p x p1 hp h1
    have m2 := (hF x).mono b p1 a p' m1.2 h2
    omega
  · obtain ⟨⟨x, p1⟩, h1, h2⟩ := bind_ok h
    have m1 := hA.mono b p x p1 hp h1
    have m2 := (hF x).mono b p1 a p' m1.2 h2
    have e1 := hA.agree b c p x p1 hp h1 (fun i hi => ha i (by omega)) (by omega)
    have e2 := (hF x).agree b c p1 a p' m1.2 h2 ha hc
    show (A c p).bind _ = _
    rw [e1]; exact e2
  · obtain ⟨⟨x, p1⟩, h1, h2⟩ := bind_ok h
    have m1 := hA.mono b p x p1 (by omega) h1
    show (A (b.take k) p).bind _ = _
    by_cases hk1 : p1 ≤ 8 * k
    · have e1 := hA.agree b (b.take k) p x p1 (by omega) h1 (fun i hi => (bitAt_take (by omega)).symm) (by rw [List.length_take]; omega)
      rw [e1]
      exact (hF x).cut b k p1 a p' hk hk1 h2 hl
    · rw [hA.cut b k p x p1 hk hp h1 (by omega)]; rfl
theorem Good.ite {α : Type} {c : Prop} [Decidable c] {A B : Ps α} (hA : Good A) (hB : Good B) : Good (fun b p => if c then A b p else B b p) := by
  by_cases h : c
  · have e : (fun b p => if c then A b p else B b p) = A := by funext b p; rw [if_pos h]
    rw [e]; exact hA
  · have e : (fun b p => if c then A b p else B b p) = B := by funext b p; rw [if_neg h]
    rw [e]; exact hB
theorem good_nextF (l : List Nat) : ∀ f n c, Good (fun b p => nextF l b f n c p) := by
  intro f
  induction f with
  | zero => intro n c; exact Good.fail 6
  | succ f ih =>
    intro n c
    refine ⟨fun b p a p' hp h => ?_, fun b d p a p' hp h ha hc => ?_, fun b k p a p' hk hp h hl => ?_⟩
    · simp only [nextF] at h
      split at h
      · split at h
        · injection h with h; injection h with h1 h2; omega
        · have := (ih _ _).mono b (p + 1) a p' (by omega) h; omega
      · cases h
    · simp only [nextF] at h ⊢
      split at h
      · rename_i h1
        have hb : p + 1 ≤ p' := by
          split at h
          · injection h with h; injection h with h2 h3; omega
          · have := (ih _ _).mono b (p + 1) a p' (by omega) h; omega
        rw [if_pos (by omega), ← ha p (by omega)]
        split at h
        · exact h
        · exact (ih _ _).agree b d (p + 1) a p' (by omega) h ha hc
      · cases h
    · simp only [nextF] at h ⊢
      split at h
      · rename_i h1
        by_cases hk1 : p + 1 ≤ 8 * k
        · rw [if_pos (by rw [List.length_take]; omega), bitAt_take (by omega)]
          split at h
          · injection h with h; injection h with h2 h3; omega
          · exact (ih _ _).cut b k (p + 1) a p' hk hk1 h hl
        · rw [if_neg (by rw [List.length_take]; omega)]
      · cases h
theorem good_next (l : List Nat) : Good (fun b p => nextP l b p) := good_nextF l _ 0 0
theorem good_sym (lit dist : List Nat) (lim : Nat) : ∀ f out, Good (fun b p => symF lit dist b lim f p out) := by
  intro f
  induction f with
  | zero => intro out; exact Good.fail 0
  | succ f ih =>
    intro out
    have h4 : ∀ s k t u, Good (fun b p => if out.length < (dstP t).1 + u then (.err 7 : Rz (List UInt8 × Nat)) else if lim < out.length + ((lenP s).1 + k) then .err 8 else symF lit dist b lim f p (copyN ((dstP t).1 + u) ((lenP s).1 + k) out)) :=
      fun s k t u => Good.ite (Good.fail 7) (Good.ite (Good.fail 8) (ih _))
    have h3 : ∀ s k t, Good (fun b p => if 29 < t then (.err 6 : Rz (List UInt8 × Nat)) else (tk b p (dstP t).2).bind fun u => if out.length < (dstP t).1 + u.1 then (.err 7 : Rz (List UInt8 × Nat)) else if lim < out.length + ((lenP s).1 + k) then .err 8 else symF lit dist b lim f u.2 (copyN ((dstP t).1 + u.1) ((lenP s).1 + k) out)) :=
      fun s k t => Good.ite (Good.fail 6) (Good.bind (F := fun u b p => if out.length < (dstP t).1 + u then (.err 7 : Rz (List UInt8 × Nat)) else if lim < out.length + ((lenP s).1 + k) then .err 8 else symF lit dist b lim f p (copyN ((dstP t).1 + u) ((lenP s).1 + k) out)) (Good.bits _) (h4 s k t))
    have h2 : ∀ s k, Good (fun b p => (nextP dist b p).bind fun z => if 29 < z.1 then (.err 6 : Rz (List UInt8 × Nat)) else (tk b z.2 (dstP z.1).2).bind fun u => if out.length < (dstP z.1).1 + u.1 then (.err 7 : Rz (List UInt8 × Nat)) else if lim < out.length + ((lenP s).1 + k) then .err 8 else symF lit dist b lim f u.2 (copyN ((dstP z.1).1 + u.1) ((lenP s).1 + k) out)) :=
      fun s k => Good.bind (F := fun t b p => if 29 < t then (.err 6 : Rz (List UInt8 × Nat)) else (tk b p (dstP t).2).bind fun u => if out.length < (dstP t).1 + u.1 then (.err 7 : Rz (List UInt8 × Nat)) else if lim < out.length + ((lenP s).1 + k) then .err 8 else symF lit dist b lim f u.2 (copyN ((dstP t).1 + u.1) ((lenP s).1 + k) out)) (good_next dist) (h3 s k)
    have h1 : ∀ s, Good (fun b p => (tk b p (lenP s).2).bind fun y => (nextP dist b y.2).bind fun z => if 29 < z.1 then (.err 6 : Rz (List UInt8 × Nat)) else (tk b z.2 (dstP z.1).2).bind fun u => if out.length < (dstP z.1).1 + u.1 then (.err 7 : Rz (List UInt8 × Nat)) else if lim < out.length + ((lenP s).1 + y.1) then .err 8 else symF lit dist b lim f u.2 (copyN ((dstP z.1).1 + u.1) ((lenP s).1 + y.1) out)) :=
      fun s => Good.bind (F := fun k b p => (nextP dist b p).bind fun z => if 29 < z.1 then (.err 6 : Rz (List UInt8 × Nat)) else (tk b z.2 (dstP z.1).2).bind fun u => if out.length < (dstP z.1).1 + u.1 then (.err 7 : Rz (List UInt8 × Nat)) else if lim < out.length + ((lenP s).1 + k) then .err 8 else symF lit dist b lim f u.2 (copyN ((dstP z.1).1 + u.1) ((lenP s).1 + k) out)) (Good.bits _) (h2 s)
    exact Good.bind (F := fun s b p => if s = 256 then .ok (out, p)
      else if s < 256 then (if lim ≤ out.length then .err 8 else symF lit dist b lim f p (out ++ [UInt8.ofNat s]))
      else if 285 < s then .err 6
      else (tk b p (lenP s).2).bind fun y => (nextP dist b y.2).bind fun z => if 29 < z.1 then (.err 6 : Rz (List UInt8 × Nat)) else (tk b z.2 (dstP z.1).2).bind fun u => if out.length < (dstP z.1).1 + u.1 then (.err 7 : Rz (List UInt8 × Nat)) else if lim < out.length + ((lenP s).1 + y.1) then .err 8 else symF lit dist b lim f u.2 (copyN ((dstP z.1).1 + u.1) ((lenP s).1 + y.1) out))
      (good_next lit) fun s => Good.ite (Good.ret _) (Good.ite (Good.ite (Good.fail 8) (ih _)) (Good.ite (Good.fail 6) (h1 s)))
theorem good_lens : ∀ ks l, Good (fun b p => lensF b ks l p) := by
  intro ks
  induction ks with
  | nil => intro l; exact Good.ret l
  | cons k r ih => intro l; exact Good.bind (F := fun x b p => lensF b r (l.set k x) p) (Good.bits 3) fun x => ih _
theorem good_allF (lens : List Nat) (total : Nat) : ∀ f all, Good (fun b p => allF lens b total f p all) := by
  intro f
  induction f with
  | zero => intro all; exact Good.fail 0
  | succ f ih =>
    intro all
    have h1 : ∀ s, Good (fun b p => (tk b p (runP s all).2.2).bind fun y => if total < all.length + ((runP s all).2.1 + y.1) then (.err 6 : Rz (List Nat × Nat)) else allF lens b total f y.2 (all ++ List.replicate ((runP s all).2.1 + y.1) (runP s all).1)) :=
      fun s => Good.bind (F := fun y b p => if total < all.length + ((runP s all).2.1 + y) then (.err 6 : Rz (List Nat × Nat)) else allF lens b total f p (all ++ List.replicate ((runP s all).2.1 + y) (runP s all).1)) (Good.bits _) fun y => Good.ite (Good.fail 6) (ih _)
    exact Good.ite (Good.ret _) (Good.bind (F := fun s b p => if s = 16 ∧ all = [] then (.err 6 : Rz (List Nat × Nat)) else (tk b p (runP s all).2.2).bind fun y => if total < all.length + ((runP s all).2.1 + y.1) then (.err 6 : Rz (List Nat × Nat)) else allF lens b total f y.2 (all ++ List.replicate ((runP s all).2.1 + y.1) (runP s all).1)) (good_next lens) fun s => Good.ite (Good.fail 6) (h1 s))
/-- A symbol takes a bit. -/
theorem nextF_more {l : List Nat} {b : List UInt8} : ∀ {f n c p s p'}, nextF l b f n c p = .ok (s, p') → p < p' ∧ p' ≤ 8 * b.length := by
  intro f
  induction f with
  | zero => intro n c p s p' h; cases h
  | succ f ih =>
    intro n c p s p' h
    simp only [nextF] at h
    split at h
    · split at h
      · injection h with h; injection h with h1 h2; omega
      · have := ih h; omega
    · cases h
theorem nextP_more {l : List Nat} {b : List UInt8} {p s p' : Nat} (h : nextP l b p = .ok (s, p')) : p < p' ∧ p' ≤ 8 * b.length := nextF_more h
theorem tk_more {b : List UInt8} {p n v p' : Nat} (h : tk b p n = .ok (v, p')) : p' = p + n ∧ p' ≤ 8 * b.length ∧ v = takeN b p n := by
  unfold tk at h
  split at h
  · injection h with h; injection h with h1 h2; exact ⟨by omega, by omega, h1.symm⟩
  · cases h
theorem bind_congr {α β : Type} {x : Rz α} {f g : α → Rz β} (h : ∀ a, x = .ok a → f a = g a) : x.bind f = x.bind g := by
  cases x with
  | ok a => exact h a rfl
  | err e => rfl
/-- More rounds than bits make no difference. -/
theorem sym_fuel (lit dist : List Nat) (b : List UInt8) (lim : Nat) : ∀ f g p out, p ≤ 8 * b.length → 8 * b.length - p < f → 8 * b.length - p < g → symF lit dist b lim f p out = symF lit dist b lim g p out := by
  intro f
  induction f with
  | zero => intro g p out _ h; omega
  | succ f ih =>
    intro g p out hp hf hg
    obtain ⟨g, rfl⟩ : ∃ k, g = k + 1 := ⟨g - 1, by omega⟩
    simp only [symF]
    refine bind_congr fun x hx => ?_
    have m1 := nextP_more (s := x.1) (p' := x.2) hx
    split
    · rfl
    · split
      · split
        · rfl
        · exact ih g x.2 _ (by omega) (by omega) (by omega)
      · split
        · rfl
        · refine bind_congr fun y hy => bind_congr fun z hz => ?_
          have m2 := tk_more (v := y.1) (p' := y.2) hy
          have m3 := nextP_more (s := z.1) (p' := z.2) hz
          split
          · rfl
          · refine bind_congr fun u hu => ?_
            have m4 := tk_more (v := u.1) (p' := u.2) hu
            split
            · rfl
            · split
              · rfl
              · exact ih g u.2 _ (by omega) (by omega) (by omega)
theorem allF_fuel (lens : List Nat) (b : List UInt8) (total : Nat) : ∀ f g p all, p ≤ 8 * b.length → 8 * b.length - p < f → 8 * b.length - p < g → allF lens b total f p all = allF lens b total g p all := by
  intro f
  induction f with
  | zero => intro g p all _ h; omega
  | succ f ih =>
    intro g p all hp hf hg
    obtain ⟨g, rfl⟩ : ∃ k, g = k + 1 := ⟨g - 1, by omega⟩
    simp only [allF]
    split
    · rfl
    · refine bind_congr fun x hx => ?_
      have m1 := nextP_more (s := x.1) (p' := x.2) hx
      split
      · rfl
      · refine bind_congr fun y hy => ?_
        have m2 := tk_more (v := y.1) (p' := y.2) hy
        split
        · rfl
        · exact ih g y.2 _ (by omega) (by omega) (by omega)
/-- A reader whose number of rounds is of the bytes' length. -/
theorem Good.fuel {α : Type} {P : Nat → Ps α} (h : ∀ f, Good (P f)) (hf : ∀ b f g p, p ≤ 8 * b.length → 8 * b.length - p < f → 8 * b.length - p < g → P f b p = P g b p) : Good (fun b p => P (8 * b.length + 1) b p) := by
  refine ⟨fun b p a p' hp he => (h _).mono b p a p' hp he, fun b c p a p' hp he ha hc => ?_, fun b k p a p' hk hp he hl => ?_⟩
  · have m := (h _).mono b p a p' hp he
    have e1 := hf b (8 * b.length + 1) (8 * b.length + 8 * c.length + 1) p hp (by omega) (by omega)
    have e2 := hf c (8 * c.length + 1) (8 * b.length + 8 * c.length + 1) p (by omega) (by omega) (by omega)
    have he' : P (8 * b.length + 1) b p = .ok (a, p') := he
    show P (8 * c.length + 1) c p = _
    rw [e2]
    exact (h _).agree b c p a p' hp (by rw [← e1]; exact he') ha hc
  · have hl2 : (b.take k).length = k := by rw [List.length_take]; omega
    have e1 := hf b (8 * b.length + 1) (8 * b.length + 8 * k + 1) p (by omega) (by omega) (by omega)
    have e2 := hf (b.take k) (8 * (b.take k).length + 1) (8 * b.length + 8 * k + 1) p (by omega) (by omega) (by omega)
    have he' : P (8 * b.length + 1) b p = .ok (a, p') := he
    show P (8 * (b.take k).length + 1) (b.take k) p = _
    rw [e2]
    exact (h _).cut b k p a p' hk hp (by rw [← e1]; exact he') hl
theorem good_allP0 (lens : List Nat) (total : Nat) : Good (fun b p => allP0 lens total b p) :=
  Good.fuel (P := fun f b p => allF lens b total f p []) (fun f => good_allF lens total f []) (fun b f g p hp hf hg => allF_fuel lens b total f g p [] hp hf hg)
theorem good_symP (lit dist : List Nat) (lim : Nat) (out : List UInt8) : Good (fun b p => symP lit dist lim out b p) :=
  Good.fuel (P := fun f b p => symF lit dist b lim f p out) (fun f => good_sym lit dist lim f out) (fun b f g p hp hf hg => sym_fuel lit dist b lim f g p out hp hf hg)
theorem good_coded (lim : Nat) (out : List UInt8) (lit dist : List Nat) : Good (fun b p => codedP lim out lit dist b p) :=
  Good.ite (Good.fail 5) (Good.ite (Good.fail 5) (good_symP lit dist lim out))
theorem good_told : Good (fun b p => toldP b p) := by
  have h1 : ∀ (x y : Nat) (u : List Nat), Good (fun b p => (allP0 u (x + 257 + (y + 1)) b p).bind fun v => if v.1.getD 256 0 = 0 then (.err 5 : Rz ((List Nat × List Nat) × Nat)) else .ok ((v.1.take (x + 257), v.1.drop (x + 257)), v.2)) :=
    fun x y u => Good.bind (F := fun v _ p => if v.getD 256 0 = 0 then (.err 5 : Rz ((List Nat × List Nat) × Nat)) else .ok ((v.take (x + 257), v.drop (x + 257)), p)) (good_allP0 _ _) fun v => Good.ite (Good.fail 5) (Good.ret _)
  have h2 : ∀ (x y z : Nat), Good (fun b p => if 286 < x + 257 ∨ 30 < y + 1 then (.err 5 : Rz ((List Nat × List Nat) × Nat)) else (lensF b (ordL.take (z + 4)) (List.replicate 19 0) p).bind fun u => if codeB u.1 false = false then (.err 5 : Rz ((List Nat × List Nat) × Nat)) else (allP0 u.1 (x + 257 + (y + 1)) b u.2).bind fun v => if v.1.getD 256 0 = 0 then (.err 5 : Rz ((List Nat × List Nat) × Nat)) else .ok ((v.1.take (x + 257), v.1.drop (x + 257)), v.2)) :=
    fun x y z => Good.ite (Good.fail 5) (Good.bind (F := fun u b p => if codeB u false = false then (.err 5 : Rz ((List Nat × List Nat) × Nat)) else (allP0 u (x + 257 + (y + 1)) b p).bind fun v => if v.1.getD 256 0 = 0 then (.err 5 : Rz ((List Nat × List Nat) × Nat)) else .ok ((v.1.take (x + 257), v.1.drop (x + 257)), v.2)) (good_lens _ _) fun u => Good.ite (Good.fail 5) (h1 x y u))
  exact Good.bind (F := fun x b p => (tk b p 5).bind fun y => (tk b y.2 4).bind fun z => if 286 < x + 257 ∨ 30 < y.1 + 1 then (.err 5 : Rz ((List Nat × List Nat) × Nat)) else (lensF b (ordL.take (z.1 + 4)) (List.replicate 19 0) z.2).bind fun u => if codeB u.1 false = false then (.err 5 : Rz ((List Nat × List Nat) × Nat)) else (allP0 u.1 (x + 257 + (y.1 + 1)) b u.2).bind fun v => if v.1.getD 256 0 = 0 then (.err 5 : Rz ((List Nat × List Nat) × Nat)) else .ok ((v.1.take (x + 257), v.1.drop (x + 257)), v.2)) (Good.bits 5) fun x =>
    Good.bind (F := fun y b p => (tk b p 4).bind fun z => if 286 < x + 257 ∨ 30 < y + 1 then (.err 5 : Rz ((List Nat × List Nat) × Nat)) else (lensF b (ordL.take (z.1 + 4)) (List.replicate 19 0) z.2).bind fun u => if codeB u.1 false = false then (.err 5 : Rz ((List Nat × List Nat) × Nat)) else (allP0 u.1 (x + 257 + (y + 1)) b u.2).bind fun v => if v.1.getD 256 0 = 0 then (.err 5 : Rz ((List Nat × List Nat) × Nat)) else .ok ((v.1.take (x + 257), v.1.drop (x + 257)), v.2)) (Good.bits 5) fun y =>
      Good.bind (F := fun z b p => if 286 < x + 257 ∨ 30 < y + 1 then (.err 5 : Rz ((List Nat × List Nat) × Nat)) else (lensF b (ordL.take (z + 4)) (List.replicate 19 0) p).bind fun u => if codeB u.1 false = false then (.err 5 : Rz ((List Nat × List Nat) × Nat)) else (allP0 u.1 (x + 257 + (y + 1)) b u.2).bind fun v => if v.1.getD 256 0 = 0 then (.err 5 : Rz ((List Nat × List Nat) × Nat)) else .ok ((v.1.take (x + 257), v.1.drop (x + 257)), v.2)) (Good.bits 4) (h2 x y)
/-- Bytes out of bits. -/
theorem byteN_bits (b : List UInt8) (k : Nat) : takeN b (8 * k) 8 = byteN b k := by
  have h : ∀ j, j < 8 → bitAt b (8 * k + j) = (b.getD k 0).toNat / 2 ^ j % 2 := fun j hj => by
    unfold bitAt; rw [show (8 * k + j) / 8 = k by omega, show (8 * k + j) % 8 = j by omega]
  have hb := (b.getD k 0).toNat_lt
  unfold byteN
  simp only [takeN, h 0 (by omega), h 1 (by omega), h 2 (by omega), h 3 (by omega), h 4 (by omega), h 5 (by omega), h 6 (by omega), h 7 (by omega), Nat.reducePow]
  omega
theorem byteN_agree {b c : List UInt8} {m k : Nat} (h : ∀ i, i < 8 * m → bitAt b i = bitAt c i) (hk : k < m) : byteN b k = byteN c k := by
  rw [← byteN_bits, ← byteN_bits]; exact takeN_agree fun i hi => h i (by omega)
theorem take_agree {b c : List UInt8} {m : Nat} (h : ∀ i, i < 8 * m → bitAt b i = bitAt c i) (hb : m ≤ b.length) (hc : m ≤ c.length) : b.take m = c.take m := by
  apply List.ext_getElem?
  intro i
  rw [List.getElem?_take, List.getElem?_take]
  split
  · rename_i hi
    have := byteN_agree h hi
    unfold byteN at this
    rw [List.getD_eq_getElem?_getD, List.getD_eq_getElem?_getD, List.getElem?_eq_getElem (by omega), List.getElem?_eq_getElem (by omega)] at this
    rw [List.getElem?_eq_getElem (by omega), List.getElem?_eq_getElem (by omega)]
    exact congrArg some (UInt8.toNat_inj.1 this)
  · rfl
theorem piece_agree {b c : List UInt8} {s n m : Nat} (h : b.take m = c.take m) (hs : s + n ≤ m) : (b.drop s).take n = (c.drop s).take n := by
  have e : ∀ (x : List UInt8), (x.drop s).take n = ((x.take m).drop s).take n := fun x => by
    apply List.ext_getElem?
    intro i
    rw [List.getElem?_take, List.getElem?_take]
    split
    · rw [List.getElem?_drop, List.getElem?_drop, List.getElem?_take, if_pos (by omega)]
    · rfl
  rw [e b, e c, h]
theorem good_stored (lim : Nat) (out : List UInt8) : Good (fun b p => storedP b lim p out) := by
  refine ⟨fun b p a p' hp h => ?_, fun b c p a p' hp h ha hc => ?_, fun b k p a p' hk hp h hl => ?_⟩
  · unfold storedP at h
    generalize byteN b ((p + 7) / 8) + 256 * byteN b ((p + 7) / 8 + 1) = n at h
    split at h
    · cases h
    · split at h
      · cases h
      · split at h
        · cases h
        · split at h
          · cases h
          · injection h with h; injection h with h1 h2; omega
  · unfold storedP at h
    split at h
    · cases h
    · split at h
      · cases h
      · split at h
        · cases h
        · split at h
          · cases h
          · rename_i g1 g2 g3 g4
            injection h with h; injection h with h1 h2
            have hA : ∀ i, i < 8 * ((p + 7) / 8 + 4) → bitAt b i = bitAt c i := fun i hi => ha i (by omega)
            have e0 := byteN_agree hA (k := (p + 7) / 8) (by omega)
            have e1 := byteN_agree hA (k := (p + 7) / 8 + 1) (by omega)
            have e2 := byteN_agree hA (k := (p + 7) / 8 + 2) (by omega)
            have e3 := byteN_agree hA (k := (p + 7) / 8 + 3) (by omega)
            rw [e0, e1] at g3 g4 h1 h2
            rw [e0, e1, e2, e3] at g2
            show storedP c lim p out = _
            unfold storedP
            rw [if_neg (by omega), if_neg g2, if_neg g3, if_neg (by omega), ← h1, ← h2]
            have ht := take_agree (m := (p + 7) / 8 + 4 + (byteN c ((p + 7) / 8) + 256 * byteN c ((p + 7) / 8 + 1))) (b := b) (c := c) (fun i hi => ha i (by omega)) (by omega) (by omega)
            rw [piece_agree ht (Nat.le_refl _)]
  · unfold storedP at h
    split at h
    · cases h
    · split at h
      · cases h
      · split at h
        · cases h
        · split at h
          · cases h
          · rename_i g1 g2 g3 g4
            injection h with h; injection h with h1 h2
            show storedP (b.take k) lim p out = _
            unfold storedP
            by_cases hk4 : k < (p + 7) / 8 + 4
            · rw [if_pos (by rw [List.length_take]; omega)]
            · have hA : ∀ i, i < 8 * k → bitAt b i = bitAt (b.take k) i := fun i hi => (bitAt_take hi).symm
              have e0 := byteN_agree hA (k := (p + 7) / 8) (by omega)
              have e1 := byteN_agree hA (k := (p + 7) / 8 + 1) (by omega)
              have e2 := byteN_agree hA (k := (p + 7) / 8 + 2) (by omega)
              have e3 := byteN_agree hA (k := (p + 7) / 8 + 3) (by omega)
              rw [← e0, ← e1, ← e2, ← e3, if_neg (by rw [List.length_take]; omega), if_neg g2, if_neg g3, if_pos (by rw [List.length_take]; omega)]
theorem good_body (lim : Nat) (out : List UInt8) (k : Nat) : Good (fun b p => bodyP lim out k b p) := by
  have h1 := good_stored lim out
  have h2 : Good (fun b p => (toldP b p).bind fun u => codedP lim out u.1.1 u.1.2 b u.2) := Good.bind (A := fun b p => toldP b p) (F := fun u b p => codedP lim out u.1 u.2 b p) good_told (fun u => good_coded lim out u.1 u.2)
  have h3 := good_coded lim out fixLit fixDist
  unfold bodyP
  generalize fixLit = A at h3 ⊢
  generalize fixDist = B at h3 ⊢
  exact Good.ite h1 (Good.ite (Good.fail 3) (Good.ite h2 h3))
theorem good_blk (lim : Nat) (out : List UInt8) : Good (fun b p => blkP lim out b p) :=
  Good.bind (F := fun x b p => (tk b p 2).bind fun y => (bodyP lim out y.1 b y.2).bind fun z => .ok ((decide (x = 1), z.1), z.2)) (Good.bits 1) fun x =>
    Good.bind (F := fun y b p => (bodyP lim out y b p).bind fun z => .ok ((decide (x = 1), z.1), z.2)) (Good.bits 2) fun y =>
      Good.bind (F := fun z _ p => .ok ((decide (x = 1), z), p)) (good_body lim out y) fun z => Good.ret _
theorem blk_more {lim : Nat} {out : List UInt8} {b : List UInt8} {p : Nat} {a : Bool × List UInt8} {p' : Nat} (h : blkP lim out b p = .ok (a, p')) : p + 3 ≤ p' ∧ p' ≤ 8 * b.length := by
  unfold blkP at h
  obtain ⟨⟨x, p1⟩, h1, h⟩ := bind_ok h
  obtain ⟨⟨y, p2⟩, h2, h⟩ := bind_ok h
  obtain ⟨⟨z, p3⟩, h3, h⟩ := bind_ok h
  have m1 := tk_more h1
  have m2 := tk_more h2
  have m3 := (good_body lim out y).mono b p2 z p3 (by omega) h3
  injection h with h; injection h with h4 h5
  omega
theorem good_allB (lim : Nat) : ∀ f out, Good (fun b p => allB lim b f p out) := by
  intro f
  induction f with
  | zero => intro out; exact Good.fail 0
  | succ f ih => intro out; exact Good.bind (F := fun x b p => if x.1 = true then .ok (x.2, p) else allB lim b f p x.2) (good_blk lim out) fun x => Good.ite (Good.ret _) (ih _)
theorem allB_fuel (lim : Nat) (b : List UInt8) : ∀ f g p out, p ≤ 8 * b.length → 8 * b.length - p < f → 8 * b.length - p < g → allB lim b f p out = allB lim b g p out := by
  intro f
  induction f with
  | zero => intro g p out _ h; omega
  | succ f ih =>
    intro g p out hp hf hg
    obtain ⟨g, rfl⟩ : ∃ k, g = k + 1 := ⟨g - 1, by omega⟩
    simp only [allB]
    refine bind_congr fun x hx => ?_
    have m1 := blk_more (a := x.1) (p' := x.2) hx
    split
    · rfl
    · exact ih g x.2 _ (by omega) (by omega) (by omega)
theorem good_allP (lim : Nat) : Good (fun b p => allP lim b p) :=
  Good.fuel (P := fun f b p => allB lim b f p []) (fun f => good_allB lim f []) (fun b f g p hp hf hg => allB_fuel lim b f g p [] hp hf hg)
theorem allP_more {lim : Nat} {b : List UInt8} {out : List UInt8} {p' : Nat} (h : allP lim b 0 = .ok (out, p')) : 3 ≤ p' ∧ p' ≤ 8 * b.length := by
  have m := (good_allP lim).mono b 0 out p' (by omega) h
  unfold allP at h
  rw [allB] at h
  obtain ⟨⟨x, p1⟩, h1, h⟩ := bind_ok h
  have m1 := blk_more h1
  split at h
  · injection h with h; injection h with h2 h3; omega
  · have := (good_allB lim _ _).mono b p1 out p' (by omega) h; omega
/-- What stands behind changes nothing; what is cut off is missed. -/
theorem infl_ok {b : List UInt8} {lim : Int} {out : List UInt8} {n : Nat} (h : inflP b lim = .ok (out, n)) : ∃ p, allP lim.toNat b 0 = .ok (out, p) ∧ n = (p + 7) / 8 ∧ ¬ (lim < 0 ∨ 32768 < lim) ∧ 1 ≤ n ∧ n ≤ b.length := by
  unfold inflP at h
  split at h
  · cases h
  · rename_i hl
    obtain ⟨⟨x, p⟩, h1, h2⟩ := bind_ok h
    injection h2 with h2; injection h2 with h3 h4
    have m := allP_more h1
    simp only at h3 h4
    exact ⟨p, by rw [h1, h3], h4.symm, hl, by omega, by omega⟩
theorem infl_behind {b more : List UInt8} {lim : Int} {out : List UInt8} {n : Nat} (h : inflP b lim = .ok (out, n)) : inflP (b.take n ++ more) lim = .ok (out, n) := by
  obtain ⟨p, h1, h2, h3, h4, h5⟩ := infl_ok h
  have m := allP_more h1
  have e := (good_allP lim.toNat).agree b (b.take n ++ more) 0 out p (by omega) h1 (fun i hi => by
    rw [bitAt_app _ _ _ (by rw [List.length_take]; omega), bitAt_take (by omega)]) (by rw [List.length_append, List.length_take]; omega)
  have e' : allP lim.toNat (b.take n ++ more) 0 = .ok (out, p) := e
  unfold inflP
  rw [if_neg h3, e', h2]; rfl
theorem infl_cut {b : List UInt8} {lim : Int} {out : List UInt8} {n k : Nat} (h : inflP b lim = .ok (out, n)) (hk : k < n) : inflP (b.take k) lim = .err 2 := by
  obtain ⟨p, h1, h2, h3, h4, h5⟩ := infl_ok h
  have m := allP_more h1
  have e := (good_allP lim.toNat).cut b k 0 out p (by omega) (by omega) h1 (by omega)
  have e' : allP lim.toNat (b.take k) 0 = .err 2 := e
  unfold inflP
  rw [if_neg h3, e']; rfl
end Go.Proofs.Ytbhljigppljjbaa
