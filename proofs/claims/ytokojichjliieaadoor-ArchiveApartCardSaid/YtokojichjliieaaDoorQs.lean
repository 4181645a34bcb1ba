/- Regions that draw their order, read and call quietly, and end in operations that make memory: the head is taken first, in the order of the text, in every world of a row of worlds. -/
import Derived.Test.YtokojichjliieaaDoorRow
import Derived.Deep.RegionHeld
import Derived.Deep.QuietTactic
import Derived.BigQuiet
import Derived.Test.YtokojichjliieaaDoorSetR
namespace Go.Proofs.YtokojichjliieaaDoor
section
variable {P : Program} {ops : Array Oper} {md : Region.Mode} {Q : Exit → Act → World → Prop} {F : Nat → World}

/-- In every world of the row the operation leaves v, and that very world. -/
def SameAt (P : Program) (o : Oper) (a : Act) (F : Nat → World) (v : Value) : Prop := ∀ n, Oper.quietUpon P (fun w' => w' = F n) (F n) v ((execOp a.eval o).run P (F n))
def InRow (F : Nat → World) (w : World) : Prop := ∃ n, w = F n
def YldS (P : Program) (ops : Array Oper) (F : Nat → World) (o : Oper) (v : Value) (a : Act) : Prop :=
  (Region.wanted o (yielded ops a.tmps) = true ∧ SameAt P o a F v) ∨ (Region.wanted o (yielded ops a.tmps) = false ∧ v = undef)
theorem wp_of_sameAt {o : Oper} {a : Act} {v : Value} {K : Act → World → Prop} {n : Nat} (h : SameAt P o a F v) (hk : K (a.put o.dst v) (F n)) : o.wp P a (F n) K Q := by
  have h3 := h n
  unfold Oper.wp
  generalize (execOp a.eval o).run P (F n) = r at *
  cases r with
  | ok x w' =>
    cases x <;> simp only [Oper.quietUpon] at h3 <;> simp only [Oper.upon]
    case value u =>
      obtain ⟨e1, e2⟩ := h3
      rw [e1, e2]; exact hk
    case skip =>
      obtain ⟨e1, e2⟩ := h3
      rw [e1, ← e2]; exact hk
    case enter f args =>
      obtain ⟨e1, hc⟩ := h3
      rw [e1]
      exact hc.mono fun e w'' ⟨he, hw''⟩ => by subst he; subst hw''; exact hk
  | halt x w' => simp only [Oper.quietUpon] at h3
theorem YldS.wpOp {i : Nat} {o : Oper} {v : Value} {a : Act} (hi : ops[i]? = some o) (hy : YldS P ops F o v a) {K : Act → World → Prop} {w : World} (hS : InRow F w) (h : K (a.put o.dst v) w) : wpOp P ops Q i K a w := by
  obtain ⟨n, rfl⟩ := hS
  unfold Go.wpOp
  simp only [hi]
  rcases hy with ⟨hw, hv⟩ | ⟨hw, rfl⟩
  · simp only [hw, if_true]; exact .inl (wp_of_sameAt hv h)
  · simp only [hw, Bool.false_eq_true, if_false]; exact h
theorem YldS.of_same {o : Oper} {v : Value} {a a' : Act} (hy : YldS P ops F o v a) (he : execOp a'.eval o = execOp a.eval o)
    (hw : Region.wanted o (yielded ops a'.tmps) = Region.wanted o (yielded ops a.tmps)) : YldS P ops F o v a' := by
  unfold YldS SameAt at *
  rw [he, hw]
  exact hy
theorem wpOp_putS {j : Nat} {oi oj : Oper} {v : Value} (hj : ops[j]? = some oj) (hap : oi.apart ops oj = true)
    (hsi : ∀ cs b, oi.op ≠ .select cs b) (hsj : ∀ cs b, oj.op ≠ .select cs b)
    (hQ : ∀ c a w d u, Q (.panic c) (a.put d u) w → Q (.panic c) a w) {K : Act → World → Prop} {a : Act} {w : World}
    (hy : YldS P ops F oi v a) (h : wpOp P ops Q j K (a.put oi.dst v) w) :
    wpOp P ops Q j (fun a' w' => YldS P ops F oi v a' ∧ K (a'.put oi.dst v) w') a w := by
  obtain ⟨h1, h2, h3⟩ := Oper.apart_spec hap
  have keep : ∀ (a : Act), YldS P ops F oi v a → ∀ u, YldS P ops F oi v (a.put oj.dst u) := fun a hy u =>
    hy.of_same (execOp_put oi hsi a oj.dst u h3) (wanted_put oi a oj.dst u h3)
  have keepD : ∀ d, YldS P ops F oi v { a with defers := d :: a.defers } := fun d => hy.of_same rfl rfl
  unfold wpOp at *
  simp only [hj] at *
  rw [wanted_put oj a oi.dst v h1] at h
  split
  · rename_i hw
    simp only [hw, if_true] at h
    rcases h with h | ⟨hasks, hlets⟩
    case inr => exact .inr ⟨by unfold Oper.asks at *; rw [execOp_put oj hsj a oi.dst v h1] at hasks; exact hasks, hlets⟩
    refine .inl ?_
    unfold Oper.wp at *
    rw [execOp_put oj hsj a oi.dst v h1] at h
    generalize (execOp a.eval oj).run P w = r at *
    cases r with
    | ok n w' =>
      cases n <;> simp only [Oper.upon] at h ⊢
      case value u => exact ⟨keep a hy u, by rw [← Act.put_comm a v u h2]; exact h⟩
      case skip => exact ⟨keep a hy _, by rw [← Act.put_comm a v undef h2]; exact h⟩
      case defer d =>
        refine ⟨keep _ (keepD d) _, ?_⟩
        rw [← Act.put_comm _ v undef h2, ← Act.put_defers]
        exact h
      case enter f args =>
        refine Calls.mono h fun e w'' he => ?_
        cases e with
        | returned u => exact ⟨keep a hy u, by rw [← Act.put_comm a v u h2]; exact he⟩
        | panicked c => exact hQ _ _ _ _ _ he
        | outgrown => exact he
      case row row args => exact Rows.mono h fun u w'' he => ⟨keep a hy u, by rw [← Act.put_comm a v u h2]; exact he⟩
    | halt x w' =>
      cases x <;> simp only [Oper.upon] at h ⊢
      case panic u => exact hQ _ _ _ _ _ h
  · rename_i hw
    simp only [hw] at h
    exact ⟨keep a hy _, by rw [← Act.put_comm a v undef h2]; exact h⟩
theorem wpAnyS_first {i : Nat} {oi : Oper} {v : Value} (hi : ops[i]? = some oi) (hsel : ∀ (j : Nat) (o : Oper) cs b, ops[j]? = some o → o.op ≠ .select cs b)
    (hQ : ∀ c a w d u, Q (.panic c) (a.put d u) w → Q (.panic c) a w) :
    ∀ (fuel : Nat) (listed : Array Bool) (a : Act) (w : World),
      (∀ j oj, ops[j]? = some oj → j ≠ i → listed.getD j true = false → (∀ e ∈ oj.after, Region.binds md e = true → e.on ≠ i) → oi.apart ops oj = true) →
      i ∈ Region.ready md ops listed → YldS P ops F oi v a → InRow F w →
      wpAnyH P md ops Q (InRow F) fuel (listed.setIfInBounds i true) (a.put oi.dst v) w → wpAnyH P md ops Q (InRow F) (fuel + 1) listed a w := by
  intro fuel
  induction fuel with
  | zero =>
    intro listed a w _ hr hy hS H
    refine ⟨fun h => (by rw [h] at hr; cases hr), fun j hj => ?_⟩
    by_cases hji : j = i
    · subst hji; exact hy.wpOp hi hS ⟨hS, H⟩
    · have := ready_mono hj hji
      rw [H.1] at this
      cases this
  | succ fuel ih =>
    intro listed a w hfree hr hy hS H
    refine ⟨fun h => (by rw [h] at hr; cases hr), fun j hj => ?_⟩
    by_cases hji : j = i
    · subst hji; exact hy.wpOp hi hS ⟨hS, H⟩
    · have h1 := H.2 j (ready_mono hj hji)
      obtain ⟨hjun, oj, hoj, hall⟩ := mem_ready.1 hj
      have hnot : ∀ e ∈ oj.after, Region.binds md e = true → e.on ≠ i := fun e he hb heq => by
        have h1 := hall e he hb
        have h0 := (mem_ready.1 hr).1
        rw [heq] at h1
        rcases Nat.lt_or_ge i listed.size with h' | h'
        · simp [h'] at h0 h1; rw [h0] at h1; cases h1
        · simp [Array.getElem?_eq_none h'] at h1
      have h2 := wpOp_putS hoj (hfree j oj hoj hji hjun hnot) (fun cs b => hsel i oi cs b hi) (fun cs b => hsel j oj cs b hoj) hQ hy h1
      have hfree' : ∀ k ok, ops[k]? = some ok → k ≠ i → (listed.setIfInBounds j true).getD k true = false →
          (∀ e ∈ ok.after, Region.binds md e = true → e.on ≠ i) → oi.apart ops ok = true := fun k ok hk hki hun hno => by
        refine hfree k ok hk hki ?_ hno
        by_cases hjk : j = k
        · subst hjk; exact hjun
        · rw [getD_set_ne true hjk] at hun; exact hun
      refine wpOp_mono (fun a' w' h3 => ⟨h3.2.1, ih (listed.setIfInBounds j true) a' w' hfree' (ready_mono hr (Ne.symm hji)) h3.1 h3.2.1 ?_⟩) h2
      rw [Array.setIfInBounds_comm _ _ hji]
      exact h3.2.2
/-- The walk of the head, in the order of the text. -/
def wpSame (P : Program) (ops : Array Oper) (F : Nat → World) (R : Act → Prop) : List Oper → Act → Prop
  | [], a => R a
  | o :: rest, a => if Region.wanted o (yielded ops a.tmps) then ∃ v, SameAt P o a F v ∧ wpSame P ops F R rest (a.put o.dst v) else wpSame P ops F R rest (a.put o.dst undef)
theorem wpSame_nil {R : Act → Prop} {a : Act} (h : R a) : wpSame P ops F R [] a := h
theorem wpSame_step {R : Act → Prop} {a : Act} {o : Oper} {rest : List Oper}
    (h : ∀ K : Act → Prop, (∀ a, wpSame P ops F R rest a → K a) → if Region.wanted o (yielded ops a.tmps) then ∃ v, SameAt P o a F v ∧ K (a.put o.dst v) else K (a.put o.dst undef)) : wpSame P ops F R (o :: rest) a :=
  h _ (fun _ h => h)
/-- A copy of a slot. -/
theorem wpSame_move {R : Act → Prop} {a : Act} {o : Oper} {rest : List Oper} (x : Operand) (h : o.op = .move x) (hw : o.guard = none) (hk : wpSame P ops F R rest (a.put o.dst (a.eval x))) : wpSame P ops F R (o :: rest) a :=
  wpSame_step fun K hK => by
    rw [if_pos (by simp [Region.wanted, hw])]
    exact ⟨_, fun n => by rw [BigFrame.run_move x h]; exact ⟨rfl, rfl⟩, hK _ hk⟩
def headB (md : Region.Mode) (ops : Array Oper) : Nat → Nat → Array Bool → Bool
  | 0, _, _ => true
  | c + 1, i, l => Region.free md ops l i && (Region.ready md ops l).contains i && headB md ops c (i + 1) (l.setIfInBounds i true)
def marks : Nat → Nat → Array Bool → Array Bool
  | 0, _, l => l
  | c + 1, i, l => marks c (i + 1) (l.setIfInBounds i true)
theorem wpAnyH_head (hs : Region.noSelect ops = true) (hQ : ∀ c a w d u, Q (.panic c) (a.put d u) w → Q (.panic c) a w) {f : Nat} {w : World} (hS : InRow F w) :
    ∀ (c i : Nat) (listed : Array Bool) (a : Act) (rest : List Oper), (∀ j, j < c → ops[i + j]? = rest[j]?) → rest.length = c → headB md ops c i listed = true →
      wpSame P ops F (fun a' => wpAnyH P md ops Q (InRow F) f (marks c i listed) a' w) rest a → wpAnyH P md ops Q (InRow F) (f + c) listed a w := by
  intro c
  induction c with
  | zero =>
    intro i listed a rest _ hl _ h
    have : rest = [] := List.eq_nil_of_length_eq_zero hl
    subst this; exact h
  | succ c ih =>
    intro i listed a rest ho hl hb h
    cases rest with
    | nil => cases hl
    | cons o rest =>
      simp only [headB, Bool.and_eq_true] at hb
      obtain ⟨⟨h1, h2⟩, h3⟩ := hb
      have hi : ops[i]? = some o := by have := ho 0 (by omega); simpa using this
      have ho' : ∀ j, j < c → ops[i + 1 + j]? = rest[j]? := fun j hj => by
        have := ho (j + 1) (by omega)
        rw [show i + 1 + j = i + (j + 1) by omega, this]; rfl
      have hl' : rest.length = c := by simpa using hl
      have key : ∀ v, YldS P ops F o v a → wpSame P ops F (fun a' => wpAnyH P md ops Q (InRow F) f (marks c (i + 1) (listed.setIfInBounds i true)) a' w) rest (a.put o.dst v) → wpAnyH P md ops Q (InRow F) (f + (c + 1)) listed a w := fun v hy hk => by
        rw [← Nat.add_assoc]
        exact wpAnyS_first hi (Region.noSelect_spec hs) hQ _ _ _ _ (Region.free_spec hi h1) (by simpa using h2) hy hS (ih (i + 1) _ _ rest ho' hl' h3 hk)
      unfold wpSame at h
      by_cases hw : Region.wanted o (yielded ops a.tmps) = true
      · simp only [hw, if_true] at h
        obtain ⟨v, hv, hk⟩ := h
        exact key v (.inl ⟨hw, hv⟩) hk
      · simp only [hw] at h
        exact key undef (.inr ⟨by simpa using hw, rfl⟩) h
/-- What is left, one by one: behind each the world is one of the row. -/
def wpChain (P : Program) (ops : Array Oper) (F : Nat → World) (Q : Exit → Act → World → Prop) : List Oper → Act → World → Prop
  | [], a, w => Q .normal a w
  | o :: rest, a, w => if Region.wanted o (yielded ops a.tmps) then o.wp P a w (fun a' w' => InRow F w' ∧ wpChain P ops F Q rest a' w') Q else InRow F w ∧ wpChain P ops F Q rest (a.put o.dst undef) w
theorem wpChain_nil {a : Act} {w : World} (h : Q .normal a w) : wpChain P ops F Q [] a w := h
theorem wpChain_step {o : Oper} {rest : List Oper} {a : Act} {w : World} (hg : o.guard = none)
    (h : ∀ K : Act → World → Prop, (∀ a w, InRow F w → wpChain P ops F Q rest a w → K a w) → o.wp P a w K Q) : wpChain P ops F Q (o :: rest) a w := by
  unfold wpChain
  rw [if_pos (by simp [Region.wanted, hg])]
  exact h _ fun _ _ h1 h2 => ⟨h1, h2⟩
def chainB (md : Region.Mode) (ops : Array Oper) : Nat → Nat → Array Bool → Bool
  | 0, _, l => (Region.ready md ops l).isEmpty
  | c + 1, i, l => Region.ready md ops l == [i] && chainB md ops c (i + 1) (l.setIfInBounds i true)
theorem wpAnyH_chain : ∀ (c i : Nat) (listed : Array Bool) (a : Act) (w : World) (rest : List Oper), (∀ j, j < c → ops[i + j]? = rest[j]?) → rest.length = c → chainB md ops c i listed = true →
    wpChain P ops F Q rest a w → wpAnyH P md ops Q (InRow F) c listed a w := by
  intro c
  induction c with
  | zero =>
    intro i listed a w rest _ hl hb h
    have : rest = [] := List.eq_nil_of_length_eq_zero hl
    subst this
    exact wpAnyH_done (by simpa [chainB] using hb) h _
  | succ c ih =>
    intro i listed a w rest ho hl hb h
    cases rest with
    | nil => cases hl
    | cons o rest =>
      simp only [chainB, Bool.and_eq_true, beq_iff_eq] at hb
      have hi : ops[i]? = some o := by have := ho 0 (by omega); simpa using this
      have ho' : ∀ j, j < c → ops[i + 1 + j]? = rest[j]? := fun j hj => by
        have := ho (j + 1) (by omega)
        rw [show i + 1 + j = i + (j + 1) by omega, this]; rfl
      have hl' : rest.length = c := by simpa using hl
      refine wpAnyH_all hb.1 (by simp) fun k hk => ?_
      have : k = i := by simpa using hk
      subst this
      unfold wpChain at h
      unfold wpOp
      simp only [hi]
      by_cases hw : Region.wanted o (yielded ops a.tmps) = true
      · simp only [hw, if_true] at h ⊢
        exact .inl (Oper.wp_mono (fun a' w' h' => ⟨h'.1, ih (k + 1) _ _ _ rest ho' hl' hb.2 h'.2⟩) h)
      · simp only [hw] at h ⊢
        exact ⟨h.1, ih (k + 1) _ _ _ rest ho' hl' hb.2 h.2⟩
/-- A region: the first n operations are quiet, in every world of the row; what is left comes in its order. -/
theorem wp_region_same {id : Nat} {a : Act} {w : World} {l : List Oper} (n : Nat) (F : Nat → World) (hm : P.follows .mixedOrders = true) (hs : Region.noSelect l.toArray = true)
    (hB : headB .any l.toArray n 0 (Array.replicate l.toArray.size false) = true) (hC : chainB .any l.toArray (l.length - n) n (marks n 0 (Array.replicate l.toArray.size false)) = true) (hn : n ≤ l.length) (hS : w.drew = F 0) (hQ : ∀ c a w d u, Q (.panic c) (a.put d u) w → Q (.panic c) a w)
    (h : wpSame P l.toArray F (fun a' => wpChain P l.toArray F Q (l.drop n) a' (F 0)) (l.take n) a) : (Code.region id l.toArray true).wp P Q a w := by
  rw [← hS] at h
  have hS' : InRow F w.drew := ⟨0, hS⟩
  refine wp_region_held_drew (S := InRow F) hm hS' (fun _ => ?_)
  have hmono : ∀ (rest : List Oper) (a : Act), wpSame P l.toArray F (fun a' => wpChain P l.toArray F Q (l.drop n) a' w.drew) rest a →
      wpSame P l.toArray F (fun a' => wpAnyH P .any l.toArray Q (InRow F) (l.length - n) (marks n 0 (Array.replicate l.toArray.size false)) a' w.drew) rest a := by
    intro rest
    induction rest with
    | nil => intro a h; exact wpAnyH_chain (l.length - n) n _ a w.drew (l.drop n) (fun j hj => by simp) (by simp) hC h
    | cons o rest ih =>
      intro a h
      unfold wpSame at h ⊢
      split
      · rename_i hw
        simp only [hw, if_true] at h
        obtain ⟨v, hv, hk⟩ := h
        exact ⟨v, hv, ih _ hk⟩
      · rename_i hw
        simp only [hw] at h
        exact ih _ h
  have := wpAnyH_head (md := .any) (f := l.length - n) hs hQ hS' n 0 (Array.replicate l.toArray.size false) a (l.take n) (fun j hj => by simp [hj]) (by simp; omega) hB (hmono _ _ h)
  rwa [show l.length - n + n = l.toArray.size by simp; omega] at this
end
/-- The worlds of a region that ends in one store. -/
def cellF (W : World) (a : Addr) (v : Value) : Nat → World
  | 0 => W
  | _ => W.setCell a v
/-- The worlds of a region that makes one struct: ahead, behind its making, behind its store. -/
def rowF (W : World) (t : TypeId) (z cs : Array Value) : Nat → World
  | 0 => W
  | 1 => W.alloc (.cells z t)
  | _ => (W.alloc (.cells z t)).setRow W.heap.size cs
open Go.RowKit in
theorem rowF_below (W : World) (t : TypeId) (z cs : Array Value) (n : Nat) : Below W.heap.size W (rowF W t z cs n) := by
  have h1 : Below W.heap.size W (W.alloc (.cells z t)) := bl_alloc (Below.refl _ _) (Nat.le_refl _) _
  match n with
  | 0 => exact Below.refl _ _
  | 1 => exact h1
  | _ + 2 => exact bl_setRow h1 (Nat.le_refl _) cs
end Go.Proofs.YtokojichjliieaaDoor
