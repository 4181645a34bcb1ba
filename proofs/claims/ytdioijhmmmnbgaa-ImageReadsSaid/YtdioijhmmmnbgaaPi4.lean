/- Regions that draw their order, are guarded, and hold calls that make memory: heads that read where S holds, taken in the order of the text, wanted or not; between them one loud operation each. Nothing here speaks of the program. A region that draws its order, walked by what each operation leaves, whatever the order: each operation's answer owns blocks, and one other operation uses them up. Nothing here speaks of the program. A region that draws its order: each operation's answer owns blocks of its own; one other operation may use them up; whatever the order. Nothing here speaks of the program. Several structs that hold one growing row of bytes each, apart from each other. Nothing here speaks of the program. What answers own in a drawn region: nothing, a new row, a struct with a growing row; how a step of the rule ends. -/
import Derived.Test.YtdioijhmmmnbgaaPi2
import Derived.Deep.RegionHeld
namespace Go.Proofs.Ytdioijhmmmnbgaa
section
variable {P : Program} {ops : Array Oper} {md : Region.Mode} {Q : Exit → Act → World → Prop} {S : World → Prop}
/-- In every world that meets S the operation leaves v, and that very world. -/
def HeldAt (P : Program) (o : Oper) (a : Act) (S : World → Prop) (v : Value) : Prop := ∀ w, S w → (execOp a.eval o).run P w = .ok (.value v) w
def wpHeld (P : Program) (ops : Array Oper) (S : World → Prop) (R : Act → Prop) : List Oper → Act → Prop
  | [], a => R a
  | o :: rest, a => if Region.wanted o (yielded ops a.tmps) then ∃ v, HeldAt P o a S v ∧ wpHeld P ops S R rest (a.put o.dst v) else wpHeld P ops S R rest (a.put o.dst undef)
theorem wpHeld_nil {R : Act → Prop} {a : Act} (h : R a) : wpHeld P ops S R [] a := h
theorem wpHeld_step {R : Act → Prop} {a : Act} {o : Oper} {rest : List Oper}
    (h : ∀ K : Act → Prop, (∀ a, wpHeld P ops S R rest a → K a) → if Region.wanted o (yielded ops a.tmps) then ∃ v, HeldAt P o a S v ∧ K (a.put o.dst v) else K (a.put o.dst undef)) : wpHeld P ops S R (o :: rest) a :=
  h _ (fun _ h => h)
theorem wpHeld_mono {R R' : Act → Prop} (hR : ∀ a, R a → R' a) : ∀ (rest : List Oper) (a : Act), wpHeld P ops S R rest a → wpHeld P ops S R' rest a := by
  intro rest
  induction rest with
  | nil => intro a h; exact hR a h
  | cons o rest ih =>
    intro a h
    unfold wpHeld at h ⊢
    split
    · rename_i hw
      simp only [hw, if_true] at h
      obtain ⟨v, hv, hk⟩ := h
      exact ⟨v, hv, ih _ hk⟩
    · rename_i hw
      simp only [hw] at h
      exact ih _ h
theorem wpAnyH_heldHead (hs : Region.noSelect ops = true) (hQ : ∀ c a w d u, Q (.panic c) (a.put d u) w → Q (.panic c) a w) {f : Nat} {w : World} (hS : S w) :
    ∀ (c i : Nat) (listed : Array Bool) (a : Act) (rest : List Oper), (∀ j, j < c → ops[i + j]? = rest[j]?) → rest.length = c → qHeadB md ops c i listed = true →
      wpHeld P ops S (fun a' => wpAnyH P md ops Q S f (marks c i listed) a' w) rest a → wpAnyH P md ops Q S (f + c) listed a w := by
  intro c
  induction c with
  | zero =>
    intro i listed a rest _ hl _ h
    have : rest = [] := List.eq_nil_of_length_eq_zero hl
    subst this; exact h
  | succ c ih =>
    intro i listed a rest ho hl hb h
    cases rest with
    | nil => cases hl
    | cons o rest =>
      simp only [qHeadB, Bool.and_eq_true] at hb
      obtain ⟨⟨h1, h2⟩, h3⟩ := hb
      have hi : ops[i]? = some o := by have := ho 0 (by omega); simpa using this
      have ho' : ∀ j, j < c → ops[i + 1 + j]? = rest[j]? := fun j hj => by
        have := ho (j + 1) (by omega)
        rw [show i + 1 + j = i + (j + 1) by omega, this]; rfl
      have hl' : rest.length = c := by simpa using hl
      have key : ∀ v, YieldsIf P ops S o v a → wpHeld P ops S (fun a' => wpAnyH P md ops Q S f (marks c (i + 1) (listed.setIfInBounds i true)) a' w) rest (a.put o.dst v) → wpAnyH P md ops Q S (f + (c + 1)) listed a w := fun v hy hk => by
        rw [← Nat.add_assoc]
        exact wpAnyH_first hi (Region.noSelect_spec hs) (fun c a w h => hQ c a w _ _ h) _ _ _ _ (Region.free_spec hi h1) (by simpa using h2) hy hS (ih (i + 1) _ _ rest ho' hl' h3 hk)
      unfold wpHeld at h
      by_cases hw : Region.wanted o (yielded ops a.tmps) = true
      · simp only [hw, if_true] at h
        obtain ⟨v, hv, hk⟩ := h
        exact key v (.inl ⟨hw, hv⟩) hk
      · simp only [hw] at h
        exact key undef (.inr ⟨by simpa using hw, rfl⟩) h
/-- Heads of so many operations, and one loud operation behind each but the last. -/
def wpSegs (P : Program) (ops : Array Oper) (S : World → Prop) (Q : Exit → Act → World → Prop) : List Nat → List Oper → Act → World → Prop
  | [], _, a, w => Q .normal a w
  | c :: segs, rest, a, w => wpHeld P ops S (fun a' => match rest.drop c with
      | [] => Q .normal a' w
      | o :: r => if Region.wanted o (yielded ops a'.tmps) then o.wp P a' w (fun a'' w' => S w' ∧ wpSegs P ops S Q segs r a'' w') Q else wpSegs P ops S Q segs r (a'.put o.dst undef) w) (rest.take c) a
def segB (md : Region.Mode) (ops : Array Oper) : List Nat → Nat → Array Bool → Bool
  | [], _, l => (Region.ready md ops l).isEmpty
  | c :: segs, i, l => decide (i + c ≤ ops.size) && qHeadB md ops c i l && (if i + c = ops.size then (Region.ready md ops (marks c i l)).isEmpty else (Region.ready md ops (marks c i l) == [i + c] && segB md ops segs (i + c + 1) ((marks c i l).setIfInBounds (i + c) true)))
theorem wpAnyH_segs (hs : Region.noSelect ops = true) (hQ : ∀ c a w d u, Q (.panic c) (a.put d u) w → Q (.panic c) a w) :
    ∀ (segs : List Nat) (i : Nat) (listed : Array Bool) (a : Act) (w : World) (rest : List Oper), (∀ j, ops[i + j]? = rest[j]?) → segB md ops segs i listed = true → S w → wpSegs P ops S Q segs rest a w → wpAnyH P md ops Q S rest.length listed a w := by
  intro segs
  induction segs with
  | nil => intro i listed a w rest _ hb _ h; exact wpAnyH_done (by simpa [segB] using hb) h _
  | cons c segs ih =>
    intro i listed a w rest ho hb hS h
    simp only [segB, Bool.and_eq_true, decide_eq_true_eq] at hb
    obtain ⟨⟨hn, hq⟩, ht⟩ := hb
    have hlen : i + rest.length = ops.size ∨ rest.length = 0 ∧ ops.size ≤ i := by
      rcases Nat.lt_or_ge i ops.size with h1 | h1
      · left
        have e1 : ∀ k, ops[k + i]? = rest[k]? := fun k => by rw [Nat.add_comm]; exact ho k
        have e2 := e1 rest.length
        rw [List.getElem?_eq_none (Nat.le_refl _)] at e2
        have e3 : ops.size ≤ rest.length + i := by
          rcases Nat.lt_or_ge (rest.length + i) ops.size with h | h
          · rw [Array.getElem?_eq_getElem h] at e2; cases e2
          · exact h
        rcases Nat.lt_or_ge (ops.size - i) rest.length with h | h
        · have e4 := ho (ops.size - i)
          rw [show i + (ops.size - i) = ops.size by omega, Array.getElem?_eq_none (Nat.le_refl _), List.getElem?_eq_getElem h] at e4
          cases e4
        · omega
      · right
        refine ⟨?_, h1⟩
        cases rest with
        | nil => rfl
        | cons o r =>
          have := ho 0
          rw [Nat.add_zero, Array.getElem?_eq_none h1] at this
          cases this
    have hc : c ≤ rest.length := by omega
    have hd : rest.length = (rest.drop c).length + c := by rw [List.length_drop]; omega
    rw [hd]
    refine wpAnyH_heldHead hs hQ hS c i listed a (rest.take c) (fun j hj => ?_) (by rw [List.length_take]; omega) hq ?_
    · rw [ho j, List.getElem?_take_of_lt hj]
    · unfold wpSegs at h
      refine wpHeld_mono (fun a' h' => ?_) _ _ h
      have hdrop : ∀ j, ops[i + c + j]? = (rest.drop c)[j]? := fun j => by rw [List.getElem?_drop, ← ho (c + j), Nat.add_assoc]
      cases hr : rest.drop c with
      | nil =>
        rw [hr] at h'
        have hz : i + c = ops.size := by
          have h0 : (rest.drop c).length = 0 := by rw [hr]; rfl
          rw [List.length_drop] at h0
          omega
        rw [if_pos hz] at ht
        exact wpAnyH_done (by simpa using ht) h' _
      | cons o r =>
        rw [hr] at h' hdrop
        have hi : ops[i + c]? = some o := by have := hdrop 0; simpa using this
        have hz : ¬ i + c = ops.size := fun e => by rw [e, Array.getElem?_eq_none (Nat.le_refl _)] at hi; cases hi
        rw [if_neg hz, Bool.and_eq_true] at ht
        have hready : Region.ready md ops (marks c i listed) = [i + c] := by simpa using ht.1
        have next : ∀ a'' w', S w' → wpSegs P ops S Q segs r a'' w' → wpAnyH P md ops Q S r.length ((marks c i listed).setIfInBounds (i + c) true) a'' w' := fun a'' w' hS' hk =>
          ih (i + c + 1) _ a'' w' r (fun j => by have := hdrop (j + 1); rw [show i + c + 1 + j = i + c + (j + 1) by omega, this]; rfl) ht.2 hS' hk
        show wpAnyH P md ops Q S (r.length + 1) _ a' w
        refine wpAnyH_ready hready (by simp) (AllReadyH.cons hi (fun K hK => ?_) AllReadyH.nil)
        have hK : ∀ a w, S w → (S w → wpAnyH P md ops Q S r.length ((marks c i listed).setIfInBounds (i + c) true) a w) → K a w := hK
        by_cases hw : Region.wanted o (yielded ops a'.tmps) = true
        · simp only [hw, if_true] at h' ⊢
          exact Oper.wp_mono (fun a'' w' hk => hK _ _ hk.1 (fun _ => next _ _ hk.1 hk.2)) h'
        · simp only [hw] at h' ⊢
          exact hK _ _ hS (fun _ => next _ _ hS h')
/-- A loud operation, what follows behind a letter. -/
theorem loud_step {o : Oper} {a : Act} {w : World} {K : Act → World → Prop} (h : ∀ K' : Act → World → Prop, Bx (∀ a w, K a w → K' a w) → o.wp P a w K' Q) : o.wp P a w K Q := h K ⟨fun _ _ h => h⟩
/-- What follows a head, behind a letter. -/
theorem held_hide {R : Act → Prop} {rest : List Oper} {a : Act} (h : ∀ R' : Act → Prop, Bx (∀ a, R a → R' a) → wpHeld P ops S R' rest a) : wpHeld P ops S R rest a := h R ⟨fun _ h => h⟩
theorem held_step {R : Act → Prop} {a : Act} {o : Oper} {rest : List Oper}
    (h : ∀ K : Act → Prop, Bx (∀ a, wpHeld P ops S R rest a → K a) → if Region.wanted o (yielded ops a.tmps) then ∃ v, HeldAt P o a S v ∧ K (a.put o.dst v) else K (a.put o.dst undef)) : wpHeld P ops S R (o :: rest) a :=
  h _ ⟨fun _ h => h⟩
/-- The rule. -/
theorem wp_region_segs {id : Nat} {a : Act} {w : World} {l : List Oper} (S : World → Prop) (segs : List Nat) (hm : P.follows .mixedOrders = true) (hs : Region.noSelect l.toArray = true) (hB : segB .any l.toArray segs 0 (Array.replicate l.toArray.size false) = true)
    (hS : S w.drew) (hQ : ∀ c a w d u, Q (.panic c) (a.put d u) w → Q (.panic c) a w) (h : wpSegs P l.toArray S Q segs l a w.drew) : (Code.region id l.toArray true).wp P Q a w := by
  refine wp_region_held_drew (S := S) hm hS (fun _ => ?_)
  have := wpAnyH_segs (md := .any) hs hQ segs 0 (Array.replicate l.toArray.size false) a w.drew l (fun j => by simp) hB hS h
  simpa using this
end
end Go.Proofs.Ytdioijhmmmnbgaa
namespace Go.Proofs.Ytdioijhmmmnbgaa
open Go.RowKit
section
variable {P : Program} {ops : Array Oper} {Q : Exit → Act → World → Prop}
/-- What an operation answers. -/
def OpAns (P : Program) (o : Oper) (ev : Operand → Value) (w : World) (R : Value → World → Prop) : Prop :=
  match (execOp ev o).run P w with
  | .ok (.value v) w' => R v w'
  | .ok .skip w' => R undef w'
  | .ok (.enter f args) w' => Calls P f args w' fun e w'' => ∃ v, e = .returned v ∧ R v w''
  | .ok (.row row args) w' => Rows P row args w' fun v w'' => R v w''
  | _ => False
theorem OpAns.mono {o : Oper} {ev : Operand → Value} {w : World} {R R' : Value → World → Prop} (h : OpAns P o ev w R) (hR : ∀ v w', R v w' → R' v w') : OpAns P o ev w R' := by
  unfold OpAns at *
  generalize (execOp ev o).run P w = r at *
  cases r with
  | ok n w' =>
    cases n <;> simp only at h ⊢
    case value v => exact hR _ _ h
    case skip => exact hR _ _ h
    case enter f args => exact h.mono fun e w'' ⟨v, he, hv⟩ => ⟨v, he, hR _ _ hv⟩
    case row row args => exact Rows.mono h fun v w'' hv => hR _ _ hv
  | halt x w' => exact h
theorem wpOp_ans {j : Nat} {o : Oper} (hj : ops[j]? = some o) (hg : o.guard = none) {a : Act} {w : World} {K : Act → World → Prop} (h : OpAns P o a.eval w (fun v w' => K (a.put o.dst v) w')) : wpOp P ops Q j K a w := by
  unfold wpOp
  simp only [hj]
  rw [if_pos (by simp [Region.wanted, hg])]
  refine .inl ?_
  unfold Oper.wp
  unfold OpAns at h
  generalize (execOp a.eval o).run P w = r at *
  cases r with
  | ok n w' =>
    cases n <;> simp only [Oper.upon] at h ⊢
    case value v => exact h
    case skip => exact h
    case enter f args => exact h.mono fun e w'' ⟨v, he, hv⟩ => by subst he; exact hv
    case row row args => exact Rows.mono h fun v w'' hv => hv
  | halt x w' => exact h.elim
/-- Whatever order is picked: an invariant that speaks of what has been done. -/
theorem wpAny_inv (I : (Nat → Bool) → Act → World → Prop)
    (htop : ∀ j o, ops[j]? = some o → ∀ e ∈ o.after, Region.binds .any e = true → e.on < j)
    (hstep : ∀ (d : Nat → Bool) (j : Nat) (o : Oper) (a : Act) (w : World), ops[j]? = some o → d j = false → (∀ i, ops.size ≤ i → d i = false) → (∀ e ∈ o.after, Region.binds .any e = true → d e.on = true) → I d a w →
      wpOp P ops Q j (fun a' w' => I (fun i => d i || i == j) a' w') a w)
    (hend : ∀ (d : Nat → Bool) (a : Act) (w : World), (∀ j, j < ops.size → d j = true) → I d a w → Q .normal a w) :
    ∀ (fuel : Nat) (listed : Array Bool) (a : Act) (w : World), listed.size = ops.size → (∀ L : List Nat, L.Nodup → (∀ i ∈ L, listed.getD i true = false) → L.length ≤ fuel) → I (fun i => listed.getD i false) a w →
      wpAny P .any ops Q fuel listed a w := by
  have none : ∀ listed : Array Bool, listed.size = ops.size → Region.ready .any ops listed = [] → ∀ j, j < ops.size → listed.getD j false = true := by
    intro listed hs hr j
    induction j using Nat.strongRecOn with
    | _ j ih =>
      intro hj
      cases hb : listed.getD j false with
      | true => rfl
      | false =>
        exfalso
        have : j ∈ Region.ready .any ops listed := by
          unfold Region.ready
          rw [List.mem_filter]
          refine ⟨List.mem_range.2 hj, ?_⟩
          have h1 : listed.getD j true = false := by
            have hj' : j < listed.size := by omega
            simp [Array.getD, hj'] at hb ⊢
            exact hb
          rw [h1, Array.getElem?_eq_getElem hj]
          simp only [Bool.not_false, Bool.true_and, Option.map_some, Option.getD_some, Array.all_eq_true_iff_forall_mem]
          intro e he
          cases hbd : Region.binds .any e with
          | false => rfl
          | true =>
            have hlt := htop j _ (Array.getElem?_eq_getElem hj) e he hbd
            rw [ih _ hlt (by omega)]; rfl
        rw [hr] at this
        cases this
  intro fuel
  induction fuel with
  | zero =>
    intro listed a w hs hL hI
    have hd : ∀ j, j < ops.size → listed.getD j false = true := by
      intro j hj
      cases hb : listed.getD j false with
      | true => rfl
      | false =>
        have hj' : j < listed.size := by omega
        have := hL [j] (by simp) (by intro i hi; simp at hi; subst hi; simp [Array.getD, hj'] at hb ⊢; exact hb)
        simp at this
    refine ⟨?_, hend _ a w hd hI⟩
    unfold Region.ready
    rw [List.filter_eq_nil_iff]
    intro i hi
    have hi := List.mem_range.1 hi
    have h1 := hd i hi
    have hi' : i < listed.size := by omega
    simp [Array.getD, hi'] at h1
    simp [Array.getD, hi', h1]
  | succ fuel ih =>
    intro listed a w hs hL hI
    refine ⟨fun hr => hend _ a w (none listed hs hr) hI, fun j hj => ?_⟩
    obtain ⟨h0, o, ho, hall⟩ := mem_ready.1 hj
    have hjn : j < ops.size := (Array.getElem?_eq_some_iff.1 ho).1
    have hjl : j < listed.size := by omega
    have hf : listed.getD j false = false := by simp [Array.getD, hjl] at h0 ⊢; exact h0
    refine wpOp_mono (fun a' w' h => ih (listed.setIfInBounds j true) a' w' (by simpa using hs) ?_ ?_) (hstep (fun i => listed.getD i false) j o a w ho hf (fun i hi => by simp [Array.getD, show ¬ i < listed.size by omega]) (fun e he hb => hall e he hb) hI)
    · intro L hn hm
      have hjL : j ∉ L := fun h => by
        have := hm j h
        simp [Array.getD, hjl] at this
      have := hL (j :: L) (List.nodup_cons.2 ⟨hjL, hn⟩) (fun i hi => by
        rcases List.mem_cons.1 hi with e | e
        · subst e; exact h0
        · have h2 := hm i e
          by_cases hij : j = i
          · subst hij; exact h0
          · rwa [getD_set_ne true hij] at h2)
      simp at this
      omega
    · have e : (fun i => (listed.setIfInBounds j true).getD i false) = fun i => listed.getD i false || i == j := by
        funext i
        by_cases hij : j = i
        · subst hij; simp [Array.getD, hjl]
        · have hij' : (i == j) = false := by simp; omega
          rw [hij', Bool.or_false]
          exact getD_set_ne false hij
      rw [e]
      exact h
end
end Go.Proofs.Ytdioijhmmmnbgaa
namespace Go.Proofs.Ytdioijhmmmnbgaa
open Go.RowKit
/-- The frame behind the operations of a list. -/
def putsL (l : List Oper) (v : Nat → Value) (a : Act) : List Nat → Act
  | [] => a
  | i :: r => (putsL l v a r).put ((l[i]?).bind (·.dst)) (v i)
/-- The frame behind those of the first k operations that are done. -/
def putsD (l : List Oper) (d : Nat → Bool) (v : Nat → Value) (a : Act) : Nat → Act
  | 0 => a
  | k + 1 => if d k then (putsD l d v a k).put ((l[k]?).bind (·.dst)) (v k) else putsD l d v a k
theorem putsD_congr {l : List Oper} {d d' : Nat → Bool} {v v' : Nat → Value} {a : Act} : ∀ k, (∀ i, i < k → d' i = d i ∧ v' i = v i) → putsD l d' v' a k = putsD l d v a k := by
  intro k
  induction k with
  | zero => intro _; rfl
  | succ k ih =>
    intro h
    unfold putsD
    rw [ih (fun i hi => h i (by omega)), (h k (by omega)).1, (h k (by omega)).2]
/-- No two operations put into the same slot. -/
def dstOf (l : List Oper) (i : Nat) : Option Tmp := (l[i]?).bind (·.dst)
def distinctD (l : List Oper) : Prop := ∀ i j, i < l.length → j < l.length → i ≠ j → ∀ t, dstOf l i = some t → dstOf l j ≠ some t
theorem putsD_add {l : List Oper} {d d' : Nat → Bool} {v v' : Nat → Value} {a : Act} {j : Nat} (hdis : distinctD l) (hj : j < l.length) (hdj : d j = false) (hd : ∀ i, d' i = (d i || i == j)) (hv : ∀ i, i ≠ j → v' i = v i) :
    ∀ k, j < k → k ≤ l.length → putsD l d' v' a k = (putsD l d v a k).put (dstOf l j) (v' j) := by
  intro k
  induction k with
  | zero => intro h; omega
  | succ k ih =>
    intro hjk hk
    unfold putsD
    by_cases e : j = k
    · subst e
      rw [hd j, hdj]
      simp only [Bool.false_or, beq_self_eq_true, if_true, Bool.false_eq_true, if_false]
      rw [putsD_congr (d := d) (v := v) j (fun i hi => ⟨by rw [hd i]; simp; omega, hv i (by omega)⟩)]
      rfl
    · rw [ih (by omega) (by omega), hd k]
      have : (k == j) = false := by simp; omega
      rw [this, Bool.or_false]
      cases hdk : d k with
      | false => simp
      | true =>
        simp only [if_true]
        rw [hv k (fun h => e h.symm)]
        exact Act.put_comm _ _ _ (fun t ht => hdis j k (by omega) (by omega) e t ht)
theorem putsD_none {l : List Oper} {v : Nat → Value} {a : Act} : ∀ k, putsD l (fun _ => false) v a k = a := by
  intro k
  induction k with
  | zero => rfl
  | succ k ih => unfold putsD; simpa using ih
theorem putsD_size {l : List Oper} {d : Nat → Bool} {v : Nat → Value} {a : Act} : ∀ k, (putsD l d v a k).tmps.size = a.tmps.size := by
  intro k
  induction k with
  | zero => rfl
  | succ k ih =>
    unfold putsD
    split
    · rw [← ih]; unfold Act.put; cases (l[k]?).bind (·.dst) <;> simp
    · exact ih
theorem putsL_size {l : List Oper} {v : Nat → Value} {a : Act} : ∀ ds, (putsL l v a ds).tmps.size = a.tmps.size := by
  intro ds
  induction ds with
  | nil => rfl
  | cons i r ih => unfold putsL; rw [← ih]; unfold Act.put; cases (l[i]?).bind (·.dst) <;> simp
theorem eval_put_same {a : Act} {t : Tmp} {v : Value} (h : t < a.tmps.size) : (a.put (some t) v).eval (.tmp t) = v := by
  simp [Act.put, Act.eval, h]
theorem putsD_hit {l : List Oper} {d : Nat → Bool} {v : Nat → Value} {a : Act} {i : Nat} {t : Tmp} (hdis : distinctD l) (hi : i < l.length) (hd : d i = true) (ht : dstOf l i = some t) (hs : t < a.tmps.size) :
    ∀ k, i < k → k ≤ l.length → (putsD l d v a k).eval (.tmp t) = v i := by
  intro k
  induction k with
  | zero => intro h; omega
  | succ k ih =>
    intro hik hk
    unfold putsD
    by_cases e : i = k
    · subst e
      rw [hd, if_pos rfl, show (l[i]?).bind (·.dst) = some t from ht]
      exact eval_put_same (by rw [putsD_size]; exact hs)
    · cases hdk : d k with
      | false => simp only [Bool.false_eq_true, if_false]; exact ih (by omega) (by omega)
      | true =>
        simp only [if_true]
        rw [Act.eval_put (fun t' ht' => by
          intro h; injection h with h; subst h
          exact hdis i k hi (by omega) e _ ht ht')]
        exact ih (by omega) (by omega)
theorem putsD_miss {l : List Oper} {d : Nat → Bool} {v : Nat → Value} {a : Act} {x : Operand} : ∀ k, (∀ i, i < k → d i = true → ∀ t, dstOf l i = some t → x ≠ .tmp t) → (putsD l d v a k).eval x = a.eval x := by
  intro k
  induction k with
  | zero => intro _; rfl
  | succ k ih =>
    intro h
    unfold putsD
    cases hdk : d k with
    | false => simp only [Bool.false_eq_true, if_false]; exact ih (fun i hi => h i (by omega))
    | true =>
      simp only [if_true]
      exact (Act.eval_put (dst := (l[k]?).bind (·.dst)) (fun t ht => h k (by omega) hdk t ht)).trans (ih (fun i hi => h i (by omega)))
theorem putsL_hit {l : List Oper} {v : Nat → Value} {a : Act} {i : Nat} {t : Tmp} (hdis : distinctD l) (ht : dstOf l i = some t) (hs : t < a.tmps.size) :
    ∀ ds : List Nat, (∀ j ∈ ds, j < l.length) → i ∈ ds → (putsL l v a ds).eval (.tmp t) = v i := by
  intro ds
  induction ds with
  | nil => intro _ h; cases h
  | cons k r ih =>
    intro hb hi
    unfold putsL
    by_cases e : i = k
    · subst e
      rw [show (l[i]?).bind (·.dst) = some t from ht]
      exact eval_put_same (by rw [putsL_size]; exact hs)
    · have hir : i ∈ r := by rcases List.mem_cons.1 hi with h | h; exact absurd h e; exact h
      rw [Act.eval_put (fun t' ht' => by
        intro h; injection h with h; subst h
        exact hdis i k (hb i hi) (hb k (by simp)) e _ ht ht')]
      exact ih (fun j hj => hb j (List.mem_cons_of_mem _ hj)) hir
theorem putsL_miss {l : List Oper} {v : Nat → Value} {a : Act} {x : Operand} : ∀ ds : List Nat, (∀ i ∈ ds, ∀ t, dstOf l i = some t → x ≠ .tmp t) → (putsL l v a ds).eval x = a.eval x := by
  intro ds
  induction ds with
  | nil => intro _; rfl
  | cons k r ih =>
    intro h
    unfold putsL
    exact (Act.eval_put (dst := (l[k]?).bind (·.dst)) (fun t ht => h k (by simp) t ht)).trans (ih (fun i hi => h i (List.mem_cons_of_mem _ hi)))
/-- The frame behind the operations of a list, their slots told. -/
def putsF (dst : Nat → Option Tmp) (v : Nat → Value) (a : Act) : List Nat → Act
  | [] => a
  | i :: r => (putsF dst v a r).put (dst i) (v i)
theorem putsF_eq {l : List Oper} {dst : Nat → Option Tmp} {v : Nat → Value} {a : Act} : ∀ ds : List Nat, (∀ i ∈ ds, dst i = dstOf l i) → putsF dst v a ds = putsL l v a ds := by
  intro ds
  induction ds with
  | nil => intro _; rfl
  | cons i r ih =>
    intro h
    unfold putsF putsL
    rw [ih (fun j hj => h j (List.mem_cons_of_mem _ hj)), h i (by simp)]
    rfl
theorem putsF_all {l : List Oper} {dst : Nat → Option Tmp} {v : Nat → Value} {a : Act} : ∀ k, (∀ i, i < k → dst i = dstOf l i) → putsD l (fun _ => true) v a k = putsF dst v a (List.range k).reverse := by
  intro k
  induction k with
  | zero => intro _; rfl
  | succ k ih =>
    intro h
    rw [List.range_succ, List.reverse_append]
    show putsD l (fun _ => true) v a (k + 1) = (putsF dst v a (List.range k).reverse).put (dst k) (v k)
    rw [← ih (fun i hi => h i (by omega)), h k (by omega)]
    conv => lhs; unfold putsD
    exact if_pos rfl
/-- What an answer owns, said of an earlier world; nothing of it has turned since. -/
def Live (F : Value → (Nat → Prop) → World → Prop) (v : Value) (S : Nat → Prop) (w : World) : Prop :=
  ∃ w1, F v S w1 ∧ (∀ k, S k → k < w1.heap.size) ∧ Ch w1 w (fun k => ¬ S k)
theorem Live.ch {F : Value → (Nat → Prop) → World → Prop} {v : Value} {S U : Nat → Prop} {w w' : World} (h : Live F v S w) (c : Ch w w' U) (hd : ∀ k, S k → ¬ U k) : Live F v S w' := by
  obtain ⟨w1, h1, h2, h3⟩ := h
  exact ⟨w1, h1, h2, h3.trans c (fun k _ hu hs => hd k hs hu)⟩
theorem Live.lt {F : Value → (Nat → Prop) → World → Prop} {v : Value} {S : Nat → Prop} {w : World} (h : Live F v S w) {k : Nat} (hk : S k) : k < w.heap.size := by
  obtain ⟨w1, _, h2, h3⟩ := h
  exact Nat.lt_of_lt_of_le (h2 k hk) h3.size
/-- One operation's step: ds the operations that it looks at, us these and what it uses up besides. -/
def StepR (P : Program) (dst : Nat → Option Tmp) (F : Nat → Value → (Nat → Prop) → World → Prop) (cons : Nat → Nat) (U : Nat → Prop) (w0 : World) (a0 : Act) (ds us : List Nat) (j : Nat) (o : Oper) : Prop :=
  ∀ (v : Nat → Value) (S : Nat → Nat → Prop) (w : World), Ch w0 w U → (∀ i ∈ us, Live (F i) (v i) (S i) w) → (∀ i ∈ us, ∀ k, S i k → U k ∨ w0.heap.size ≤ k) → (∀ i ∈ us, ∀ i' ∈ us, i ≠ i' → ∀ k, S i k → ¬ S i' k) →
    ∀ Q : Exit → Act → World → Prop, (∀ x T w' a, a = (putsF dst v a0 ds).put o.dst x → F j x T w' → (∀ k, T k → k < w'.heap.size) → Ch w w' (fun k => ∃ i, i ∈ us ∧ cons i = j ∧ S i k) → (∀ k, T k → (∃ i, i ∈ us ∧ cons i = j ∧ S i k) ∨ w.heap.size ≤ k) → Q .normal a w') →
      wpList P #[] Q [o] (putsF dst v a0 ds) w
def StepsR (P : Program) (dst : Nat → Option Tmp) (F : Nat → Value → (Nat → Prop) → World → Prop) (cons : Nat → Nat) (U : Nat → Prop) (w0 : World) (a0 : Act) (D I : List (List Nat)) : Nat → List Oper → Prop
  | _, [] => True
  | j, o :: r => StepR P dst F cons U w0 a0 (D.getD j []) (D.getD j [] ++ I.getD j []) j o ∧ StepsR P dst F cons U w0 a0 D I (j + 1) r
theorem StepsR.at_ {P : Program} {dst : Nat → Option Tmp} {F : Nat → Value → (Nat → Prop) → World → Prop} {cons : Nat → Nat} {U : Nat → Prop} {w0 : World} {a0 : Act} {D I : List (List Nat)} : ∀ (r : List Oper) (j : Nat), StepsR P dst F cons U w0 a0 D I j r → ∀ k o, r[k]? = some o → StepR P dst F cons U w0 a0 (D.getD (j + k) []) (D.getD (j + k) [] ++ I.getD (j + k) []) (j + k) o := by
  intro r
  induction r with
  | nil => intro j _ k o h; simp at h
  | cons o' r ih =>
    intro j h k o hk
    cases k with
    | zero => simp at hk; subst hk; exact h.1
    | succ k => have := ih (j + 1) h.2 k o (by simpa using hk); rwa [show j + 1 + k = j + (k + 1) by omega] at this
/-- The checks on a region that is written out. -/
def bindsB (o : Oper) (i : Nat) : Bool := o.after.any fun e => Region.binds .any e && e.on == i
def goodB (l : List Oper) (D I : List (List Nat)) (cons : Nat → Nat) (sz : Nat) : Bool :=
  (List.range l.length).all fun j =>
    match l[j]? with
    | none => false
    | some o =>
      o.guard.isNone && (match o.op with | .select _ _ => false | _ => true) &&
      (match o.dst with | some t => decide (t < sz) | none => true) &&
      (o.after.all fun e => !Region.binds .any e || decide (e.on < j)) &&
      ((List.range l.length).all fun i => i == j || (match dstOf l i, dstOf l j with | some t, some t' => !(t == t') | _, _ => true)) &&
      ((D.getD j []).all fun i => decide (i < l.length) && bindsB o i && (cons i == j || decide (l.length < cons i))) &&
      ((I.getD j []).all fun i => i == l.length && cons i == j) &&
      ((List.range (l.length + 1)).all fun i => !(cons i == j) || (D.getD j [] ++ I.getD j []).contains i) &&
      (o.op.operands.toList.all fun x => match x with | .tmp t => (List.range l.length).all fun i => !(dstOf l i == some t) || (D.getD j []).contains i || (match l[i]? with | some oi => bindsB oi j | none => false) | _ => true)
section
variable {P : Program} {Q : Exit → Act → World → Prop}
theorem put_eq_of {a a' : Act} {dst : Option Tmp} {v x : Value} (hs : a.tmps.size = a'.tmps.size) (h : ∀ t, dst = some t → t < a.tmps.size) (e : a'.put dst v = a'.put dst x) : a.put dst v = a.put dst x := by
  cases dst with
  | none => rfl
  | some t =>
    have ht := h t rfl
    have h1 := eval_put_same (a := a') (t := t) (v := v) (hs ▸ ht)
    have h2 := eval_put_same (a := a') (t := t) (v := x) (hs ▸ ht)
    rw [e, h2] at h1
    rw [h1]
theorem ans_of_wpList {o : Oper} {a' : Act} {w : World} {R : Value → World → Prop} (hg : o.guard = none)
    (h : wpList P #[] (fun e a'' w' => e = .normal ∧ ∃ x, R x w' ∧ a'' = a'.put o.dst x) [o] a' w) : OpAns P o a'.eval w (fun v w' => ∃ x, R x w' ∧ a'.put o.dst v = a'.put o.dst x) := by
  unfold wpList at h
  rw [if_pos (by simp [Region.wanted, hg])] at h
  rcases h with h | ⟨_, _, _, h⟩
  · unfold Oper.wp at h
    unfold OpAns
    generalize (execOp a'.eval o).run P w = r at *
    cases r with
    | ok n w' =>
      cases n <;> simp only [Oper.upon] at h ⊢
      case value v => exact h.2
      case skip => exact h.2
      case defer d =>
        obtain ⟨_, x, _, e⟩ := h
        have := congrArg (fun a : Act => a.defers.length) e
        exact absurd this (by unfold Act.put; cases o.dst <;> simp)
      case enter f args =>
        refine h.mono fun e w'' he => ?_
        cases e with
        | returned v => exact ⟨v, rfl, he.2⟩
        | panicked c => exact absurd he.1 (by simp)
        | outgrown => obtain ⟨_, _, h1, _⟩ := he; exact absurd h1 (by simp)
      case row row args => exact h.mono fun v w'' he => he.2
    | halt x w' =>
      cases x <;> simp only [Oper.upon] at h
      case panic u => exact absurd h.1 (by simp)
  · exact absurd h (by simp)
theorem goodB_at {l : List Oper} {D I : List (List Nat)} {cons : Nat → Nat} {sz j : Nat} {o : Oper} (h : goodB l D I cons sz = true) (hj : l[j]? = some o) :
    o.guard = none ∧ (∀ cs b, o.op ≠ .select cs b) ∧ (∀ t, o.dst = some t → t < sz) ∧ (∀ e ∈ o.after, Region.binds .any e = true → e.on < j) ∧
      (∀ i, i < l.length → i ≠ j → ∀ t, dstOf l i = some t → dstOf l j ≠ some t) ∧
      (∀ i ∈ D.getD j [], i < l.length ∧ bindsB o i = true ∧ (cons i = j ∨ l.length < cons i)) ∧ (∀ i ∈ I.getD j [], i = l.length ∧ cons i = j) ∧
      (∀ i, i ≤ l.length → cons i = j → i ∈ D.getD j [] ++ I.getD j []) ∧
      (∀ x ∈ o.op.operands, ∀ t, x = .tmp t → ∀ i, i < l.length → dstOf l i = some t → i ∈ D.getD j [] ∨ ∃ oi, l[i]? = some oi ∧ bindsB oi j = true) := by
  have hjl : j < l.length := (List.getElem?_eq_some_iff.1 hj).1
  unfold goodB at h
  have h := List.all_eq_true.1 h j (List.mem_range.2 hjl)
  simp only [hj, Bool.and_eq_true] at h
  obtain ⟨⟨⟨⟨⟨⟨⟨⟨h1, h2⟩, h3⟩, h4⟩, h5⟩, h6⟩, h7⟩, h8⟩, h9⟩ := h
  refine ⟨by simpa using h1, ?_, ?_, ?_, ?_, ?_, ?_, ?_, ?_⟩
  · intro cs b e
    rw [e] at h2
    simp at h2
  · intro t e
    rw [e] at h3
    simpa using h3
  · intro e he hb
    have := Array.all_eq_true_iff_forall_mem.1 h4 e he
    simpa [hb] using this
  · intro i hi hij t ht ht'
    have := List.all_eq_true.1 h5 i (List.mem_range.2 hi)
    rw [ht, ht'] at this
    simp [hij] at this
  · intro i hi
    have := List.all_eq_true.1 h6 i hi
    simp only [Bool.and_eq_true, Bool.or_eq_true, decide_eq_true_eq, beq_iff_eq] at this
    exact ⟨this.1.1, this.1.2, this.2⟩
  · intro i hi
    have := List.all_eq_true.1 h7 i hi
    simpa using this
  · intro i hi hc
    have := List.all_eq_true.1 h8 i (List.mem_range.2 (by omega))
    rw [List.contains_eq_mem] at this
    simpa [hc] using this
  · intro x hx t e i hi ht
    have := List.all_eq_true.1 h9 x (by simpa using hx)
    subst e
    have := List.all_eq_true.1 this i (List.mem_range.2 hi)
    rw [List.contains_eq_mem] at this
    simp only [ht, beq_self_eq_true, Bool.not_true, Bool.false_or, Bool.or_eq_true, decide_eq_true_eq] at this
    rcases this with h | h
    · exact .inl h
    · right
      cases ho : l[i]? with
      | none => rw [ho] at h; cases h
      | some oi => rw [ho] at h; exact ⟨oi, rfl, h⟩
theorem goodB_distinct {l : List Oper} {D I : List (List Nat)} {cons : Nat → Nat} {sz : Nat} (h : goodB l D I cons sz = true) : distinctD l := by
  intro i j hi hj hij t ht
  have hj' : l[j]? = some l[j] := List.getElem?_eq_getElem hj
  exact (goodB_at h hj').2.2.2.2.1 i hi hij t ht
theorem OpAns.of_eval {o : Oper} {ev ev' : Operand → Value} {w : World} {R : Value → World → Prop} (h : OpAns P o ev w R) (e : execOp ev o = execOp ev' o) : OpAns P o ev' w R := by
  unfold OpAns at *
  rwa [← e]
/-- A region that draws its order, by what each operation's answer owns. -/
theorem wp_region_res {l : List Oper} {id : Nat} {a0 : Act} {w0 : World} (hm : P.follows .mixedOrders = true) (dst : Nat → Option Tmp) (hdst : ((List.range l.length).all fun i => dst i == dstOf l i) = true) (F : Nat → Value → (Nat → Prop) → World → Prop) (cons : Nat → Nat) (U : Nat → Prop) (D I : List (List Nat)) (hgood : goodB l D I cons a0.tmps.size = true)
    (v0 : Value) (S0 : Nat → Prop) (h0 : F l.length v0 S0 w0) (h0l : ∀ k, S0 k → k < w0.heap.size) (h0U : ∀ k, S0 k → U k)
    (hsteps : StepsR P dst F cons U w0 a0 D I 0 l)
    (hend : ∀ (v : Nat → Value) (S : Nat → Nat → Prop) (w : World), Ch w0 w U → (∀ i, i ≤ l.length → l.length < cons i → Live (F i) (v i) (S i) w ∧ ∀ k, S i k → U k ∨ w0.heap.size ≤ k) →
      (∀ i i', i ≤ l.length → i' ≤ l.length → l.length < cons i → l.length < cons i' → i ≠ i' → ∀ k, S i k → ¬ S i' k) → Q .normal (putsF dst v a0 (List.range l.length).reverse) w) :
    (Code.region id l.toArray true).wp P Q a0 w0 := by
  have hdis := goodB_distinct hgood
  have hds' : ∀ i, i < l.length → dst i = dstOf l i := fun i hi => by simpa using List.all_eq_true.1 hdst i (List.mem_range.2 hi)
  refine wp_region_any hm ?_
  refine wpAny_inv (ops := l.toArray) (I := fun d a w => (∀ i oi, l[i]? = some oi → d i = true → ∀ e ∈ oi.after, Region.binds .any e = true → d e.on = true) ∧ ∃ (v : Nat → Value) (S : Nat → Nat → Prop), (∀ i, l.length ≤ i → d i = false) ∧ a = putsD l d v a0 l.length ∧ Ch w0 w U ∧
      (∀ i, i ≤ l.length → (i = l.length ∨ d i = true) → d (cons i) = false → Live (F i) (v i) (S i) w ∧ ∀ k, S i k → U k ∨ w0.heap.size ≤ k) ∧
      (∀ i i', i ≤ l.length → i' ≤ l.length → (i = l.length ∨ d i = true) → (i' = l.length ∨ d i' = true) → d (cons i) = false → d (cons i') = false → i ≠ i' → ∀ k, S i k → ¬ S i' k)) ?_ ?_ ?_ _ _ _ _ ?_ ?_ ?_
  · intro j o hj e he hb
    exact (goodB_at hgood (by simpa using hj)).2.2.2.1 e he hb
  · rintro d j o a w hj hdj hdb hdep ⟨HCL, v, S, _, rfl, HC, HL, HD⟩
    have hj : l[j]? = some o := by simpa using hj
    have hjl : j < l.length := (List.getElem?_eq_some_iff.1 hj).1
    have hdst : dstOf l j = o.dst := by unfold dstOf; rw [hj]; rfl
    have hdb : ∀ i, l.length ≤ i → d i = false := fun i hi => hdb i (by simpa using hi)
    obtain ⟨g1, g2, g3, g4, g5, g6, g7, g8, g9⟩ := goodB_at hgood hj
    have hds : ∀ i ∈ D.getD j [], i < l.length ∧ d i = true ∧ d (cons i) = false := by
      intro i hi
      obtain ⟨q1, q2, q3⟩ := g6 i hi
      refine ⟨q1, ?_, ?_⟩
      · unfold bindsB at q2
        rw [← Array.any_toList, List.any_eq_true] at q2
        obtain ⟨e, he, q⟩ := q2
        have he : e ∈ o.after := by simpa using he
        simp only [Bool.and_eq_true, beq_iff_eq] at q
        have := hdep e he q.1
        rwa [q.2] at this
      · rcases q3 with q3 | q3
        · rw [q3]; exact hdj
        · exact hdb _ (by omega)
    have hus : ∀ i ∈ D.getD j [] ++ I.getD j [], i ≤ l.length ∧ (i = l.length ∨ d i = true) ∧ d (cons i) = false := by
      intro i hi
      rcases List.mem_append.1 hi with hi | hi
      · obtain ⟨q1, q2, q3⟩ := hds i hi
        exact ⟨by omega, .inr q2, q3⟩
      · obtain ⟨q1, q2⟩ := g7 i hi
        exact ⟨by omega, .inl q1, by rw [q2]; exact hdj⟩
    have hst := StepsR.at_ l 0 hsteps j o hj
    rw [Nat.zero_add] at hst
    have hpf : putsF dst v a0 (D.getD j []) = putsL l v a0 (D.getD j []) := putsF_eq (D.getD j []) (fun i hi => hds' i (hds i hi).1)
    have h1 := hst v S w HC (fun i hi => (HL i (hus i hi).1 (hus i hi).2.1 (hus i hi).2.2).1) (fun i hi => (HL i (hus i hi).1 (hus i hi).2.1 (hus i hi).2.2).2)
      (fun i hi i' hi' hne => HD i i' (hus i hi).1 (hus i' hi').1 (hus i hi).2.1 (hus i' hi').2.1 (hus i hi).2.2 (hus i' hi').2.2 hne)
      (fun e a'' w' => e = .normal ∧ ∃ x, (∃ T, F j x T w' ∧ (∀ k, T k → k < w'.heap.size) ∧ Ch w w' (fun k => ∃ i, i ∈ D.getD j [] ++ I.getD j [] ∧ cons i = j ∧ S i k) ∧ (∀ k, T k → (∃ i, i ∈ D.getD j [] ++ I.getD j [] ∧ cons i = j ∧ S i k) ∨ w.heap.size ≤ k)) ∧ a'' = (putsL l v a0 (D.getD j [])).put o.dst x)
      (fun x T w' a' pa p1 p2 p3 p4 => ⟨rfl, x, ⟨T, p1, p2, p3, p4⟩, by rw [pa, hpf]⟩)
    rw [hpf] at h1
    have h2 := ans_of_wpList (R := fun x w' => ∃ T, F j x T w' ∧ (∀ k, T k → k < w'.heap.size) ∧ Ch w w' (fun k => ∃ i, i ∈ D.getD j [] ++ I.getD j [] ∧ cons i = j ∧ S i k) ∧ (∀ k, T k → (∃ i, i ∈ D.getD j [] ++ I.getD j [] ∧ cons i = j ∧ S i k) ∨ w.heap.size ≤ k)) g1 h1
    have hev : execOp (putsL l v a0 (D.getD j [])).eval o = execOp (putsD l d v a0 l.length).eval o := by
      refine execOp_congr o g2 fun x hx => ?_
      by_cases hx2 : ∃ t i, x = .tmp t ∧ i < l.length ∧ dstOf l i = some t ∧ d i = true
      · obtain ⟨t, i, rfl, hi, ht, hdi⟩ := hx2
        have hiD : i ∈ D.getD j [] := by
          rcases g9 _ hx t rfl i hi ht with h | ⟨oi, ho, hb⟩
          · exact h
          · unfold bindsB at hb
            rw [← Array.any_toList, List.any_eq_true] at hb
            obtain ⟨e, he, q⟩ := hb
            simp only [Bool.and_eq_true, beq_iff_eq] at q
            have := HCL i oi ho hdi e (by simpa using he) q.1
            rw [q.2, hdj] at this
            cases this
        have hts : t < a0.tmps.size := (goodB_at hgood (List.getElem?_eq_getElem hi)).2.2.1 t (by unfold dstOf at ht; rw [List.getElem?_eq_getElem hi] at ht; exact ht)
        rw [putsL_hit hdis ht hts _ (fun k hk => (hds k hk).1) hiD, putsD_hit hdis hi (hds i hiD).2.1 ht hts _ hi (Nat.le_refl _)]
      · rw [putsL_miss _ (fun i hi t ht e => hx2 ⟨t, i, e, (hds i hi).1, ht, (hds i hi).2.1⟩), putsD_miss _ (fun i hi hdi t ht e => hx2 ⟨t, i, e, hi, ht, hdi⟩)]
    refine wpOp_ans (by simpa using hj) g1 ((h2.of_eval hev).mono ?_)
    rintro u w' ⟨x, ⟨T, p1, p2, p3, p4⟩, pe⟩
    have pe2 := put_eq_of (a := putsD l d v a0 l.length) (a' := putsL l v a0 (D.getD j [])) (by rw [putsD_size, putsL_size]) (fun t ht => by rw [putsD_size]; exact g3 t ht) pe
    rw [pe2]
    have hcu : ∀ i k, i ∈ D.getD j [] ++ I.getD j [] → S i k → U k ∨ w0.heap.size ≤ k := fun i k hi => (HL i (hus i hi).1 (hus i hi).2.1 (hus i hi).2.2).2 k
    have hap : ∀ i, i ≤ l.length → (i = l.length ∨ d i = true) → d (cons i) = false → cons i ≠ j → ∀ k, S i k → ¬ ∃ i', i' ∈ D.getD j [] ++ I.getD j [] ∧ cons i' = j ∧ S i' k := by
      rintro i hi hl hc hcj k hk ⟨i', hi', hc', hk'⟩
      have hne : i ≠ i' := by rintro rfl; exact hcj hc'
      exact HD i i' hi (hus i' hi').1 hl (hus i' hi').2.1 hc (hus i' hi').2.2 hne k hk hk'
    have hor : ∀ i, i ≠ j → (i = l.length ∨ (d i || i == j) = true) → (i = l.length ∨ d i = true) := by
      intro i hi h
      have : (i == j) = false := by simpa using hi
      rwa [this, Bool.or_false] at h
    have hcf : ∀ i, (d (cons i) || cons i == j) = false → d (cons i) = false ∧ cons i ≠ j := by
      intro i h
      simpa using h
    refine ⟨fun i oi ho hi e he hb => ?_, fun i => if i = j then x else v i, fun i => if i = j then T else S i, ?_, ?_, ?_, ?_, ?_⟩
    · have hi : (d i || i == j) = true := hi
      show (d e.on || e.on == j) = true
      rw [Bool.or_eq_true] at hi ⊢
      rcases hi with hi | hi
      · exact .inl (HCL i oi ho hi e he hb)
      · have hij : i = j := by simpa using hi
        subst hij
        have : o = oi := by have := hj.symm.trans ho; injection this
        subst this
        exact .inl (hdep e he hb)
    · intro i hi
      have : (i == j) = false := by simp; omega
      show (d i || i == j) = false
      rw [this, hdb i hi]; rfl
    · have := putsD_add (l := l) (d := d) (d' := fun i => d i || i == j) (v := v) (v' := fun i => if i = j then x else v i) (a := a0) (j := j) hdis hjl hdj (fun _ => rfl) (fun i hi => by simp [hi]) l.length hjl (Nat.le_refl _)
      rw [this, hdst]
      simp
    · exact HC.trans p3 (fun k hk ⟨i, hi, _, hs⟩ => by
        rcases hcu i k hi hs with h | h
        · exact h
        · omega)
    · intro i hi hl hc
      obtain ⟨hc1, hc2⟩ := hcf i hc
      by_cases e : i = j
      · subst e
        simp only [if_true]
        refine ⟨⟨w', p1, p2, Ch.refl _⟩, fun k hk => ?_⟩
        rcases p4 k hk with ⟨i', hi', _, hs⟩ | h
        · exact hcu i' k hi' hs
        · have := HC.size; exact .inr (by omega)
      · simp only [if_neg e]
        have hl := hor i e hl
        exact ⟨(HL i hi hl hc1).1.ch p3 (hap i hi hl hc1 hc2), (HL i hi hl hc1).2⟩
    · have side : ∀ i, i ≤ l.length → i ≠ j → (i = l.length ∨ (d i || i == j) = true) → (d (cons i) || cons i == j) = false → ∀ k, T k → ¬ S i k := by
        intro i hi e hl hc k hk hs
        obtain ⟨hc1, hc2⟩ := hcf i hc
        have hl := hor i e hl
        rcases p4 k hk with h | h
        · exact hap i hi hl hc1 hc2 k hs h
        · have := (HL i hi hl hc1).1.lt hs; omega
      intro i i' hi hi' hl hl' hc hc' hne k
      by_cases e : i = j
      · have e' : i' ≠ j := fun h => hne (e.trans h.symm)
        simp only [if_pos e, if_neg e']
        exact side i' hi' e' hl' hc' k
      · by_cases e' : i' = j
        · simp only [if_neg e, if_pos e']
          exact fun hs ht => side i hi e hl hc k ht hs
        · simp only [if_neg e, if_neg e']
          exact HD i i' hi hi' (hor i e hl) (hor i' e' hl') (hcf i hc).1 (hcf i' hc').1 hne k
  · rintro d a w hd ⟨_, v, S, hdb, rfl, HC, HL, HD⟩
    have hd : ∀ j, j < l.length → d j = true := fun j hj => hd j (by simpa using hj)
    have hor : ∀ i, i ≤ l.length → (i = l.length ∨ d i = true) := fun i hi => by
      rcases Nat.lt_or_eq_of_le hi with h | h
      · exact .inr (hd i h)
      · exact .inl h
    rw [← putsD_congr (d := d) (d' := fun _ => true) (v := v) (v' := v) l.length (fun i hi => ⟨(hd i hi).symm, rfl⟩), putsF_all l.length hds']
    exact hend v S w HC (fun i hi hc => HL i hi (hor i hi) (hdb _ (by omega))) (fun i i' hi hi' hc hc' => HD i i' hi hi' (hor i hi) (hor i' hi') (hdb _ (by omega)) (hdb _ (by omega)))
  · simp
  · intro L hn hm'
    have : ∀ i ∈ L, i < l.length := by
      intro i hi
      have := hm' i hi
      by_cases h : i < l.length
      · exact h
      · simp [Array.getD, h] at this
    have hsub := List.Nodup.length_le_of_subset hn (show L ⊆ List.range l.length from fun i hi => List.mem_range.2 (this i hi))
    simpa using hsub
  · refine ⟨fun i oi _ hi => by simp [Array.getD] at hi, fun _ => v0, fun i => if i = l.length then S0 else fun _ => False, ?_, ?_, (Ch.refl w0).drewN 1, ?_, ?_⟩
    · intro i hi
      simp [Array.getD]
    · rw [putsD_congr (d := fun _ => false) (v := fun _ => v0) l.length (fun i hi => ⟨by simp [Array.getD], rfl⟩)]
      exact (putsD_none l.length).symm
    · intro i hi hl _
      have e : i = l.length := by
        rcases hl with e | e
        · exact e
        · simp [Array.getD] at e
      subst e
      simp only [if_true]
      exact ⟨⟨w0, h0, h0l, (Ch.refl w0).drewN 1⟩, fun k hk => .inl (h0U k hk)⟩
    · intro i i' hi hi' hl hl' _ _ hne
      have e : ∀ i, (i = l.length ∨ (Array.replicate l.toArray.size false).getD i false = true) → i = l.length := fun i hl => by
        rcases hl with e | e
        · exact e
        · simp [Array.getD] at e
      exact absurd ((e i hl).trans (e i' hl').symm) hne
end
end Go.Proofs.Ytdioijhmmmnbgaa
namespace Go.Proofs.Ytdioijhmmmnbgaa
open Go.RowKit
structure RwS where
  g : Nat
  v : Value
  l : List UInt8
structure One (T E : TypeId) (w : World) (B : Nat) (x : RwS) : Prop where
  r : Rws T E w B x.g x.v x.l
  lo : B ≤ x.g
  ne : x.v.ownBlock ≠ some x.g
def RwS.F (x : RwS) (k : Nat) : Prop := Fpt x.g x.v k
theorem One.low {T E : TypeId} {w : World} {B : Nat} {x : RwS} (h : One T E w B x) {k : Nat} (hk : x.F k) : B ≤ k := by
  rcases hk with e | e
  · rw [e]; exact h.lo
  · exact (World.ownsRow.lt h.r.2 k e).1
theorem One.lt {T E : TypeId} {w : World} {B : Nat} {x : RwS} (h : One T E w B x) {k : Nat} (hk : x.F k) : k < w.heap.size := by
  rcases hk with e | e
  · rw [e]; exact h.r.1.lt
  · exact (World.ownsRow.lt h.r.2 k e).2
theorem One.ch {T E : TypeId} {w w' : World} {B : Nat} {x : RwS} {S : Nat → Prop} (h : One T E w B x) (c : Ch w w' S) (hS : ∀ k, x.F k → ¬ S k) : One T E w' B x :=
  ⟨h.r.ch c hS, h.lo, h.ne⟩
theorem One.more {T E : TypeId} {w : World} {B B' : Nat} {x : RwS} (h : One T E w B x) (hB : B' ≤ B) : One T E w B' x :=
  ⟨⟨h.r.1, OwL.low h.r.2 hB⟩, Nat.le_trans hB h.lo, h.ne⟩
def Fam (T E : TypeId) (w : World) (B : Nat) : List RwS → Prop
  | [] => True
  | x :: r => One T E w B x ∧ (∀ y ∈ r, ∀ k, x.F k → ¬ y.F k) ∧ Fam T E w B r
section
variable {T E : TypeId} {w w' w0 : World} {B : Nat} {x y z : RwS} {r : List RwS} {S : Nat → Prop}
theorem Fam.one (h : Fam T E w B (x :: r)) : One T E w B x := h.1
theorem Fam.tail (h : Fam T E w B (x :: r)) : Fam T E w B r := h.2.2
theorem Fam.at_ : ∀ {r : List RwS}, Fam T E w B r → ∀ y ∈ r, One T E w B y
  | [], _, _, hy => by cases hy
  | x :: r, h, y, hy => by
    rcases List.mem_cons.1 hy with e | e
    · rw [e]; exact h.1
    · exact Fam.at_ h.2.2 y e
theorem Fam.ch : ∀ {r : List RwS}, Fam T E w B r → Ch w w' S → (∀ y ∈ r, ∀ k, y.F k → ¬ S k) → Fam T E w' B r
  | [], _, _, _ => trivial
  | x :: r, h, c, hS => ⟨h.1.ch c (hS x (by simp)), h.2.1, Fam.ch h.2.2 c fun y hy => hS y (List.mem_cons_of_mem _ hy)⟩
theorem Fam.below (h : Fam T E w B r) (hb : Below w.heap.size w w') : Fam T E w' B r := h.ch (Ch.of_below (S := fun _ => False) hb) (fun _ _ _ _ h => h)
theorem Fam.alloc (h : Fam T E w B r) (o : Obj) : Fam T E (w.alloc o) B r := h.ch ((Ch.refl w (S := fun _ => False)).alloc o) (fun _ _ _ _ h => h)
theorem Fam.drewN (h : Fam T E w B r) (n : Nat) : Fam T E (w.drewN n) B r := h.ch ((Ch.refl w (S := fun _ => False)).drewN n) (fun _ _ _ _ h => h)
theorem Fam.swap (h : Fam T E w B (x :: y :: r)) : Fam T E w B (y :: x :: r) :=
  ⟨h.2.2.1, fun u hu k hk hk2 => by
    rcases List.mem_cons.1 hu with e | e
    · rw [e] at hk2; exact h.2.1 y (by simp) k hk2 hk
    · exact h.2.2.2.1 u e k hk hk2, h.1, fun u hu => h.2.1 u (List.mem_cons_of_mem _ hu), h.2.2.2.2⟩
theorem Fam.swap2 (h : Fam T E w B (x :: y :: z :: r)) : Fam T E w B (x :: z :: y :: r) :=
  ⟨h.1, fun u hu => h.2.1 u (by simp only [List.mem_cons] at hu ⊢; rcases hu with e | e | e <;> simp [e]), Fam.swap h.2.2⟩
/-- The third comes to the front. -/
theorem Fam.third (h : Fam T E w B (x :: y :: z :: r)) : Fam T E w B (z :: x :: y :: r) := (h.swap2).swap
theorem Fam.back (h : Fam T E w B (z :: x :: y :: r)) : Fam T E w B (x :: y :: z :: r) := (h.swap).swap2
theorem Fam.drop2 (h : Fam T E w B (x :: y :: r)) : Fam T E w B (x :: r) := (h.swap).tail
/-- The first grows. -/
theorem Fam.step {v' : Value} {o' : List UInt8} (h : Fam T E w B (x :: r)) (hr : Rws T E w' B x.g v' o') (c : Ch w w' (Fpt x.g x.v)) (k : v'.ownBlock = x.v.ownBlock ∨ ∃ b, v'.ownBlock = some b ∧ w.heap.size ≤ b) : Fam T E w' B (⟨x.g, v', o'⟩ :: r) := by
  refine ⟨⟨hr, h.1.lo, ?_⟩, ?_, h.2.2.ch c fun y hy q hq hq2 => h.2.1 y hy q hq2 hq⟩
  · rcases k with e | ⟨b, e, hb⟩
    · rw [e]; exact h.1.ne
    · rw [e]; intro e2; injection e2 with e2
      have := h.1.r.1.lt
      show False
      have : b = x.g := e2
      omega
  · intro y hy q hq hy2
    rcases hq with e | e
    · exact h.2.1 y hy q (.inl e) hy2
    · have e : v'.ownBlock = some q := e
      rcases k with k | ⟨b, k, hb⟩
      · exact h.2.1 y hy q (.inr (k.symm.trans e)) hy2
      · rw [k] at e; injection e with e
        have := (h.2.2.at_ y hy).lt hy2
        omega
/-- Another comes in front, of new blocks. -/
theorem Fam.push (h : Fam T E w B r) (o : One T E w' B x) (c : Ch w w' S) (hS : ∀ y ∈ r, ∀ k, y.F k → ¬ S k) (hn : ∀ k, x.F k → w.heap.size ≤ k) : Fam T E w' B (x :: r) :=
  ⟨o, fun y hy k hk hk2 => by
    have := (h.at_ y hy).lt hk2
    have := hn k hk
    omega, h.ch c hS⟩
/-- What lies below stays, and what has turned lies above. -/
theorem Fam.low (h : Fam T E w B (x :: r)) (c : Ch w w' (Fpt x.g x.v)) (hb : Below B w0 w) (hz : B ≤ w.heap.size) : Below B w0 w' :=
  hb.trans (c.below hz fun _ hk hf => Nat.lt_irrefl _ (Nat.lt_of_lt_of_le hk (h.1.low hf)))
end
end Go.Proofs.Ytdioijhmmmnbgaa
namespace Go.Proofs.Ytdioijhmmmnbgaa
open Go.RowKit
def fNo : Nat → Prop := fun _ => False
def fPure (u : Value) (x : Value) (S : Nat → Prop) (_ : World) : Prop := x = u ∧ S = fNo
def fRow (xs : List Int) (n : Nat) (x : Value) (S : Nat → Prop) (w : World) : Prop := ∃ g, x = .slice (some ⟨g, 0, none⟩) n n ∧ S = (fun k => k = g) ∧ RL iV w (g + 1) (some ⟨g, 0, none⟩) xs
def fCell (u : Value) (x : Value) (S : Nat → Prop) (w : World) : Prop := ∃ g, x = .slice (some ⟨g, 0, none⟩) 1 1 ∧ S = (fun k => k = g) ∧ w.cell? ⟨g, 0, none⟩ = some u
def fRws (T E : TypeId) (B : Nat) (l : List UInt8) (x : Value) (S : Nat → Prop) (w : World) : Prop := ∃ g v, x = .pointer (some ⟨g, 0, none⟩) ∧ S = Fpt g v ∧ One T E w B ⟨g, v, l⟩
def fRwA (T E : TypeId) (B g : Nat) (l : List UInt8) (x : Value) (S : Nat → Prop) (w : World) : Prop := ∃ v, x = .pointer (some ⟨g, 0, none⟩) ∧ S = Fpt g v ∧ One T E w B ⟨g, v, l⟩
def fRwI (T E : TypeId) (B g : Nat) (v : Value) (l : List UInt8) (_ : Value) (S : Nat → Prop) (w : World) : Prop := S = Fpt g v ∧ One T E w B ⟨g, v, l⟩
section
variable {u x : Value} {S : Nat → Prop} {w : World} {xs : List Int} {n B : Nat} {T E : TypeId} {l : List UInt8}
theorem Live.pure (h : Live (fPure u) x S w) : x = u := by obtain ⟨_, h, _⟩ := h; exact h.1
theorem Live.row (h : Live (fRow xs n) x S w) : ∃ g, x = .slice (some ⟨g, 0, none⟩) n n ∧ S = (fun k => k = g) ∧ Bx (RL iV w w.heap.size (some ⟨g, 0, none⟩) xs) ∧ Bx (g < w.heap.size) := by
  obtain ⟨w1, ⟨g, e, s, r⟩, z, c⟩ := h
  have hg : g < w1.heap.size := z g (by rw [s])
  refine ⟨g, e, s, bx ((RL.ch r c (by omega) (fun ad ha hn => hn ?_)).more (by have := c.size; omega)), bx (by have := c.size; omega)⟩
  injection ha with ha
  rw [s, ← ha]
theorem Live.cell (h : Live (fCell u) x S w) : ∃ g, x = .slice (some ⟨g, 0, none⟩) 1 1 ∧ Bx (w.cell? ⟨g, 0, none⟩ = some u) := by
  obtain ⟨w1, ⟨g, e, s, r⟩, z, c⟩ := h
  have hg : g < w1.heap.size := z g (by rw [s])
  exact ⟨g, e, bx ((cell_same (c.same g hg (fun hn => hn (by rw [s])))).trans r)⟩
theorem Live.rws (h : Live (fRws T E B l) x S w) : ∃ g v, x = .pointer (some ⟨g, 0, none⟩) ∧ S = Fpt g v ∧ Bx (One T E w B ⟨g, v, l⟩) := by
  obtain ⟨w1, ⟨g, v, e, s, r⟩, z, c⟩ := h
  exact ⟨g, v, e, s, bx (r.ch c (fun k hk hn => hn (by rw [s]; exact hk)))⟩
theorem Live.rwa {g : Nat} (h : Live (fRwA T E B g l) x S w) : ∃ v, x = .pointer (some ⟨g, 0, none⟩) ∧ S = Fpt g v ∧ Bx (One T E w B ⟨g, v, l⟩) := by
  obtain ⟨w1, ⟨v, e, s, r⟩, z, c⟩ := h
  exact ⟨v, e, s, bx (r.ch c (fun k hk hn => hn (by rw [s]; exact hk)))⟩
theorem Live.rwi {g : Nat} {v : Value} (h : Live (fRwI T E B g v l) x S w) : S = Fpt g v ∧ Bx (One T E w B ⟨g, v, l⟩) := by
  obtain ⟨w1, ⟨s, r⟩, z, c⟩ := h
  exact ⟨s, bx (r.ch c (fun k hk hn => hn (by rw [s]; exact hk)))⟩
variable {Fj : Value → (Nat → Prop) → World → Prop} {C : Nat → Prop} {Q : Exit → Act → World → Prop} {A : Value → Act} {a : Act} {w' : World} {Tn : Nat → Prop}
theorem fin_pure (hQ : ∀ x T w' a, a = A x → Fj x T w' → (∀ k, T k → k < w'.heap.size) → Ch w w' C → (∀ k, T k → C k ∨ w.heap.size ≤ k) → Q .normal a w') (ha : a = A x) (hF : Fj x fNo w) : Q .normal a w :=
  hQ x fNo w a ha hF (fun _ h => h.elim) (Ch.refl w) (fun _ h => h.elim)
theorem fin_new (hQ : ∀ x T w' a, a = A x → Fj x T w' → (∀ k, T k → k < w'.heap.size) → Ch w w' C → (∀ k, T k → C k ∨ w.heap.size ≤ k) → Q .normal a w') (ha : a = A x) (hF : Fj x Tn w') (hb : Below w.heap.size w w') (hT : ∀ k, Tn k → w.heap.size ≤ k ∧ k < w'.heap.size) : Q .normal a w' :=
  hQ x Tn w' a ha hF (fun k h => (hT k h).2) (Ch.of_below hb) (fun k h => .inr (hT k h).1)
theorem fin_below (hQ : ∀ x T w' a, a = A x → Fj x T w' → (∀ k, T k → k < w'.heap.size) → Ch w w' C → (∀ k, T k → C k ∨ w.heap.size ≤ k) → Q .normal a w') (ha : a = A x) (hF : Fj x fNo w') (hb : Below w.heap.size w w') : Q .normal a w' :=
  fin_new hQ ha hF hb (fun _ h => h.elim)
/-- A new block. -/
theorem fin_blk {o : Obj} (hQ : ∀ x T w' a, a = A x → Fj x T w' → (∀ k, T k → k < w'.heap.size) → Ch w w' C → (∀ k, T k → C k ∨ w.heap.size ≤ k) → Q .normal a w') (ha : a = A x) (hF : Fj x (fun k => k = w.heap.size) (w.alloc o)) : Q .normal a (w.alloc o) :=
  fin_new hQ ha hF (bl_alloc (Below.refl _ _) (Nat.le_refl _) _) (fun k h => by
    have h1 : (w.alloc o).heap.size = w.heap.size + 1 := by simp
    have h : k = w.heap.size := h
    omega)
theorem fin_box {o : Obj} (hQ : ∀ x T w' a, a = A x → Fj x T w' → (∀ k, T k → k < w'.heap.size) → Ch w w' C → (∀ k, T k → C k ∨ w.heap.size ≤ k) → Q .normal a w') (ha : a = A x) (hF : Fj x (Fpt w.heap.size (.slice none 0 0)) (w.alloc o)) : Q .normal a (w.alloc o) :=
  fin_new hQ ha hF (bl_alloc (Below.refl _ _) (Nat.le_refl _) _) (fun k h => by
    have h1 : (w.alloc o).heap.size = w.heap.size + 1 := by simp
    have h : k = w.heap.size := by
      rcases h with h | h
      · exact h
      · cases h
    omega)
/-- A growing struct that passes on. -/
theorem fin_pass {g : Nat} {v : Value} (hQ : ∀ x T w' a, a = A x → Fj x T w' → (∀ k, T k → k < w'.heap.size) → Ch w w' C → (∀ k, T k → C k ∨ w.heap.size ≤ k) → Q .normal a w') (ha : a = A x) (hF : Fj x (Fpt g v) w) (h0 : One T E w B ⟨g, v, l⟩) (hC : ∀ k, Fpt g v k → C k) : Q .normal a w :=
  hQ x (Fpt g v) w a ha hF (fun _ h => h0.lt h) (Ch.refl w) (fun k h => .inl (hC k h))
/-- A struct that has grown. -/
theorem One.grow {g : Nat} {v v' : Value} {l' : List UInt8} (h0 : One T E w B ⟨g, v, l⟩) (hr : Rws T E w' B g v' l') (k : v'.ownBlock = v.ownBlock ∨ ∃ b, v'.ownBlock = some b ∧ w.heap.size ≤ b) : One T E w' B ⟨g, v', l'⟩ := by
  refine ⟨hr, h0.lo, ?_⟩
  show v'.ownBlock ≠ some g
  have hg : g < w.heap.size := h0.r.1.lt
  rcases k with e | ⟨b, e, hb⟩
  · rw [e]; exact h0.ne
  · rw [e]; intro e2; injection e2 with e2; omega
theorem fin_put {g : Nat} {v v' : Value} {l' : List UInt8} (hQ : ∀ x T w' a, a = A x → Fj x T w' → (∀ k, T k → k < w'.heap.size) → Ch w w' C → (∀ k, T k → C k ∨ w.heap.size ≤ k) → Q .normal a w') (ha : a = A (.pointer (some ⟨g, 0, none⟩))) (h0 : One T E w B ⟨g, v, l⟩) (hC : ∀ k, Fpt g v k → C k)
    (hr : Rws T E w' B g v' l') (hch : Ch w w' (Fpt g v)) (k : v'.ownBlock = v.ownBlock ∨ ∃ b, v'.ownBlock = some b ∧ w.heap.size ≤ b) (hF : One T E w' B ⟨g, v', l'⟩ → Fj (.pointer (some ⟨g, 0, none⟩)) (Fpt g v') w') : Q .normal a w' := by
  have o := h0.grow hr k
  refine hQ _ (Fpt g v') w' a ha (hF o) (fun q h => o.lt h) (hch.mono fun q _ h => hC q h) (fun q h => ?_)
  rcases h with e | e
  · exact .inl (hC q (.inl e))
  · have e : v'.ownBlock = some q := e
    rcases k with k | ⟨b, k, hb⟩
    · exact .inl (hC q (.inr (k.symm.trans e)))
    · rw [k] at e; injection e with e; exact .inr (by omega)
/-- A row that grows ahead of its store; a struct in which it was stored. -/
def fMid (T E : TypeId) (B g : Nat) (vb : Value) (l : List UInt8) (x : Value) (S : Nat → Prop) (w : World) : Prop := S = Fpt g x ∧ OwB w B E x l ∧ Bk w g T #[vb] ∧ x.ownBlock ≠ some g ∧ B ≤ g
def fSt (T E : TypeId) (B g : Nat) (l : List UInt8) (_ : Value) (S : Nat → Prop) (w : World) : Prop := ∃ v, S = Fpt g v ∧ One T E w B ⟨g, v, l⟩
theorem Live.mid {g : Nat} {vb : Value} (h : Live (fMid T E B g vb l) x S w) : S = Fpt g x ∧ Bx (OwB w B E x l) ∧ Bx (Bk w g T #[vb]) ∧ x.ownBlock ≠ some g ∧ B ≤ g := by
  obtain ⟨w1, ⟨s, o, b, n, hB⟩, z, c⟩ := h
  exact ⟨s, bx (o.ch c (fun k hk hn => hn (by rw [s]; exact .inr hk))), bx (b.ch c (fun hn => hn (by rw [s]; exact .inl rfl))), n, hB⟩
theorem Live.st {g : Nat} (h : Live (fSt T E B g l) x S w) : ∃ v, S = Fpt g v ∧ Bx (One T E w B ⟨g, v, l⟩) := by
  obtain ⟨w1, ⟨v, s, r⟩, z, c⟩ := h
  exact ⟨v, s, bx (r.ch c (fun k hk hn => hn (by rw [s]; exact hk)))⟩
/-- The struct's row is loaded. -/
theorem fin_lod {g : Nat} {v : Value} (hQ : ∀ x T' w' a, a = A x → Fj x T' w' → (∀ k, T' k → k < w'.heap.size) → Ch w w' C → (∀ k, T' k → C k ∨ w.heap.size ≤ k) → Q .normal a w') (ha : a = A v) (h0 : One T E w B ⟨g, v, l⟩) (hC : ∀ k, Fpt g v k → C k) (hF : fMid T E B g v l v (Fpt g v) w → Fj v (Fpt g v) w) : Q .normal a w :=
  hQ v (Fpt g v) w a ha (hF ⟨rfl, h0.r.2, h0.r.1, h0.ne, h0.lo⟩) (fun _ h => h0.lt h) (Ch.refl w) (fun k h => .inl (hC k h))
theorem fin_app {g : Nat} {vb v v' : Value} {l' : List UInt8} (hQ : ∀ x T' w' a, a = A x → Fj x T' w' → (∀ k, T' k → k < w'.heap.size) → Ch w w' C → (∀ k, T' k → C k ∨ w.heap.size ≤ k) → Q .normal a w') (ha : a = A v') (hb : Bk w g T #[vb]) (hn : v.ownBlock ≠ some g) (hB : B ≤ g)
    (hC : ∀ k, Fpt g v k → C k) (ho : OwB w' B E v' l') (hg : w.grownBy w' v.ownBlock ∨ Ch w w' (Fow v)) (hv : OwnN w v v') (hF : fMid T E B g vb l' v' (Fpt g v') w' → Fj v' (Fpt g v') w') : Q .normal a w' := by
  have hc : Ch w w' (Fow v) := by
    rcases hg with h | h
    · exact Ch.of_grown h (fun _ h => h)
    · exact h
  have hgl := hb.lt
  have hz := hc.size
  have hne : v'.ownBlock ≠ some g := by
    rcases hv with e | ⟨b, e, hb2⟩
    · rw [e]; exact hn
    · rw [e]; intro e2; injection e2; omega
  refine hQ v' (Fpt g v') w' a ha (hF ⟨rfl, ho, hb.ch hc (fun he => hn he), hne, hB⟩) (fun k h => ?_) (hc.mono fun q _ h => hC q (.inr h)) (fun k h => ?_)
  · rcases h with e | e
    · omega
    · exact (World.ownsRow.lt ho k e).2
  · rcases h with e | e
    · exact .inl (hC k (.inl e))
    · have e : v'.ownBlock = some k := e
      rcases hv with h1 | ⟨b, h1, hb2⟩
      · exact .inl (hC k (.inr (h1.symm.trans e)))
      · rw [h1] at e; injection e with e; exact .inr (by omega)
theorem fin_sto {g : Nat} {vb v : Value} {u : Value} (hQ : ∀ x T' w' a, a = A x → Fj x T' w' → (∀ k, T' k → k < w'.heap.size) → Ch w w' C → (∀ k, T' k → C k ∨ w.heap.size ≤ k) → Q .normal a w') (ha : a = A u) (ho : OwB w B E v l) (hb : Bk w g T #[vb]) (hn : v.ownBlock ≠ some g) (hB : B ≤ g)
    (hC : ∀ k, Fpt g v k → C k) (hF : fSt T E B g l u (Fpt g v) (w.setCell ⟨g, 0, none⟩ v) → Fj u (Fpt g v) (w.setCell ⟨g, 0, none⟩ v)) : Q .normal a (w.setCell ⟨g, 0, none⟩ v) := by
  have o : One T E (w.setCell ⟨g, 0, none⟩ v) B ⟨g, v, l⟩ := ⟨⟨by simpa using hb.set 0 v, OwL.own_same ho fun k hk => Below.heap_setCell w ⟨g, 0, none⟩ v k (fun e => hn (by rw [hk]; exact congrArg some e))⟩, hB, hn⟩
  exact hQ u (Fpt g v) _ a ha (hF ⟨v, rfl, o⟩) (fun k h => o.lt h) ((Ch.refl w).setCell (fun _ => hC g (.inl rfl)) v) (fun k h => .inl (hC k h))
end
end Go.Proofs.Ytdioijhmmmnbgaa
