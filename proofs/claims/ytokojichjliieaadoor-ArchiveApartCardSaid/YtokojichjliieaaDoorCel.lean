/- Rows of elements of several cells each: read, owned, appended, a field stored. Nothing here speaks of the program. -/
import Derived.Test.YtokojichjliieaaDoorBase
import Derived.Deep.RegionLaw
import Derived.StillTailTactics
namespace Go.Proofs.YtokojichjliieaaDoor
open Go.RowKit

/-- An element's cells: just sz of them. -/
structure Cels {α : Type} (fC : α → List Value) (sz : Nat) : Prop where
  len : ∀ x, (fC x).length = sz
  one : ∀ x, ∀ u ∈ fC x, u.oneCell' = true
  pos : 0 < sz
def RS {α : Type} (fC : α → List Value) (w : World) (B : Nat) (A : Option Addr) (l : List α) : Prop := Rd w B A (l.flatMap fC)
def OwS {α : Type} (fC : α → List Value) (sz : Nat) (w : World) (base : Nat) (e : TypeId) (v : Value) (l : List α) : Prop := w.ownsRow base e sz v l.length (l.flatMap fC)
section
variable {α : Type} {fC : α → List Value} {sz : Nat} {w w' : World} {B B' : Nat} {A : Option Addr} {l : List α} {base : Nat} {e : TypeId} {v : Value}
theorem Cels.all (h : Cels fC sz) (l : List α) : (l.flatMap fC).length = l.length * sz := by
  induction l with
  | nil => simp
  | cons a r ih => rw [List.flatMap_cons, List.length_append, ih, h.len, List.length_cons, Nat.add_mul, Nat.one_mul, Nat.add_comm]
theorem Cels.ones (h : Cels fC sz) (l : List α) : ∀ u ∈ l.flatMap fC, u.oneCell' = true := by
  intro u hu
  obtain ⟨x, _, hx⟩ := List.mem_flatMap.1 hu
  exact h.one x u hx
theorem Cels.get (h : Cels fC sz) {l : List α} {k j : Nat} {x : α} {u : Value} (hx : l[k]? = some x) (hu : (fC x)[j]? = some u) : (l.flatMap fC)[k * sz + j]? = some u := by
  induction l generalizing k with
  | nil => simp at hx
  | cons a r ih =>
    have hj : j < sz := by rw [← h.len x]; exact (List.getElem?_eq_some_iff.1 hu).1
    rw [List.flatMap_cons]
    cases k with
    | zero =>
      simp at hx
      subst hx
      rw [Nat.zero_mul, Nat.zero_add, List.getElem?_append_left (by rw [h.len]; exact hj)]; exact hu
    | succ k =>
      rw [List.getElem?_append_right (by rw [h.len, Nat.add_mul, Nat.one_mul]; omega), h.len, show (k + 1) * sz + j - sz = k * sz + j by rw [Nat.add_mul, Nat.one_mul]; omega]
      exact ih (by simpa using hx)
theorem Cels.set (h : Cels fC sz) {l : List α} {k j : Nat} {x x' : α} {u : Value} (hx : l[k]? = some x) (hj : j < sz) (hu : fC x' = (fC x).set j u) : (l.flatMap fC).set (k * sz + j) u = (l.set k x').flatMap fC := by
  induction l generalizing k with
  | nil => simp at hx
  | cons a r ih =>
    rw [List.flatMap_cons]
    cases k with
    | zero =>
      simp at hx
      subst hx
      rw [Nat.zero_mul, Nat.zero_add, List.set_append_left _ _ (by rw [h.len]; exact hj), List.set_cons_zero, List.flatMap_cons, hu]
    | succ k =>
      rw [List.set_append_right _ _ (by rw [h.len, Nat.add_mul, Nat.one_mul]; omega), h.len, show (k + 1) * sz + j - sz = k * sz + j by rw [Nat.add_mul, Nat.one_mul]; omega, List.set_cons_succ, List.flatMap_cons]
      rw [ih (by simpa using hx)]
theorem RS.nil : RS fC w B A [] := Rd.nil
theorem RS.below (h : RS fC w B A l) (hb : Below B' w w') (hB : B ≤ B') : RS fC w' B A l := Rd.below h hb hB
theorem RS.more (h : RS fC w B A l) (hB : B ≤ B') : RS fC w B' A l := Rd.more h hB
theorem RS.top (h : RS fC w B A l) : RS fC w w.heap.size A l := Rd.top h
theorem RS.step (h : RS fC w B A l) (hb : Below w.heap.size w w') : RS fC w' w'.heap.size A l := Rd.step h hb
theorem RS.drewN (h : RS fC w B A l) (k : Nat) : RS fC (w.drewN k) B A l := h
theorem RS.drew (h : RS fC w B A l) : RS fC w.drew B A l := h
theorem RS.alloc (h : RS fC w B A l) (hB : B ≤ w.heap.size) (o : Obj) : RS fC (w.alloc o) B A l := Rd.alloc h hB o
theorem RS.setCell (h : RS fC w B A l) {p : Addr} (hB : B ≤ p.block) (u : Value) : RS fC (w.setCell p u) B A l := Rd.setCell h hB u
/-- Element k: its first cell where the walk looks for it, its others behind it. -/
theorem RS.at_ (h : RS fC w B A l) (hC : Cels fC sz) {k : Nat} (hk : k < l.length) :
    ∃ ad x, A = some ad ∧ ad.block < B ∧ Hid (l[k]? = some x) ∧ (∀ u, (fC x)[0]? = some u → w.cell? (ad.add (k * sz)) = some u) ∧
      ∀ j u, (fC x)[j + 1]? = some u → w.cell? ⟨(ad.add (k * sz)).block, (ad.add (k * sz)).off + (j + 1), none⟩ = some u := by
  have hx : l[k]? = some l[k] := List.getElem?_eq_getElem hk
  have hne : l.flatMap fC ≠ [] := fun e => by
    have := hC.all l
    rw [e] at this
    have := Nat.mul_pos (show 0 < l.length by omega) hC.pos
    simp at *
    omega
  obtain ⟨ad, e, hb, hc⟩ := h hne
  refine ⟨ad, l[k], e, hb, hx, fun u hu => ?_, fun j u hu => ?_⟩
  · exact hc _ _ (hC.get hx hu)
  · rw [← add_pos _ j, addadd]; exact hc _ _ (hC.get hx hu)
theorem OwS.nil : OwS fC sz w base e (.slice none 0 0) [] := World.ownsRow_nil _ _ _ _
theorem OwS.alloc (h : OwS fC sz w base e v l) (o : Obj) : OwS fC sz (w.alloc o) base e v l := World.ownsRow.alloc h o
theorem OwS.drew (h : OwS fC sz w base e v l) : OwS fC sz w.drew base e v l := h
theorem OwS.drewN (h : OwS fC sz w base e v l) (k : Nat) : OwS fC sz (w.drewN k) base e v l := h
theorem OwS.kept (h : OwS fC sz w base e v l) {row : Option Nat} (hg : w.grownBy w' row) (hr : v.ownBlock = none ∨ v.ownBlock ≠ row) : OwS fC sz w' base e v l := World.ownsRow.kept h hg hr
theorem OwS.set_other (h : OwS fC sz w base e v l) {p : Addr} (hr : v.ownBlock ≠ some p.block) (u : Value) : OwS fC sz (w.setCell p u) base e v l :=
  OwS.kept h (row := some p.block) ⟨rfl, rfl, rfl, by simp [World.setCell], fun k _ hk => Below.heap_setCell w p u k (fun e => hk (by rw [e]))⟩ (.inr hr)
theorem OwS.step (h : OwS fC sz w base e v l) (hb : Below w.heap.size w w') : OwS fC sz w' base e v l :=
  OwS.kept h (gb_below hb none) (by cases hv : v.ownBlock with
    | none => exact .inl rfl
    | some g => exact .inr (by simp))
theorem OwS.rd (h : OwS fC sz w base e v l) : ∃ A c, v = .slice A l.length c ∧ RS fC w w.heap.size A l ∧ l.length ≤ c := by
  rcases h.2 with ⟨rfl, h0⟩ | ⟨g, cap, cur, rfl, hb, hh, hc, hm, r⟩
  · have : l = [] := List.eq_nil_of_length_eq_zero h0
    subst this
    exact ⟨none, 0, rfl, Rd.nil, Nat.le_refl _⟩
  · exact ⟨_, cap, rfl, Rd.own h, hc⟩
/-- Where there is an element the row has a block. -/
theorem OwS.blk (h : OwS fC sz w base e v l) {g : Nat} (hg : v.ownBlock = some g) : base ≤ g ∧ g < w.heap.size := World.ownsRow.lt h g hg
theorem OwS.form (h : OwS fC sz w base e v l) (hl : 0 < l.length) : ∃ g c, v = .slice (some ⟨g, 0, none⟩) l.length c ∧ base ≤ g ∧ g < w.heap.size := World.ownsRow.form h hl
theorem OwS.cell {g n c : Nat} (h : OwS fC sz w base e (.slice (some ⟨g, 0, none⟩) n c) l) (hC : Cels fC sz) {k j : Nat} {x : α} {u : Value} (hx : l[k]? = some x) (hu : (fC x)[j]? = some u) : w.cell? ⟨g, k * sz + j, none⟩ = some u := by
  have := World.ownsRow.cells h (g := g) rfl _ u (hC.get hx hu)
  rwa [Addr.add_lit, Nat.zero_add] at this
theorem OwS.len {A : Option Addr} {n c : Nat} (h : OwS fC sz w base e (.slice A n c) l) : n = l.length := by
  rcases h.2 with ⟨h', h0⟩ | ⟨g', cap', cur, h', r⟩
  · simp only [Value.slice.injEq] at h'; omega
  · simp only [Value.slice.injEq] at h'; exact h'.2.1
theorem OwS.frz {g n c : Nat} (h : OwS fC sz w base e (.slice (some ⟨g, 0, none⟩) n c) l) (j : Nat) : w.frozen? ⟨g, j, none⟩ = false := by
  have hn := h.len
  subst hn
  exact World.ownsRow.frozenAt h j
theorem OwS.set {g n c : Nat} (h : OwS fC sz w base e (.slice (some ⟨g, 0, none⟩) n c) l) (hC : Cels fC sz) {k j : Nat} {x x' : α} {u : Value} (hx : l[k]? = some x) (hj : j < sz) (hu : fC x' = (fC x).set j u) :
    OwS fC sz (w.setCell ⟨g, k * sz + j, none⟩ u) base e (.slice (some ⟨g, 0, none⟩) n c) (l.set k x') := by
  have hn := h.len
  subst hn
  have := (World.ownsRow.stored h (k * sz + j) u).1
  unfold OwS
  rw [List.length_set, ← hC.set hx hj hu]
  exact this
end
theorem le_alloc0 {B : Nat} {w : World} (h : B ≤ w.heap.size) (o : Obj) : B ≤ (w.alloc o).heap.size := by
  show B ≤ (w.heap.push o).size
  rw [Array.size_push]; omega
theorem le_alloc {B : Nat} {w : World} (h : B ≤ w.heap.size) (o : Obj) : B ≤ (w.alloc o).drew.heap.size := by
  show B ≤ (w.heap.push o).size
  rw [Array.size_push]; omega
section
variable {P : Program} (w : World)
/-- append(v, x...) at a plain region's list of operations. -/
theorem wpList_appS {α : Type} {fC : α → List Value} {sz : Nat} (hC : Cels fC sz) {ops : Array Oper} {rest : List Oper} {o : Oper} {a : Act} {Q : Exit → Act → World → Prop} (hgd : o.guard = none) (s x : Operand) {t e : TypeId} {z : Value} {bytes : Nat}
    (ho : o.op = .call { callee := .builtin .append, args := #[s, x], argTypes := #[t, t] }) (hE : ETy P t e z sz bytes) (hby : 0 < bytes)
    (base : Nat) (v : Value) (l : List α) (hs : a.eval s = v) (hown : OwS fC sz w base e v l)
    (B : Nat) (A : Option Addr) (m c : Nat) (news : List α) (hx : a.eval x = .slice A m c) (hl : news.length = m) (hr : RS fC w B A news)
    (hn : (l.length + news.length) * bytes ≤ 140737488355328) (hbase : base ≤ w.heap.size)
    (h : ∀ v' w', OwS fC sz w' base e v' (l ++ news) → w.grownBy w' v.ownBlock → (v'.ownBlock = v.ownBlock ∨ v'.ownBlock = some w.heap.size) → Below base w w' → wpList P ops Q rest (a.put o.dst v') w') : wpList P ops Q (o :: rest) a w := by
  obtain ⟨i, hi, hz, hsz, hb⟩ := hE.info
  subst hl
  have hm : (l.length + news.length) * 1 ≤ (l.length + news.length) * bytes := Nat.mul_le_mul (Nat.le_refl _) hby
  refine wpList_app w hgd s x t ho base e hE.sl hi hz hsz hb hE.cells hE.pos v l.length (l.flatMap fC) hs hown B A news.length c (news.flatMap fC) hx (hC.all news) hr (hC.ones _) (by unfold maxLen; omega) hn hbase ?_
  intro v' w' h1 h2 h3 h4
  exact h v' w' (by unfold OwS; rw [List.length_append, List.flatMap_append]; exact h1) h2 h3 h4
/-- The same at a step of a region that draws its order. -/
theorem step_appS {α : Type} {fC : α → List Value} {sz : Nat} (hC : Cels fC sz) {ops : Array Oper} {o : Oper} {a : Act} {K : Act → World → Prop} {Q : Exit → Act → World → Prop} {E : Prop} (hgd : o.guard = none) (s x : Operand) {t e : TypeId} {z : Value} {bytes : Nat}
    (ho : o.op = .call { callee := .builtin .append, args := #[s, x], argTypes := #[t, t] }) (hE : ETy P t e z sz bytes) (hby : 0 < bytes)
    (base : Nat) (v : Value) (l : List α) (hs : a.eval s = v) (hown : OwS fC sz w base e v l)
    (B : Nat) (A : Option Addr) (m c : Nat) (news : List α) (hx : a.eval x = .slice A m c) (hl : news.length = m) (hr : RS fC w B A news)
    (hn : (l.length + news.length) * bytes ≤ 140737488355328) (hbase : base ≤ w.heap.size)
    (h : ∀ v' w', OwS fC sz w' base e v' (l ++ news) → w.grownBy w' v.ownBlock → (v'.ownBlock = v.ownBlock ∨ v'.ownBlock = some w.heap.size) → Below base w w' → K (a.put o.dst v') w') :
    if Region.wanted o (yielded ops a.tmps) = true then Oper.wp P o a w K Q else E := by
  have hw : Region.wanted o (yielded ops a.tmps) = true := by simp [Region.wanted, hgd]
  rw [if_pos hw]
  obtain ⟨i, hi, hz, hsz, hb⟩ := hE.info
  subst hl
  have hm : (l.length + news.length) * 1 ≤ (l.length + news.length) * bytes := Nat.mul_le_mul (Nat.le_refl _) hby
  obtain ⟨v', w', hrun, h2, h3, h4⟩ := run_append_rd (P := P) w base t o.type e i z sz bytes hE.sl hi hz hsz hb hE.cells hE.pos v l.length (l.flatMap fC) hown B A news.length c (news.flatMap fC) (hC.all news) hr (hC.ones _) (by unfold maxLen; omega) hn hbase
  unfold Oper.wp execOp
  simp only [ho, resolve, invoke, builtin, Sem.run_bind, Sem.run_pure, Result.andThen_ok, List.map_toArray, List.map_cons, List.map_nil, hs, hx, hrun]
  exact h v' w' (by unfold OwS; rw [List.length_append, List.flatMap_append]; exact h2) h3 h4 ((Below.refl _ _).grown h3 hbase fun k hk => (World.ownsRow.lt hown k hk).1)
/-- One new element's cells, laid ahead by append(v, x). -/
theorem RS.new {α : Type} {fC : α → List Value} (w : World) (x : α) (cs : Array Value) (h : cs.toList = fC x) (e : TypeId) (fr : Nat × Nat) : RS fC (w.alloc (.cells cs e fr)) (w.heap.size + 1) (some ⟨w.heap.size, 0, none⟩) [x] := fun _ =>
  ⟨_, rfl, Nat.lt_succ_self _, fun i u hu => by
    have e : (⟨w.heap.size, 0, none⟩ : Addr).add i = ⟨w.heap.size, i, none⟩ := by unfold Addr.add; split <;> simp_all
    rw [e, World.cell?_alloc_mark, ← Array.getElem?_toList, h]
    simpa using hu⟩
theorem RS.newAt {α : Type} {fC : α → List Value} {g : Nat} (w : World) (x : α) (cs : Array Value) (h : cs.toList = fC x) (e : TypeId) (fr : Nat × Nat) (hg : w.heap.size = g) : RS fC (w.alloc (.cells cs e fr)) (g + 1) (some ⟨g, 0, none⟩) [x] := by subst hg; exact RS.new w x cs h e fr
end
end Go.Proofs.YtokojichjliieaaDoor
