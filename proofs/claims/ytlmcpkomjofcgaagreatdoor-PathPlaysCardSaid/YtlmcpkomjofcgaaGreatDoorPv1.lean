/- Words for memory that all walks of this claim share: a slice that reads as cells, as bytes, as numbers; append onto a row of the call's own from any source. Nothing here speaks of the program. Plain facts on numbers as bytes: nothing of the program. -/
import Derived.WalkKit
import Derived.WalkSpells
import Derived.WalkLawsBesides
import Derived.Lib.Hide
import Derived.Deep.QuietTactic
import Derived.BigQuiet
import Derived.Deep.AppendLies
import Derived.Laws.OwnMore
import Derived.Laws.Rows
import Derived.Deep.LoopGhost
import Derived.Laws.BitsAllLaws
namespace Go.Proofs.YtlmcpkomjofcgaaGreatDoor
open Go.RowKit

theorem blk_add (a : Addr) (n : Nat) : (a.add n).block = a.block := by unfold Addr.add; split <;> rfl
theorem addadd (a : Addr) (i j : Nat) : (a.add i).add j = a.add (i + j) := by
  unfold Addr.add
  by_cases hi : i = 0 <;> by_cases hj : j = 0 <;> simp [hi, hj, Nat.add_assoc]

theorem add_pos (a : Addr) (n : Nat) : a.add (n + 1) = ⟨a.block, a.off + (n + 1), none⟩ := by unfold Addr.add; simp

/-- The cells xs stand from the address A on, all in a block below B. Nothing is asked of A where xs is empty. -/
def Rd (w : World) (B : Nat) (A : Option Addr) (xs : List Value) : Prop :=
  xs ≠ [] → ∃ ad, A = some ad ∧ ad.block < B ∧ ∀ i u, xs[i]? = some u → w.cell? (ad.add i) = some u

theorem Rd.nil {w : World} {B : Nat} {A : Option Addr} : Rd w B A [] := fun h => absurd rfl h
theorem Rd.keep {w w' : World} {B : Nat} {A : Option Addr} {xs : List Value} (h : Rd w B A xs) (hk : ∀ p : Addr, p.block < B → w'.cell? p = w.cell? p) : Rd w' B A xs := fun hn => by
  obtain ⟨ad, e, hb, hc⟩ := h hn
  exact ⟨ad, e, hb, fun i u hu => (hk _ (by rw [blk_add]; exact hb)).trans (hc i u hu)⟩
theorem Rd.more {w : World} {B B' : Nat} {A : Option Addr} {xs : List Value} (h : Rd w B A xs) (hB : B ≤ B') : Rd w B' A xs := fun hn => by
  obtain ⟨ad, e, hb, hc⟩ := h hn
  exact ⟨ad, e, by omega, hc⟩
theorem Rd.below {w w' : World} {B B' : Nat} {A : Option Addr} {xs : List Value} (h : Rd w B A xs) (hb : Below B' w w') (hB : B ≤ B') : Rd w' B A xs :=
  h.keep fun _ hp => hb.cell (by omega)
/-- The bound by what there is. -/
theorem Rd.top {w : World} {B : Nat} {A : Option Addr} {xs : List Value} (h : Rd w B A xs) : Rd w w.heap.size A xs := fun hn => by
  obtain ⟨ad, e, _, hc⟩ := h hn
  refine ⟨ad, e, ?_, hc⟩
  match xs, hn with
  | u :: _, _ => have := World.block_lt_of_cell? _ _ (hc 0 u rfl); rwa [blk_add] at this
theorem Rd.step {w w' : World} {B : Nat} {A : Option Addr} {xs : List Value} (h : Rd w B A xs) (hb : Below w.heap.size w w') : Rd w' w'.heap.size A xs :=
  ((h.top).below hb (Nat.le_refl _)).top
theorem Rd.alloc {w : World} {B : Nat} {A : Option Addr} {xs : List Value} (h : Rd w B A xs) (hB : B ≤ w.heap.size) (o : Obj) : Rd (w.alloc o) B A xs :=
  h.keep fun p hp => World.cell?_alloc_lt w o p (by omega)
theorem Rd.setCell {w : World} {B : Nat} {A : Option Addr} {xs : List Value} (h : Rd w B A xs) {p : Addr} (hB : B ≤ p.block) (u : Value) : Rd (w.setCell p u) B A xs :=
  h.keep fun q hq => World.cell?_setCell_other w p q u (fun e => by subst e; omega)
theorem Rd.drop {w : World} {B : Nat} {A : Option Addr} {xs : List Value} (h : Rd w B A xs) (k : Nat) : Rd w B (A.map (·.add k)) (xs.drop k) := fun hn => by
  obtain ⟨ad, rfl, hb, hc⟩ := h (fun e => hn (by simp [e]))
  refine ⟨ad.add k, rfl, by rw [blk_add]; exact hb, fun i u hu => ?_⟩
  rw [addadd]
  exact hc _ u (by rw [← hu, List.getElem?_drop])
theorem Rd.take {w : World} {B : Nat} {A : Option Addr} {xs : List Value} (h : Rd w B A xs) (k : Nat) : Rd w B A (xs.take k) := fun hn => by
  obtain ⟨ad, e, hb, hc⟩ := h (fun e => hn (by simp [e]))
  refine ⟨ad, e, hb, fun i u hu => hc i u ?_⟩
  rw [List.getElem?_take] at hu
  split at hu
  · exact hu
  · cases hu
/-- What the model writes for the address of s[k:..]: at the capacity's end the old address stays. -/
theorem Rd.cut {w : World} {B : Nat} {A : Option Addr} {xs : List Value} (h : Rd w B A xs) {k cap : Nat} (hc : xs.length ≤ cap) : Rd w B (if cap = k then A else A.map (·.add k)) (xs.drop k) := by
  by_cases e : cap = k
  · have : xs.drop k = [] := List.drop_eq_nil_of_le (by omega)
    rw [this]; exact Rd.nil
  · rw [if_neg e]; exact h.drop k
theorem Rd.at_ {w : World} {B : Nat} {A : Option Addr} {xs : List Value} (h : Rd w B A xs) {k : Nat} (hk : k < xs.length) : ∃ ad u, A = some ad ∧ ad.block < B ∧ xs[k]? = some u ∧ w.cell? (ad.add k) = some u := by
  obtain ⟨ad, e, hb, hc⟩ := h (fun e => by simp [e] at hk)
  exact ⟨ad, xs[k], e, hb, List.getElem?_eq_getElem hk, hc k _ (List.getElem?_eq_getElem hk)⟩
theorem Rd.own {w : World} {base : Nat} {e : TypeId} {size : Nat} {A : Option Addr} {n c : Nat} {xs : List Value} (h : w.ownsRow base e size (.slice A n c) n xs) : Rd w w.heap.size A xs := fun hn => by
  have h0 : 0 < n := by
    rcases Nat.eq_zero_or_pos n with h0 | h0
    · exact absurd (List.eq_nil_of_length_eq_zero (by rw [h.1, h0]; simp)) hn
    · exact h0
  obtain ⟨g, cap, hv, _, hlt⟩ := h.form h0
  have hA : A = some ⟨g, 0, none⟩ := by injection hv
  subst hA
  exact ⟨_, rfl, hlt, h.cells (g := g) rfl⟩

/-- A byte's cell, a number's cell. -/
def bV (x : UInt8) : Value := .int .u8 (x.toNat : Int)
def iV (x : Int) : Value := .int .i64 x
/-- The elements l stand from A on, one cell each. -/
def RL {α : Type} (f : α → Value) (w : World) (B : Nat) (A : Option Addr) (l : List α) : Prop := Rd w B A (l.map f)
/-- A slice of the call's own that holds the elements l. -/
def OwL {α : Type} (f : α → Value) (w : World) (base : Nat) (e : TypeId) (v : Value) (l : List α) : Prop := w.ownsRow base e 1 v l.length (l.map f)
abbrev RB := RL bV
abbrev RI := RL iV
abbrev OwB := OwL bV
abbrev OwI := OwL iV

section
variable {α : Type} {f : α → Value} {w w' : World} {B B' : Nat} {A : Option Addr} {l : List α} {base : Nat} {e : TypeId} {v : Value}
theorem RL.nil : RL f w B A [] := Rd.nil
theorem RL.atl (h : RL f w B A l) {k : Nat} (hk : k < l.length) : ∃ ad x, A = some ad ∧ ad.block < B ∧ Hid (l[k]? = some x) ∧ w.cell? (ad.add k) = some (f x) := by
  obtain ⟨ad, u, e, hb, hu, hc⟩ := Rd.at_ h (k := k) (by simpa using hk)
  refine ⟨ad, l[k], e, hb, List.getElem?_eq_getElem hk, ?_⟩
  rw [hc, ← hu]; simp [hk]
theorem RL.byte {l : List UInt8} (h : RB w B A l) {k : Nat} (hk : k < l.length) :
    ∃ ad x, A = some ad ∧ ad.block < B ∧ Hid (l[k]? = some x) ∧ w.cell? (ad.add k) = some (.int .u8 (x.toNat : Int)) := RL.atl h hk
theorem RL.num {l : List Int} (h : RI w B A l) {k : Nat} (hk : k < l.length) :
    ∃ ad x, A = some ad ∧ ad.block < B ∧ Hid (l[k]? = some x) ∧ w.cell? (ad.add k) = some (.int .i64 x) := RL.atl h hk
theorem RL.drop (h : RL f w B A l) (k : Nat) : RL f w B (A.map (·.add k)) (l.drop k) := by
  unfold RL; rw [List.map_drop]; exact Rd.drop h k
theorem RL.take (h : RL f w B A l) (k : Nat) : RL f w B A (l.take k) := by
  unfold RL; rw [List.map_take]; exact Rd.take h k
theorem RL.cut (h : RL f w B A l) {k cap : Nat} (hc : l.length ≤ cap) : RL f w B (if cap = k then A else A.map (·.add k)) (l.drop k) := by
  unfold RL; rw [List.map_drop]; exact Rd.cut h (by simpa using hc)
theorem RL.below (h : RL f w B A l) (hb : Below B' w w') (hB : B ≤ B') : RL f w' B A l := Rd.below h hb hB
theorem RL.more (h : RL f w B A l) (hB : B ≤ B') : RL f w B' A l := Rd.more h hB
theorem RL.top (h : RL f w B A l) : RL f w w.heap.size A l := Rd.top h
theorem RL.step (h : RL f w B A l) (hb : Below w.heap.size w w') : RL f w' w'.heap.size A l := Rd.step h hb
theorem RL.drew (h : RL f w B A l) : RL f w.drew B A l := h
theorem OwL.drew (h : OwL f w base e v l) : OwL f w.drew base e v l := h
theorem OwL.drewN (h : OwL f w base e v l) (k : Nat) : OwL f (w.drewN k) base e v l := h
theorem RL.drewN (h : RL f w B A l) (k : Nat) : RL f (w.drewN k) B A l := h
theorem RL.alloc (h : RL f w B A l) (hB : B ≤ w.heap.size) (o : Obj) : RL f (w.alloc o) B A l := Rd.alloc h hB o
theorem RL.setCell (h : RL f w B A l) {p : Addr} (hB : B ≤ p.block) (u : Value) : RL f (w.setCell p u) B A l := Rd.setCell h hB u
theorem RL.fresh (w : World) (x : α) (e : TypeId) : RL f (w.alloc (.cells #[f x] e)) (w.heap.size + 1) (some ⟨w.heap.size, 0, none⟩) [x] :=
  fun _ => ⟨_, rfl, Nat.lt_succ_self _, cell_one_new _ _ _⟩
theorem RL.freshe (w : World) (x : α) {u : Value} (h : u = f x) (e : TypeId) : RL f (w.alloc (.cells #[u] e)) (w.heap.size + 1) (some ⟨w.heap.size, 0, none⟩) [x] := by
  subst h; exact RL.fresh w x e
theorem OwL.nil : OwL f w base e (.slice none 0 0) [] := World.ownsRow_nil _ _ _ _
theorem OwL.lit0 (w : World) (hB : base ≤ w.heap.size) : OwL f (w.alloc (.cells #[] e)) base e (.slice (some ⟨w.heap.size, 0, none⟩) 0 0) [] :=
  World.ownsRow_made w #[] 0 hB (by unfold maxLen; omega) (by simp)
theorem OwL.alloc (h : OwL f w base e v l) (o : Obj) : OwL f (w.alloc o) base e v l := World.ownsRow.alloc h o
theorem OwL.rd (h : OwL f w base e v l) : ∃ A c, v = .slice A l.length c ∧ RL f w w.heap.size A l ∧ l.length ≤ c ∧ (c : Int) ≤ 9223372036854775807 := by
  rcases h.2 with ⟨rfl, h0⟩ | ⟨g, cap, cur, rfl, hb, hh, hc, hm, r⟩
  · have : l = [] := List.eq_nil_of_length_eq_zero h0
    subst this
    exact ⟨none, 0, rfl, Rd.nil, Nat.le_refl _, by omega⟩
  · exact ⟨_, cap, rfl, Rd.own (size := 1) (h : w.ownsRow base e 1 _ l.length (l.map f)), hc, by unfold maxLen at hm; omega⟩
theorem OwL.rl {n c : Nat} (h : OwL f w base e (.slice A n c) l) : RL f w w.heap.size A l := by
  obtain ⟨A', c', hv, hr, _⟩ := h.rd
  injection hv with h1 _ _
  subst h1
  exact hr
theorem OwL.below (h : OwL f w base e v l) (hb : Below w.heap.size w w') : OwL f w' base e v l :=
  World.ownsRow.kept (row := none) h ⟨hb.os, hb.tape, hb.output, hb.size, fun k hk _ => hb.block k hk⟩ (by cases hv : v.ownBlock <;> simp)
/-- What a row of the call's own says hangs on the blocks from its base on alone. -/
theorem OwL.agree (h : OwL f w base e v l) (ha : ∀ k, base ≤ k → k < w.heap.size → w'.heap[k]? = w.heap[k]?) : OwL f w' base e v l := by
  refine ⟨h.1, ?_⟩
  rcases h.2 with hn | ⟨g, cap, cur, rfl, hb, hgg, rest⟩
  · exact .inl hn
  · exact .inr ⟨g, cap, cur, rfl, hb, (ha g hb (Array.getElem?_eq_some_iff.1 hgg).1).trans hgg, rest⟩
theorem OwL.kept {row : Option Nat} (h : OwL f w base e v l) (hg : w.grownBy w' row) (hne : v.ownBlock = none ∨ v.ownBlock ≠ row) : OwL f w' base e v l := World.ownsRow.kept h hg hne
theorem OwL.low {base' : Nat} (h : OwL f w base e v l) (hB : base' ≤ base) : OwL f w base' e v l := by
  refine ⟨h.1, ?_⟩
  rcases h.2 with h0 | ⟨g, cap, cur, hv, hb, r⟩
  · exact .inl h0
  · exact .inr ⟨g, cap, cur, hv, Nat.le_trans hB hb, r⟩
theorem map_cells (hf : ∀ x, (f x).oneCell' = true) (l : List α) : ∀ u ∈ l.map f, u.oneCell' = true := by
  intro u hu
  obtain ⟨x, _, rfl⟩ := List.mem_map.1 hu
  exact hf x
end

/-- The row of the table for slice type t with elements of type e: zero value, cells, bytes. -/
structure ETy (P : Program) (t e : TypeId) (z : Value) (size bytes : Nat) : Prop where
  sl : P.underlying t = some (.slice e)
  info : ∃ i, P.info? e = some i ∧ i.zero = some z ∧ i.size = size ∧ i.bytes = bytes
  cells : z.cells.size = size
  pos : 0 < size

section
variable {P : Program} (w : World)
theorem run_append_nothing (base : Nat) (t ty e : TypeId) (i : TypeInfo) (size : Nat) (ht : P.underlying t = some (.slice e)) (hi : P.info? e = some i)
    (v : Value) (n : Nat) (xs : List Value) (hown : w.ownsRow base e size v n xs) (c : Nat) : (Builtin.append_ #[t, t] ty #[v, .slice none 0 c]).run P w = .ok v w := by
  rcases hown.2 with ⟨rfl, rfl⟩ | ⟨g, cap, cur, rfl, _, _, hnc, _⟩
  · simp [Builtin.append_, run_underlying ht, sizeOf, typeInfo, hi, Builtin.lenOf, Builtin.firstCells]
  · simp [Builtin.append_, run_underlying ht, sizeOf, typeInfo, hi, Builtin.lenOf, Builtin.firstCells, hnc, storeCells]

/-- append(v, s...) onto a row of the call's own, whatever s is (nil, empty or not). -/
theorem run_append_rd (base : Nat) (t ty e : TypeId) (i : TypeInfo) (z : Value) (size bytes : Nat) (ht : P.underlying t = some (.slice e)) (hi : P.info? e = some i) (hz : i.zero = some z)
    (hsize : i.size = size) (hby : i.bytes = bytes) (hzs : z.cells.size = size) (hsz : 0 < size)
    (v : Value) (n : Nat) (xs : List Value) (hown : w.ownsRow base e size v n xs)
    (B : Nat) (A : Option Addr) (m c : Nat) (news : List Value) (hl : news.length = m * size) (hr : Rd w B A news) (h1 : ∀ u ∈ news, u.oneCell' = true)
    (h63 : n + m ≤ maxLen) (hbytes : (n + m) * bytes ≤ 140737488355328) (hbase : base ≤ w.heap.size) :
    ∃ v' w', (Builtin.append_ #[t, t] ty #[v, .slice A m c]).run P w = .ok v' w' ∧ w'.ownsRow base e size v' (n + m) (xs ++ news) ∧ w.grownBy w' v.ownBlock ∧
      (v'.ownBlock = v.ownBlock ∨ v'.ownBlock = some w.heap.size) := by
  rcases A with _ | ad
  · have hn : news = [] := by
      rcases Decidable.em (news = []) with h0 | h0
      · exact h0
      · obtain ⟨ad, h, _⟩ := hr h0; cases h
    subst hn
    have hm : m = 0 := by
      rcases Nat.eq_zero_or_pos m with h0 | h0
      · exact h0
      · have := Nat.mul_pos h0 hsz; simp at hl; omega
    subst hm
    exact ⟨v, w, run_append_nothing w base t ty e i size ht hi v n xs hown c, by simpa using hown, World.grownBy.refl w _, .inl rfl⟩
  · have hcells : ∀ j u, news[j]? = some u → w.cell? (ad.add j) = some u := by
      intro j u hu
      obtain ⟨ad', h, _, hc⟩ := hr (fun e => by simp [e] at hu)
      injection h with h
      subst h
      exact hc j u hu
    obtain ⟨v', w', hrun, h2, h3, _, h5⟩ := run_append_own_at (P := P) w base t ty e i z size bytes ht hi hz hsize hby hzs hsz v n xs hown ad m c news hl hcells h1 h63 hbytes hbase
    exact ⟨v', w', hrun, h2, h3, h5⟩

/-- The same at a plain region's list of operations. What is left behind it: the new value, the new world, that it owns the whole, what has grown, and that nothing older than 'base' has turned. -/
theorem wpList_app {ops : Array Oper} {rest : List Oper} {o : Oper} {a : Act} {Q : Exit → Act → World → Prop} (hgd : o.guard = none) (s x : Operand) (t : TypeId)
    (ho : o.op = .call { callee := .builtin .append, args := #[s, x], argTypes := #[t, t] })
    (base : Nat) (e : TypeId) {i : TypeInfo} {z : Value} {size bytes : Nat} (ht : P.underlying t = some (.slice e)) (hi : P.info? e = some i) (hz : i.zero = some z)
    (hsize : i.size = size) (hby : i.bytes = bytes) (hzs : z.cells.size = size) (hsz : 0 < size)
    (v : Value) (n : Nat) (xs : List Value) (hs : a.eval s = v) (hown : w.ownsRow base e size v n xs)
    (B : Nat) (A : Option Addr) (m c : Nat) (news : List Value) (hx : a.eval x = .slice A m c) (hl : news.length = m * size) (hr : Rd w B A news) (h1 : ∀ u ∈ news, u.oneCell' = true)
    (h63 : n + m ≤ maxLen) (hbytes : (n + m) * bytes ≤ 140737488355328) (hbase : base ≤ w.heap.size)
    (h : ∀ v' w', w'.ownsRow base e size v' (n + m) (xs ++ news) → w.grownBy w' v.ownBlock → (v'.ownBlock = v.ownBlock ∨ v'.ownBlock = some w.heap.size) → Below base w w' → wpList P ops Q rest (a.put o.dst v') w') : wpList P ops Q (o :: rest) a w :=
  wpList_plain hgd fun K hK => by
    obtain ⟨v', w', hrun, h2, h3, h4⟩ := run_append_rd (P := P) w base t o.type e i z size bytes ht hi hz hsize hby hzs hsz v n xs hown B A m c news hl hr h1 h63 hbytes hbase
    unfold Oper.wp execOp
    simp only [ho, resolve, invoke, builtin, Sem.run_bind, Sem.run_pure, Result.andThen_ok, List.map_toArray, List.map_cons, List.map_nil, hs, hx, hrun]
    exact hK _ _ (h v' w' h2 h3 h4 ((Below.refl _ _).grown h3 hbase fun k hk => (hown.lt k hk).1))

theorem wpList_appL {α : Type} {f : α → Value} (hf : ∀ x, (f x).oneCell' = true) {ops : Array Oper} {rest : List Oper} {o : Oper} {a : Act} {Q : Exit → Act → World → Prop} (hgd : o.guard = none) (s x : Operand) {t e : TypeId} {z : Value} {bytes : Nat}
    (ho : o.op = .call { callee := .builtin .append, args := #[s, x], argTypes := #[t, t] }) (hE : ETy P t e z 1 bytes) (hby : 0 < bytes)
    (base : Nat) (v : Value) (l : List α) (hs : a.eval s = v) (hown : OwL f w base e v l)
    (B : Nat) (A : Option Addr) (m c : Nat) (news : List α) (hx : a.eval x = .slice A m c) (hl : news.length = m) (hr : RL f w B A news)
    (hn : (l.length + news.length) * bytes ≤ 140737488355328) (hbase : base ≤ w.heap.size)
    (h : ∀ v' w', OwL f w' base e v' (l ++ news) → w.grownBy w' v.ownBlock → (v'.ownBlock = v.ownBlock ∨ v'.ownBlock = some w.heap.size) → Below base w w' → wpList P ops Q rest (a.put o.dst v') w') : wpList P ops Q (o :: rest) a w := by
  obtain ⟨i, hi, hz, hsz, hb⟩ := hE.info
  subst hl
  have hm : (l.length + news.length) * 1 ≤ (l.length + news.length) * bytes := Nat.mul_le_mul (Nat.le_refl _) hby
  refine wpList_app w hgd s x t ho base e hE.sl hi hz hsz hb hE.cells hE.pos v l.length (l.map f) hs hown B A news.length c (news.map f) hx (by simp) hr (map_cells hf _) (by unfold maxLen; omega) hn hbase ?_
  intro v' w' h1 h2 h3 h4
  exact h v' w' (by unfold OwL; rw [List.length_append, List.map_append]; exact h1) h2 h3 h4
/-- The same at a step of a region that draws its order. -/
theorem step_appL {α : Type} {f : α → Value} (hf : ∀ x, (f x).oneCell' = true) {ops : Array Oper} {o : Oper} {a : Act} {K : Act → World → Prop} {Q : Exit → Act → World → Prop} {E : Prop} (hgd : o.guard = none) (s x : Operand) {t e : TypeId} {z : Value} {bytes : Nat}
    (ho : o.op = .call { callee := .builtin .append, args := #[s, x], argTypes := #[t, t] }) (hE : ETy P t e z 1 bytes) (hby : 0 < bytes)
    (base : Nat) (v : Value) (l : List α) (hs : a.eval s = v) (hown : OwL f w base e v l)
    (B : Nat) (A : Option Addr) (m c : Nat) (news : List α) (hx : a.eval x = .slice A m c) (hl : news.length = m) (hr : RL f w B A news)
    (hn : (l.length + news.length) * bytes ≤ 140737488355328) (hbase : base ≤ w.heap.size)
    (h : ∀ v' w', OwL f w' base e v' (l ++ news) → w.grownBy w' v.ownBlock → (v'.ownBlock = v.ownBlock ∨ v'.ownBlock = some w.heap.size) → Below base w w' → K (a.put o.dst v') w') :
    if Region.wanted o (yielded ops a.tmps) = true then Oper.wp P o a w K Q else E := by
  have hw : Region.wanted o (yielded ops a.tmps) = true := by simp [Region.wanted, hgd]
  rw [if_pos hw]
  obtain ⟨i, hi, hz, hsz, hb⟩ := hE.info
  subst hl
  have hm : (l.length + news.length) * 1 ≤ (l.length + news.length) * bytes := Nat.mul_le_mul (Nat.le_refl _) hby
  obtain ⟨v', w', hrun, h2, h3, h4⟩ := run_append_rd (P := P) w base t o.type e i z 1 bytes hE.sl hi hz hsz hb hE.cells hE.pos v l.length (l.map f) hown B A news.length c (news.map f) (by simp) hr (map_cells hf _) (by unfold maxLen; omega) hn hbase
  unfold Oper.wp execOp
  simp only [ho, resolve, invoke, builtin, Sem.run_bind, Sem.run_pure, Result.andThen_ok, List.map_toArray, List.map_cons, List.map_nil, hs, hx, hrun]
  exact h v' w' (by unfold OwL; rw [List.length_append, List.map_append]; exact h2) h3 h4 ((Below.refl _ _).grown h3 hbase fun k hk => (World.ownsRow.lt hown k hk).1)
theorem bV_one (x : UInt8) : (bV x).oneCell' = true := rfl
theorem iV_one (x : Int) : (iV x).oneCell' = true := rfl
end
/-- Block g is just the cells cs of type t, none of them frozen. -/
def Bk (w : World) (g : Nat) (t : TypeId) (cs : Array Value) : Prop := w.heap[g]? = some (.cells cs t (0, 0))
section
variable {w w' : World} {g : Nat} {t : TypeId} {cs : Array Value}
theorem Bk.lt (h : Bk w g t cs) : g < w.heap.size := by
  rcases Nat.lt_or_ge g w.heap.size with hlt | hge
  · exact hlt
  · unfold Bk at h; rw [Array.getElem?_eq_none hge] at h; cases h
theorem Bk.cell (h : Bk w g t cs) (i : Nat) : w.cell? ⟨g, i, none⟩ = cs[i]? := cell_of_row w g i cs t (0, 0) h
theorem Bk.frz (h : Bk w g t cs) (i : Nat) : w.frozen? ⟨g, i, none⟩ = false := by
  unfold Bk at h
  simp [World.frozen?, h]
theorem Bk.new (w : World) (t : TypeId) (cs : Array Value) : Bk (w.alloc (.cells cs t)) w.heap.size t cs := heap_alloc_new w _
theorem Bk.newAt {g : Nat} (w : World) (t : TypeId) (cs : Array Value) (hg : w.heap.size = g) : Bk (w.alloc (.cells cs t)) g t cs := by subst hg; exact Bk.new w t cs
theorem Bk.drewN (h : Bk w g t cs) (n : Nat) : Bk (w.drewN n) g t cs := h
theorem Bk.alloc (h : Bk w g t cs) (o : Obj) : Bk (w.alloc o) g t cs := (Below.heap_alloc w o g h.lt).trans h
theorem Bk.set (h : Bk w g t cs) (i : Nat) (u : Value) : Bk (w.setCell ⟨g, i, none⟩ u) g t (cs.setIfInBounds i u) := by
  unfold Bk at h ⊢
  simp [World.setCell, Array.getElem?_modify, h]
theorem Bk.far (h : Bk w g t cs) {p : Addr} (hp : g ≠ p.block) (u : Value) : Bk (w.setCell p u) g t cs := (Below.heap_setCell w p u g hp).trans h
theorem Bk.below {B : Nat} (h : Bk w g t cs) (hb : Below B w w') (hg : g < B) : Bk w' g t cs := (hb.block g hg).trans h
theorem Bk.grown {row : Option Nat} (h : Bk w g t cs) (hb : w.grownBy w' row) (hg : some g ≠ row) : Bk w' g t cs := (hb.block g h.lt hg).trans h
end
/-- What has turned is block 'row' alone, and what is new. -/
theorem gb_drewN {a w : World} {row : Option Nat} (h : a.grownBy w row) (n : Nat) : a.grownBy (w.drewN n) row := ⟨h.os, h.tape, h.output, h.size, h.block⟩
theorem gb_alloc {a w : World} {row : Option Nat} (h : a.grownBy w row) (o : Obj) : a.grownBy (w.alloc o) row :=
  ⟨h.os, h.tape, h.output, Nat.le_trans h.size (by simp), fun i hi hne => (Below.heap_alloc w o i (Nat.lt_of_lt_of_le hi h.size)).trans (h.block i hi hne)⟩
theorem gb_set {a w : World} {g : Nat} (h : a.grownBy w (some g)) (o : Nat) (u : Value) : a.grownBy (w.setCell ⟨g, o, none⟩ u) (some g) :=
  ⟨h.os, h.tape, h.output, by simpa [World.setCell] using h.size, fun i hi hne => (Below.heap_setCell w ⟨g, o, none⟩ u i (fun e => hne (by rw [e]))).trans (h.block i hi hne)⟩
theorem gb_new {a w : World} {row : Option Nat} (h : a.grownBy w row) {p : Addr} (hp : a.heap.size ≤ p.block) (u : Value) : a.grownBy (w.setCell p u) row :=
  ⟨h.os, h.tape, h.output, by simpa [World.setCell] using h.size, fun i hi hne => (Below.heap_setCell w p u i (by omega)).trans (h.block i hi hne)⟩
theorem gb_below {a w : World} (h : Below a.heap.size a w) (row : Option Nat) : a.grownBy w row := ⟨h.os, h.tape, h.output, h.size, fun i hi _ => h.block i hi⟩
theorem gb_trans {a b c : World} {row : Option Nat} (h : a.grownBy b row) (k : b.grownBy c row) : a.grownBy c row :=
  ⟨k.os.trans h.os, k.tape.trans h.tape, k.output.trans h.output, Nat.le_trans h.size k.size, fun i hi hne => (k.block i (Nat.lt_of_lt_of_le hi h.size) hne).trans (h.block i hi hne)⟩
theorem gb_then {a b c : World} {row : Option Nat} (h : a.grownBy b row) (k : Below b.heap.size b c) : a.grownBy c row := gb_trans h (gb_below k row)
theorem gb_low {a b : World} {g B : Nat} (h : a.grownBy b (some g)) (hB : B ≤ g) (hs : g < a.heap.size) : Below B a b :=
  ⟨h.os, h.tape, h.output, h.size, fun i hi => h.block i (by omega) (fun e => by injection e; omega)⟩
theorem quiet_eq {P : Program} {f : FuncId} {args : Array Value} {w : World} {n : Nat} {v : Value}
    (h : Calls P f args (w.drewN n) fun e w' => e = .returned v ∧ w.drewN n = w') : Calls P f args (w.drewN n) fun e w'' => e = .returned v ∧ ∃ m, w'' = w.drewN m :=
  h.mono fun _ _ ⟨he, hm⟩ => ⟨he, n, hm.symm⟩
theorem ret_v {v v' : Value} (h : v = v') : Ending.returned v = Ending.returned v' := by rw [h]
/-- A new block, and B is no more than what there was at first. -/
theorem bl_alloc {B : Nat} {a w : World} (h : Below B a w) (hB : B ≤ a.heap.size) (o : Obj) : Below B a (w.alloc o) := h.alloc (Nat.le_trans hB h.size) o
theorem below_drewN {B : Nat} {a w : World} (h : Below B a w) (n : Nat) : Below B a (w.drewN n) := ⟨h.os, h.tape, h.output, h.size, h.block⟩
theorem RL.news {α : Type} {f : α → Value} (w : World) (l : List α) (cs : Array Value) (h : cs.toList = l.map f) (e : TypeId) (fr : Nat × Nat) : RL f (w.alloc (.cells cs e fr)) (w.heap.size + 1) (some ⟨w.heap.size, 0, none⟩) l := fun _ =>
  ⟨_, rfl, Nat.lt_succ_self _, fun i u hu => by
    have e : (⟨w.heap.size, 0, none⟩ : Addr).add i = ⟨w.heap.size, i, none⟩ := by unfold Addr.add; split <;> simp_all
    rw [e, World.cell?_alloc_mark, ← Array.getElem?_toList, h]; exact hu⟩
end Go.Proofs.YtlmcpkomjofcgaaGreatDoor
namespace Go.Proofs.YtlmcpkomjofcgaaGreatDoor
open Go.RowKit

def leN : List UInt8 → Nat
  | [] => 0
  | x :: r => x.toNat + 256 * leN r
def beN (l : List UInt8) : Nat := l.foldl (fun v x => v * 256 + x.toNat) 0
def num64 (l : List UInt8) : Int := l.foldl (fun v x => wrap64 (wrap64 (v * 256) + (x.toNat : Int))) 0

theorem u8lt (x : UInt8) : x.toNat < 256 := x.toNat_lt
theorem leN_lt (l : List UInt8) : leN l < 256 ^ l.length := by
  induction l with
  | nil => simp [leN]
  | cons x r ih =>
    have := u8lt x
    simp only [leN, List.length_cons, Nat.pow_succ]
    omega
theorem leN_drop {l : List UInt8} {k : Nat} {x : UInt8} (h : l[k]? = some x) : leN (l.drop k) = x.toNat + 256 * leN (l.drop (k + 1)) := by
  obtain ⟨hk, rfl⟩ := List.getElem?_eq_some_iff.1 h
  rw [List.drop_eq_getElem_cons hk]; rfl
theorem pow_mono {a b : Nat} (h : a ≤ b) : 256 ^ a ≤ 256 ^ b := Nat.pow_le_pow_right (by omega) h
theorem leN_lt_of (l : List UInt8) {k : Nat} (h : l.length ≤ k) : leN l < 256 ^ k := Nat.lt_of_lt_of_le (leN_lt l) (pow_mono h)
theorem foldl_be (l : List UInt8) : ∀ v : Nat, l.foldl (fun v x => v * 256 + x.toNat) v = v * 256 ^ l.length + leN l.reverse ∧ True := by
  suffices h : ∀ (l : List UInt8) (v : Nat), l.foldl (fun v x => v * 256 + x.toNat) v = v * 256 ^ l.length + beN l by
    have hs : ∀ l : List UInt8, beN l = leN l.reverse := by
      intro l
      have key : ∀ r : List UInt8, beN r.reverse = leN r := by
        intro r
        induction r with
        | nil => rfl
        | cons x r ih => unfold beN at ih ⊢; simp only [List.reverse_cons, List.foldl_append, List.foldl_cons, List.foldl_nil, ih, leN]; omega
      have := key l.reverse
      rwa [List.reverse_reverse] at this
    intro v; exact ⟨by rw [h, hs], trivial⟩
  intro l
  induction l with
  | nil => intro v; simp [beN]
  | cons x r ih =>
    intro v
    unfold beN
    simp only [List.foldl_cons, List.length_cons, Nat.pow_succ]
    rw [ih, ih]
    simp only [Nat.zero_mul, Nat.zero_add, Nat.add_mul, Nat.mul_assoc]
    rw [Nat.mul_comm 256]
    omega
theorem beN_eq (l : List UInt8) : beN l = leN l.reverse := by
  have := (foldl_be l 0).1; simpa [beN] using this
theorem take_snoc' {α : Type} {l : List α} {k : Nat} {x : α} (h : l[k]? = some x) : l.take (k + 1) = l.take k ++ [x] := by
  obtain ⟨hk, rfl⟩ := List.getElem?_eq_some_iff.1 h
  rw [List.take_succ_eq_append_getElem hk]
theorem num64_snoc (l : List UInt8) (x : UInt8) : num64 (l ++ [x]) = wrap64 (wrap64 (num64 l * 256) + (x.toNat : Int)) := by simp [num64]
theorem num64_eq (l : List UInt8) : num64 l = wrap64 (beN l : Int) := by
  suffices h : ∀ r : List UInt8, num64 r.reverse = wrap64 (leN r : Int) by
    have := h l.reverse
    rwa [List.reverse_reverse, ← beN_eq] at this
  intro r
  induction r with
  | nil => simp [num64, leN, wrap64]
  | cons x r ih =>
    rw [List.reverse_cons, num64_snoc, ih]
    simp only [leN, wrap64]
    omega
theorem or_byte (y x : Nat) (hx : x < 256) (hy : y < 72057594037927936) : bits .or .u64 ((y : Int) * 256) (x : Int) = ((y * 256 + x : Nat) : Int) := by
  have h := u64_or_nat (y * 256) x (by omega) (by omega)
  rw [nat_join 8 (y * 256) x (by omega) (by omega)] at h
  rw [← h]; simp
theorem pow8 : 256 ^ 8 = 18446744073709551616 := by decide
theorem pow7 : 256 ^ 7 = 72057594037927936 := by decide
end Go.Proofs.YtlmcpkomjofcgaaGreatDoor
