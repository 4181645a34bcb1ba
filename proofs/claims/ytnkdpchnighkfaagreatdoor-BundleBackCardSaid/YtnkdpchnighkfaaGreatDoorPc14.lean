/- What a maker of archives answers. append(b, s...), s a string, onto bytes of the call's own: at a list of operations, at a step of a region that draws its order. Nothing here speaks of the program. append(b, s...), s a string, onto bytes of the call's own, with what turns. Nothing here speaks of the program. Three growing rows of the call's own and what has turned since its start. Nothing here speaks of the program. Items in memory. Nothing here speaks of the program. An item of a row: its cells. Nothing here speaks of the program. Plain facts on the bytes of a number. Contract: octet.PutLittle of one to eight bytes. Contracts: (*bundle.rows).put. Several structs that hold one growing row of bytes each, apart from each other. Nothing here speaks of the program. A region that draws its order, walked by what each operation leaves, whatever the order: each operation's answer owns blocks, and one other operation uses them up. Nothing here speaks of the program. A region that draws its order: each operation's answer owns blocks of its own; one other operation may use them up; whatever the order. Nothing here speaks of the program. What answers own in a drawn region: nothing, a new row, a struct with a growing row; how a step of the rule ends. Structs that hold a growing row each, and what has turned since an earlier world; a row that grows ahead of its store. Nothing here speaks of the program. Contract: (*bundle.rows).put, one of several structs that grow. Plain: what an archive that was made says of its items. Contract: samovarlaw11.ends. Contract: samovarref11.Check. Contract: samovarlaw11.small. Arguments that are rows of items, opened. Contract: samovarref02.Same, in a region that draws: it reads alone. -/
import Derived.Test.YtnkdpchnighkfaaGreatDoorPc3
import Derived.Test.YtnkdpchnighkfaaGreatDoorPc4
import Derived.Test.YtnkdpchnighkfaaGreatDoorPc1
import Derived.Deep.RegionLaw
import Derived.Lib.AppendStr
import Derived.Test.YtnkdpchnighkfaaGreatDoorProg
import Derived.Deep.RegionWith
import Derived.Deep.RegionHeld3
import Derived.Outline
import Derived.Deep.DeepCutAuto
import Derived.Deep.RegionHeld
import Derived.Test.YtnkdpchnighkfaaGreatDoorPc7
import Derived.BigQuiet
namespace Go.Proofs.YtnkdpchnighkfaaGreatDoor
open Go.RowKit
/-- The archive or its error, new memory. -/
def BookPost (R : Rz (List UInt8)) (w : World) (e : Ending) (w' : World) : Prop :=
  Below w.heap.size w w' ∧ match R with
    | .ok o => ∃ v, e = .returned (.tuple #[v, .int .i64 0]) ∧ OwB w' w.heap.size 5 v o ∧ o.length ≤ 65536
    | .err k => e = .returned (.tuple #[.slice none 0 0, .int .i64 k]) ∧ k ≠ 0
theorem bookPost_err {R : Rz (List UInt8)} {w w' : World} {k : Int} (h : R = .err k) (hb : Below w.heap.size w w') (hk : k ≠ 0) : BookPost R w (.returned (.tuple #[.slice none 0 0, .int .i64 k])) w' := by
  subst h; exact ⟨hb, rfl, hk⟩
theorem bookPost_ok {R : Rz (List UInt8)} {w w' : World} {v : Value} {l : List UInt8} (h : R = .ok l) (hb : Below w.heap.size w w') (ho : OwB w' w.heap.size 5 v l) (hl : l.length ≤ 65536) : BookPost R w (.returned (.tuple #[v, .int .i64 0])) w' := by
  subst h; exact ⟨hb, v, rfl, ho, hl⟩
end Go.Proofs.YtnkdpchnighkfaaGreatDoor
namespace Go.Proofs.YtnkdpchnighkfaaGreatDoor
open Go.RowKit

section
variable {P : Program} (w : World)
theorem run_appStr {t u e : TypeId} (ty : TypeId) (hE : ETy P t e (.int .u8 0) 1 1) (hu : P.underlying u = some .string) (base : Nat) (v : Value) (l : List UInt8) (hown : OwB w base e v l) (s : ByteArray)
    (hn : l.length + s.size ≤ 140737488355328) (hbase : base ≤ w.heap.size) :
    ∃ v' w', (Builtin.append_ #[t, u] ty #[v, .string s]).run P w = .ok v' w' ∧ OwB w' base e v' (l ++ s.data.toList) ∧ Below base w w' := by
  obtain ⟨i, hi, hz, hsz, hb⟩ := hE.info
  obtain ⟨v', w', hr, h2, h3, _⟩ := Lib.run_append_own_string (P := P) w base t u ty e i hE.sl hu hi hz hsz hb v l.length (l.map bV) hown s (by unfold maxLen; omega) hn hbase
  refine ⟨v', w', hr, ?_, (Below.refl _ _).grown h3 hbase fun k hk => (World.ownsRow.lt hown k hk).1⟩
  unfold OwB OwL
  rw [List.length_append, List.map_append]
  exact h2
theorem wpList_appStr {ops : Array Oper} {rest : List Oper} {o : Oper} {a : Act} {Q : Exit → Act → World → Prop} (hgd : o.guard = none) (s x : Operand) {t u e : TypeId}
    (ho : o.op = .call { callee := .builtin .append, args := #[s, x], argTypes := #[t, u] }) (hE : ETy P t e (.int .u8 0) 1 1) (hu : P.underlying u = some .string)
    (base : Nat) (v : Value) (l : List UInt8) (hs : a.eval s = v) (hown : OwB w base e v l) (b : ByteArray) (hx : a.eval x = .string b)
    (hn : l.length + b.size ≤ 140737488355328) (hbase : base ≤ w.heap.size)
    (h : ∀ v' w', OwB w' base e v' (l ++ b.data.toList) → Below base w w' → wpList P ops Q rest (a.put o.dst v') w') : wpList P ops Q (o :: rest) a w :=
  wpList_plain hgd fun K hK => by
    obtain ⟨v', w', hrun, h2, h3⟩ := run_appStr (P := P) w o.type hE hu base v l hown b hn hbase
    unfold Oper.wp execOp
    simp only [ho, resolve, invoke, builtin, Sem.run_bind, Sem.run_pure, Result.andThen_ok, List.map_toArray, List.map_cons, List.map_nil, hs, hx, hrun]
    exact hK _ _ (h v' w' h2 h3)
theorem step_appStr {ops : Array Oper} {o : Oper} {a : Act} {K : Act → World → Prop} {Q : Exit → Act → World → Prop} {E : Prop} (hgd : o.guard = none) (s x : Operand) {t u e : TypeId}
    (ho : o.op = .call { callee := .builtin .append, args := #[s, x], argTypes := #[t, u] }) (hE : ETy P t e (.int .u8 0) 1 1) (hu : P.underlying u = some .string)
    (base : Nat) (v : Value) (l : List UInt8) (hs : a.eval s = v) (hown : OwB w base e v l) (b : ByteArray) (hx : a.eval x = .string b)
    (hn : l.length + b.size ≤ 140737488355328) (hbase : base ≤ w.heap.size)
    (h : ∀ v' w', OwB w' base e v' (l ++ b.data.toList) → Below base w w' → K (a.put o.dst v') w') :
    if Region.wanted o (yielded ops a.tmps) = true then Oper.wp P o a w K Q else E := by
  have hw : Region.wanted o (yielded ops a.tmps) = true := by simp [Region.wanted, hgd]
  rw [if_pos hw]
  obtain ⟨v', w', hrun, h2, h3⟩ := run_appStr (P := P) w o.type hE hu base v l hown b hn hbase
  unfold Oper.wp execOp
  simp only [ho, resolve, invoke, builtin, Sem.run_bind, Sem.run_pure, Result.andThen_ok, List.map_toArray, List.map_cons, List.map_nil, hs, hx, hrun]
  exact h v' w' h2 h3
end
end Go.Proofs.YtnkdpchnighkfaaGreatDoor
namespace Go.Proofs.YtnkdpchnighkfaaGreatDoor
open Go.RowKit
theorem grown_ch {w w' : World} {v v' : Value} (g : w.grownBy w' v.ownBlock) (k : v'.ownBlock = v.ownBlock ∨ v'.ownBlock = some w.heap.size) : Ch w w' (Fow v) ∧ OwnN w v v' :=
  ⟨Ch.of_grown g (fun _ h => h), by
    rcases k with e | e
    · exact .inl e
    · exact .inr ⟨_, e, Nat.le_refl _⟩⟩
section
variable {P : Program} (w : World)
theorem run_appStrG {t u e : TypeId} (ty : TypeId) (hE : ETy P t e (.int .u8 0) 1 1) (hu : P.underlying u = some .string) (base : Nat) (v : Value) (l : List UInt8) (hown : OwB w base e v l) (s : ByteArray)
    (hn : l.length + s.size ≤ 140737488355328) (hbase : base ≤ w.heap.size) :
    ∃ v' w', (Builtin.append_ #[t, u] ty #[v, .string s]).run P w = .ok v' w' ∧ OwB w' base e v' (l ++ s.data.toList) ∧ Ch w w' (Fow v) ∧ OwnN w v v' := by
  obtain ⟨i, hi, hz, hsz, hb⟩ := hE.info
  obtain ⟨v', w', hr, h2, h3, h4⟩ := Lib.run_append_own_string (P := P) w base t u ty e i hE.sl hu hi hz hsz hb v l.length (l.map bV) hown s (by unfold maxLen; omega) hn hbase
  have hown2 := hown
  have key : v'.ownBlock = v.ownBlock ∨ v'.ownBlock = some w.heap.size := by
    rcases hown2.2 with ⟨e1, e2⟩ | ⟨g, cap, cur, rfl, hbg, hg, hnc, hcm, hcs, htake⟩
    · have hv : v = .slice none 0 0 := by first | exact e1 | exact e2
      subst hv
      by_cases h0 : s.size = 0
      · left
        rw [h4.2 ⟨rfl, h0⟩]
      · right
        rw [run_append_nil_string (P := P) w t u ty e i (.int .u8 0) hE.sl hu hi hz s (by omega) (by omega) (by rw [hb]; omega)] at hr
        injection hr with hr _
        rw [← hr]; rfl
    · by_cases hroom : l.length + s.size ≤ cap
      · left
        have hcs' : cur.size = cap := by simpa using hcs
        rw [Lib.run_append_room_string (P := P) w t u ty e i hE.sl hu hi hsz g l.length cap cur hg s hroom (by omega)] at hr
        injection hr with hr _
        rw [← hr]; rfl
      · right
        have holds : ∀ j u, (l.map bV)[j]? = some u → w.cell? ((⟨g, 0, none⟩ : Addr).add j) = some u := World.ownsRow.cells hown (g := g) rfl
        rw [Lib.run_append_grow_string (P := P) w t u ty e i (.int .u8 0) hE.sl hu hi hz ⟨g, 0, none⟩ l.length cap (l.map bV) (by rw [hsz]; simp) holds s (by omega) (by omega) (by rw [hb]; exact growslice_fits (by omega) (by omega))] at hr
        injection hr with hr _
        rw [← hr]; rfl
  refine ⟨v', w', hr, ?_, grown_ch h3 key⟩
  unfold OwB OwL
  rw [List.length_append, List.map_append]
  exact h2
theorem wpList_appStrG {ops : Array Oper} {rest : List Oper} {o : Oper} {a : Act} {Q : Exit → Act → World → Prop} (hgd : o.guard = none) (s x : Operand) {t u e : TypeId}
    (ho : o.op = .call { callee := .builtin .append, args := #[s, x], argTypes := #[t, u] }) (hE : ETy P t e (.int .u8 0) 1 1) (hu : P.underlying u = some .string)
    (base : Nat) (v : Value) (l : List UInt8) (hs : a.eval s = v) (hown : OwB w base e v l) (b : ByteArray) (hx : a.eval x = .string b)
    (hn : l.length + b.size ≤ 140737488355328) (hbase : base ≤ w.heap.size)
    (h : ∀ v' w', OwB w' base e v' (l ++ b.data.toList) → Ch w w' (Fow v) → OwnN w v v' → wpList P ops Q rest (a.put o.dst v') w') : wpList P ops Q (o :: rest) a w :=
  wpList_plain hgd fun K hK => by
    obtain ⟨v', w', hrun, h2, h3, h4⟩ := run_appStrG (P := P) w o.type hE hu base v l hown b hn hbase
    unfold Oper.wp execOp
    simp only [ho, resolve, invoke, builtin, Sem.run_bind, Sem.run_pure, Result.andThen_ok, List.map_toArray, List.map_cons, List.map_nil, hs, hx, hrun]
    exact hK _ _ (h v' w' h2 h3 h4)
theorem step_appStrG {ops : Array Oper} {o : Oper} {a : Act} {K : Act → World → Prop} {Q : Exit → Act → World → Prop} {E : Prop} (hgd : o.guard = none) (s x : Operand) {t u e : TypeId}
    (ho : o.op = .call { callee := .builtin .append, args := #[s, x], argTypes := #[t, u] }) (hE : ETy P t e (.int .u8 0) 1 1) (hu : P.underlying u = some .string)
    (base : Nat) (v : Value) (l : List UInt8) (hs : a.eval s = v) (hown : OwB w base e v l) (b : ByteArray) (hx : a.eval x = .string b)
    (hn : l.length + b.size ≤ 140737488355328) (hbase : base ≤ w.heap.size)
    (h : ∀ v' w', OwB w' base e v' (l ++ b.data.toList) → Ch w w' (Fow v) → OwnN w v v' → K (a.put o.dst v') w') :
    if Region.wanted o (yielded ops a.tmps) = true then Oper.wp P o a w K Q else E := by
  have hw : Region.wanted o (yielded ops a.tmps) = true := by simp [Region.wanted, hgd]
  rw [if_pos hw]
  obtain ⟨v', w', hrun, h2, h3, h4⟩ := run_appStrG (P := P) w o.type hE hu base v l hown b hn hbase
  unfold Oper.wp execOp
  simp only [ho, resolve, invoke, builtin, Sem.run_bind, Sem.run_pure, Result.andThen_ok, List.map_toArray, List.map_cons, List.map_nil, hs, hx, hrun]
  exact h v' w' h2 h3 h4
end
end Go.Proofs.YtnkdpchnighkfaaGreatDoor
namespace Go.Proofs.YtnkdpchnighkfaaGreatDoor
open Go.RowKit
structure Lst {α : Type} (f : α → Value) (w0 w : World) (B : Nat) (e : TypeId) (V : Value) (o : List α) (D : Value) (d : List α) (H : Value) (h : List α) : Prop where
  t : Tri f w B e V o D d H h
  b : Below B w0 w
  z : B ≤ w.heap.size
section
variable {α : Type} {f : α → Value} {w0 w w' : World} {B : Nat} {e : TypeId} {V D H v' v : Value} {o d h l l' n : List α}
theorem Ch.low {S : Nat → Prop} (c : Ch w w' S) (hb : Below B w0 w) (hz : B ≤ w.heap.size) (hS : ∀ k, S k → B ≤ k) : Below B w0 w' :=
  hb.trans (c.below hz fun k hk h => Nat.lt_irrefl _ (Nat.lt_of_lt_of_le hk (hS k h)))
theorem fow_low (h : OwL f w B e v l) (k : Nat) (hk : Fow v k) : B ≤ k := (World.ownsRow.lt h k hk).1
theorem apt_ch (ho : OwL f w B e v l) (ha : Apt V v) (c : Ch w w' (Fow V)) : OwL f w' B e v l := OwL.ch ho c (fun k hk h => by
  unfold Fow at h
  rcases ha with a | a | a
  · rw [a] at h; cases h
  · rw [a] at hk; cases hk
  · exact a (h.trans hk.symm))
theorem apt_own (ho : OwL f w B e v l) (ha : Apt V v) (k : OwnN w V v') : Apt v' v := by
  rcases k with k | ⟨b, k, hb⟩
  · unfold Apt; rw [k]; exact ha
  · unfold Apt
    rw [k]
    cases hv : v.ownBlock with
    | none => exact .inr (.inl rfl)
    | some b' =>
      have := (World.ownsRow.lt ho b' hv).2
      exact .inr (.inr (by intro e; injection e with e; omega))
theorem Tri.ch (h0 : Tri f w B e V o D d H h) (ho : OwL f w' B e v' l') (c : Ch w w' (Fow V)) (k : OwnN w V v') : Tri f w' B e v' l' D d H h :=
  ⟨ho, apt_ch h0.o2 h0.a12 c, apt_ch h0.o3 h0.a13 c, apt_own h0.o2 h0.a12 k, apt_own h0.o3 h0.a13 k, h0.a23⟩
theorem Lst.num1 (L : Lst f w0 w B e V o D d H h) (ho : OwL f w' B e v' l') (c : Ch w w' (Fow V)) (k : OwnN w V v') : Lst f w0 w' B e v' l' D d H h :=
  ⟨L.t.ch ho c k, c.low L.b L.z (fow_low L.t.o1), Nat.le_trans L.z c.size⟩
theorem Lst.rot (L : Lst f w0 w B e V o D d H h) : Lst f w0 w B e D d H h V o := ⟨L.t.rot, L.b, L.z⟩
theorem Lst.num2 (L : Lst f w0 w B e V o D d H h) (ho : OwL f w' B e v' l') (c : Ch w w' (Fow D)) (k : OwnN w D v') : Lst f w0 w' B e V o v' l' H h :=
  (L.rot.num1 ho c k).rot.rot
theorem Lst.num3 (L : Lst f w0 w B e V o D d H h) (ho : OwL f w' B e v' l') (c : Ch w w' (Fow H)) (k : OwnN w H v') : Lst f w0 w' B e V o D d v' l' :=
  (L.rot.rot.num1 ho c k).rot
theorem Lst.below (L : Lst f w0 w B e V o D d H h) (hb : Below w.heap.size w w') : Lst f w0 w' B e V o D d H h :=
  ⟨⟨L.t.o1.below hb, L.t.o2.below hb, L.t.o3.below hb, L.t.a12, L.t.a13, L.t.a23⟩, L.b.trans (hb.mono L.z), Nat.le_trans L.z hb.size⟩
theorem Lst.alloc (L : Lst f w0 w B e V o D d H h) (x : Obj) : Lst f w0 (w.alloc x) B e V o D d H h := L.below (bl_alloc (Below.refl _ _) (Nat.le_refl _) _)
theorem Lst.drew (L : Lst f w0 w B e V o D d H h) : Lst f w0 w.drew B e V o D d H h := L.below (below_drewN (Below.refl _ _) 1)
theorem Lst.drewN (L : Lst f w0 w B e V o D d H h) (k : Nat) : Lst f w0 (w.drewN k) B e V o D d H h := L.below (below_drewN (Below.refl _ _) k)
/-- The third row is given up. -/
theorem Lst.drop3 (L : Lst f w0 w B e V o D d H h) : Lst f w0 w B e V o D d (.slice none 0 0) [] := ⟨⟨L.t.o1, L.t.o2, OwL.nil, L.t.a12, .inr (.inl rfl), .inr (.inl rfl)⟩, L.b, L.z⟩
theorem Lst.nil (hb : Below B w0 w) (hz : B ≤ w.heap.size) : Lst f w0 w B e (.slice none 0 0) [] (.slice none 0 0) [] (.slice none 0 0) [] := ⟨Tri.nil, hb, hz⟩
/-- A new block is not the row's own. -/
theorem fow_new (h : OwL f w B e v l) {k : Nat} (hk : w.heap.size ≤ k) : ∀ ad, (some ⟨k, 0, none⟩ : Option Addr) = some ad → ¬ Fow v ad.block := fun ad ha hf => by
  injection ha with ha
  subst ha
  exact Nat.lt_irrefl _ (Nat.lt_of_lt_of_le (World.ownsRow.lt h _ hf).2 hk)
theorem fow_nil {A : Option Addr} : ∀ ad, A = some ad → ¬ Fow (.slice none 0 0) ad.block := fun _ _ h => by cases h
/-- Whatever lies below stays. -/
theorem Lst.rl {β : Type} {F : β → Value} {A : Option Addr} {m : List β} (L : Lst f w0 w B e V o D d H h) (r : RL F w0 B A m) : RL F w B A m := r.below L.b (Nat.le_refl _)
end
end Go.Proofs.YtnkdpchnighkfaaGreatDoor
namespace Go.Proofs.YtnkdpchnighkfaaGreatDoor
open Go.RowKit
/-- An item: its name, its data, is it to be squeezed? -/
structure It where
  name : List UInt8
  s : Sl
  sq : Bool
instance : Inhabited It := ⟨⟨[], ⟨none, 0, 0, []⟩, false⟩⟩
def itC (x : It) : List Value := [.string ⟨x.name.toArray⟩, .slice x.s.A x.s.n x.s.c, .bool x.sq]
theorem itCels : Cels itC 3 := ⟨fun _ => rfl, fun x u hu => by
  simp only [itC, List.mem_cons, List.not_mem_nil, or_false] at hu
  rcases hu with rfl | rfl | rfl <;> rfl, by omega⟩
def It.p (x : It) : Itm := ⟨x.name, x.s.l, x.sq⟩
def RIt (w : World) (B : Nat) (A : Option Addr) (L : List It) : Prop := RS itC w B A L ∧ ∀ x ∈ L, SlB w B x.s
section
variable {w w' : World} {B B' : Nat} {A : Option Addr} {L : List It}
theorem RIt.below (h : RIt w B A L) (hb : Below B' w w') (hB : B ≤ B') : RIt w' B A L := ⟨h.1.below hb hB, fun x hx => (h.2 x hx).below hb hB⟩
theorem RIt.more (h : RIt w B A L) (hB : B ≤ B') : RIt w B' A L := ⟨h.1.more hB, fun x hx => (h.2 x hx).more hB⟩
theorem RIt.nil : RIt w B none [] := ⟨RS.nil, fun x hx => by cases hx⟩
end
end Go.Proofs.YtnkdpchnighkfaaGreatDoor
namespace Go.Proofs.YtnkdpchnighkfaaGreatDoor
open Go.RowKit
theorem RIt.itm {w : World} {B : Nat} {A : Option Addr} {L : List It} (h : RIt w B A L) {k : Nat} (hk : k < L.length) :
    ∃ ad x sn, A = some ad ∧ ad.block < B ∧ Bx (L[k]? = some x) ∧ Bx (sn.data.toList = x.name) ∧ w.cell? (ad.add (k * 3)) = some (.string sn) ∧ w.cell? ⟨(ad.add (k * 3)).block, (ad.add (k * 3)).off + 1, none⟩ = some (.slice x.s.A x.s.n x.s.c) ∧
      w.cell? ⟨(ad.add (k * 3)).block, (ad.add (k * 3)).off + 2, none⟩ = some (.bool x.sq) ∧ Bx (SlB w B x.s) := by
  obtain ⟨ad, x, hA, hlt, hx, hc, hcs⟩ := h.1.at_ itCels hk
  exact ⟨ad, x, ⟨x.name.toArray⟩, hA, hlt, bx hx.out, bx rfl, hc _ rfl, hcs 0 _ rfl, hcs 1 _ rfl, bx (h.2 x (List.mem_of_getElem? hx.out))⟩
theorem itm_map {L : List It} {k : Nat} {x : It} (h : L[k]? = some x) : (L.map It.p)[k]? = some x.p := by rw [List.getElem?_map, h]; rfl
theorem sn_size {sn : ByteArray} {l : List UInt8} (h : sn.data.toList = l) : sn.size = l.length := by rw [← h]; rfl
theorem sn_len {sn : ByteArray} {l : List UInt8} {m : Nat} (h : sn.data.toList = l) (hl : l.length ≤ m) : sn.size ≤ m := by rw [sn_size h]; exact hl
end Go.Proofs.YtnkdpchnighkfaaGreatDoor
namespace Go.Proofs.YtnkdpchnighkfaaGreatDoor
open Go.RowKit
theorem u8_infoP : (Tryz.prog.info? 5).map (fun i => (i.zero, i.size, i.bytes)) = some (some (.int .u8 0), 1, 1) := by kernel_rfl
theorem byteTyP : ETy Tryz.prog 25 5 (.int .u8 0) 1 1 := ⟨Tryz.underlying25, info_parts u8_infoP, rfl, by decide⟩
end Go.Proofs.YtnkdpchnighkfaaGreatDoor
namespace Go.Proofs.YtnkdpchnighkfaaGreatDoor
open Go.RowKit
set_option maxRecDepth 100000 in
set_option maxHeartbeats 400000 in
theorem putLittle_ok (n : Nat) (v : Int) (w : World) (h1 : 1 ≤ n) (h2 : n ≤ 8) :
    Calls Tryz.prog 41 #[.int .i64 n, .int .i64 v] w fun e w' => ∃ r, e = .returned r ∧ OwB w' w.heap.size 5 r (leB n v) ∧ Below w.heap.size w w' := by
  obtain ⟨i0, hi, hz0, hz1, hz2⟩ := info_parts u8_infoP
  go_enter Tryz.func41, Tryz.ntmps41
  go_wp2_with (at_make; refine wpList_make_full _ rfl _ _ _ rfl w.heap.size 5 i0 (.int .u8 0) 1 Tryz.underlying25 hi hz0 hz1 .i64 .i64 _ _ n rfl rfl rfl rfl (by rw [hz2]; omega) (by unfold maxLen; omega) (Nat.le_refl _) ?_)
  intro w1 hown hg
  have hb1 : Below w.heap.size w w1 := (Below.refl _ _).grown hg (Nat.le_refl _) (by simp)
  have hown0 : OwB w1 w.heap.size 5 (.slice (some ⟨w.heap.size, 0, none⟩) n n) (List.replicate n 0) := OwL.made (f := bV) (z := 0) hown
  clear hown hg
  go_wp2
  go_loopw [6, 17] (fun _ i wr => ∃ k : Nat, k ≤ n ∧ i = .int .i64 (k : Int) ∧ OwB wr w.heap.size 5 (.slice (some ⟨w.heap.size, 0, none⟩) n n) ((leB n v).take k ++ List.replicate (n - k) 0) ∧ Below w.heap.size w wr) (fun _ i _ => n - (intOf i).toNat)
  case atStart => exact ⟨0, by omega, rfl, by simpa using hown0, hb1⟩
  case round =>
    obtain ⟨k, hk, rfl, hown1, hb⟩ := hrel
    by_cases hk0 : k < n
    · have hc := hown1.cell (fill_get (leB_len n v) hk0)
      have hf := hown1.frz k
      have S := Lib.hid (hown1.set k (UInt8.ofNat ((v % 18446744073709551616).toNat / 256 ^ k)))
      go_wp2
      go_roundw
      case rel =>
        refine ⟨k + 1, by omega, by go_num, ?_, hb.setCell (Nat.le_refl _) _⟩
        rw [leB_cell, ← fill_set (leB_len n v) hk0 (leB_get v hk0)]
        exact S.out
      case measure => simp [intOf]; omega
    · obtain rfl : k = n := by omega
      go_wp2
      go_ret
      refine ⟨_, rfl, ?_, hb⟩
      rw [List.take_of_length_le (by rw [leB_len]; omega), Nat.sub_self, List.replicate_zero, List.append_nil] at hown1
      exact hown1

end Go.Proofs.YtnkdpchnighkfaaGreatDoor
namespace Go.Proofs.YtnkdpchnighkfaaGreatDoor
open Go.RowKit
/-- What putting numbers leaves. -/
def RPut (T : TypeId) (w : World) (base g : Nat) (v : Value) (l : List UInt8) (e : Ending) (w' : World) : Prop :=
  e = .returned (.pointer (some ⟨g, 0, none⟩)) ∧ ∃ v', Rws T 5 w' base g v' l ∧ Ch w w' (Fpt g v) ∧ (v'.ownBlock = v.ownBlock ∨ ∃ b, v'.ownBlock = some b ∧ w.heap.size ≤ b)
theorem putL_len (n : Nat) (xs : List Int) : (xs.flatMap (leB n)).length = n * xs.length := by
  induction xs with
  | nil => simp
  | cons x r ih => rw [List.flatMap_cons, List.length_append, leB_len, ih, List.length_cons, Nat.mul_add]; omega
theorem gcell {W w1 w5 : World} {v : Value} {g : Nat} (h : w1.grownBy w5 v.ownBlock) (hv : v.ownBlock ≠ some g) (hb : Below W.heap.size W w1) (hg : g < W.heap.size) : w5.cell? ⟨g, 0, none⟩ = w1.cell? ⟨g, 0, none⟩ :=
  cell_same (h.block g (Nat.lt_of_lt_of_le hg hb.size) (fun e => hv e.symm))
set_option maxRecDepth 100000 in
set_option maxHeartbeats 2000000 in
theorem rput_any (base g n k c : Nat) (v : Value) (o : List UInt8) (A : Option Addr) (xs : List Int) (w : World) (h : Rws 44 5 w base g v o) (hb : base ≤ w.heap.size) (hvg : v.ownBlock ≠ some g) (hx : xs.length = k) (hX : RL iV w w.heap.size A xs) (hA : ∀ ad, A = some ad → ¬ Fpt g v ad.block)
    (h1 : 1 ≤ n) (h8 : n ≤ 8) (hk : k ≤ 8) (ho : o.length ≤ 4000000) :
    Calls Tryz.prog 17 #[.pointer (some ⟨g, 0, none⟩), .int .i64 (n : Int), .slice A k c] w (RPut 44 w base g v (o ++ xs.flatMap (leB n))) := by
  have HX := bx hX
  have HL := bx hx
  have HO := bx ho
  have HV := bx hvg
  have HA := bx hA
  have hgw := h.1.lt
  have H0 : Bx (Rws 44 5 w base g v (o ++ (xs.take 0).flatMap (leB n))) := bx (by simpa using h)
  have C0 : Bx (Ch w w (Fpt g v)) := bx (Ch.refl w)
  clear h hx hX hA hvg ho
  go_enter Tryz.func17, Tryz.ntmps17
  go_wp2_with fail
  go_loopw [8, 11] (fun _ iv wx => ∃ (j : Nat) (vj : Value), j ≤ k ∧ iv = .int .i64 (j : Int) ∧ Bx (Rws 44 5 wx base g vj (o ++ (xs.take j).flatMap (leB n))) ∧ Bx (Ch w wx (Fpt g v)) ∧ Bx (vj.ownBlock = v.ownBlock ∨ ∃ b, vj.ownBlock = some b ∧ w.heap.size ≤ b)) (fun _ iv _ => k - (intOf iv).toNat)
  case atStart => exact ⟨0, v, by omega, rfl, H0, C0, bx (.inl rfl)⟩
  case round =>
    clear H0 C0
    obtain ⟨j, vj, hj, rfl, HR, HC, HJ⟩ := hrel
    have hwr := HC.out.size
    by_cases hjk : j < k
    · have hjI : (j : Int) < (k : Int) := by omega
      obtain ⟨x, hxx⟩ : ∃ x, xs[j]? = some x := ⟨_, List.getElem?_eq_getElem (by rw [HL.out]; exact hjk)⟩
      have HXX := bx hxx
      have hXr : RL iV wr w.heap.size A xs := HX.out.ch HC.out (Nat.le_refl _) HA.out
      obtain ⟨ad, y, rfl, had, hy, hcy⟩ := RL.atl hXr (k := j) (by rw [HL.out]; exact hjk)
      obtain rfl : x = y := by have := HXX.out.symm.trans hy.out; injection this
      have hc0 : wr.cell? ⟨g, 0, none⟩ = some vj := (HR.out.1.cell 0).trans rfl
      have hgr := HR.out.1.lt
      have hkc : (j : Int) ≤ (c : Int) ∨ True := .inr trivial
      have HPUT := fun w1 => putLittle_ok n x w1 h1 h8
      have HP := bx HPUT
      clear hxx hy hXr HPUT hkc
      go_upto_region 4 with (fail)
      have hbase : base ≤ wr.heap.size := by omega
      have hlen : ∀ m, m ≤ k → (o ++ (xs.take m).flatMap (leB n)).length ≤ 4000064 := fun m hm => by
        rw [List.length_append, putL_len, List.length_take]
        have h9 : n * min m xs.length ≤ 8 * 8 := Nat.mul_le_mul h8 (by omega)
        have := HO.out
        omega
      have HLEN := bx hlen
      obtain ⟨ol, hol⟩ : ∃ ol, o ++ (xs.take j).flatMap (leB n) = ol := ⟨_, rfl⟩
      have HOL := bx hol
      have HN : Bx ((ol.length + (leB n x).length) * 1 ≤ 140737488355328) := bx (by rw [← hol, leB_len]; have := HLEN.out j (by omega); omega)
      have hOW : OwB wr base 5 vj ol := by rw [← hol]; exact HR.out.2
      have HOW := bx hOW
      have hVg : Bx (vj.ownBlock ≠ some g) := bx (by rcases HJ.out with e | ⟨b, e, hb9⟩; (rw [e]; exact HV.out); (rw [e]; intro e2; injection e2; omega))
      clear hlen hol hOW
      have hS0 : wr.drew.cell? ⟨g, 0, none⟩ = some vj := hc0
      go_region_law ((first
        | (go_simp; go_at_call 41; refine (HP.out _).mono ?_; rintro e w1 ⟨r, rfl, hr1, hb1⟩; obtain ⟨A1, c1, rfl, hr1, _, _⟩ := hr1.rd; have hc1 : w1.cell? ⟨g, 0, none⟩ = some vj := (hb1.cell (p := ⟨g, 0, none⟩) hgr).trans hc0; have hO1 := (OwL.drew HOW.out).below hb1)
        | (refine step_appL w1 bV_one rfl (.tmp 19) (.tmp 22) rfl byteTyP (by decide) base vj ol rfl hO1 w1.heap.size A1 (leB n x).length c1 (leB n x) rfl rfl hr1 HN.out (Nat.le_trans hbase hb1.size) ?_; intro v5 w5 hO5 hg5 hv5 hb5; obtain ⟨A5, n5, c5, rfl, hn5, hr5⟩ := OwL.sl hO5; have hK5 := ((HR.out.1.drewN 1).below hb1 hgr).grown hg5 (fun e => hVg.out e.symm); have hc5 : w5.cell? ⟨g, 0, none⟩ = some vj := (hK5.cell 0).trans rfl; have hf5 : w5.frozen? ⟨g, 0, none⟩ = false := hK5.frz 0)))
      all_goals (
        obtain ⟨n1, n2, n3⟩ := Rws.next (more := leB n x) HR.out HC.out HJ.out hgw HV.out ⟨hb1.os, hb1.tape, hb1.output, hb1.size, hb1.block⟩ hg5 (by rw [HOL.out]; exact hO5) hv5
        have N1 : Bx (Rws 44 5 (w5.setCell ⟨g, 0, none⟩ (.slice A5 n5 c5)) base g (.slice A5 n5 c5) (o ++ (xs.take (j + 1)).flatMap (leB n))) := bx (by
          rw [take_snoc' HXX.out, List.flatMap_append, ← List.append_assoc]
          simpa using n1)
        have N2 := bx n2
        have N3 := bx n3
        clear n1 n2 n3 hO5 hK5 hg5 hv5 hb5 hb1 hr5 hn5
        go_wp2
        go_roundw
        case rel => exact ⟨j + 1, _, by omega, by go_num, N1, N2, N3⟩
        case measure => simp [intOf]; omega)
    · obtain rfl : j = k := by omega
      have hjI : ¬ (j : Int) < (j : Int) := by omega
      have hF : Bx (Rws 44 5 wr base g vj (o ++ xs.flatMap (leB n))) := bx (by have := HR.out; rwa [List.take_of_length_le (by rw [HL.out]; omega)] at this)
      go_wp2
      go_ret
      exact ⟨rfl, vj, hF.out, HC.out, HJ.out⟩
end Go.Proofs.YtnkdpchnighkfaaGreatDoor
namespace Go.Proofs.YtnkdpchnighkfaaGreatDoor
open Go.RowKit
structure RwS where
  g : Nat
  v : Value
  l : List UInt8
structure One (T E : TypeId) (w : World) (B : Nat) (x : RwS) : Prop where
  r : Rws T E w B x.g x.v x.l
  lo : B ≤ x.g
  ne : x.v.ownBlock ≠ some x.g
def RwS.F (x : RwS) (k : Nat) : Prop := Fpt x.g x.v k
theorem One.low {T E : TypeId} {w : World} {B : Nat} {x : RwS} (h : One T E w B x) {k : Nat} (hk : x.F k) : B ≤ k := by
  rcases hk with e | e
  · rw [e]; exact h.lo
  · exact (World.ownsRow.lt h.r.2 k e).1
theorem One.lt {T E : TypeId} {w : World} {B : Nat} {x : RwS} (h : One T E w B x) {k : Nat} (hk : x.F k) : k < w.heap.size := by
  rcases hk with e | e
  · rw [e]; exact h.r.1.lt
  · exact (World.ownsRow.lt h.r.2 k e).2
theorem One.ch {T E : TypeId} {w w' : World} {B : Nat} {x : RwS} {S : Nat → Prop} (h : One T E w B x) (c : Ch w w' S) (hS : ∀ k, x.F k → ¬ S k) : One T E w' B x :=
  ⟨h.r.ch c hS, h.lo, h.ne⟩
theorem One.more {T E : TypeId} {w : World} {B B' : Nat} {x : RwS} (h : One T E w B x) (hB : B' ≤ B) : One T E w B' x :=
  ⟨⟨h.r.1, OwL.low h.r.2 hB⟩, Nat.le_trans hB h.lo, h.ne⟩
def Fam (T E : TypeId) (w : World) (B : Nat) : List RwS → Prop
  | [] => True
  | x :: r => One T E w B x ∧ (∀ y ∈ r, ∀ k, x.F k → ¬ y.F k) ∧ Fam T E w B r
section
variable {T E : TypeId} {w w' w0 : World} {B : Nat} {x y z : RwS} {r : List RwS} {S : Nat → Prop}
theorem Fam.one (h : Fam T E w B (x :: r)) : One T E w B x := h.1
theorem Fam.tail (h : Fam T E w B (x :: r)) : Fam T E w B r := h.2.2
theorem Fam.at_ : ∀ {r : List RwS}, Fam T E w B r → ∀ y ∈ r, One T E w B y
  | [], _, _, hy => by cases hy
  | x :: r, h, y, hy => by
    rcases List.mem_cons.1 hy with e | e
    · rw [e]; exact h.1
    · exact Fam.at_ h.2.2 y e
theorem Fam.ch : ∀ {r : List RwS}, Fam T E w B r → Ch w w' S → (∀ y ∈ r, ∀ k, y.F k → ¬ S k) → Fam T E w' B r
  | [], _, _, _ => trivial
  | x :: r, h, c, hS => ⟨h.1.ch c (hS x (by simp)), h.2.1, Fam.ch h.2.2 c fun y hy => hS y (List.mem_cons_of_mem _ hy)⟩
theorem Fam.below (h : Fam T E w B r) (hb : Below w.heap.size w w') : Fam T E w' B r := h.ch (Ch.of_below (S := fun _ => False) hb) (fun _ _ _ _ h => h)
theorem Fam.alloc (h : Fam T E w B r) (o : Obj) : Fam T E (w.alloc o) B r := h.ch ((Ch.refl w (S := fun _ => False)).alloc o) (fun _ _ _ _ h => h)
theorem Fam.drewN (h : Fam T E w B r) (n : Nat) : Fam T E (w.drewN n) B r := h.ch ((Ch.refl w (S := fun _ => False)).drewN n) (fun _ _ _ _ h => h)
theorem Fam.swap (h : Fam T E w B (x :: y :: r)) : Fam T E w B (y :: x :: r) :=
  ⟨h.2.2.1, fun u hu k hk hk2 => by
    rcases List.mem_cons.1 hu with e | e
    · rw [e] at hk2; exact h.2.1 y (by simp) k hk2 hk
    · exact h.2.2.2.1 u e k hk hk2, h.1, fun u hu => h.2.1 u (List.mem_cons_of_mem _ hu), h.2.2.2.2⟩
theorem Fam.swap2 (h : Fam T E w B (x :: y :: z :: r)) : Fam T E w B (x :: z :: y :: r) :=
  ⟨h.1, fun u hu => h.2.1 u (by simp only [List.mem_cons] at hu ⊢; rcases hu with e | e | e <;> simp [e]), Fam.swap h.2.2⟩
/-- The third comes to the front. -/
theorem Fam.third (h : Fam T E w B (x :: y :: z :: r)) : Fam T E w B (z :: x :: y :: r) := (h.swap2).swap
theorem Fam.back (h : Fam T E w B (z :: x :: y :: r)) : Fam T E w B (x :: y :: z :: r) := (h.swap).swap2
theorem Fam.drop2 (h : Fam T E w B (x :: y :: r)) : Fam T E w B (x :: r) := (h.swap).tail
/-- The first grows. -/
theorem Fam.step {v' : Value} {o' : List UInt8} (h : Fam T E w B (x :: r)) (hr : Rws T E w' B x.g v' o') (c : Ch w w' (Fpt x.g x.v)) (k : v'.ownBlock = x.v.ownBlock ∨ ∃ b, v'.ownBlock = some b ∧ w.heap.size ≤ b) : Fam T E w' B (⟨x.g, v', o'⟩ :: r) := by
  refine ⟨⟨hr, h.1.lo, ?_⟩, ?_, h.2.2.ch c fun y hy q hq hq2 => h.2.1 y hy q hq2 hq⟩
  · rcases k with e | ⟨b, e, hb⟩
    · rw [e]; exact h.1.ne
    · rw [e]; intro e2; injection e2 with e2
      have := h.1.r.1.lt
      show False
      have : b = x.g := e2
      omega
  · intro y hy q hq hy2
    rcases hq with e | e
    · exact h.2.1 y hy q (.inl e) hy2
    · have e : v'.ownBlock = some q := e
      rcases k with k | ⟨b, k, hb⟩
      · exact h.2.1 y hy q (.inr (k.symm.trans e)) hy2
      · rw [k] at e; injection e with e
        have := (h.2.2.at_ y hy).lt hy2
        omega
/-- Another comes in front, of new blocks. -/
theorem Fam.push (h : Fam T E w B r) (o : One T E w' B x) (c : Ch w w' S) (hS : ∀ y ∈ r, ∀ k, y.F k → ¬ S k) (hn : ∀ k, x.F k → w.heap.size ≤ k) : Fam T E w' B (x :: r) :=
  ⟨o, fun y hy k hk hk2 => by
    have := (h.at_ y hy).lt hk2
    have := hn k hk
    omega, h.ch c hS⟩
/-- What lies below stays, and what has turned lies above. -/
theorem Fam.low (h : Fam T E w B (x :: r)) (c : Ch w w' (Fpt x.g x.v)) (hb : Below B w0 w) (hz : B ≤ w.heap.size) : Below B w0 w' :=
  hb.trans (c.below hz fun _ hk hf => Nat.lt_irrefl _ (Nat.lt_of_lt_of_le hk (h.1.low hf)))
end
end Go.Proofs.YtnkdpchnighkfaaGreatDoor
namespace Go.Proofs.YtnkdpchnighkfaaGreatDoor
open Go.RowKit
section
variable {P : Program} {ops : Array Oper} {Q : Exit → Act → World → Prop}
/-- What an operation answers. -/
def OpAns (P : Program) (o : Oper) (ev : Operand → Value) (w : World) (R : Value → World → Prop) : Prop :=
  match (execOp ev o).run P w with
  | .ok (.value v) w' => R v w'
  | .ok .skip w' => R undef w'
  | .ok (.enter f args) w' => Calls P f args w' fun e w'' => ∃ v, e = .returned v ∧ R v w''
  | .ok (.row row args) w' => Rows P row args w' fun v w'' => R v w''
  | _ => False
theorem OpAns.mono {o : Oper} {ev : Operand → Value} {w : World} {R R' : Value → World → Prop} (h : OpAns P o ev w R) (hR : ∀ v w', R v w' → R' v w') : OpAns P o ev w R' := by
  unfold OpAns at *
  generalize (execOp ev o).run P w = r at *
  cases r with
  | ok n w' =>
    cases n <;> simp only at h ⊢
    case value v => exact hR _ _ h
    case skip => exact hR _ _ h
    case enter f args => exact h.mono fun e w'' ⟨v, he, hv⟩ => ⟨v, he, hR _ _ hv⟩
    case row row args => exact Rows.mono h fun v w'' hv => hR _ _ hv
  | halt x w' => exact h
theorem wpOp_ans {j : Nat} {o : Oper} (hj : ops[j]? = some o) (hg : o.guard = none) {a : Act} {w : World} {K : Act → World → Prop} (h : OpAns P o a.eval w (fun v w' => K (a.put o.dst v) w')) : wpOp P ops Q j K a w := by
  unfold wpOp
  simp only [hj]
  rw [if_pos (by simp [Region.wanted, hg])]
  refine .inl ?_
  unfold Oper.wp
  unfold OpAns at h
  generalize (execOp a.eval o).run P w = r at *
  cases r with
  | ok n w' =>
    cases n <;> simp only [Oper.upon] at h ⊢
    case value v => exact h
    case skip => exact h
    case enter f args => exact h.mono fun e w'' ⟨v, he, hv⟩ => by subst he; exact hv
    case row row args => exact Rows.mono h fun v w'' hv => hv
  | halt x w' => exact h.elim
/-- Whatever order is picked: an invariant that speaks of what has been done. -/
theorem wpAny_inv (I : (Nat → Bool) → Act → World → Prop)
    (htop : ∀ j o, ops[j]? = some o → ∀ e ∈ o.after, Region.binds .any e = true → e.on < j)
    (hstep : ∀ (d : Nat → Bool) (j : Nat) (o : Oper) (a : Act) (w : World), ops[j]? = some o → d j = false → (∀ i, ops.size ≤ i → d i = false) → (∀ e ∈ o.after, Region.binds .any e = true → d e.on = true) → I d a w →
      wpOp P ops Q j (fun a' w' => I (fun i => d i || i == j) a' w') a w)
    (hend : ∀ (d : Nat → Bool) (a : Act) (w : World), (∀ j, j < ops.size → d j = true) → I d a w → Q .normal a w) :
    ∀ (fuel : Nat) (listed : Array Bool) (a : Act) (w : World), listed.size = ops.size → (∀ L : List Nat, L.Nodup → (∀ i ∈ L, listed.getD i true = false) → L.length ≤ fuel) → I (fun i => listed.getD i false) a w →
      wpAny P .any ops Q fuel listed a w := by
  have none : ∀ listed : Array Bool, listed.size = ops.size → Region.ready .any ops listed = [] → ∀ j, j < ops.size → listed.getD j false = true := by
    intro listed hs hr j
    induction j using Nat.strongRecOn with
    | _ j ih =>
      intro hj
      cases hb : listed.getD j false with
      | true => rfl
      | false =>
        exfalso
        have : j ∈ Region.ready .any ops listed := by
          unfold Region.ready
          rw [List.mem_filter]
          refine ⟨List.mem_range.2 hj, ?_⟩
          have h1 : listed.getD j true = false := by
            have hj' : j < listed.size := by omega
            simp [Array.getD, hj'] at hb ⊢
            exact hb
          rw [h1, Array.getElem?_eq_getElem hj]
          simp only [Bool.not_false, Bool.true_and, Option.map_some, Option.getD_some, Array.all_eq_true_iff_forall_mem]
          intro e he
          cases hbd : Region.binds .any e with
          | false => rfl
          | true =>
            have hlt := htop j _ (Array.getElem?_eq_getElem hj) e he hbd
            rw [ih _ hlt (by omega)]; rfl
        rw [hr] at this
        cases this
  intro fuel
  induction fuel with
  | zero =>
    intro listed a w hs hL hI
    have hd : ∀ j, j < ops.size → listed.getD j false = true := by
      intro j hj
      cases hb : listed.getD j false with
      | true => rfl
      | false =>
        have hj' : j < listed.size := by omega
        have := hL [j] (by simp) (by intro i hi; simp at hi; subst hi; simp [Array.getD, hj'] at hb ⊢; exact hb)
        simp at this
    refine ⟨?_, hend _ a w hd hI⟩
    unfold Region.ready
    rw [List.filter_eq_nil_iff]
    intro i hi
    have hi := List.mem_range.1 hi
    have h1 := hd i hi
    have hi' : i < listed.size := by omega
    simp [Array.getD, hi'] at h1
    simp [Array.getD, hi', h1]
  | succ fuel ih =>
    intro listed a w hs hL hI
    refine ⟨fun hr => hend _ a w (none listed hs hr) hI, fun j hj => ?_⟩
    obtain ⟨h0, o, ho, hall⟩ := mem_ready.1 hj
    have hjn : j < ops.size := (Array.getElem?_eq_some_iff.1 ho).1
    have hjl : j < listed.size := by omega
    have hf : listed.getD j false = false := by simp [Array.getD, hjl] at h0 ⊢; exact h0
    refine wpOp_mono (fun a' w' h => ih (listed.setIfInBounds j true) a' w' (by simpa using hs) ?_ ?_) (hstep (fun i => listed.getD i false) j o a w ho hf (fun i hi => by simp [Array.getD, show ¬ i < listed.size by omega]) (fun e he hb => hall e he hb) hI)
    · intro L hn hm
      have hjL : j ∉ L := fun h => by
        have := hm j h
        simp [Array.getD, hjl] at this
      have := hL (j :: L) (List.nodup_cons.2 ⟨hjL, hn⟩) (fun i hi => by
        rcases List.mem_cons.1 hi with e | e
        · subst e; exact h0
        · have h2 := hm i e
          by_cases hij : j = i
          · subst hij; exact h0
          · rwa [getD_set_ne true hij] at h2)
      simp at this
      omega
    · have e : (fun i => (listed.setIfInBounds j true).getD i false) = fun i => listed.getD i false || i == j := by
        funext i
        by_cases hij : j = i
        · subst hij; simp [Array.getD, hjl]
        · have hij' : (i == j) = false := by simp; omega
          rw [hij', Bool.or_false]
          exact getD_set_ne false hij
      rw [e]
      exact h
end
end Go.Proofs.YtnkdpchnighkfaaGreatDoor
namespace Go.Proofs.YtnkdpchnighkfaaGreatDoor
open Go.RowKit
/-- The frame behind the operations of a list. -/
def putsL (l : List Oper) (v : Nat → Value) (a : Act) : List Nat → Act
  | [] => a
  | i :: r => (putsL l v a r).put ((l[i]?).bind (·.dst)) (v i)
/-- The frame behind those of the first k operations that are done. -/
def putsD (l : List Oper) (d : Nat → Bool) (v : Nat → Value) (a : Act) : Nat → Act
  | 0 => a
  | k + 1 => if d k then (putsD l d v a k).put ((l[k]?).bind (·.dst)) (v k) else putsD l d v a k
theorem putsD_congr {l : List Oper} {d d' : Nat → Bool} {v v' : Nat → Value} {a : Act} : ∀ k, (∀ i, i < k → d' i = d i ∧ v' i = v i) → putsD l d' v' a k = putsD l d v a k := by
  intro k
  induction k with
  | zero => intro _; rfl
  | succ k ih =>
    intro h
    unfold putsD
    rw [ih (fun i hi => h i (by omega)), (h k (by omega)).1, (h k (by omega)).2]
/-- No two operations put into the same slot. -/
def dstOf (l : List Oper) (i : Nat) : Option Tmp := (l[i]?).bind (·.dst)
def distinctD (l : List Oper) : Prop := ∀ i j, i < l.length → j < l.length → i ≠ j → ∀ t, dstOf l i = some t → dstOf l j ≠ some t
theorem putsD_add {l : List Oper} {d d' : Nat → Bool} {v v' : Nat → Value} {a : Act} {j : Nat} (hdis : distinctD l) (hj : j < l.length) (hdj : d j = false) (hd : ∀ i, d' i = (d i || i == j)) (hv : ∀ i, i ≠ j → v' i = v i) :
    ∀ k, j < k → k ≤ l.length → putsD l d' v' a k = (putsD l d v a k).put (dstOf l j) (v' j) := by
  intro k
  induction k with
  | zero => intro h; omega
  | succ k ih =>
    intro hjk hk
    unfold putsD
    by_cases e : j = k
    · subst e
      rw [hd j, hdj]
      simp only [Bool.false_or, beq_self_eq_true, if_true, Bool.false_eq_true, if_false]
      rw [putsD_congr (d := d) (v := v) j (fun i hi => ⟨by rw [hd i]; simp; omega, hv i (by omega)⟩)]
      rfl
    · rw [ih (by omega) (by omega), hd k]
      have : (k == j) = false := by simp; omega
      rw [this, Bool.or_false]
      cases hdk : d k with
      | false => simp
      | true =>
        simp only [if_true]
        rw [hv k (fun h => e h.symm)]
        exact Act.put_comm _ _ _ (fun t ht => hdis j k (by omega) (by omega) e t ht)
theorem putsD_none {l : List Oper} {v : Nat → Value} {a : Act} : ∀ k, putsD l (fun _ => false) v a k = a := by
  intro k
  induction k with
  | zero => rfl
  | succ k ih => unfold putsD; simpa using ih
theorem putsD_size {l : List Oper} {d : Nat → Bool} {v : Nat → Value} {a : Act} : ∀ k, (putsD l d v a k).tmps.size = a.tmps.size := by
  intro k
  induction k with
  | zero => rfl
  | succ k ih =>
    unfold putsD
    split
    · rw [← ih]; unfold Act.put; cases (l[k]?).bind (·.dst) <;> simp
    · exact ih
theorem putsL_size {l : List Oper} {v : Nat → Value} {a : Act} : ∀ ds, (putsL l v a ds).tmps.size = a.tmps.size := by
  intro ds
  induction ds with
  | nil => rfl
  | cons i r ih => unfold putsL; rw [← ih]; unfold Act.put; cases (l[i]?).bind (·.dst) <;> simp
theorem eval_put_same {a : Act} {t : Tmp} {v : Value} (h : t < a.tmps.size) : (a.put (some t) v).eval (.tmp t) = v := by
  simp [Act.put, Act.eval, h]
theorem putsD_hit {l : List Oper} {d : Nat → Bool} {v : Nat → Value} {a : Act} {i : Nat} {t : Tmp} (hdis : distinctD l) (hi : i < l.length) (hd : d i = true) (ht : dstOf l i = some t) (hs : t < a.tmps.size) :
    ∀ k, i < k → k ≤ l.length → (putsD l d v a k).eval (.tmp t) = v i := by
  intro k
  induction k with
  | zero => intro h; omega
  | succ k ih =>
    intro hik hk
    unfold putsD
    by_cases e : i = k
    · subst e
      rw [hd, if_pos rfl, show (l[i]?).bind (·.dst) = some t from ht]
      exact eval_put_same (by rw [putsD_size]; exact hs)
    · cases hdk : d k with
      | false => simp only [Bool.false_eq_true, if_false]; exact ih (by omega) (by omega)
      | true =>
        simp only [if_true]
        rw [Act.eval_put (fun t' ht' => by
          intro h; injection h with h; subst h
          exact hdis i k hi (by omega) e _ ht ht')]
        exact ih (by omega) (by omega)
theorem putsD_miss {l : List Oper} {d : Nat → Bool} {v : Nat → Value} {a : Act} {x : Operand} : ∀ k, (∀ i, i < k → d i = true → ∀ t, dstOf l i = some t → x ≠ .tmp t) → (putsD l d v a k).eval x = a.eval x := by
  intro k
  induction k with
  | zero => intro _; rfl
  | succ k ih =>
    intro h
    unfold putsD
    cases hdk : d k with
    | false => simp only [Bool.false_eq_true, if_false]; exact ih (fun i hi => h i (by omega))
    | true =>
      simp only [if_true]
      exact (Act.eval_put (dst := (l[k]?).bind (·.dst)) (fun t ht => h k (by omega) hdk t ht)).trans (ih (fun i hi => h i (by omega)))
theorem putsL_hit {l : List Oper} {v : Nat → Value} {a : Act} {i : Nat} {t : Tmp} (hdis : distinctD l) (ht : dstOf l i = some t) (hs : t < a.tmps.size) :
    ∀ ds : List Nat, (∀ j ∈ ds, j < l.length) → i ∈ ds → (putsL l v a ds).eval (.tmp t) = v i := by
  intro ds
  induction ds with
  | nil => intro _ h; cases h
  | cons k r ih =>
    intro hb hi
    unfold putsL
    by_cases e : i = k
    · subst e
      rw [show (l[i]?).bind (·.dst) = some t from ht]
      exact eval_put_same (by rw [putsL_size]; exact hs)
    · have hir : i ∈ r := by rcases List.mem_cons.1 hi with h | h; exact absurd h e; exact h
      rw [Act.eval_put (fun t' ht' => by
        intro h; injection h with h; subst h
        exact hdis i k (hb i hi) (hb k (by simp)) e _ ht ht')]
      exact ih (fun j hj => hb j (List.mem_cons_of_mem _ hj)) hir
theorem putsL_miss {l : List Oper} {v : Nat → Value} {a : Act} {x : Operand} : ∀ ds : List Nat, (∀ i ∈ ds, ∀ t, dstOf l i = some t → x ≠ .tmp t) → (putsL l v a ds).eval x = a.eval x := by
  intro ds
  induction ds with
  | nil => intro _; rfl
  | cons k r ih =>
    intro h
    unfold putsL
    exact (Act.eval_put (dst := (l[k]?).bind (·.dst)) (fun t ht => h k (by simp) t ht)).trans (ih (fun i hi => h i (List.mem_cons_of_mem _ hi)))
/-- The frame behind the operations of a list, their slots told. -/
def putsF (dst : Nat → Option Tmp) (v : Nat → Value) (a : Act) : List Nat → Act
  | [] => a
  | i :: r => (putsF dst v a r).put (dst i) (v i)
theorem putsF_eq {l : List Oper} {dst : Nat → Option Tmp} {v : Nat → Value} {a : Act} : ∀ ds : List Nat, (∀ i ∈ ds, dst i = dstOf l i) → putsF dst v a ds = putsL l v a ds := by
  intro ds
  induction ds with
  | nil => intro _; rfl
  | cons i r ih =>
    intro h
    unfold putsF putsL
    rw [ih (fun j hj => h j (List.mem_cons_of_mem _ hj)), h i (by simp)]
    rfl
theorem putsF_all {l : List Oper} {dst : Nat → Option Tmp} {v : Nat → Value} {a : Act} : ∀ k, (∀ i, i < k → dst i = dstOf l i) → putsD l (fun _ => true) v a k = putsF dst v a (List.range k).reverse := by
  intro k
  induction k with
  | zero => intro _; rfl
  | succ k ih =>
    intro h
    rw [List.range_succ, List.reverse_append]
    show putsD l (fun _ => true) v a (k + 1) = (putsF dst v a (List.range k).reverse).put (dst k) (v k)
    rw [← ih (fun i hi => h i (by omega)), h k (by omega)]
    conv => lhs; unfold putsD
    exact if_pos rfl
/-- What an answer owns, said of an earlier world; nothing of it has turned since. -/
def Live (F : Value → (Nat → Prop) → World → Prop) (v : Value) (S : Nat → Prop) (w : World) : Prop :=
  ∃ w1, F v S w1 ∧ (∀ k, S k → k < w1.heap.size) ∧ Ch w1 w (fun k => ¬ S k)
theorem Live.ch {F : Value → (Nat → Prop) → World → Prop} {v : Value} {S U : Nat → Prop} {w w' : World} (h : Live F v S w) (c : Ch w w' U) (hd : ∀ k, S k → ¬ U k) : Live F v S w' := by
  obtain ⟨w1, h1, h2, h3⟩ := h
  exact ⟨w1, h1, h2, h3.trans c (fun k _ hu hs => hd k hs hu)⟩
theorem Live.lt {F : Value → (Nat → Prop) → World → Prop} {v : Value} {S : Nat → Prop} {w : World} (h : Live F v S w) {k : Nat} (hk : S k) : k < w.heap.size := by
  obtain ⟨w1, _, h2, h3⟩ := h
  exact Nat.lt_of_lt_of_le (h2 k hk) h3.size
/-- One operation's step: ds the operations that it looks at, us these and what it uses up besides. -/
def StepR (P : Program) (dst : Nat → Option Tmp) (F : Nat → Value → (Nat → Prop) → World → Prop) (cons : Nat → Nat) (U : Nat → Prop) (w0 : World) (a0 : Act) (ds us : List Nat) (j : Nat) (o : Oper) : Prop :=
  ∀ (v : Nat → Value) (S : Nat → Nat → Prop) (w : World), Ch w0 w U → (∀ i ∈ us, Live (F i) (v i) (S i) w) → (∀ i ∈ us, ∀ k, S i k → U k ∨ w0.heap.size ≤ k) → (∀ i ∈ us, ∀ i' ∈ us, i ≠ i' → ∀ k, S i k → ¬ S i' k) →
    ∀ Q : Exit → Act → World → Prop, (∀ x T w' a, a = (putsF dst v a0 ds).put o.dst x → F j x T w' → (∀ k, T k → k < w'.heap.size) → Ch w w' (fun k => ∃ i, i ∈ us ∧ cons i = j ∧ S i k) → (∀ k, T k → (∃ i, i ∈ us ∧ cons i = j ∧ S i k) ∨ w.heap.size ≤ k) → Q .normal a w') →
      wpList P #[] Q [o] (putsF dst v a0 ds) w
def StepsR (P : Program) (dst : Nat → Option Tmp) (F : Nat → Value → (Nat → Prop) → World → Prop) (cons : Nat → Nat) (U : Nat → Prop) (w0 : World) (a0 : Act) (D I : List (List Nat)) : Nat → List Oper → Prop
  | _, [] => True
  | j, o :: r => StepR P dst F cons U w0 a0 (D.getD j []) (D.getD j [] ++ I.getD j []) j o ∧ StepsR P dst F cons U w0 a0 D I (j + 1) r
theorem StepsR.at_ {P : Program} {dst : Nat → Option Tmp} {F : Nat → Value → (Nat → Prop) → World → Prop} {cons : Nat → Nat} {U : Nat → Prop} {w0 : World} {a0 : Act} {D I : List (List Nat)} : ∀ (r : List Oper) (j : Nat), StepsR P dst F cons U w0 a0 D I j r → ∀ k o, r[k]? = some o → StepR P dst F cons U w0 a0 (D.getD (j + k) []) (D.getD (j + k) [] ++ I.getD (j + k) []) (j + k) o := by
  intro r
  induction r with
  | nil => intro j _ k o h; simp at h
  | cons o' r ih =>
    intro j h k o hk
    cases k with
    | zero => simp at hk; subst hk; exact h.1
    | succ k => have := ih (j + 1) h.2 k o (by simpa using hk); rwa [show j + 1 + k = j + (k + 1) by omega] at this
/-- The checks on a region that is written out. -/
def bindsB (o : Oper) (i : Nat) : Bool := o.after.any fun e => Region.binds .any e && e.on == i
def goodB (l : List Oper) (D I : List (List Nat)) (cons : Nat → Nat) (sz : Nat) : Bool :=
  (List.range l.length).all fun j =>
    match l[j]? with
    | none => false
    | some o =>
      o.guard.isNone && (match o.op with | .select _ _ => false | _ => true) &&
      (match o.dst with | some t => decide (t < sz) | none => true) &&
      (o.after.all fun e => !Region.binds .any e || decide (e.on < j)) &&
      ((List.range l.length).all fun i => i == j || (match dstOf l i, dstOf l j with | some t, some t' => !(t == t') | _, _ => true)) &&
      ((D.getD j []).all fun i => decide (i < l.length) && bindsB o i && (cons i == j || decide (l.length < cons i))) &&
      ((I.getD j []).all fun i => i == l.length && cons i == j) &&
      ((List.range (l.length + 1)).all fun i => !(cons i == j) || (D.getD j [] ++ I.getD j []).contains i) &&
      (o.op.operands.toList.all fun x => match x with | .tmp t => (List.range l.length).all fun i => !(dstOf l i == some t) || (D.getD j []).contains i | _ => true)
section
variable {P : Program} {Q : Exit → Act → World → Prop}
theorem put_eq_of {a a' : Act} {dst : Option Tmp} {v x : Value} (hs : a.tmps.size = a'.tmps.size) (h : ∀ t, dst = some t → t < a.tmps.size) (e : a'.put dst v = a'.put dst x) : a.put dst v = a.put dst x := by
  cases dst with
  | none => rfl
  | some t =>
    have ht := h t rfl
    have h1 := eval_put_same (a := a') (t := t) (v := v) (hs ▸ ht)
    have h2 := eval_put_same (a := a') (t := t) (v := x) (hs ▸ ht)
    rw [e, h2] at h1
    rw [h1]
theorem ans_of_wpList {o : Oper} {a' : Act} {w : World} {R : Value → World → Prop} (hg : o.guard = none)
    (h : wpList P #[] (fun e a'' w' => e = .normal ∧ ∃ x, R x w' ∧ a'' = a'.put o.dst x) [o] a' w) : OpAns P o a'.eval w (fun v w' => ∃ x, R x w' ∧ a'.put o.dst v = a'.put o.dst x) := by
  unfold wpList at h
  rw [if_pos (by simp [Region.wanted, hg])] at h
  rcases h with h | ⟨_, _, _, h⟩
  · unfold Oper.wp at h
    unfold OpAns
    generalize (execOp a'.eval o).run P w = r at *
    cases r with
    | ok n w' =>
      cases n <;> simp only [Oper.upon] at h ⊢
      case value v => exact h.2
      case skip => exact h.2
      case defer d =>
        obtain ⟨_, x, _, e⟩ := h
        have := congrArg (fun a : Act => a.defers.length) e
        exact absurd this (by unfold Act.put; cases o.dst <;> simp)
      case enter f args =>
        refine h.mono fun e w'' he => ?_
        cases e with
        | returned v => exact ⟨v, rfl, he.2⟩
        | panicked c => exact absurd he.1 (by simp)
        | outgrown => obtain ⟨_, _, h1, _⟩ := he; exact absurd h1 (by simp)
      case row row args => exact h.mono fun v w'' he => he.2
    | halt x w' =>
      cases x <;> simp only [Oper.upon] at h
      case panic u => exact absurd h.1 (by simp)
  · exact absurd h (by simp)
theorem goodB_at {l : List Oper} {D I : List (List Nat)} {cons : Nat → Nat} {sz j : Nat} {o : Oper} (h : goodB l D I cons sz = true) (hj : l[j]? = some o) :
    o.guard = none ∧ (∀ cs b, o.op ≠ .select cs b) ∧ (∀ t, o.dst = some t → t < sz) ∧ (∀ e ∈ o.after, Region.binds .any e = true → e.on < j) ∧
      (∀ i, i < l.length → i ≠ j → ∀ t, dstOf l i = some t → dstOf l j ≠ some t) ∧
      (∀ i ∈ D.getD j [], i < l.length ∧ bindsB o i = true ∧ (cons i = j ∨ l.length < cons i)) ∧ (∀ i ∈ I.getD j [], i = l.length ∧ cons i = j) ∧
      (∀ i, i ≤ l.length → cons i = j → i ∈ D.getD j [] ++ I.getD j []) ∧
      (∀ x ∈ o.op.operands, ∀ t, x = .tmp t → ∀ i, i < l.length → dstOf l i = some t → i ∈ D.getD j []) := by
  have hjl : j < l.length := (List.getElem?_eq_some_iff.1 hj).1
  unfold goodB at h
  have h := List.all_eq_true.1 h j (List.mem_range.2 hjl)
  simp only [hj, Bool.and_eq_true] at h
  obtain ⟨⟨⟨⟨⟨⟨⟨⟨h1, h2⟩, h3⟩, h4⟩, h5⟩, h6⟩, h7⟩, h8⟩, h9⟩ := h
  refine ⟨by simpa using h1, ?_, ?_, ?_, ?_, ?_, ?_, ?_, ?_⟩
  · intro cs b e
    rw [e] at h2
    simp at h2
  · intro t e
    rw [e] at h3
    simpa using h3
  · intro e he hb
    have := Array.all_eq_true_iff_forall_mem.1 h4 e he
    simpa [hb] using this
  · intro i hi hij t ht ht'
    have := List.all_eq_true.1 h5 i (List.mem_range.2 hi)
    rw [ht, ht'] at this
    simp [hij] at this
  · intro i hi
    have := List.all_eq_true.1 h6 i hi
    simp only [Bool.and_eq_true, Bool.or_eq_true, decide_eq_true_eq, beq_iff_eq] at this
    exact ⟨this.1.1, this.1.2, this.2⟩
  · intro i hi
    have := List.all_eq_true.1 h7 i hi
    simpa using this
  · intro i hi hc
    have := List.all_eq_true.1 h8 i (List.mem_range.2 (by omega))
    rw [List.contains_eq_mem] at this
    simpa [hc] using this
  · intro x hx t e i hi ht
    have := List.all_eq_true.1 h9 x (by simpa using hx)
    subst e
    have := List.all_eq_true.1 this i (List.mem_range.2 hi)
    rw [List.contains_eq_mem] at this
    simpa [ht] using this
theorem goodB_distinct {l : List Oper} {D I : List (List Nat)} {cons : Nat → Nat} {sz : Nat} (h : goodB l D I cons sz = true) : distinctD l := by
  intro i j hi hj hij t ht
  have hj' : l[j]? = some l[j] := List.getElem?_eq_getElem hj
  exact (goodB_at h hj').2.2.2.2.1 i hi hij t ht
theorem OpAns.of_eval {o : Oper} {ev ev' : Operand → Value} {w : World} {R : Value → World → Prop} (h : OpAns P o ev w R) (e : execOp ev o = execOp ev' o) : OpAns P o ev' w R := by
  unfold OpAns at *
  rwa [← e]
/-- A region that draws its order, by what each operation's answer owns. -/
theorem wp_region_res {l : List Oper} {id : Nat} {a0 : Act} {w0 : World} (hm : P.follows .mixedOrders = true) (dst : Nat → Option Tmp) (hdst : ((List.range l.length).all fun i => dst i == dstOf l i) = true) (F : Nat → Value → (Nat → Prop) → World → Prop) (cons : Nat → Nat) (U : Nat → Prop) (D I : List (List Nat)) (hgood : goodB l D I cons a0.tmps.size = true)
    (v0 : Value) (S0 : Nat → Prop) (h0 : F l.length v0 S0 w0) (h0l : ∀ k, S0 k → k < w0.heap.size) (h0U : ∀ k, S0 k → U k)
    (hsteps : StepsR P dst F cons U w0 a0 D I 0 l)
    (hend : ∀ (v : Nat → Value) (S : Nat → Nat → Prop) (w : World), Ch w0 w U → (∀ i, i ≤ l.length → l.length < cons i → Live (F i) (v i) (S i) w ∧ ∀ k, S i k → U k ∨ w0.heap.size ≤ k) →
      (∀ i i', i ≤ l.length → i' ≤ l.length → l.length < cons i → l.length < cons i' → i ≠ i' → ∀ k, S i k → ¬ S i' k) → Q .normal (putsF dst v a0 (List.range l.length).reverse) w) :
    (Code.region id l.toArray true).wp P Q a0 w0 := by
  have hdis := goodB_distinct hgood
  have hds' : ∀ i, i < l.length → dst i = dstOf l i := fun i hi => by simpa using List.all_eq_true.1 hdst i (List.mem_range.2 hi)
  refine wp_region_any hm ?_
  refine wpAny_inv (ops := l.toArray) (I := fun d a w => ∃ (v : Nat → Value) (S : Nat → Nat → Prop), (∀ i, l.length ≤ i → d i = false) ∧ a = putsD l d v a0 l.length ∧ Ch w0 w U ∧
      (∀ i, i ≤ l.length → (i = l.length ∨ d i = true) → d (cons i) = false → Live (F i) (v i) (S i) w ∧ ∀ k, S i k → U k ∨ w0.heap.size ≤ k) ∧
      (∀ i i', i ≤ l.length → i' ≤ l.length → (i = l.length ∨ d i = true) → (i' = l.length ∨ d i' = true) → d (cons i) = false → d (cons i') = false → i ≠ i' → ∀ k, S i k → ¬ S i' k)) ?_ ?_ ?_ _ _ _ _ ?_ ?_ ?_
  · intro j o hj e he hb
    exact (goodB_at hgood (by simpa using hj)).2.2.2.1 e he hb
  · rintro d j o a w hj hdj hdb hdep ⟨v, S, _, rfl, HC, HL, HD⟩
    have hj : l[j]? = some o := by simpa using hj
    have hjl : j < l.length := (List.getElem?_eq_some_iff.1 hj).1
    have hdst : dstOf l j = o.dst := by unfold dstOf; rw [hj]; rfl
    have hdb : ∀ i, l.length ≤ i → d i = false := fun i hi => hdb i (by simpa using hi)
    obtain ⟨g1, g2, g3, g4, g5, g6, g7, g8, g9⟩ := goodB_at hgood hj
    have hds : ∀ i ∈ D.getD j [], i < l.length ∧ d i = true ∧ d (cons i) = false := by
      intro i hi
      obtain ⟨q1, q2, q3⟩ := g6 i hi
      refine ⟨q1, ?_, ?_⟩
      · unfold bindsB at q2
        rw [← Array.any_toList, List.any_eq_true] at q2
        obtain ⟨e, he, q⟩ := q2
        have he : e ∈ o.after := by simpa using he
        simp only [Bool.and_eq_true, beq_iff_eq] at q
        have := hdep e he q.1
        rwa [q.2] at this
      · rcases q3 with q3 | q3
        · rw [q3]; exact hdj
        · exact hdb _ (by omega)
    have hus : ∀ i ∈ D.getD j [] ++ I.getD j [], i ≤ l.length ∧ (i = l.length ∨ d i = true) ∧ d (cons i) = false := by
      intro i hi
      rcases List.mem_append.1 hi with hi | hi
      · obtain ⟨q1, q2, q3⟩ := hds i hi
        exact ⟨by omega, .inr q2, q3⟩
      · obtain ⟨q1, q2⟩ := g7 i hi
        exact ⟨by omega, .inl q1, by rw [q2]; exact hdj⟩
    have hst := StepsR.at_ l 0 hsteps j o hj
    rw [Nat.zero_add] at hst
    have hpf : putsF dst v a0 (D.getD j []) = putsL l v a0 (D.getD j []) := putsF_eq (D.getD j []) (fun i hi => hds' i (hds i hi).1)
    have h1 := hst v S w HC (fun i hi => (HL i (hus i hi).1 (hus i hi).2.1 (hus i hi).2.2).1) (fun i hi => (HL i (hus i hi).1 (hus i hi).2.1 (hus i hi).2.2).2)
      (fun i hi i' hi' hne => HD i i' (hus i hi).1 (hus i' hi').1 (hus i hi).2.1 (hus i' hi').2.1 (hus i hi).2.2 (hus i' hi').2.2 hne)
      (fun e a'' w' => e = .normal ∧ ∃ x, (∃ T, F j x T w' ∧ (∀ k, T k → k < w'.heap.size) ∧ Ch w w' (fun k => ∃ i, i ∈ D.getD j [] ++ I.getD j [] ∧ cons i = j ∧ S i k) ∧ (∀ k, T k → (∃ i, i ∈ D.getD j [] ++ I.getD j [] ∧ cons i = j ∧ S i k) ∨ w.heap.size ≤ k)) ∧ a'' = (putsL l v a0 (D.getD j [])).put o.dst x)
      (fun x T w' a' pa p1 p2 p3 p4 => ⟨rfl, x, ⟨T, p1, p2, p3, p4⟩, by rw [pa, hpf]⟩)
    rw [hpf] at h1
    have h2 := ans_of_wpList (R := fun x w' => ∃ T, F j x T w' ∧ (∀ k, T k → k < w'.heap.size) ∧ Ch w w' (fun k => ∃ i, i ∈ D.getD j [] ++ I.getD j [] ∧ cons i = j ∧ S i k) ∧ (∀ k, T k → (∃ i, i ∈ D.getD j [] ++ I.getD j [] ∧ cons i = j ∧ S i k) ∨ w.heap.size ≤ k)) g1 h1
    have hev : execOp (putsL l v a0 (D.getD j [])).eval o = execOp (putsD l d v a0 l.length).eval o := by
      refine execOp_congr o g2 fun x hx => ?_
      by_cases hx2 : ∃ t i, x = .tmp t ∧ i < l.length ∧ dstOf l i = some t
      · obtain ⟨t, i, rfl, hi, ht⟩ := hx2
        have hiD := g9 _ hx t rfl i hi ht
        have hts : t < a0.tmps.size := (goodB_at hgood (List.getElem?_eq_getElem hi)).2.2.1 t (by unfold dstOf at ht; rw [List.getElem?_eq_getElem hi] at ht; exact ht)
        rw [putsL_hit hdis ht hts _ (fun k hk => (hds k hk).1) hiD, putsD_hit hdis hi (hds i hiD).2.1 ht hts _ hi (Nat.le_refl _)]
      · rw [putsL_miss _ (fun i hi t ht e => hx2 ⟨t, i, e, (hds i hi).1, ht⟩), putsD_miss _ (fun i hi _ t ht e => hx2 ⟨t, i, e, hi, ht⟩)]
    refine wpOp_ans (by simpa using hj) g1 ((h2.of_eval hev).mono ?_)
    rintro u w' ⟨x, ⟨T, p1, p2, p3, p4⟩, pe⟩
    have pe2 := put_eq_of (a := putsD l d v a0 l.length) (a' := putsL l v a0 (D.getD j [])) (by rw [putsD_size, putsL_size]) (fun t ht => by rw [putsD_size]; exact g3 t ht) pe
    rw [pe2]
    have hcu : ∀ i k, i ∈ D.getD j [] ++ I.getD j [] → S i k → U k ∨ w0.heap.size ≤ k := fun i k hi => (HL i (hus i hi).1 (hus i hi).2.1 (hus i hi).2.2).2 k
    have hap : ∀ i, i ≤ l.length → (i = l.length ∨ d i = true) → d (cons i) = false → cons i ≠ j → ∀ k, S i k → ¬ ∃ i', i' ∈ D.getD j [] ++ I.getD j [] ∧ cons i' = j ∧ S i' k := by
      rintro i hi hl hc hcj k hk ⟨i', hi', hc', hk'⟩
      have hne : i ≠ i' := by rintro rfl; exact hcj hc'
      exact HD i i' hi (hus i' hi').1 hl (hus i' hi').2.1 hc (hus i' hi').2.2 hne k hk hk'
    have hor : ∀ i, i ≠ j → (i = l.length ∨ (d i || i == j) = true) → (i = l.length ∨ d i = true) := by
      intro i hi h
      have : (i == j) = false := by simpa using hi
      rwa [this, Bool.or_false] at h
    have hcf : ∀ i, (d (cons i) || cons i == j) = false → d (cons i) = false ∧ cons i ≠ j := by
      intro i h
      simpa using h
    refine ⟨fun i => if i = j then x else v i, fun i => if i = j then T else S i, ?_, ?_, ?_, ?_, ?_⟩
    · intro i hi
      have : (i == j) = false := by simp; omega
      show (d i || i == j) = false
      rw [this, hdb i hi]; rfl
    · have := putsD_add (l := l) (d := d) (d' := fun i => d i || i == j) (v := v) (v' := fun i => if i = j then x else v i) (a := a0) (j := j) hdis hjl hdj (fun _ => rfl) (fun i hi => by simp [hi]) l.length hjl (Nat.le_refl _)
      rw [this, hdst]
      simp
    · exact HC.trans p3 (fun k hk ⟨i, hi, _, hs⟩ => by
        rcases hcu i k hi hs with h | h
        · exact h
        · omega)
    · intro i hi hl hc
      obtain ⟨hc1, hc2⟩ := hcf i hc
      by_cases e : i = j
      · subst e
        simp only [if_true]
        refine ⟨⟨w', p1, p2, Ch.refl _⟩, fun k hk => ?_⟩
        rcases p4 k hk with ⟨i', hi', _, hs⟩ | h
        · exact hcu i' k hi' hs
        · have := HC.size; exact .inr (by omega)
      · simp only [if_neg e]
        have hl := hor i e hl
        exact ⟨(HL i hi hl hc1).1.ch p3 (hap i hi hl hc1 hc2), (HL i hi hl hc1).2⟩
    · have side : ∀ i, i ≤ l.length → i ≠ j → (i = l.length ∨ (d i || i == j) = true) → (d (cons i) || cons i == j) = false → ∀ k, T k → ¬ S i k := by
        intro i hi e hl hc k hk hs
        obtain ⟨hc1, hc2⟩ := hcf i hc
        have hl := hor i e hl
        rcases p4 k hk with h | h
        · exact hap i hi hl hc1 hc2 k hs h
        · have := (HL i hi hl hc1).1.lt hs; omega
      intro i i' hi hi' hl hl' hc hc' hne k
      by_cases e : i = j
      · have e' : i' ≠ j := fun h => hne (e.trans h.symm)
        simp only [if_pos e, if_neg e']
        exact side i' hi' e' hl' hc' k
      · by_cases e' : i' = j
        · simp only [if_neg e, if_pos e']
          exact fun hs ht => side i hi e hl hc k ht hs
        · simp only [if_neg e, if_neg e']
          exact HD i i' hi hi' (hor i e hl) (hor i' e' hl') (hcf i hc).1 (hcf i' hc').1 hne k
  · rintro d a w hd ⟨v, S, hdb, rfl, HC, HL, HD⟩
    have hd : ∀ j, j < l.length → d j = true := fun j hj => hd j (by simpa using hj)
    have hor : ∀ i, i ≤ l.length → (i = l.length ∨ d i = true) := fun i hi => by
      rcases Nat.lt_or_eq_of_le hi with h | h
      · exact .inr (hd i h)
      · exact .inl h
    rw [← putsD_congr (d := d) (d' := fun _ => true) (v := v) (v' := v) l.length (fun i hi => ⟨(hd i hi).symm, rfl⟩), putsF_all l.length hds']
    exact hend v S w HC (fun i hi hc => HL i hi (hor i hi) (hdb _ (by omega))) (fun i i' hi hi' hc hc' => HD i i' hi hi' (hor i hi) (hor i' hi') (hdb _ (by omega)) (hdb _ (by omega)))
  · simp
  · intro L hn hm'
    have : ∀ i ∈ L, i < l.length := by
      intro i hi
      have := hm' i hi
      by_cases h : i < l.length
      · exact h
      · simp [Array.getD, h] at this
    have hsub := List.Nodup.length_le_of_subset hn (show L ⊆ List.range l.length from fun i hi => List.mem_range.2 (this i hi))
    simpa using hsub
  · refine ⟨fun _ => v0, fun i => if i = l.length then S0 else fun _ => False, ?_, ?_, (Ch.refl w0).drewN 1, ?_, ?_⟩
    · intro i hi
      simp [Array.getD]
    · rw [putsD_congr (d := fun _ => false) (v := fun _ => v0) l.length (fun i hi => ⟨by simp [Array.getD], rfl⟩)]
      exact (putsD_none l.length).symm
    · intro i hi hl _
      have e : i = l.length := by
        rcases hl with e | e
        · exact e
        · simp [Array.getD] at e
      subst e
      simp only [if_true]
      exact ⟨⟨w0, h0, h0l, (Ch.refl w0).drewN 1⟩, fun k hk => .inl (h0U k hk)⟩
    · intro i i' hi hi' hl hl' _ _ hne
      have e : ∀ i, (i = l.length ∨ (Array.replicate l.toArray.size false).getD i false = true) → i = l.length := fun i hl => by
        rcases hl with e | e
        · exact e
        · simp [Array.getD] at e
      exact absurd ((e i hl).trans (e i' hl').symm) hne
end
end Go.Proofs.YtnkdpchnighkfaaGreatDoor
namespace Go.Proofs.YtnkdpchnighkfaaGreatDoor
open Go.RowKit
def fNo : Nat → Prop := fun _ => False
def fPure (u : Value) (x : Value) (S : Nat → Prop) (_ : World) : Prop := x = u ∧ S = fNo
def fRow (xs : List Int) (n : Nat) (x : Value) (S : Nat → Prop) (w : World) : Prop := ∃ g, x = .slice (some ⟨g, 0, none⟩) n n ∧ S = (fun k => k = g) ∧ RL iV w (g + 1) (some ⟨g, 0, none⟩) xs
def fCell (u : Value) (x : Value) (S : Nat → Prop) (w : World) : Prop := ∃ g, x = .slice (some ⟨g, 0, none⟩) 1 1 ∧ S = (fun k => k = g) ∧ w.cell? ⟨g, 0, none⟩ = some u
def fRws (T E : TypeId) (B : Nat) (l : List UInt8) (x : Value) (S : Nat → Prop) (w : World) : Prop := ∃ g v, x = .pointer (some ⟨g, 0, none⟩) ∧ S = Fpt g v ∧ One T E w B ⟨g, v, l⟩
def fRwA (T E : TypeId) (B g : Nat) (l : List UInt8) (x : Value) (S : Nat → Prop) (w : World) : Prop := ∃ v, x = .pointer (some ⟨g, 0, none⟩) ∧ S = Fpt g v ∧ One T E w B ⟨g, v, l⟩
def fRwI (T E : TypeId) (B g : Nat) (v : Value) (l : List UInt8) (_ : Value) (S : Nat → Prop) (w : World) : Prop := S = Fpt g v ∧ One T E w B ⟨g, v, l⟩
section
variable {u x : Value} {S : Nat → Prop} {w : World} {xs : List Int} {n B : Nat} {T E : TypeId} {l : List UInt8}
theorem Live.pure (h : Live (fPure u) x S w) : x = u := by obtain ⟨_, h, _⟩ := h; exact h.1
theorem Live.row (h : Live (fRow xs n) x S w) : ∃ g, x = .slice (some ⟨g, 0, none⟩) n n ∧ S = (fun k => k = g) ∧ Bx (RL iV w w.heap.size (some ⟨g, 0, none⟩) xs) ∧ Bx (g < w.heap.size) := by
  obtain ⟨w1, ⟨g, e, s, r⟩, z, c⟩ := h
  have hg : g < w1.heap.size := z g (by rw [s])
  refine ⟨g, e, s, bx ((RL.ch r c (by omega) (fun ad ha hn => hn ?_)).more (by have := c.size; omega)), bx (by have := c.size; omega)⟩
  injection ha with ha
  rw [s, ← ha]
theorem Live.cell (h : Live (fCell u) x S w) : ∃ g, x = .slice (some ⟨g, 0, none⟩) 1 1 ∧ Bx (w.cell? ⟨g, 0, none⟩ = some u) := by
  obtain ⟨w1, ⟨g, e, s, r⟩, z, c⟩ := h
  have hg : g < w1.heap.size := z g (by rw [s])
  exact ⟨g, e, bx ((cell_same (c.same g hg (fun hn => hn (by rw [s])))).trans r)⟩
theorem Live.rws (h : Live (fRws T E B l) x S w) : ∃ g v, x = .pointer (some ⟨g, 0, none⟩) ∧ S = Fpt g v ∧ Bx (One T E w B ⟨g, v, l⟩) := by
  obtain ⟨w1, ⟨g, v, e, s, r⟩, z, c⟩ := h
  exact ⟨g, v, e, s, bx (r.ch c (fun k hk hn => hn (by rw [s]; exact hk)))⟩
theorem Live.rwa {g : Nat} (h : Live (fRwA T E B g l) x S w) : ∃ v, x = .pointer (some ⟨g, 0, none⟩) ∧ S = Fpt g v ∧ Bx (One T E w B ⟨g, v, l⟩) := by
  obtain ⟨w1, ⟨v, e, s, r⟩, z, c⟩ := h
  exact ⟨v, e, s, bx (r.ch c (fun k hk hn => hn (by rw [s]; exact hk)))⟩
theorem Live.rwi {g : Nat} {v : Value} (h : Live (fRwI T E B g v l) x S w) : S = Fpt g v ∧ Bx (One T E w B ⟨g, v, l⟩) := by
  obtain ⟨w1, ⟨s, r⟩, z, c⟩ := h
  exact ⟨s, bx (r.ch c (fun k hk hn => hn (by rw [s]; exact hk)))⟩
variable {Fj : Value → (Nat → Prop) → World → Prop} {C : Nat → Prop} {Q : Exit → Act → World → Prop} {A : Value → Act} {a : Act} {w' : World} {Tn : Nat → Prop}
theorem fin_pure (hQ : ∀ x T w' a, a = A x → Fj x T w' → (∀ k, T k → k < w'.heap.size) → Ch w w' C → (∀ k, T k → C k ∨ w.heap.size ≤ k) → Q .normal a w') (ha : a = A x) (hF : Fj x fNo w) : Q .normal a w :=
  hQ x fNo w a ha hF (fun _ h => h.elim) (Ch.refl w) (fun _ h => h.elim)
theorem fin_new (hQ : ∀ x T w' a, a = A x → Fj x T w' → (∀ k, T k → k < w'.heap.size) → Ch w w' C → (∀ k, T k → C k ∨ w.heap.size ≤ k) → Q .normal a w') (ha : a = A x) (hF : Fj x Tn w') (hb : Below w.heap.size w w') (hT : ∀ k, Tn k → w.heap.size ≤ k ∧ k < w'.heap.size) : Q .normal a w' :=
  hQ x Tn w' a ha hF (fun k h => (hT k h).2) (Ch.of_below hb) (fun k h => .inr (hT k h).1)
theorem fin_below (hQ : ∀ x T w' a, a = A x → Fj x T w' → (∀ k, T k → k < w'.heap.size) → Ch w w' C → (∀ k, T k → C k ∨ w.heap.size ≤ k) → Q .normal a w') (ha : a = A x) (hF : Fj x fNo w') (hb : Below w.heap.size w w') : Q .normal a w' :=
  fin_new hQ ha hF hb (fun _ h => h.elim)
/-- A new block. -/
theorem fin_blk {o : Obj} (hQ : ∀ x T w' a, a = A x → Fj x T w' → (∀ k, T k → k < w'.heap.size) → Ch w w' C → (∀ k, T k → C k ∨ w.heap.size ≤ k) → Q .normal a w') (ha : a = A x) (hF : Fj x (fun k => k = w.heap.size) (w.alloc o)) : Q .normal a (w.alloc o) :=
  fin_new hQ ha hF (bl_alloc (Below.refl _ _) (Nat.le_refl _) _) (fun k h => by
    have h1 : (w.alloc o).heap.size = w.heap.size + 1 := by simp
    have h : k = w.heap.size := h
    omega)
theorem fin_box {o : Obj} (hQ : ∀ x T w' a, a = A x → Fj x T w' → (∀ k, T k → k < w'.heap.size) → Ch w w' C → (∀ k, T k → C k ∨ w.heap.size ≤ k) → Q .normal a w') (ha : a = A x) (hF : Fj x (Fpt w.heap.size (.slice none 0 0)) (w.alloc o)) : Q .normal a (w.alloc o) :=
  fin_new hQ ha hF (bl_alloc (Below.refl _ _) (Nat.le_refl _) _) (fun k h => by
    have h1 : (w.alloc o).heap.size = w.heap.size + 1 := by simp
    have h : k = w.heap.size := by
      rcases h with h | h
      · exact h
      · cases h
    omega)
/-- A growing struct that passes on. -/
theorem fin_pass {g : Nat} {v : Value} (hQ : ∀ x T w' a, a = A x → Fj x T w' → (∀ k, T k → k < w'.heap.size) → Ch w w' C → (∀ k, T k → C k ∨ w.heap.size ≤ k) → Q .normal a w') (ha : a = A x) (hF : Fj x (Fpt g v) w) (h0 : One T E w B ⟨g, v, l⟩) (hC : ∀ k, Fpt g v k → C k) : Q .normal a w :=
  hQ x (Fpt g v) w a ha hF (fun _ h => h0.lt h) (Ch.refl w) (fun k h => .inl (hC k h))
/-- A struct that has grown. -/
theorem One.grow {g : Nat} {v v' : Value} {l' : List UInt8} (h0 : One T E w B ⟨g, v, l⟩) (hr : Rws T E w' B g v' l') (k : v'.ownBlock = v.ownBlock ∨ ∃ b, v'.ownBlock = some b ∧ w.heap.size ≤ b) : One T E w' B ⟨g, v', l'⟩ := by
  refine ⟨hr, h0.lo, ?_⟩
  show v'.ownBlock ≠ some g
  have hg : g < w.heap.size := h0.r.1.lt
  rcases k with e | ⟨b, e, hb⟩
  · rw [e]; exact h0.ne
  · rw [e]; intro e2; injection e2 with e2; omega
theorem fin_put {g : Nat} {v v' : Value} {l' : List UInt8} (hQ : ∀ x T w' a, a = A x → Fj x T w' → (∀ k, T k → k < w'.heap.size) → Ch w w' C → (∀ k, T k → C k ∨ w.heap.size ≤ k) → Q .normal a w') (ha : a = A (.pointer (some ⟨g, 0, none⟩))) (h0 : One T E w B ⟨g, v, l⟩) (hC : ∀ k, Fpt g v k → C k)
    (hr : Rws T E w' B g v' l') (hch : Ch w w' (Fpt g v)) (k : v'.ownBlock = v.ownBlock ∨ ∃ b, v'.ownBlock = some b ∧ w.heap.size ≤ b) (hF : One T E w' B ⟨g, v', l'⟩ → Fj (.pointer (some ⟨g, 0, none⟩)) (Fpt g v') w') : Q .normal a w' := by
  have o := h0.grow hr k
  refine hQ _ (Fpt g v') w' a ha (hF o) (fun q h => o.lt h) (hch.mono fun q _ h => hC q h) (fun q h => ?_)
  rcases h with e | e
  · exact .inl (hC q (.inl e))
  · have e : v'.ownBlock = some q := e
    rcases k with k | ⟨b, k, hb⟩
    · exact .inl (hC q (.inr (k.symm.trans e)))
    · rw [k] at e; injection e with e; exact .inr (by omega)
/-- A row that grows ahead of its store; a struct in which it was stored. -/
def fMid (T E : TypeId) (B g : Nat) (vb : Value) (l : List UInt8) (x : Value) (S : Nat → Prop) (w : World) : Prop := S = Fpt g x ∧ OwB w B E x l ∧ Bk w g T #[vb] ∧ x.ownBlock ≠ some g ∧ B ≤ g
def fSt (T E : TypeId) (B g : Nat) (l : List UInt8) (_ : Value) (S : Nat → Prop) (w : World) : Prop := ∃ v, S = Fpt g v ∧ One T E w B ⟨g, v, l⟩
theorem Live.mid {g : Nat} {vb : Value} (h : Live (fMid T E B g vb l) x S w) : S = Fpt g x ∧ Bx (OwB w B E x l) ∧ Bx (Bk w g T #[vb]) ∧ x.ownBlock ≠ some g ∧ B ≤ g := by
  obtain ⟨w1, ⟨s, o, b, n, hB⟩, z, c⟩ := h
  exact ⟨s, bx (o.ch c (fun k hk hn => hn (by rw [s]; exact .inr hk))), bx (b.ch c (fun hn => hn (by rw [s]; exact .inl rfl))), n, hB⟩
theorem Live.st {g : Nat} (h : Live (fSt T E B g l) x S w) : ∃ v, S = Fpt g v ∧ Bx (One T E w B ⟨g, v, l⟩) := by
  obtain ⟨w1, ⟨v, s, r⟩, z, c⟩ := h
  exact ⟨v, s, bx (r.ch c (fun k hk hn => hn (by rw [s]; exact hk)))⟩
/-- The struct's row is loaded. -/
theorem fin_lod {g : Nat} {v : Value} (hQ : ∀ x T' w' a, a = A x → Fj x T' w' → (∀ k, T' k → k < w'.heap.size) → Ch w w' C → (∀ k, T' k → C k ∨ w.heap.size ≤ k) → Q .normal a w') (ha : a = A v) (h0 : One T E w B ⟨g, v, l⟩) (hC : ∀ k, Fpt g v k → C k) (hF : fMid T E B g v l v (Fpt g v) w → Fj v (Fpt g v) w) : Q .normal a w :=
  hQ v (Fpt g v) w a ha (hF ⟨rfl, h0.r.2, h0.r.1, h0.ne, h0.lo⟩) (fun _ h => h0.lt h) (Ch.refl w) (fun k h => .inl (hC k h))
theorem fin_app {g : Nat} {vb v v' : Value} {l' : List UInt8} (hQ : ∀ x T' w' a, a = A x → Fj x T' w' → (∀ k, T' k → k < w'.heap.size) → Ch w w' C → (∀ k, T' k → C k ∨ w.heap.size ≤ k) → Q .normal a w') (ha : a = A v') (hb : Bk w g T #[vb]) (hn : v.ownBlock ≠ some g) (hB : B ≤ g)
    (hC : ∀ k, Fpt g v k → C k) (ho : OwB w' B E v' l') (hg : w.grownBy w' v.ownBlock ∨ Ch w w' (Fow v)) (hv : OwnN w v v') (hF : fMid T E B g vb l' v' (Fpt g v') w' → Fj v' (Fpt g v') w') : Q .normal a w' := by
  have hc : Ch w w' (Fow v) := by
    rcases hg with h | h
    · exact Ch.of_grown h (fun _ h => h)
    · exact h
  have hgl := hb.lt
  have hz := hc.size
  have hne : v'.ownBlock ≠ some g := by
    rcases hv with e | ⟨b, e, hb2⟩
    · rw [e]; exact hn
    · rw [e]; intro e2; injection e2; omega
  refine hQ v' (Fpt g v') w' a ha (hF ⟨rfl, ho, hb.ch hc (fun he => hn he), hne, hB⟩) (fun k h => ?_) (hc.mono fun q _ h => hC q (.inr h)) (fun k h => ?_)
  · rcases h with e | e
    · omega
    · exact (World.ownsRow.lt ho k e).2
  · rcases h with e | e
    · exact .inl (hC k (.inl e))
    · have e : v'.ownBlock = some k := e
      rcases hv with h1 | ⟨b, h1, hb2⟩
      · exact .inl (hC k (.inr (h1.symm.trans e)))
      · rw [h1] at e; injection e with e; exact .inr (by omega)
theorem fin_sto {g : Nat} {vb v : Value} {u : Value} (hQ : ∀ x T' w' a, a = A x → Fj x T' w' → (∀ k, T' k → k < w'.heap.size) → Ch w w' C → (∀ k, T' k → C k ∨ w.heap.size ≤ k) → Q .normal a w') (ha : a = A u) (ho : OwB w B E v l) (hb : Bk w g T #[vb]) (hn : v.ownBlock ≠ some g) (hB : B ≤ g)
    (hC : ∀ k, Fpt g v k → C k) (hF : fSt T E B g l u (Fpt g v) (w.setCell ⟨g, 0, none⟩ v) → Fj u (Fpt g v) (w.setCell ⟨g, 0, none⟩ v)) : Q .normal a (w.setCell ⟨g, 0, none⟩ v) := by
  have o : One T E (w.setCell ⟨g, 0, none⟩ v) B ⟨g, v, l⟩ := ⟨⟨by simpa using hb.set 0 v, OwL.own_same ho fun k hk => Below.heap_setCell w ⟨g, 0, none⟩ v k (fun e => hn (by rw [hk]; exact congrArg some e))⟩, hB, hn⟩
  exact hQ u (Fpt g v) _ a ha (hF ⟨v, rfl, o⟩) (fun k h => o.lt h) ((Ch.refl w).setCell (fun _ => hC g (.inl rfl)) v) (fun k h => .inl (hC k h))
end
end Go.Proofs.YtnkdpchnighkfaaGreatDoor
namespace Go.Proofs.YtnkdpchnighkfaaGreatDoor
open Go.RowKit
structure Fmo (T E : TypeId) (w0 : World) (U : Nat → Prop) (w : World) (B : Nat) (l : List RwS) : Prop where
  f : Fam T E w B l
  c : Ch w0 w U
  u : ∀ y ∈ l, ∀ k, y.F k → U k ∨ w0.heap.size ≤ k
  z : B ≤ w.heap.size
structure Mid (T E : TypeId) (w0 : World) (U : Nat → Prop) (w : World) (B : Nat) (x : RwS) (r : List RwS) (v : Value) (l : List UInt8) : Prop where
  m : ∃ ws, Fmo T E w0 U ws B (x :: r) ∧ Ch ws w (Fow x.v) ∧ OwnN ws x.v v
  o : OwB w B E v l
section
variable {T E : TypeId} {w w' w0 : World} {U : Nat → Prop} {B : Nat} {x y y2 : RwS} {r : List RwS} {v v' : Value} {l l' : List UInt8}
theorem Fmo.of {l : List RwS} (hz : B ≤ w.heap.size) (h : Fam T E w B l) : Fmo T E w (fun k => ∃ y ∈ l, y.F k) w B l :=
  ⟨h, Ch.refl w, fun y hy _ hk => .inl ⟨y, hy, hk⟩, hz⟩
theorem Fmo.alloc {l : List RwS} (h : Fmo T E w0 U w B l) (o : Obj) : Fmo T E w0 U (w.alloc o) B l := ⟨h.f.alloc o, h.c.alloc o, h.u, Nat.le_trans h.z (by simp)⟩
theorem Fmo.drewN {l : List RwS} (h : Fmo T E w0 U w B l) (n : Nat) : Fmo T E w0 U (w.drewN n) B l := ⟨h.f.drewN n, h.c.drewN n, h.u, h.z⟩
theorem Fmo.drew {l : List RwS} (h : Fmo T E w0 U w B l) : Fmo T E w0 U w.drew B l := h.drewN 1
theorem Fmo.swap (h : Fmo T E w0 U w B (x :: y :: r)) : Fmo T E w0 U w B (y :: x :: r) :=
  ⟨h.f.swap, h.c, fun u hu => h.u u (by simp only [List.mem_cons] at hu ⊢; rcases hu with e | e | e <;> simp [e]), h.z⟩
theorem Fmo.swap2 (h : Fmo T E w0 U w B (x :: y :: y2 :: r)) : Fmo T E w0 U w B (x :: y2 :: y :: r) :=
  ⟨h.f.swap2, h.c, fun u hu => h.u u (by simp only [List.mem_cons] at hu ⊢; rcases hu with e | e | e | e <;> simp [e]), h.z⟩
theorem Fmo.tail (h : Fmo T E w0 U w B (x :: r)) : Fmo T E w0 U w B r := ⟨h.f.tail, h.c, fun u hu => h.u u (List.mem_cons_of_mem _ hu), h.z⟩
theorem Fmo.step (h : Fmo T E w0 U w B (x :: r)) (hr : Rws T E w' B x.g v' l') (c : Ch w w' (Fpt x.g x.v)) (k : v'.ownBlock = x.v.ownBlock ∨ ∃ b, v'.ownBlock = some b ∧ w.heap.size ≤ b) : Fmo T E w0 U w' B (⟨x.g, v', l'⟩ :: r) := by
  refine ⟨h.f.step hr c k, h.c.trans c (fun i hi hf => ?_), fun y hy q hq => ?_, Nat.le_trans h.z c.size⟩
  · rcases h.u x (by simp) i hf with hu | hu
    · exact hu
    · omega
  · rcases List.mem_cons.1 hy with e | e
    · subst e
      rcases hq with hq | hq
      · exact h.u x (by simp) q (.inl hq)
      · have hq : v'.ownBlock = some q := hq
        rcases k with k | ⟨b, k, hb⟩
        · exact h.u x (by simp) q (.inr (k.symm.trans hq))
        · rw [k] at hq; injection hq with hq
          have := h.c.size
          exact .inr (by omega)
    · exact h.u y (List.mem_cons_of_mem _ e) q hq
theorem fow_fpt {g k : Nat} (h : Fow v k) : Fpt g v k := .inr h
theorem Mid.start (h : Fmo T E w0 U w B (x :: r)) : Mid T E w0 U w B x r x.v x.l := ⟨⟨w, h, Ch.refl w, .inl rfl⟩, h.f.one.r.2⟩
theorem Mid.num (h : Mid T E w0 U w B x r v l) (ho : OwB w' B E v' l') (c : Ch w w' (Fow v)) (k : OwnN w v v') : Mid T E w0 U w' B x r v' l' := by
  obtain ⟨⟨ws, hf, hc, hn⟩, ho0⟩ := h
  exact ⟨⟨ws, hf, hc.fow_trans hn c, by
    rcases k with k | ⟨b, k, hb⟩
    · rcases hn with e | ⟨b, e, hb⟩
      · exact .inl (k.trans e)
      · exact .inr ⟨b, k.trans e, hb⟩
    · exact .inr ⟨b, k, Nat.le_trans hc.size hb⟩⟩, ho⟩
theorem Mid.z (h : Mid T E w0 U w B x r v l) : B ≤ w.heap.size := by obtain ⟨⟨ws, hf, hc, _⟩, _⟩ := h; exact Nat.le_trans hf.z hc.size
theorem Mid.c (h : Mid T E w0 U w B x r v l) : Ch w0 w U := by
  obtain ⟨⟨ws, hf, hc, _⟩, _⟩ := h
  exact hf.c.trans hc (fun i hi he => by
    rcases hf.u x (by simp) i (fow_fpt he) with hu | hu
    · exact hu
    · omega)
theorem Mid.fam (h : Mid T E w0 U w B x r v l) : Fam T E w B r := by
  obtain ⟨⟨ws, hf, hc, _⟩, _⟩ := h
  exact hf.f.tail.ch hc (fun y hy k hk he => hf.f.2.1 y hy k (fow_fpt he) hk)
theorem Mid.bk (h : Mid T E w0 U w B x r v l) : Bk w x.g T #[x.v] := by
  obtain ⟨⟨ws, hf, hc, _⟩, _⟩ := h
  exact hf.f.one.r.1.ch hc (fun he => hf.f.one.ne he)
theorem Mid.cell (h : Mid T E w0 U w B x r v l) : w.cell? ⟨x.g, 0, none⟩ = some x.v := (h.bk.cell 0).trans rfl
theorem Mid.frz (h : Mid T E w0 U w B x r v l) : w.frozen? ⟨x.g, 0, none⟩ = false := h.bk.frz 0
theorem Mid.out (h : Mid T E w0 U w B x r v l) : Fmo T E w0 U (w.setCell ⟨x.g, 0, none⟩ v) B (⟨x.g, v, l⟩ :: r) := by
  have hb := h.bk
  obtain ⟨⟨ws, hf, hc, hn⟩, ho⟩ := h
  have hxg : x.g < ws.heap.size := hf.f.one.r.1.lt
  have hne : v.ownBlock ≠ some x.g := by
    rcases hn with e | ⟨b, e, hb⟩
    · rw [e]; exact hf.f.one.ne
    · rw [e]; intro e2; injection e2; omega
  refine hf.step (v' := v) (l' := l) ⟨by simpa using hb.set 0 v, OwL.own_same ho fun k hk => Below.heap_setCell w ⟨x.g, 0, none⟩ v k (fun e => hne (by rw [hk]; exact congrArg some e))⟩ ((hc.mono fun q _ hq => fow_fpt hq).setCell (fun _ => .inl rfl) v) hn
theorem Fmo.chx (h : Fmo T E w0 U w B (x :: r)) (c : Ch w w' (Fpt x.g x.v)) : Ch w0 w' U := h.c.trans c (fun i hi hf => by
  rcases h.u x (by simp) i hf with hu | hu
  · exact hu
  · omega)
theorem Fmo.oth (h : Fmo T E w0 U w B (x :: r)) (hy : y ∈ r) (c : Ch w w' (Fpt x.g x.v)) : One T E w' B y := (h.f.tail.at_ y hy).ch c (fun k hk hf => h.f.2.1 y hy k hf hk)
/-- The first has grown, however. -/
theorem Fmo.stepO (h : Fmo T E w0 U w B (x :: r)) (o : One T E w' B ⟨x.g, v', l'⟩) (c : Ch w w' (Fpt x.g x.v)) (hk : ∀ k, Fpt x.g v' k → Fpt x.g x.v k ∨ w.heap.size ≤ k) : Fmo T E w0 U w' B (⟨x.g, v', l'⟩ :: r) := by
  refine ⟨⟨o, fun y hy k hf hf2 => ?_, h.f.tail.ch c fun y hy k hf hf2 => h.f.2.1 y hy k hf2 hf⟩, h.chx c, fun y hy k hf => ?_, Nat.le_trans h.z c.size⟩
  · rcases hk k hf with e | e
    · exact h.f.2.1 y hy k e hf2
    · have := (h.f.tail.at_ y hy).lt hf2; omega
  · rcases List.mem_cons.1 hy with e | e
    · subst e
      rcases hk k hf with e2 | e2
      · exact h.u x (by simp) k e2
      · have := h.c.size; exact .inr (by omega)
    · exact h.u y (List.mem_cons_of_mem _ e) k hf
end
end Go.Proofs.YtnkdpchnighkfaaGreatDoor
namespace Go.Proofs.YtnkdpchnighkfaaGreatDoor
open Go.RowKit
theorem fput_any {w0 : World} {U : Nat → Prop} {B : Nat} {x : RwS} {r : List RwS} (n k : Nat) (xs : List Int) (o : Obj) (w : World) (h : Fmo 44 5 w0 U w B (x :: r)) (hx : xs.length = k) (hX : RL iV (w.alloc o) (w.alloc o).heap.size (some ⟨w.heap.size, 0, none⟩) xs)
    (h1 : 1 ≤ n) (h8 : n ≤ 8) (hk : k ≤ 8) (ho : x.l.length ≤ 4000000) :
    Calls Tryz.prog 17 #[.pointer (some ⟨x.g, 0, none⟩), .int .i64 (n : Int), .slice (some ⟨w.heap.size, 0, none⟩) k k] (w.alloc o) fun e w' => e = .returned (.pointer (some ⟨x.g, 0, none⟩)) ∧ ∃ v', Fmo 44 5 w0 U w' B (⟨x.g, v', x.l ++ xs.flatMap (leB n)⟩ :: r) := by
  have ha := h.alloc o
  refine (rput_any B x.g n k k x.v x.l (some ⟨w.heap.size, 0, none⟩) xs (w.alloc o) ha.f.one.r ha.z ha.f.one.ne hx hX (fun ad hd hf => ?_) h1 h8 hk ho).mono ?_
  · injection hd with hd
    have := h.f.one.lt (k := ad.block) hf
    rw [← hd] at this
    exact Nat.lt_irrefl _ this
  · rintro e w' ⟨rfl, v', hr, hch, hown⟩
    exact ⟨rfl, v', ha.step hr hch hown⟩
end Go.Proofs.YtnkdpchnighkfaaGreatDoor
namespace Go.Proofs.YtnkdpchnighkfaaGreatDoor
def bigI (x : Itm) : Bool := decide (2 ≤ x.data.length) || decide (2 ≤ x.name.length)
def endsP (P : List Itm) : Bool := P.any bigI
theorem tiny_of {P : List Itm} (h : endsP P = false) (hn : ∀ x ∈ P, nameA x.name = true) : ∀ z ∈ packZ P, Tiny z := fun z hz => by
  obtain ⟨x, hx, rfl⟩ := List.mem_map.1 hz
  unfold endsP at h
  rw [List.any_eq_false] at h
  have h1 := h x hx
  unfold bigI at h1
  simp only [Bool.or_eq_true, decide_eq_true_eq] at h1
  have h2 := nameA_pos (hn x hx)
  exact ⟨by show x.name.length = 1; omega, by show x.data.length ≤ 1; omega, pkI_packs x⟩
theorem back_err {P : List Itm} {k : Int} (h : layP (packZ P) = .err k) : chkP P = k ∨ k = 8 := by
  unfold layP at h
  rw [packZ_fst] at h
  split at h
  · injection h with h; exact .inl h
  split at h
  · injection h with h; exact .inr h.symm
  · cases h
/-- The directory of what was made. -/
theorem back_none {P : List Itm} {b : List UInt8} (h : layP (packZ P) = .ok b) (he : endP b = none) : dirA b = .err 9 ∧ endsP P = true := by
  obtain ⟨h1, h2, h3, h4, h5, h6, _⟩ := made_ok h (packZ_packs P)
  refine ⟨h6 he, ?_⟩
  cases hE : endsP P with
  | true => rfl
  | false =>
    obtain ⟨c1, _⟩ := layP_ok h
    rw [packZ_fst] at c1
    obtain ⟨p, hp⟩ := end_tiny h1 (by rw [← h3]; exact h2) (tiny_of hE fun x hx => ((chkP_ok c1).2.2 x hx).1)
    rw [← h3, he] at hp
    cases hp
theorem back_some {P : List Itm} {b : List UInt8} (h : layP (packZ P) = .ok b) {p : Nat} (he : endP b = some p) : ∃ l, dirA b = .ok l ∧ l.length = P.length ∧ P.length ≤ 64 ∧ l.map (·.1.name) = P.map (·.name) ∧ ∀ x ∈ P, findP b x.name = .ok x.data := by
  obtain ⟨h1, h2, h3, h4, h5, _, h7⟩ := made_ok h (packZ_packs P)
  refine ⟨_, h7 p he, by rw [recs_len, packZ_len], by rw [packZ_len] at h1; exact h1, ?_, find_made h he⟩
  rw [recs_names]
  unfold packZ
  rw [List.map_map]
  rfl
theorem ends_at {P : List Itm} {t : Nat} {x : Itm} (h : P[t]? = some x) : (P.take (t + 1)).any bigI = ((P.take t).any bigI || bigI x) := by
  rw [List.take_add_one, h, List.any_append]
  simp
end Go.Proofs.YtnkdpchnighkfaaGreatDoor
namespace Go.Proofs.YtnkdpchnighkfaaGreatDoor
open Go.RowKit
theorem ends_yes {P : List Itm} {x : Itm} (h : x ∈ P) (hx : 2 ≤ x.data.length ∨ 2 ≤ x.name.length) : endsP P = true := by
  unfold endsP
  rw [List.any_eq_true]
  exact ⟨x, h, by unfold bigI; simpa using hx⟩
set_option maxRecDepth 100000 in
set_option maxHeartbeats 4000000 in
theorem ends_any (A : Option Addr) (n c : Nat) (L : List It) (w : World) (hn : L.length = n) (hb : n ≤ 140737488351232) (hs : ∀ x ∈ L, x.name.length ≤ 140737488351232 ∧ x.s.n ≤ 140737488351232) (hr : RIt w w.heap.size A L) :
    Calls Tryz.prog 10 #[.slice A n c] w fun e w' => e = .returned (.bool (endsP (L.map It.p))) ∧ Below w.heap.size w w' := by
  obtain ⟨P, hP⟩ : ∃ P, L.map It.p = P := ⟨_, rfl⟩
  obtain ⟨R, hR⟩ : ∃ R, endsP P = R := ⟨_, rfl⟩
  rw [hP, hR]
  have HPL := bx hP
  have HR := bx hR
  have HL := bx hn
  have HS := bx hs
  have HRW := bx hr
  have HPn : Bx (P.length = n) := bx (by rw [← hP, List.length_map]; exact hn)
  have HG : Bx ((P.take 0).any bigI = false) := bx rfl
  have HW0 := bx (Below.refl w.heap.size w)
  clear hP hR hn hs hr
  go_enter Tryz.func10, Tryz.ntmps10
  go_wp2_with fail
  go_loopw [7] (fun iv wx => ∃ t : Nat, t ≤ n ∧ iv = .int .i64 (t : Int) ∧ Bx (Below w.heap.size w wx) ∧ Bx ((P.take t).any bigI = false)) (fun i _ => n - (intOf i).toNat)
  case atStart => exact ⟨0, by omega, rfl, HW0, HG⟩
  case round =>
    clear HG HW0
    obtain ⟨t, ht, rfl, HW, HT⟩ := hrel
    by_cases htn : t < n
    · have htI : (t : Int) < (n : Int) := by omega
      have hrr : RIt wr w.heap.size A L := HRW.out.below HW.out (Nat.le_refl _)
      obtain ⟨ad, x, sn, rfl, hlt, HX, HSN, k0, k1, k2, HSX⟩ := hrr.itm (k := t) (by rw [HL.out]; exact htn)
      have hxs := HS.out x (List.mem_of_getElem? HX.out)
      have HPX : Bx (P[t]? = some x.p) := bx (by rw [← HPL.out]; exact itm_map HX.out)
      have hxl : x.s.l.length = x.s.n := HSX.out.1
      have hsz : sn.size = x.name.length := sn_size HSN.out
      have hsl : sn.size ≤ 140737488351232 := by rw [hsz]; exact hxs.1
      have HW2 : Bx (Below w.heap.size w (wr.alloc (.cells #[.string sn, .slice x.s.A x.s.n x.s.c, .bool x.sq] 35))) := bx (bl_alloc HW.out (Nat.le_refl _) _)
      have HXL := bx hxl
      have HSZ := bx hsz
      clear hrr hxl hsz
      by_cases h8 : 2 ≤ x.s.n
      · have h8I : (2 : Int) ≤ (x.s.n : Int) := by omega
        have HF : Bx (R = true) := bx (by rw [← HR.out]; exact ends_yes (List.mem_of_getElem? HPX.out) (.inl (by show 2 ≤ x.s.l.length; rw [HXL.out]; exact h8)))
        go_wp2
        go_ret
        exact ⟨by rw [HF.out]; rfl, HW2.out⟩
      · have h8I : ¬ (2 : Int) ≤ (x.s.n : Int) := by omega
        by_cases hl : 2 ≤ sn.size
        · have hlI : (2 : Int) ≤ (sn.size : Int) := by omega
          have HF : Bx (R = true) := bx (by rw [← HR.out]; exact ends_yes (List.mem_of_getElem? HPX.out) (.inr (by show 2 ≤ x.name.length; rw [← HSZ.out]; exact hl)))
          go_wp2
          go_ret
          exact ⟨by rw [HF.out]; rfl, HW2.out⟩
        · have hlI : ¬ (2 : Int) ≤ (sn.size : Int) := by omega
          have HF : Bx ((P.take (t + 1)).any bigI = false) := bx (by
            rw [ends_at HPX.out, HT.out, Bool.false_or]
            unfold bigI
            have e1 : x.p.data.length = x.s.n := HXL.out
            have e2 : x.p.name.length = sn.size := HSZ.out.symm
            rw [e1, e2, decide_eq_false h8, decide_eq_false hl]; rfl)
          go_wp2
          go_roundw
          case rel => exact ⟨t + 1, by omega, by go_num, HW2, HF⟩
          case measure => simp [intOf]; omega
    · have htI : ¬ (t : Int) < (n : Int) := by omega
      obtain rfl : t = n := by omega
      have HF : Bx (R = false) := bx (by rw [← HR.out]; have := HT.out; rwa [List.take_of_length_le (by rw [HPn.out]; exact Nat.le_refl _)] at this)
      go_wp2
      go_ret
      exact ⟨by rw [HF.out]; rfl, HW.out⟩
end Go.Proofs.YtnkdpchnighkfaaGreatDoor
namespace Go.Proofs.YtnkdpchnighkfaaGreatDoor
open Go.RowKit
theorem mem_take_succ {l : List (List UInt8)} {j : Nat} {y nm : List UInt8} (h : l[j]? = some y) (hn : nm ∉ l.take j) (hy : y ≠ nm) : nm ∉ l.take (j + 1) := by
  rw [List.take_add_one, h]
  intro hm
  rcases List.mem_append.1 hm with hm | hm
  · exact hn hm
  · simp at hm; exact hy hm.symm
theorem mem_take_at {l : List (List UInt8)} {j i : Nat} {y : List UInt8} (h : l[j]? = some y) (hj : j < i) : y ∈ l.take i :=
  List.mem_of_getElem? (i := j) (by rw [List.getElem?_take, if_pos hj]; exact h)
set_option maxRecDepth 100000 in
set_option maxHeartbeats 8000000 in
theorem rchk_any (A : Option Addr) (n c : Nat) (L : List It) (w : World) (hn : L.length = n) (hnc : n ≤ c) (hb : n ≤ 140737488351232) (hs : ∀ x ∈ L, x.name.length ≤ 140737488351232 ∧ x.s.n ≤ 140737488351232) (hr : RIt w w.heap.size A L) :
    Calls Tryz.prog 7 #[.slice A n c] w fun e w' => e = .returned (.int .i64 (chkP (L.map It.p))) ∧ Below w.heap.size w w' := by
  obtain ⟨P, hP⟩ : ∃ P, L.map It.p = P := ⟨_, rfl⟩
  obtain ⟨R, hR⟩ : ∃ R, chkP (L.map It.p) = R := ⟨_, rfl⟩
  rw [hR]
  rw [hP] at hR
  have HPL := bx hP
  have HR := bx hR
  have HL := bx hn
  have HS := bx hs
  have HRW := bx hr
  have HPn : Bx (P.length = n) := bx (by rw [← hP, List.length_map]; exact hn)
  clear hP hR hn hs hr
  go_enter Tryz.func7, Tryz.ntmps7
  by_cases h64 : 64 < n
  · have hI : (64 : Int) < (n : Int) := by omega
    have HF : Bx (R = 17) := bx (by rw [← HR.out]; unfold chkP; rw [if_pos (by rw [HPn.out]; exact h64)])
    go_wp2
    go_ret
    exact ⟨by rw [HF.out]; rfl, Below.refl _ _⟩
  · have hI : ¬ (64 : Int) < (n : Int) := by omega
    have HG : Bx (chkF ((P.take 0).map (·.name)) (P.drop 0) = R) := bx (by rw [← HR.out]; unfold chkP; rw [if_neg (by rw [HPn.out]; exact h64)]; rfl)
    have HW0 := bx (Below.refl w.heap.size w)
    clear HR
    go_wp2
    go_loopw [3] (fun iv wx => ∃ t : Nat, t ≤ n ∧ iv = .int .i64 (t : Int) ∧ Bx (Below w.heap.size w wx) ∧ Bx (chkF ((P.take t).map (·.name)) (P.drop t) = R)) (fun i _ => n - (intOf i).toNat)
    case atStart => exact ⟨0, by omega, rfl, HW0, HG⟩
    case round =>
      clear HG HW0
      obtain ⟨t, ht, rfl, HW, HT⟩ := hrel
      by_cases htn : t < n
      · have htI : (t : Int) < (n : Int) := by omega
        have hrr : RIt wr w.heap.size A L := HRW.out.below HW.out (Nat.le_refl _)
        obtain ⟨ad, x, sn, rfl, hlt, HX, HSN, k0, k1, _, _⟩ := hrr.itm (k := t) (by rw [HL.out]; exact htn)
        have hxs := HS.out x (List.mem_of_getElem? HX.out)
        have hPx : P[t]? = some x.p := by rw [← HPL.out]; exact itm_map HX.out
        have HAT : Bx (chkF ((P.take t).map (·.name)) (P.drop t) = if nameA x.name = false then 13 else if x.name ∈ (P.take t).map (·.name) then 14 else if 32768 < x.s.l.length then 8 else chkF ((P.take (t + 1)).map (·.name)) (P.drop (t + 1))) := bx (chkF_at hPx)
        have hxl : x.s.l.length = x.s.n := (hrr.2 x (List.mem_of_getElem? HX.out)).1
        have HXL := bx hxl
        have HNM := bx (rname_any sn wr (sn_len HSN.out hxs.1))
        clear hrr hxl
        cases hnm : nameA x.name with
        | false =>
          have HF : Bx (R = 13) := bx (by rw [← HT.out, HAT.out, if_pos hnm])
          have HNF : Bx (nameA sn.data.toList = false) := bx (by rw [HSN.out]; exact hnm)
          go_wp2_with fail
          refine HNM.out.mono ?_
          rintro e w2 ⟨rfl, hb2⟩
          rw [HNF.out]
          go_wp2
          go_ret
          exact ⟨by rw [HF.out]; rfl, HW.out.trans (hb2.mono HW.out.size)⟩
        | true =>
          have HNF : Bx (nameA sn.data.toList = true) := bx (by rw [HSN.out]; exact hnm)
          have HAT2 : Bx (R = if x.name ∈ (P.take t).map (·.name) then 14 else if 32768 < x.s.l.length then 8 else chkF ((P.take (t + 1)).map (·.name)) (P.drop (t + 1))) := bx (by rw [← HT.out, HAT.out, if_neg (by rw [hnm]; simp)])
          clear HAT hnm HT
          obtain ⟨wb, rfl⟩ : ∃ wb, wb = wr := ⟨_, rfl⟩
          go_wp2_with fail
          refine HNM.out.mono ?_
          rintro e w2 ⟨rfl, hb2⟩
          rw [HNF.out]
          have HW2 : Bx (Below w.heap.size w w2) := bx (HW.out.trans (hb2.mono HW.out.size))
          have k0w : w2.cell? (ad.add (t * 3)) = some (.string sn) := (hb2.cell (p := ad.add (t * 3)) (by rw [blk_add]; have := HW.out.size; omega)).trans k0
          have k1w : w2.cell? ⟨(ad.add (t * 3)).block, (ad.add (t * 3)).off + 1, none⟩ = some (.slice x.s.A x.s.n x.s.c) := (hb2.cell (p := ⟨(ad.add (t * 3)).block, (ad.add (t * 3)).off + 1, none⟩) (by show (ad.add (t * 3)).block < _; rw [blk_add]; have := HW.out.size; omega)).trans k1
          have HN0 : Bx (x.name ∉ ((P.map (·.name)).take 0)) := bx (by simp)
          clear k0 k1 hb2 HW HNM
          go_wp2
          go_loopw [4] (fun iv wx => ∃ (j q : Nat), j ≤ t ∧ iv = .int .i64 (j : Int) ∧ wx = w2.drewN q ∧ Bx (x.name ∉ ((P.map (·.name)).take j))) (fun i _ => t - (intOf i).toNat)
          case atStart => exact ⟨0, 0, by omega, rfl, rfl, HN0⟩
          case round =>
            clear HN0
            obtain ⟨j, q, hj, rfl, rfl, HN⟩ := hrel
            by_cases hjt : j < t
            · have hjI : (j : Int) < (t : Int) := by omega
              have hrr : RIt w2 w.heap.size (some ad) L := HRW.out.below HW2.out (Nat.le_refl _)
              obtain ⟨ad', y, sy, had, hlt', HY, HSY, m0, _, _, _⟩ := hrr.itm (k := j) (by rw [HL.out]; omega)
              obtain rfl : ad = ad' := by injection had
              have hPy : (P.map (·.name))[j]? = some y.name := by rw [← HPL.out, List.map_map, List.getElem?_map, HY.out]; rfl
              have HPY := bx hPy
              have htc : (t : Int) < (n : Int) := by omega
              have hjc : (j : Int) < (n : Int) := by omega
              clear hrr had hlt' hPy k1w
              by_cases hyx : y.name = x.name
              · have hst : (sy.toList == sn.toList) = true := tl_same (by rw [HSN.out, HSY.out]; exact hyx)
                have HF : Bx (R = 14) := bx (by rw [HAT2.out, if_pos (by rw [List.map_take, ← hyx]; exact mem_take_at HPY.out hjt)])
                clear hyx
                go_wp2
                go_quiet (fail)
                go_wp2
                go_ret
                exact ⟨by rw [HF.out]; rfl, below_drewN (below_drewN HW2.out _) _⟩
              · have hst : (sy.toList == sn.toList) = false := tl_diff (by rw [HSN.out, HSY.out]; exact hyx)
                have HN2 := bx (mem_take_succ HPY.out HN.out hyx)
                clear hyx
                go_wp2
                go_quiet (fail)
                go_wp2
                go_roundw
                case rel => exact ⟨j + 1, q + nq, by omega, by go_num, rfl, HN2⟩
                case measure => simp [intOf]; omega
            · have hjI : ¬ (j : Int) < (t : Int) := by omega
              obtain rfl : j = t := by omega
              have HAT3 : Bx (R = if 32768 < x.s.l.length then 8 else chkF ((P.take (j + 1)).map (·.name)) (P.drop (j + 1))) := bx (by rw [HAT2.out, if_neg (by rw [List.map_take]; exact HN.out)])
              clear HAT2
              by_cases h32 : 32768 < x.s.n
              · have h32I : (32768 : Int) < (x.s.n : Int) := by omega
                have HF : Bx (R = 8) := bx (by rw [HAT3.out, if_pos (by rw [HXL.out]; exact h32)])
                go_wp2
                go_ret
                exact ⟨by rw [HF.out]; rfl, below_drewN HW2.out _⟩
              · have h32I : ¬ (32768 : Int) < (x.s.n : Int) := by omega
                have HF : Bx (chkF ((P.take (j + 1)).map (·.name)) (P.drop (j + 1)) = R) := bx (by rw [HAT3.out, if_neg (by rw [HXL.out]; exact h32)])
                have HW3 : Bx (Below w.heap.size w (w2.drewN q)) := bx (below_drewN HW2.out _)
                go_wp2
                go_roundw
                case rel => exact ⟨j + 1, by omega, by go_num, HW3, HF⟩
                case measure => simp [intOf]; omega
      · have htI : ¬ (t : Int) < (n : Int) := by omega
        obtain rfl : t = n := by omega
        have HF : Bx (R = 0) := bx (by rw [← HT.out, List.drop_of_length_le (by rw [HPn.out]; exact Nat.le_refl _)]; rfl)
        go_wp2
        go_ret
        exact ⟨by rw [HF.out]; rfl, HW.out⟩
end Go.Proofs.YtnkdpchnighkfaaGreatDoor
namespace Go.Proofs.YtnkdpchnighkfaaGreatDoor
open Go.RowKit
set_option maxRecDepth 100000 in
set_option maxHeartbeats 4000000 in
theorem small_any (A : Option Addr) (n c : Nat) (L : List It) (w : World) (hn : L.length = n) (hnc : n ≤ c) (hs : ∀ x ∈ L, x.name.length ≤ 140737488351232 ∧ x.s.n ≤ 140737488351232) (hr : RIt w w.heap.size A L) :
    Calls Tryz.prog 5 #[.slice A n c] w fun e w' => e = .returned (.bool (smallP 70 (L.map It.p))) ∧ Below w.heap.size w w' := by
  obtain ⟨P, hP⟩ : ∃ P, L.map It.p = P := ⟨_, rfl⟩
  obtain ⟨R, hR⟩ : ∃ R, smallP 70 P = R := ⟨_, rfl⟩
  rw [hP, hR]
  have HPL := bx hP
  have HL := bx hn
  have HS := bx hs
  have HRW := bx hr
  have HPn : Bx (P.length = n) := bx (by rw [← hP, List.length_map]; exact hn)
  have HG : Bx (smallF 70 0 0 (P.drop 0) = R) := bx hR
  have HW0 := bx (Below.refl w.heap.size w)
  clear hP hR hn hs hr
  go_enter Tryz.func5, Tryz.ntmps5
  go_wp2_with fail
  go_loopw [3, 8] (fun s iv wx => ∃ t m : Nat, t ≤ n ∧ m ≤ 8000 ∧ s = .int .i64 (m : Int) ∧ iv = .int .i64 (t : Int) ∧ Bx (Below w.heap.size w wx) ∧ Bx (smallF 70 t m (P.drop t) = R)) (fun _ i _ => n - (intOf i).toNat)
  case atStart => exact ⟨0, 0, by omega, by omega, rfl, rfl, HW0, HG⟩
  case round =>
    clear HG HW0
    obtain ⟨t, m, ht, hm, rfl, rfl, HW, HT⟩ := hrel
    by_cases htn : t < n
    · have htI : (t : Int) < (n : Int) := by omega
      have hrr : RIt wr w.heap.size A L := HRW.out.below HW.out (Nat.le_refl _)
      obtain ⟨ad, x, sn, rfl, hlt, HX, HSN, k0, k1, k2, HSX⟩ := hrr.itm (k := t) (by rw [HL.out]; exact htn)
      have hxs := HS.out x (List.mem_of_getElem? HX.out)
      have hPx : P[t]? = some x.p := by rw [← HPL.out]; exact itm_map HX.out
      have HAT : Bx (smallF 70 t m (P.drop t) = if 8000 < m + (x.s.l.length + x.name.length) ∨ 70 < t then false else smallF 70 (t + 1) (m + (x.s.l.length + x.name.length)) (P.drop (t + 1))) := bx (smallF_at hPx)
      have hxl : x.s.l.length = x.s.n := HSX.out.1
      have hsz : sn.size = x.name.length := sn_size HSN.out
      rw [hxl, ← hsz] at HAT
      have hsl : sn.size ≤ 140737488351232 := by rw [hsz]; exact hxs.1
      have HW2 : Bx (Below w.heap.size w (wr.alloc (.cells #[.string sn, .slice x.s.A x.s.n x.s.c, .bool x.sq] 35))) := bx (bl_alloc HW.out (Nat.le_refl _) _)
      clear hrr hPx hxl hsz
      by_cases h8 : 8000 < m + (x.s.n + sn.size)
      · have h8I : (8000 : Int) < (m : Int) + ((x.s.n : Int) + (sn.size : Int)) := by omega
        have HF : Bx (R = false) := bx (by rw [← HT.out, HAT.out, if_pos (.inl h8)])
        go_wp2
        go_ret
        exact ⟨by rw [HF.out]; rfl, HW2.out⟩
      · have h8I : ¬ (8000 : Int) < (m : Int) + ((x.s.n : Int) + (sn.size : Int)) := by omega
        by_cases hl : 70 < t
        · have hlI : (70 : Int) < (t : Int) := by omega
          have HF : Bx (R = false) := bx (by rw [← HT.out, HAT.out, if_pos (.inr hl)])
          go_wp2
          go_ret
          exact ⟨by rw [HF.out]; rfl, HW2.out⟩
        · have hlI : ¬ (70 : Int) < (t : Int) := by omega
          have HF : Bx (smallF 70 (t + 1) (m + (x.s.n + sn.size)) (P.drop (t + 1)) = R) := bx (by rw [← HT.out, HAT.out, if_neg (by omega)])
          go_wp2
          go_roundw
          case rel => exact ⟨t + 1, m + (x.s.n + sn.size), by omega, by omega, by go_num, by go_num, HW2, HF⟩
          case measure => simp [intOf]; omega
    · have htI : ¬ (t : Int) < (n : Int) := by omega
      obtain rfl : t = n := by omega
      have HF : Bx (R = true) := bx (by rw [← HT.out, List.drop_of_length_le (by rw [HPn.out]; exact Nat.le_refl _)]; rfl)
      go_wp2
      go_ret
      exact ⟨by rw [HF.out]; rfl, HW.out⟩
end Go.Proofs.YtnkdpchnighkfaaGreatDoor
namespace Go.Proofs.YtnkdpchnighkfaaGreatDoor
open Go.ChangeShapes Go.WideShapes Go.ChangeAt Go.RowKit
section
variable {H : Type} {enc : TypeId × Value → H} {w : World} {base : Nat} {spare : Nat → Bool} {held : Bool}
theorem bytes_elD {P : Program} {t e : TypeId} {v : Value} {n : Nat} {y : DataW H × List MemPlace} (ht : P.underlying t = some (.slice e)) (he : P.underlying e = some (.int .u8)) (hc : P.cellsOf e = 1)
    (hf : DataW.trod enc P w base spare held n t [v] = some y) : ∃ x, v = slV x ∧ SlOk w x ∧ DLen y.1 x.n := by
  obtain ⟨x, hv, hx⟩ := bytes_el ht he hc hf
  refine ⟨x, hv, hx, ?_⟩
  rcases open_ints ht he hc hf with ⟨hcs, hy⟩ | ⟨a, l, c', zs, hcs, _, hl, hm, hz, hy, _, _⟩
  · rw [hy]
    rw [hv] at hcs
    injection hcs with hcs
    unfold slV at hcs
    injection hcs with _ h2
    exact .inl ⟨rfl, h2⟩
  · rw [hy]
    rw [hv] at hcs
    injection hcs with hcs
    unfold slV at hcs
    injection hcs with _ h2
    rw [h2]
    have hzl : l ≤ zs.length := by rw [hz]; split <;> omega
    exact .inr ⟨_, _, rfl, by simp [lits]; omega⟩
theorem dall_len {α : Type} {Q : α → DataW H → Prop} {d : DataW H} {l : List α} {n : Nat}
    (h : (d = .nil ∧ l = []) ∨ ∃ es sp, d = .slice es sp ∧ es.length = n ∧ ∀ (i : Nat) (x : α) (y : DataW H), l[i]? = some x → es[i]? = some y → Q x y) (hn : l.length = n) : DAll Q d l := by
  rcases h with h | ⟨es, sp, h1, h2, h3⟩
  · exact .inl h
  · exact .inr ⟨es, sp, h1, by rw [h2, hn], h3⟩
def ItQ (w : World) (x : It) (y : DataW H) : Prop := SlOk w x.s ∧ ∃ y1 y2, y = .agg [.lit (.string x.name), y1, y2] ∧ DLen y1 x.s.n
theorem item_el (n : Nat) (cs : List Value) (y : DataW H × List MemPlace) (hl : cs.length = 3)
    (h : DataW.trod enc Tryz.prog w base spare held n 35 cs = some y) : ∃ x : It, cs = itC x ∧ ItQ w x y.1 := by
  obtain ⟨ys, n', hy, hyl, _, hf⟩ := open_fields Tryz.underlying35 (by kernel_rfl) (by kernel_rfl) h
  obtain ⟨v0, z0, hc0, hz0, h0⟩ := hf 0 _ rfl
  obtain ⟨v1, z1, hc1, hz1, h1⟩ := hf 1 _ rfl
  obtain ⟨v2, z2, hc2, hz2, h2⟩ := hf 2 _ rfl
  obtain ⟨s0, hs0, hd0, _⟩ := DataW.trod_string Tryz.underlying9 h0
  obtain ⟨x1, hx1, ho1, hd1⟩ := bytes_elD Tryz.underlying25 Tryz.underlying5 (by kernel_rfl) h1
  obtain ⟨b, hb, _⟩ := DataW.trod_bool Tryz.underlying4 h2
  simp at hs0 hb
  subst hs0
  subst hb
  subst hx1
  match cs, hl with
  | [c0, c1, c2], _ =>
    simp at hc0 hc1 hc2
    subst hc0
    subst hc1
    subst hc2
    refine ⟨⟨s0.data.toList, x1, b⟩, rfl, ho1, z1.1, z2.1, ?_, hd1⟩
    have hys : ys = [z0, z1, z2] := by
      match ys, hyl with
      | [a0, a1, a2], _ => simp at hz0 hz1 hz2; rw [hz0, hz1, hz2]
    rw [hy, hys, hd0]
    rfl
theorem sized_items {ts : List TypeId} {ds : List (DataW H)} {l : List It} {d : DataW H} (h : (DataW.weightsEach Tryz.prog ts ds).all (· ≤ reachBytes) = true) {j : Nat} (ht : ts[j]? = some 22) (hd : ds[j]? = some d)
    (hl : DAll (ItQ w) d l) : ∀ x ∈ l, SlOk w x.s ∧ x.name.length ≤ 140737488351232 ∧ x.s.n ≤ 140737488351232 := by
  intro x hx
  obtain ⟨y, ⟨hok, y1, y2, rfl, hn⟩, hw⟩ := sized_elem h ht hd Tryz.underlying22 hl hx
  have hb : Tryz.prog.bytesOf 5 = 1 := by kernel_rfl
  have e1 : x.name.length ≤ reachBytes := hw _ (by simp [DataW.weights, Tryz.underlying35, DataW.weightsEach])
  refine ⟨hok, by simpa [reachBytes] using e1, ?_⟩
  rcases hn with ⟨_, h0⟩ | ⟨es, sp, rfl, h0⟩
  · rw [h0]; exact Nat.zero_le _
  · have e2 : (es.length + sp.length) * 1 ≤ reachBytes := hw _ (by simp [DataW.weights, Tryz.underlying35, Tryz.underlying25, DataW.weightsEach, hb])
    simp only [reachBytes] at e2
    omega
end
end Go.Proofs.YtnkdpchnighkfaaGreatDoor
namespace Go.Proofs.YtnkdpchnighkfaaGreatDoor
open Go.RowKit

set_option maxHeartbeats 400000 in
theorem same_quiet (A C : Option Addr) (n c m d : Nat) (w : World) (l r : List UInt8) (hn : l.length = n) (hm : r.length = m) (hl : (n : Int) ≤ 140737488355328) (hr : (m : Int) ≤ 140737488355328)
    (ha : RB w w.heap.size A l) (hc : RB w w.heap.size C r) :
    Calls Tryz.prog 14 #[.slice A n c, .slice C m d] w fun e w' => e = .returned (.bool (decide (l = r))) ∧ ∃ q, w' = w.drewN q := by
  subst hn
  subst hm
  by_cases he : l.length = r.length
  · go_enter Tryz.func14, Tryz.ntmps14
    have he1 : ((l.length : Int) != (r.length : Int)) = false := by simp [he]
    have HE := Lib.hid he
    clear he
    go_wp2
    go_loopw [5] (fun i wr => ∃ k m : Nat, k ≤ l.length ∧ i = .int .i64 (k : Int) ∧ l.take k = r.take k ∧ wr = w.drewN m) (fun i _ => l.length - (intOf i).toNat)
    case atStart => exact ⟨0, 0, by omega, rfl, rfl, rfl⟩
    case round =>
      obtain ⟨k, m, hk, rfl, heq, rfl⟩ := hrel
      have HQ := Lib.hid heq
      clear heq
      by_cases hk0 : k < l.length
      · have hk1 : k < r.length := by have := HE.out; omega
        obtain ⟨ad, x, rfl, _, hx, hcx⟩ := ha.byte hk0
        obtain ⟨bd, y, rfl, _, hy, hcy⟩ := hc.byte hk1
        by_cases hxy : x = y
        · subst hxy
          have hb1 : ((x.toNat : Int) != (x.toNat : Int)) = false := by simp
          go_wp2
          go_quiet (fail)
          go_wp2
          go_roundw
          case rel => exact ⟨k + 1, _, by omega, by go_num, by rw [take_snocS hx.out, take_snocS hy.out, HQ.out], rfl⟩
          case measure => simp [intOf]; omega
        · have hb1 : ((x.toNat : Int) != (y.toNat : Int)) = true := by
            simp only [bne_iff_ne, ne_eq, Int.natCast_inj]
            exact fun e => hxy (UInt8.toNat_inj.1 e)
          have HN : Hid (decide (l = r) = false) := by
            unfold Hid
            simp only [decide_eq_false_iff_not]
            rintro rfl
            have := hx.out.symm.trans hy.out
            exact hxy (by injection this)
          clear hxy
          go_wp2
          go_quiet (fail)
          go_wp2
          go_ret
          exact ⟨by rw [HN.out]; rfl, _, World.drewN_drewN _ _ _⟩
      · obtain rfl : k = l.length := by omega
        have HN : Hid (decide (l = r) = true) := by
          have h1 := HQ.out
          rw [List.take_length, List.take_of_length_le (by have := HE.out; omega)] at h1
          unfold Hid; simp [h1]
        go_wp2
        go_ret
        exact ⟨by rw [HN.out]; rfl, _, rfl⟩
  · have he1 : ((l.length : Int) != (r.length : Int)) = true := by simp; omega
    have hne : decide (l = r) = false := by simp; rintro rfl; exact he rfl
    rw [hne]
    go_enter Tryz.func14, Tryz.ntmps14
    go_wp2
    go_ret
    exact ⟨rfl, 0, rfl⟩
end Go.Proofs.YtnkdpchnighkfaaGreatDoor
