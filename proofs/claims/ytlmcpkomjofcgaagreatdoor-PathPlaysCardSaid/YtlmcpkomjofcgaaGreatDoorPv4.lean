/- A map of the call's own, whatever its elements are: what it holds at a key, told by a function. Nothing here speaks of the program. A map of the call's own, with its number of entries: what it holds at a key, told by keys of a type of one's own. Nothing here speaks of the program. Three rows of the call's own, each in a block of its own. Nothing here speaks of the program. Structs of the call's own that hold one growing row of bytes: what turns when one of them grows. Nothing here speaks of the program. A growing row of the call's own that is handed on: what turns. Nothing here speaks of the program. A row of bytes as it lies. What lies beside a growing row: rows of bytes that its elements point to. Nothing here speaks of the program. A block that is a row of so many cells, each told by its place. Nothing here speaks of the program. A map of the call's own: the run equation of a look. Nothing here speaks of the program. Arguments opened to what the walks are told of them; what the bound on the bulk gives. Texts as lists of bytes: equations in the walk's spelling. Texts in cells; what strings.Split and strings.IndexByte answer. A row of bytes as a text. A block whose whole row is stored anew. Nothing here speaks of the program. Regions that draw their order, read and call quietly, and end in operations that make memory: the head is taken first, in the order of the text, in every world of a row of worlds. A map's entry opened and stored into, apart (two maps stored into by one statement). Nothing here speaks of the program. Rows of elements of several cells each: read, owned, appended, a field stored. Nothing here speaks of the program. Texts compared. Nothing here speaks of the program. A map's entry opened and stored into, told by keys of a type of one's own; the two as steps of a region that draws its order. Nothing here speaks of the program. Contract: samovarref02.Same (for the seats behind the first). Arguments of more kinds opened: rows of one-cell elements, of 16-bit numbers, of texts. What a row that lists variables wants of its witness. Arguments that are rows of rows of bytes, opened. -/
import Derived.WalkKit
import Derived.Maps.OwnSet
import Derived.Maps.Views
import Derived.Deep.LoopGhost
import Derived.Deep.QuietTactic
import Derived.Test.YtlmcpkomjofcgaaGreatDoorPv1
import Derived.Test.YtlmcpkomjofcgaaGreatDoorRows
import Derived.ProofKit
import Derived.OpenShut
import Derived.ShutString
import Derived.ChangeOld
import Derived.Below
import Derived.SizedLaws
import Derived.Deep.CondSized
import Derived.JoinedCond
import Derived.Deep.Slices
import Derived.Deep.Fields
import Derived.Lib.Strings
import Derived.Test.YtlmcpkomjofcgaaGreatDoorProg
import Derived.Test.YtlmcpkomjofcgaaGreatDoorPv3
import Derived.Lib.IndexLaws
import Derived.Lib.BufferRead
import Derived.Laws.Tables
import Derived.Laws.ResultCell
import Derived.Deep.WholeRow
import Derived.Deep.RegionHeld
import Derived.BigQuiet
import Derived.Deep.RegionLaw
import Derived.StillTailTactics
namespace Go.Proofs.YtlmcpkomjofcgaaGreatDoor
open Go.RowKit

/-- An element is read as the token that it is. -/
def heldR (v : Value) : Option (DataW Value × List MemPlace) := some (.held v, [])
/-- Block b is a map of at most n entries that holds at each key what F says. -/
def MapF (w : World) (P : Program) (k : TypeId) (b n : Nat) (F : Lit → Option Value) : Prop :=
  ∃ D : DataW Value, w.ownsMap P k heldR b n D ∧ ∀ kl, WideAt.IsKeyLit kl → (∀ z, D.atKey kl z = ((F kl).map DataW.held).getD z) ∧ Maps.has D kl = (F kl).isSome

section
variable {P : Program} {k : TypeId} {w w' : World} {b n : Nat} {F : Lit → Option Value}
theorem MapF.made (w : World) (P : Program) (k : TypeId) : MapF (w.alloc (.map #[] 0)) P k w.heap.size 0 (fun _ => none) :=
  ⟨.map [], World.ownsMap_made w P k heldR, fun _ _ => ⟨fun _ => rfl, rfl⟩⟩
theorem MapF.madeAt {g : Nat} (w : World) (P : Program) (k : TypeId) (hg : w.heap.size = g) : MapF (w.alloc (.map #[] 0)) P k g 0 (fun _ => none) := by subst hg; exact MapF.made w P k
theorem MapF.lt (h : MapF w P k b n F) : b < w.heap.size := by obtain ⟨D, h, _⟩ := h; exact h.lt
theorem MapF.mono (h : MapF w P k b n F) {n' : Nat} (hn : n ≤ n') : MapF w P k b n' F := by obtain ⟨D, h, r⟩ := h; exact ⟨D, h.mono hn, r⟩
theorem MapF.grown (h : MapF w P k b n F) {row : Option Nat} (hg : w.grownBy w' row) (hne : some b ≠ row) : MapF w' P k b n F := by obtain ⟨D, h, r⟩ := h; exact ⟨D, h.kept hg hne, r⟩
theorem MapF.alloc (h : MapF w P k b n F) (o : Obj) : MapF (w.alloc o) P k b n F := by obtain ⟨D, h, r⟩ := h; exact ⟨D, h.alloc o, r⟩
theorem MapF.setCell (h : MapF w P k b n F) {a : Addr} (ha : b ≠ a.block) (u : Value) : MapF (w.setCell a u) P k b n F := by obtain ⟨D, h, r⟩ := h; exact ⟨D, h.setCell ha u, r⟩
theorem MapF.below (h : MapF w P k b n F) {B : Nat} (hb : Below B w w') (hB : b < B) : MapF w' P k b n F := by
  obtain ⟨D, ⟨es, clock, he, r⟩, q⟩ := h
  exact ⟨D, ⟨es, clock, (hb.block b hB).trans he, r⟩, q⟩
/-- m[k] = v. -/
theorem wpList_store {ops : Array Oper} {rest : List Oper} {o : Oper} {a : Act} {Q : Exit → Act → World → Prop}
    (hg : o.guard = none) (m x v : Operand) (t : TypeId) (hop : o.op = Op.mapUpdate t m x v)
    (e : TypeId) (K : Maps.Keyed P k) (ht : P.underlying t = some (.map k e)) (hm : a.eval m = .map (some b)) (hown : MapF w P k b n F) (hn : n < maxLen) (key val : Value) (kl : Lit)
    (hx : a.eval x = key) (hv : a.eval v = val) (hkey : keyOf P k key = some kl)
    (hK : ∀ w', MapF w' P k b (n + 1) (fun q => if q.sameKey kl = true then some val else F q) → w.grownBy w' (some b) → wpList P ops Q rest (a.put o.dst undef) w') :
    wpList P ops Q (o :: rest) a w := by
  obtain ⟨D, h, r⟩ := hown
  refine wpList_mapUpdate_own w hg m x v t hop k e K ht heldR b n D hm h hn key val kl hx hv hkey (.held val) [] rfl ?_
  intro w' h' hgr
  refine hK w' ⟨_, h', fun q hq => ?_⟩ hgr
  by_cases hqk : q = kl
  · subst hqk
    dsimp only
    rw [if_pos (WideAt.sameKey_self hq)]
    exact ⟨fun z => Maps.atKey_put_same h.isMap hq _ z, Maps.has_put_same h.isMap hq _⟩
  · dsimp only
    rw [if_neg (fun h => hqk (WideAt.sameKey_eq h))]
    obtain ⟨r1, r2⟩ := r q hq
    exact ⟨fun z => by rw [Maps.atKey_put_other hqk]; exact r1 z, by rw [Maps.has_put_other hqk]; exact r2⟩
/-- m[k]. -/
theorem wpList_look {ops : Array Oper} {rest : List Oper} {o : Oper} {a : Act} {Q : Exit → Act → World → Prop}
    (hg : o.guard = none) (m x : Operand) (t : TypeId) (hop : o.op = Op.lookup t m x false)
    (e : TypeId) (K : Maps.Keyed P k) (ht : P.underlying t = some (.map k e)) (z : Value) (hz : (zeroValue e).run P w = .ok z w)
    (hm : a.eval m = .map (some b)) (hown : MapF w P k b n F) (key : Value) (kl : Lit) (hx : a.eval x = key) (hkey : keyOf P k key = some kl)
    (hK : wpList P ops Q rest (a.put o.dst ((F kl).getD z)) w) :
    wpList P ops Q (o :: rest) a w := by
  refine wpList_plain hg fun K' hK' => ?_
  obtain ⟨D, h, r⟩ := hown
  obtain ⟨r1, r2⟩ := r kl (K.key hkey)
  obtain ⟨v, ps, hrun, hv⟩ := h.lookup K ht hz (zd := .held z) (zp := []) rfl hkey
  have hv' : v = (F kl).getD z := by
    rw [r1] at hv
    unfold heldR at hv
    simp only [Option.some.injEq, Prod.mk.injEq] at hv
    cases hF : F kl with
    | none => rw [hF] at hv; simpa using hv.1
    | some u => rw [hF] at hv; simpa using hv.1
  subst hv'
  unfold Oper.wp
  simp [execOp, hop, hm, hx, hrun, Result.andThen]
  exact hK' _ _ hK

/-- The same, told by keys of a type of one's own. -/
def MapT {κ : Type} (f : κ → Value) (w : World) (P : Program) (k : TypeId) (b n : Nat) (G : κ → Option Value) : Prop :=
  ∃ F, MapF w P k b n F ∧ ∀ x kl, keyOf P k (f x) = some kl → F kl = G x
variable {κ : Type} {f : κ → Value} {G : κ → Option Value}
theorem MapT.madeAt {g : Nat} (w : World) (P : Program) (k : TypeId) (hg : w.heap.size = g) : MapT f (w.alloc (.map #[] 0)) P k g 0 (fun _ => none) := ⟨_, MapF.madeAt w P k hg, fun _ _ _ => rfl⟩
theorem MapT.lt (h : MapT f w P k b n G) : b < w.heap.size := by obtain ⟨F, h, _⟩ := h; exact h.lt
theorem MapT.mono (h : MapT f w P k b n G) {n' : Nat} (hn : n ≤ n') : MapT f w P k b n' G := by obtain ⟨F, h, r⟩ := h; exact ⟨F, h.mono hn, r⟩
theorem MapT.grown (h : MapT f w P k b n G) {row : Option Nat} (hg : w.grownBy w' row) (hne : some b ≠ row) : MapT f w' P k b n G := by obtain ⟨F, h, r⟩ := h; exact ⟨F, h.grown hg hne, r⟩
theorem MapT.alloc (h : MapT f w P k b n G) (o : Obj) : MapT f (w.alloc o) P k b n G := by obtain ⟨F, h, r⟩ := h; exact ⟨F, h.alloc o, r⟩
theorem MapT.drewN (h : MapT f w P k b n G) (q : Nat) : MapT f (w.drewN q) P k b n G := h
theorem MapT.drew (h : MapT f w P k b n G) : MapT f w.drew P k b n G := h
theorem MapT.setCell (h : MapT f w P k b n G) {a : Addr} (ha : b ≠ a.block) (u : Value) : MapT f (w.setCell a u) P k b n G := by obtain ⟨F, h, r⟩ := h; exact ⟨F, h.setCell ha u, r⟩
theorem MapT.below (h : MapT f w P k b n G) {B : Nat} (hb : Below B w w') (hB : b < B) : MapT f w' P k b n G := by obtain ⟨F, h, r⟩ := h; exact ⟨F, h.below hb hB, r⟩
theorem MapT.ext (h : MapT f w P k b n G) {G' : κ → Option Value} (he : ∀ x, G' x = G x) : MapT f w P k b n G' := by obtain ⟨F, h, r⟩ := h; exact ⟨F, h, fun x kl hk => (r x kl hk).trans (he x).symm⟩

theorem wpList_lookT {ops : Array Oper} {rest : List Oper} {o : Oper} {a : Act} {Q : Exit → Act → World → Prop}
    (hg : o.guard = none) (m x : Operand) (t : TypeId) (hop : o.op = Op.lookup t m x false)
    (e : TypeId) (K : Maps.Keyed P k) (ht : P.underlying t = some (.map k e)) (z : Value) (hz : (zeroValue e).run P w = .ok z w)
    (hm : a.eval m = .map (some b)) (hown : MapT f w P k b n G) (y : κ) (kl : Lit) (hx : a.eval x = f y) (hkey : keyOf P k (f y) = some kl)
    (hK : wpList P ops Q rest (a.put o.dst ((G y).getD z)) w) :
    wpList P ops Q (o :: rest) a w := by
  obtain ⟨F, h, r⟩ := hown
  exact wpList_look hg m x t hop e K ht z hz hm h (f y) kl hx hkey (by rw [r y kl hkey]; exact hK)
theorem wpList_storeT [DecidableEq κ] {ops : Array Oper} {rest : List Oper} {o : Oper} {a : Act} {Q : Exit → Act → World → Prop}
    (hg : o.guard = none) (m x v : Operand) (t : TypeId) (hop : o.op = Op.mapUpdate t m x v)
    (e : TypeId) (K : Maps.Keyed P k) (ht : P.underlying t = some (.map k e)) (hm : a.eval m = .map (some b)) (hown : MapT f w P k b n G) (hinj : ∀ x y, f x = f y → x = y) (hn : n < maxLen) (y : κ) (val : Value) (kl : Lit)
    (hx : a.eval x = f y) (hv : a.eval v = val) (hkey : keyOf P k (f y) = some kl)
    (hK : ∀ w', MapT f w' P k b (n + 1) (fun q => if q = y then some val else G q) → w.grownBy w' (some b) → wpList P ops Q rest (a.put o.dst undef) w') :
    wpList P ops Q (o :: rest) a w := by
  obtain ⟨F, h, r⟩ := hown
  refine wpList_store hg m x v t hop e K ht hm h hn (f y) val kl hx hv hkey ?_
  intro w' h' hgr
  refine hK w' ⟨_, h', fun q ql hq => ?_⟩ hgr
  dsimp only
  by_cases hqy : q = y
  · subst hqy
    rw [hkey] at hq
    injection hq with hq
    subst hq
    rw [if_pos (WideAt.sameKey_self (K.key hkey)), if_pos rfl]
  · have hne : ¬ ql.sameKey kl = true := fun hs => by
      have := WideAt.sameKey_eq hs
      subst this
      exact hqy (hinj _ _ (K.inj hq hkey))
    rw [if_neg hne, if_neg hqy]
    exact r q ql hq
end
end Go.Proofs.YtlmcpkomjofcgaaGreatDoor
namespace Go.Proofs.YtlmcpkomjofcgaaGreatDoor
open Go.RowKit
/-- Block b is a map of just n entries that holds at each key what G says. -/
def MapZ {κ : Type} (f : κ → Value) (w : World) (P : Program) (k : TypeId) (b n : Nat) (G : κ → Option Value) : Prop :=
  ∃ D : DataW Value, w.ownsMap P k heldR b n D ∧ Maps.size D = n ∧ ∀ x kl, keyOf P k (f x) = some kl → (∀ z, D.atKey kl z = ((G x).map DataW.held).getD z) ∧ Maps.has D kl = (G x).isSome
theorem own_exact {P : Program} {k : TypeId} {w : World} {b n : Nat} {R : Value → Option (DataW Value × List MemPlace)} {D : DataW Value} (h : w.ownsMap P k R b n D) : w.ownsMap P k R b (Maps.size D) D := by
  obtain ⟨es, clock, hb, F, hs, rfl⟩ := h
  exact ⟨es, clock, hb, F, by simp [Maps.size, length_sorted], rfl⟩
section
variable {κ : Type} {f : κ → Value} {P : Program} {k : TypeId} {w w' : World} {b n : Nat} {G : κ → Option Value} {t e : TypeId} {z : Value}
theorem MapZ.made {g : Nat} (w : World) (P : Program) (k : TypeId) (hg : w.heap.size = g) : MapZ f (w.alloc (.map #[] 0)) P k g 0 (fun _ => none) := by
  subst hg
  exact ⟨.map [], World.ownsMap_made w P k heldR, rfl, fun _ _ _ => ⟨fun _ => rfl, rfl⟩⟩
theorem MapZ.lt (h : MapZ f w P k b n G) : b < w.heap.size := by obtain ⟨D, h, _⟩ := h; exact h.lt
theorem MapZ.grown (h : MapZ f w P k b n G) {row : Option Nat} (hg : w.grownBy w' row) (hne : some b ≠ row) : MapZ f w' P k b n G := by obtain ⟨D, h, r⟩ := h; exact ⟨D, h.kept hg hne, r⟩
theorem MapZ.same (h : MapZ f w P k b n G) (he : w'.heap[b]? = w.heap[b]?) : MapZ f w' P k b n G := by
  obtain ⟨D, ⟨es, clock, hb, r⟩, q⟩ := h
  exact ⟨D, ⟨es, clock, he.trans hb, r⟩, q⟩
theorem MapZ.ext (h : MapZ f w P k b n G) {G' : κ → Option Value} (he : ∀ x, G' x = G x) : MapZ f w P k b n G' := by
  obtain ⟨D, h, hn, r⟩ := h
  exact ⟨D, h, hn, fun x kl hk => by rw [he x]; exact r x kl hk⟩
theorem MapZ.lookRun (h : MapZ f w P k b n G) (K : Maps.Keyed P k) (ht : P.underlying t = some (.map k e)) (hz : (zeroValue e).run P w = .ok z w) {y : κ} {kl : Lit} (hkey : keyOf P k (f y) = some kl) :
    (Instr.lookup t (.map (some b)) (f y) false).run P w = .ok ((G y).getD z) w := by
  obtain ⟨D, h, _, r⟩ := h
  obtain ⟨r1, r2⟩ := r y kl hkey
  obtain ⟨u, ps, hrun, hv⟩ := h.lookup K ht hz (zd := .held z) (zp := []) rfl hkey
  have hv' : u = (G y).getD z := by
    rw [r1] at hv
    unfold heldR at hv
    simp only [Option.some.injEq, Prod.mk.injEq] at hv
    cases hF : G y with
    | none => rw [hF] at hv; simpa using hv.1
    | some u => rw [hF] at hv; simpa using hv.1
  rw [hrun, hv']
theorem MapZ.lookRunOk (h : MapZ f w P k b n G) (K : Maps.Keyed P k) (ht : P.underlying t = some (.map k e)) (hz : (zeroValue e).run P w = .ok z w) {y : κ} {kl : Lit} (hkey : keyOf P k (f y) = some kl) :
    (Instr.lookup t (.map (some b)) (f y) true).run P w = .ok (.tuple #[(G y).getD z, .bool (G y).isSome]) w := by
  obtain ⟨D, h, _, r⟩ := h
  obtain ⟨r1, r2⟩ := r y kl hkey
  obtain ⟨u, ps, hrun, hv⟩ := h.look_ok K ht hz (zd := .held z) (zp := []) rfl hkey
  have hv' : u = (G y).getD z := by
    rw [r1] at hv
    unfold heldR at hv
    simp only [Option.some.injEq, Prod.mk.injEq] at hv
    cases hF : G y with
    | none => rw [hF] at hv; simpa using hv.1
    | some u => rw [hF] at hv; simpa using hv.1
  rw [hrun, hv', r2]
theorem MapZ.lenRun (h : MapZ f w P k b n G) (ht : P.underlying t = some (.map k e)) (ty : TypeId) : (Builtin.len_ #[t] ty #[.map (some b)]).run P w = .ok (.int .i64 n) w := by
  obtain ⟨D, h, hn, _⟩ := h
  rw [h.len ht ty, hn]
theorem MapZ.storeRun [DecidableEq κ] (h : MapZ f w P k b n G) (K : Maps.Keyed P k) (ht : P.underlying t = some (.map k e)) (hinj : ∀ x y, f x = f y → x = y) (hn : n < maxLen) (y : κ) (val : Value) {kl : Lit} (hkey : keyOf P k (f y) = some kl) :
    ∃ w', (Instr.mapUpdate t (.map (some b)) (f y) val).run P w = .ok () w' ∧ w.grownBy w' (some b) ∧ MapZ f w' P k b (if (G y).isSome = true then n else n + 1) (fun q => if q = y then some val else G q) := by
  obtain ⟨D, h, hsz, r⟩ := h
  obtain ⟨w1, h1, h2, h3⟩ := h.update K ht hn hkey (val := val) (d := .held val) (ps := []) rfl
  have hs := Maps.size_put (k := kl) (h.tidy K) (.held val)
  rw [(r y kl hkey).2, hsz] at hs
  refine ⟨w1, h1, h3, D.put kl (.held val), ?_, hs, fun x ql hx => ?_⟩
  · have := own_exact h2
    rw [hs] at this; exact this
  · dsimp only
    by_cases hqy : x = y
    · subst hqy
      rw [hkey] at hx
      injection hx with hx
      subst hx
      rw [if_pos rfl]
      exact ⟨fun z => Maps.atKey_put_same h.isMap (K.key hkey) _ z, Maps.has_put_same h.isMap (K.key hkey) _⟩
    · have hne : ql ≠ kl := fun hs => by
        subst hs
        exact hqy (hinj _ _ (K.inj hx hkey))
      rw [if_neg hqy]
      obtain ⟨r1, r2⟩ := r x ql hx
      exact ⟨fun z => by rw [Maps.atKey_put_other hne]; exact r1 z, by rw [Maps.has_put_other hne]; exact r2⟩
theorem MapZ.delRun [DecidableEq κ] (h : MapZ f w P k b n G) (K : Maps.Keyed P k) (ht : P.underlying t = some (.map k e)) (hinj : ∀ x y, f x = f y → x = y) (y : κ) {kl : Lit} (hkey : keyOf P k (f y) = some kl) (ty : TypeId) :
    ∃ w', (Builtin.delete_ #[t, k] ty #[.map (some b), f y]).run P w = .ok (.tuple #[]) w' ∧ w.grownBy w' (some b) ∧ MapZ f w' P k b (if (G y).isSome = true then n - 1 else n) (fun q => if q = y then none else G q) := by
  obtain ⟨D, h, hsz, r⟩ := h
  obtain ⟨w1, h1, h2, h3⟩ := h.drop K ht hkey ty
  have hs := Maps.size_del (k := kl) (h.tidy K)
  rw [(r y kl hkey).2, hsz] at hs
  have hs' : Maps.size (D.del kl) = if (G y).isSome = true then n - 1 else n := by
    split at hs <;> rename_i hh <;> simp only [hh] <;> simp <;> omega
  refine ⟨w1, h1, h3.grown, D.del kl, ?_, hs', fun x ql hx => ?_⟩
  · have := own_exact h2
    rw [hs'] at this; exact this
  · dsimp only
    by_cases hqy : x = y
    · subst hqy
      rw [hkey] at hx
      injection hx with hx
      subst hx
      rw [if_pos rfl]
      exact ⟨fun z => Maps.atKey_del_same z, Maps.has_del_same⟩
    · have hne : ql ≠ kl := fun hs => by
        subst hs
        exact hqy (hinj _ _ (K.inj hx hkey))
      rw [if_neg hqy]
      obtain ⟨r1, r2⟩ := r x ql hx
      exact ⟨fun z => by rw [Maps.atKey_del_other hne]; exact r1 z, by rw [Maps.has_del_other hne]; exact r2⟩
variable {ops : Array Oper} {rest : List Oper} {o : Oper} {a : Act} {Q : Exit → Act → World → Prop}
/-- v, ok := m[k]. -/
theorem wpList_lookZ_ok (hg : o.guard = none) (m x : Operand) (t : TypeId) (hop : o.op = Op.lookup t m x true)
    (e : TypeId) (K : Maps.Keyed P k) (ht : P.underlying t = some (.map k e)) (z : Value) (hz : (zeroValue e).run P w = .ok z w)
    (hm : a.eval m = .map (some b)) (hown : MapZ f w P k b n G) (y : κ) (kl : Lit) (hx : a.eval x = f y) (hkey : keyOf P k (f y) = some kl) (v : Value) (ok : Bool) (hv : (G y).getD z = v) (hb : (G y).isSome = ok)
    (hK : wpList P ops Q rest (a.put o.dst (.tuple #[v, .bool ok])) w) : wpList P ops Q (o :: rest) a w := by
  refine wpList_plain hg fun K' hK' => ?_
  have hrun := hown.lookRunOk K ht hz hkey
  rw [hv, hb] at hrun
  unfold Oper.wp
  simp [execOp, hop, hm, hx, hrun, Result.andThen]
  exact hK' _ _ hK
/-- m[k]. -/
theorem wpList_lookZ (hg : o.guard = none) (m x : Operand) (t : TypeId) (hop : o.op = Op.lookup t m x false)
    (e : TypeId) (K : Maps.Keyed P k) (ht : P.underlying t = some (.map k e)) (z : Value) (hz : (zeroValue e).run P w = .ok z w)
    (hm : a.eval m = .map (some b)) (hown : MapZ f w P k b n G) (y : κ) (kl : Lit) (hx : a.eval x = f y) (hkey : keyOf P k (f y) = some kl) (v : Value) (hv : (G y).getD z = v)
    (hK : wpList P ops Q rest (a.put o.dst v) w) : wpList P ops Q (o :: rest) a w := by
  refine wpList_plain hg fun K' hK' => ?_
  have hrun := hown.lookRun K ht hz hkey
  rw [hv] at hrun
  unfold Oper.wp
  simp [execOp, hop, hm, hx, hrun, Result.andThen]
  exact hK' _ _ hK
/-- m[k] = v. -/
theorem wpList_storeZ [DecidableEq κ] (hg : o.guard = none) (m x v : Operand) (t : TypeId) (hop : o.op = Op.mapUpdate t m x v)
    (e : TypeId) (K : Maps.Keyed P k) (ht : P.underlying t = some (.map k e)) (hm : a.eval m = .map (some b)) (hown : MapZ f w P k b n G) (hinj : ∀ x y, f x = f y → x = y) (hn : n < maxLen) (y : κ) (val : Value) (kl : Lit)
    (hx : a.eval x = f y) (hv : a.eval v = val) (hkey : keyOf P k (f y) = some kl)
    (hK : ∀ w', MapZ f w' P k b (if (G y).isSome = true then n else n + 1) (fun q => if q = y then some val else G q) → w.grownBy w' (some b) → wpList P ops Q rest (a.put o.dst undef) w') :
    wpList P ops Q (o :: rest) a w := by
  refine wpList_plain hg fun K' hK' => ?_
  obtain ⟨w', hrun, r1, r2⟩ := hown.storeRun K ht hinj hn y val hkey
  unfold Oper.wp
  simp [execOp, hop, hm, hx, hv, hrun, Result.andThen]
  exact hK' _ _ (hK w' r2 r1)
end
end Go.Proofs.YtlmcpkomjofcgaaGreatDoor
namespace Go.Proofs.YtlmcpkomjofcgaaGreatDoor
open Go.RowKit

def Apt (a b : Value) : Prop := a.ownBlock = none ∨ b.ownBlock = none ∨ a.ownBlock ≠ b.ownBlock
theorem Apt.symm {a b : Value} (h : Apt a b) : Apt b a := by
  rcases h with h | h | h
  · exact .inr (.inl h)
  · exact .inl h
  · exact .inr (.inr fun e => h e.symm)
structure Tri {α : Type} (f : α → Value) (w : World) (base : Nat) (e : TypeId) (v1 : Value) (l1 : List α) (v2 : Value) (l2 : List α) (v3 : Value) (l3 : List α) : Prop where
  o1 : OwL f w base e v1 l1
  o2 : OwL f w base e v2 l2
  o3 : OwL f w base e v3 l3
  a12 : Apt v1 v2
  a13 : Apt v1 v3
  a23 : Apt v2 v3
section
variable {α : Type} {f : α → Value} {w w' : World} {base : Nat} {e : TypeId} {v1 v2 v3 v' : Value} {l1 l2 l3 n : List α}
theorem Tri.nil : Tri f w base e (.slice none 0 0) [] (.slice none 0 0) [] (.slice none 0 0) [] :=
  ⟨OwL.nil, OwL.nil, OwL.nil, .inl rfl, .inl rfl, .inl rfl⟩
theorem Tri.rot (h : Tri f w base e v1 l1 v2 l2 v3 l3) : Tri f w base e v2 l2 v3 l3 v1 l1 := ⟨h.o2, h.o3, h.o1, h.a23, h.a12.symm, h.a13.symm⟩
theorem apt_kept {v : Value} {l : List α} (ho : OwL f w base e v l) (ha : Apt v1 v) (g : w.grownBy w' v1.ownBlock) : OwL f w' base e v l := by
  refine World.ownsRow.kept ho g ?_
  rcases ha with h | h | h
  · rw [h]
    cases hv : v.ownBlock with
    | none => exact .inl rfl
    | some b => exact .inr (by simp)
  · exact .inl h
  · exact .inr fun e => h e.symm
theorem apt_new {v : Value} {l : List α} (ho : OwL f w base e v l) (ha : Apt v1 v) (k : v'.ownBlock = v1.ownBlock ∨ v'.ownBlock = some w.heap.size) : Apt v' v := by
  rcases k with k | k
  · unfold Apt; rw [k]; exact ha
  · unfold Apt
    rw [k]
    cases hv : v.ownBlock with
    | none => exact .inr (.inl rfl)
    | some b =>
      have := (World.ownsRow.lt ho b hv).2
      exact .inr (.inr (by intro e; injection e with e; omega))
end
end Go.Proofs.YtlmcpkomjofcgaaGreatDoor
namespace Go.Proofs.YtlmcpkomjofcgaaGreatDoor
open Go.RowKit
/-- What has turned lies in the blocks of S, or is new. -/
structure Ch (w w' : World) (S : Nat → Prop) : Prop where
  os : w'.os = w.os
  tape : w'.tape = w.tape
  output : w'.output = w.output
  size : w.heap.size ≤ w'.heap.size
  same : ∀ k, k < w.heap.size → ¬ S k → w'.heap[k]? = w.heap[k]?
section
variable {a b c w w' : World} {S S' : Nat → Prop}
theorem Ch.refl (w : World) : Ch w w S := ⟨rfl, rfl, rfl, Nat.le_refl _, fun _ _ _ => rfl⟩
theorem Ch.trans (h : Ch a b S) (k : Ch b c S') (hS : ∀ i, i < a.heap.size → S' i → S i) : Ch a c S :=
  ⟨k.os.trans h.os, k.tape.trans h.tape, k.output.trans h.output, Nat.le_trans h.size k.size, fun i hi hn => (k.same i (Nat.lt_of_lt_of_le hi h.size) (fun h' => hn (hS i hi h'))).trans (h.same i hi hn)⟩
theorem Ch.mono (h : Ch a b S) (hS : ∀ i, i < a.heap.size → S i → S' i) : Ch a b S' := ⟨h.os, h.tape, h.output, h.size, fun i hi hn => h.same i hi (fun h' => hn (hS i hi h'))⟩
theorem Ch.below {B : Nat} (h : Ch a b S) (hB : B ≤ a.heap.size) (hS : ∀ k, k < B → ¬ S k) : Below B a b := ⟨h.os, h.tape, h.output, h.size, fun k hk => h.same k (Nat.lt_of_lt_of_le hk hB) (hS k hk)⟩
theorem Ch.of_below (h : Below a.heap.size a b) : Ch a b S := ⟨h.os, h.tape, h.output, h.size, fun k hk _ => h.block k hk⟩
theorem Ch.of_grown {row : Option Nat} (h : a.grownBy b row) (hS : ∀ k, row = some k → S k) : Ch a b S := ⟨h.os, h.tape, h.output, h.size, fun k hk hn => h.block k hk (fun e => hn (hS k e.symm))⟩
theorem Ch.drewN (h : Ch a b S) (n : Nat) : Ch a (b.drewN n) S := ⟨h.os, h.tape, h.output, h.size, h.same⟩
theorem Ch.setCell (h : Ch a b S) {p : Addr} (hp : p.block < a.heap.size → S p.block) (u : Value) : Ch a (b.setCell p u) S :=
  ⟨h.os, h.tape, h.output, by simpa [World.setCell] using h.size, fun k hk hn => (Below.heap_setCell b p u k (fun e => hn (by rw [e]; exact hp (by omega)))).trans (h.same k hk hn)⟩
theorem OwL.own_same {α : Type} {f : α → Value} {base : Nat} {e : TypeId} {v : Value} {l : List α} (h : OwL f w base e v l) (hs : ∀ k, v.ownBlock = some k → w'.heap[k]? = w.heap[k]?) : OwL f w' base e v l := by
  refine ⟨h.1, ?_⟩
  rcases h.2 with hn | ⟨g, cap, cur, rfl, hb, hgg, rest⟩
  · exact .inl hn
  · exact .inr ⟨g, cap, cur, rfl, hb, (hs g rfl).trans hgg, rest⟩
theorem OwL.ch {α : Type} {f : α → Value} {base : Nat} {e : TypeId} {v : Value} {l : List α} (h : OwL f w base e v l) (hc : Ch w w' S) (hS : ∀ k, v.ownBlock = some k → ¬ S k) : OwL f w' base e v l :=
  h.own_same fun k hk => hc.same k (World.ownsRow.lt h k hk).2 (hS k hk)
theorem Bk.ch {g : Nat} {t : TypeId} {cs : Array Value} (h : Bk w g t cs) (hc : Ch w w' S) (hS : ¬ S g) : Bk w' g t cs := (hc.same g h.lt hS).trans h
theorem cell_same {p : Addr} (h : w'.heap[p.block]? = w.heap[p.block]?) : w'.cell? p = w.cell? p := by
  unfold World.cell?
  rw [h]
theorem Rd.ch {B : Nat} {A : Option Addr} {xs : List Value} (h : Rd w B A xs) (hc : Ch w w' S) (hB : B ≤ w.heap.size) (hS : ∀ ad, A = some ad → ¬ S ad.block) : Rd w' B A xs := fun hne => by
  obtain ⟨ad, e, hb, hx⟩ := h hne
  refine ⟨ad, e, hb, fun i u hu => ?_⟩
  have e2 : w'.cell? (ad.add i) = w.cell? (ad.add i) := cell_same (by rw [blk_add]; exact hc.same _ (Nat.lt_of_lt_of_le hb hB) (hS ad e))
  rw [e2]
  exact hx i u hu
theorem RL.ch {α : Type} {f : α → Value} {B : Nat} {A : Option Addr} {l : List α} (h : RL f w B A l) (hc : Ch w w' S) (hB : B ≤ w.heap.size) (hS : ∀ ad, A = some ad → ¬ S ad.block) : RL f w' B A l := Rd.ch h hc hB hS
/-- Struct g holds the row v of the call's own, and that the bytes l. -/
def Rws (T E : TypeId) (w : World) (base g : Nat) (v : Value) (l : List UInt8) : Prop := Bk w g T #[v] ∧ OwB w base E v l
/-- The blocks that turn when it grows. -/
def Fpt (g : Nat) (v : Value) (k : Nat) : Prop := k = g ∨ v.ownBlock = some k
end
end Go.Proofs.YtlmcpkomjofcgaaGreatDoor
namespace Go.Proofs.YtlmcpkomjofcgaaGreatDoor
open Go.RowKit
/-- The row v' is v's own row or a new one. -/
def OwnN (w : World) (v v' : Value) : Prop := v'.ownBlock = v.ownBlock ∨ ∃ b, v'.ownBlock = some b ∧ w.heap.size ≤ b
/-- The blocks that turn when the row v grows. -/
def Fow (v : Value) (k : Nat) : Prop := v.ownBlock = some k
section
variable {w wr w1 w5 : World} {v vj v5 : Value}
theorem OwnN.refl : OwnN w v v := .inl rfl
theorem OwnN.trans (h : OwnN w v vj) (hs : w.heap.size ≤ wr.heap.size) (k : OwnN wr vj v5) : OwnN w v v5 := by
  rcases k with e | ⟨b, e, hb⟩
  · rcases h with e2 | ⟨b, e2, hb⟩
    · exact .inl (e.trans e2)
    · exact .inr ⟨b, e.trans e2, hb⟩
  · exact .inr ⟨b, e, by omega⟩
/-- Behind a step that makes memory, and one that grows the row. -/
theorem own_next (HC : Ch w wr (Fow v)) (HJ : OwnN w v vj) (hb1 : Below wr.heap.size wr w1) (hg5 : w1.grownBy w5 vj.ownBlock) (hv5 : v5.ownBlock = vj.ownBlock ∨ v5.ownBlock = some w1.heap.size) : Ch w w5 (Fow v) ∧ OwnN w v v5 := by
  have hz := HC.size
  have hz1 := hb1.size
  refine ⟨(HC.trans (Ch.of_below (S := fun _ => False) hb1) (fun _ _ h => h.elim)).trans (Ch.of_grown (S := fun k => vj.ownBlock = some k) hg5 (fun k h => h)) (fun i hi h => ?_), ?_⟩
  · rcases HJ with e | ⟨b, e, hb⟩
    · exact e.symm.trans h
    · rw [e] at h; injection h; omega
  · rcases hv5 with e | e
    · exact HJ.trans (wr := w1) (by omega) (.inl e)
    · exact .inr ⟨_, e, by omega⟩
end
end Go.Proofs.YtlmcpkomjofcgaaGreatDoor
namespace Go.Proofs.YtlmcpkomjofcgaaGreatDoor
open Go.RowKit
/-- A row of bytes: where it lies, how long it is, how much there is room for, its bytes. -/
structure Sl where
  A : Option Addr
  n : Nat
  c : Nat
  l : List UInt8
instance : Inhabited Sl := ⟨⟨none, 0, 0, []⟩⟩
def slV (x : Sl) : Value := .slice x.A x.n x.c
/-- A row of bytes below B. -/
def SlB (w : World) (B : Nat) (x : Sl) : Prop := x.l.length = x.n ∧ x.n ≤ x.c ∧ (x.c : Int) ≤ 9223372036854775807 ∧ RB w B x.A x.l
theorem SlB.below {w w' : World} {B B' : Nat} {x : Sl} (h : SlB w B x) (hb : Below B' w w') (hB : B ≤ B') : SlB w' B x := ⟨h.1, h.2.1, h.2.2.1, h.2.2.2.below hb hB⟩
theorem SlB.more {w : World} {B B' : Nat} {x : Sl} (h : SlB w B x) (hB : B ≤ B') : SlB w B' x := ⟨h.1, h.2.1, h.2.2.1, h.2.2.2.more hB⟩
end Go.Proofs.YtlmcpkomjofcgaaGreatDoor
namespace Go.Proofs.YtlmcpkomjofcgaaGreatDoor
open Go.RowKit
/-- Cells from A on, in a block that X allows. -/
def Rx (w : World) (X : Nat → Prop) (A : Option Addr) (xs : List Value) : Prop := xs ≠ [] → ∃ ad, A = some ad ∧ X ad.block ∧ ∀ i u, xs[i]? = some u → w.cell? (ad.add i) = some u
/-- A row of bytes in a block that X allows. -/
def SlX (w : World) (X : Nat → Prop) (x : Sl) : Prop := x.l.length = x.n ∧ x.n ≤ x.c ∧ (x.c : Int) ≤ 9223372036854775807 ∧ Rx w X x.A (x.l.map bV)
/-- Blocks that stand, but for the row's own. -/
def Bes (w : World) (v : Value) (k : Nat) : Prop := k < w.heap.size ∧ v.ownBlock ≠ some k
def SubsX (w : World) (v : Value) (ps : List Sl) : Prop := ∀ x ∈ ps, SlX w (Bes w v) x
section
variable {w w' : World} {X Y : Nat → Prop} {A : Option Addr} {xs : List Value} {x : Sl} {v v' : Value} {ps ns : List Sl} {B : Nat}
theorem Rx.step (h : Rx w X A xs) (hs : ∀ k, X k → w'.heap[k]? = w.heap[k]?) (hY : ∀ k, X k → Y k) : Rx w' Y A xs := fun hn => by
  obtain ⟨ad, e, hx, hc⟩ := h hn
  exact ⟨ad, e, hY _ hx, fun i u hu => (cell_same (p := ad.add i) (by rw [blk_add]; exact hs _ hx)).trans (hc i u hu)⟩
theorem SlX.step (h : SlX w X x) (hs : ∀ k, X k → w'.heap[k]? = w.heap[k]?) (hY : ∀ k, X k → Y k) : SlX w' Y x := ⟨h.1, h.2.1, h.2.2.1, h.2.2.2.step hs hY⟩
theorem SlX.slB (h : SlX w X x) (hX : ∀ k, X k → k < B) : SlB w B x := ⟨h.1, h.2.1, h.2.2.1, fun hn => by
  obtain ⟨ad, e, hx, hc⟩ := h.2.2.2 hn
  exact ⟨ad, e, hX _ hx, hc⟩⟩
end
end Go.Proofs.YtlmcpkomjofcgaaGreatDoor
namespace Go.Proofs.YtlmcpkomjofcgaaGreatDoor
open Go.RowKit

/-- A fact that no tactic sees through (Hid is a definition, and 'assumption' opens it). -/
structure Bx (p : Prop) : Prop where out : p
theorem bx {p : Prop} (h : p) : Bx p := ⟨h⟩
/-- A row of the call's own is a slice, its length behind a letter. -/
theorem OwL.sl {α : Type} {f : α → Value} {w : World} {base : Nat} {e : TypeId} {v : Value} {l : List α} (h : OwL f w base e v l) : ∃ A n c, v = .slice A n c ∧ Bx (n = l.length) ∧ RL f w w.heap.size A l := by
  obtain ⟨A, c, h1, h2, _⟩ := h.rd
  exact ⟨A, _, c, h1, ⟨rfl⟩, h2⟩
def Rw (w : World) (g : Nat) (t : TypeId) (n : Nat) (C : Nat → Value) : Prop := ∃ cs, Bk w g t cs ∧ cs.size = n ∧ ∀ i, i < n → cs[i]? = some (C i)
section
variable {w w' : World} {g : Nat} {t : TypeId} {n : Nat} {C : Nat → Value}
theorem Rw.lt (h : Rw w g t n C) : g < w.heap.size := by obtain ⟨_, h, _⟩ := h; exact h.lt
theorem Rw.cell (h : Rw w g t n C) {i : Nat} (hi : i < n) : w.cell? ⟨g, i, none⟩ = some (C i) := by
  obtain ⟨cs, hb, _, hc⟩ := h
  rw [hb.cell, hc i hi]
theorem Rw.frz (h : Rw w g t n C) (i : Nat) : w.frozen? ⟨g, i, none⟩ = false := by obtain ⟨_, h, _⟩ := h; exact h.frz i
theorem Rw.of {cs : Array Value} (h : Bk w g t cs) (hn : cs.size = n) (hc : ∀ i, i < n → cs[i]? = some (C i)) : Rw w g t n C := ⟨cs, h, hn, hc⟩
theorem Rw.ext (h : Rw w g t n C) {D : Nat → Value} (hD : ∀ i, i < n → D i = C i) : Rw w g t n D := by
  obtain ⟨cs, h1, h2, h3⟩ := h
  exact ⟨cs, h1, h2, fun i hi => by rw [hD i hi]; exact h3 i hi⟩
theorem Rw.set (h : Rw w g t n C) (i : Nat) (u : Value) : Rw (w.setCell ⟨g, i, none⟩ u) g t n (fun j => if j = i then u else C j) := by
  obtain ⟨cs, h1, h2, h3⟩ := h
  refine ⟨_, h1.set i u, by simpa using h2, fun j hj => ?_⟩
  rw [Array.getElem?_setIfInBounds]
  by_cases e : i = j
  · subst e; simp [h2, hj]
  · have e' : ¬ j = i := fun x => e x.symm
    simp [e, e', h3 j hj]
theorem Rw.keep (h : Rw w g t n C) (hk : w'.heap[g]? = w.heap[g]?) : Rw w' g t n C := by
  obtain ⟨cs, h1, r⟩ := h
  exact ⟨cs, hk.trans h1, r⟩
theorem Rw.alloc (h : Rw w g t n C) (o : Obj) : Rw (w.alloc o) g t n C := h.keep (Below.heap_alloc w o g h.lt)
theorem Rw.far (h : Rw w g t n C) {p : Addr} (hp : g ≠ p.block) (u : Value) : Rw (w.setCell p u) g t n C := h.keep (Below.heap_setCell w p u g hp)
theorem Rw.grown {row : Option Nat} (h : Rw w g t n C) (hb : w.grownBy w' row) (hg : some g ≠ row) : Rw w' g t n C := h.keep (hb.block g h.lt hg)
end
end Go.Proofs.YtlmcpkomjofcgaaGreatDoor
namespace Go.Proofs.YtlmcpkomjofcgaaGreatDoor
open Go.RowKit
theorem MapT.run_is {κ : Type} {f : κ → Value} {P : Program} {k : TypeId} {w : World} {b n : Nat} {G : κ → Option Value} {t e : TypeId} {z v : Value} (hown : MapT f w P k b n G) (K : Maps.Keyed P k) (ht : P.underlying t = some (.map k e)) (hz : (zeroValue e).run P w = .ok z w) {y : κ} {kl : Lit} (hkey : keyOf P k (f y) = some kl) (hG : (G y).getD z = v) :
    (Instr.lookup t (.map (some b)) (f y) false).run P w = .ok v w := by
  obtain ⟨F, ⟨D, h, r⟩, rG⟩ := hown
  obtain ⟨r1, r2⟩ := r kl (K.key hkey)
  have hF := rG y kl hkey
  obtain ⟨u, ps, hrun, hv⟩ := h.lookup K ht hz (zd := .held z) (zp := []) rfl hkey
  have hv' : u = (F kl).getD z := by
    rw [r1] at hv
    unfold heldR at hv
    simp only [Option.some.injEq, Prod.mk.injEq] at hv
    cases hF : F kl with
    | none => rw [hF] at hv; simpa using hv.1
    | some u => rw [hF] at hv; simpa using hv.1
  rw [hrun, hv', hF, hG]
/-- m[k] = v, as an equation. -/
theorem MapT.storeRun {κ : Type} [DecidableEq κ] {f : κ → Value} {P : Program} {k : TypeId} {w : World} {b n : Nat} {G : κ → Option Value} {t e : TypeId} (h : MapT f w P k b n G) (K : Maps.Keyed P k) (ht : P.underlying t = some (.map k e)) (hinj : ∀ x y, f x = f y → x = y) (hn : n < maxLen) (y : κ) (val : Value) {kl : Lit} (hkey : keyOf P k (f y) = some kl) :
    ∃ w', (Instr.mapUpdate t (.map (some b)) (f y) val).run P w = .ok () w' ∧ w.grownBy w' (some b) ∧ MapT f w' P k b (n + 1) (fun q => if q = y then some val else G q) := by
  obtain ⟨F, ⟨D, h, r⟩, rG⟩ := h
  obtain ⟨w1, h1, h2, h3⟩ := h.update K ht hn hkey (val := val) (d := .held val) (ps := []) rfl
  refine ⟨w1, h1, h3, fun q => if q.sameKey kl = true then some val else F q, ⟨_, h2, fun q hq => ?_⟩, fun x ql hx => ?_⟩
  · by_cases hqk : q = kl
    · subst hqk
      dsimp only
      rw [if_pos (WideAt.sameKey_self hq)]
      exact ⟨fun z => Maps.atKey_put_same h.isMap hq _ z, Maps.has_put_same h.isMap hq _⟩
    · dsimp only
      rw [if_neg (fun h => hqk (WideAt.sameKey_eq h))]
      obtain ⟨r1, r2⟩ := r q hq
      exact ⟨fun z => by rw [Maps.atKey_put_other hqk]; exact r1 z, by rw [Maps.has_put_other hqk]; exact r2⟩
  · dsimp only
    by_cases hqy : x = y
    · subst hqy
      rw [hkey] at hx
      injection hx with hx
      subst hx
      rw [if_pos (WideAt.sameKey_self (K.key hkey)), if_pos rfl]
    · have hne : ¬ ql.sameKey kl = true := fun hs => by
        have := WideAt.sameKey_eq hs
        subst this
        exact hqy (hinj _ _ (K.inj hx hkey))
      rw [if_neg hne, if_neg hqy]
      exact rG x ql hx
end Go.Proofs.YtlmcpkomjofcgaaGreatDoor
namespace Go.Proofs.YtlmcpkomjofcgaaGreatDoor
open Go.ChangeShapes Go.WideShapes Go.ChangeAt Go.RowKit
open Go.ChangeMaps (open_string shut_string)
open Go.Deep (open_slice choose_lt hone_of oneCellFields)

theorem own : ownKnob Tryz.prog.godebug = none := by kernel_rfl
theorem laidOut : laidOutB Tryz.prog = true := by kernel_rfl

section
variable {H : Type} {enc : TypeId × Value → H} {P : Program} {w : World} {base : Nat} {spare : Nat → Bool} {held : Bool} {r : Reach} {b0 : Nat}
/-- What the datum of a slice says of its length. -/
def DLen (d : DataW H) (n : Nat) : Prop := (d = .nil ∧ n = 0) ∨ ∃ es sp, d = .slice es sp ∧ es.length = n

/-- A slice of whatever elements: F lays an element's cells, Q says what its datum says of it. -/
theorem open_rows {α : Type} [Inhabited α] {t e : TypeId} {v : Value} {d : DataW H} {ps : List MemPlace} (size : Nat) (F : α → List Value) (Q : α → DataW H → Prop) (ht : P.underlying t = some (.slice e)) (hC : P.cellsOf e = size) (hpos : 0 < size)
    (hF : ∀ x, (F x).length = size)
    (hel : ∀ (n : Nat) (cs : List Value) (y : DataW H × List MemPlace), cs.length = size → DataW.trod enc P w base spare held n e cs = some y → ∃ x, cs = F x ∧ Q x y.1)
    (hv : Value.okWide P w r b0 t v) (h : DataW.Trod enc P w base spare held t v d ps) :
    ∃ (A : Option Addr) (n c : Nat) (l : List α), v = .slice A n c ∧ l.length = n ∧ n ≤ c ∧ (c : Int) ≤ 9223372036854775807 ∧ Rd w w.heap.size A (l.flatMap F) ∧
      ((d = .nil ∧ l = []) ∨ ∃ es sp, d = .slice es sp ∧ es.length = n ∧ ∀ (i : Nat) (x : α) (y : DataW H), l[i]? = some x → es[i]? = some y → Q x y) := by
  obtain ⟨A, n, c, rfl⟩ := okWide_slice ht hv
  obtain ⟨fuel, hf⟩ := h
  rcases open_slice ht hf with ⟨hcs, hx⟩ | ⟨a, len, cap, m, n', D, Pl, hcs, _, hl, hm, hmm, hx, hi⟩
  · simp [Value.cells] at hcs
    obtain ⟨rfl, rfl, rfl⟩ := hcs
    simp only [Prod.mk.injEq] at hx
    exact ⟨none, 0, 0, [], rfl, rfl, Nat.le_refl _, by omega, Rd.nil, .inl ⟨hx.1, rfl⟩⟩
  · simp [Value.cells] at hcs
    obtain ⟨rfl, rfl, rfl⟩ := hcs
    simp only [Prod.mk.injEq] at hx
    rw [hC] at hi
    have hlm : n ≤ m := by rw [hmm]; split <;> omega
    obtain ⟨X, hX⟩ := choose_lt (n := n) (α := α) (p := fun i x => (∃ cs', w.cells? base (a.add (i * size)) size = some cs' ∧ cs' = F x) ∧ Q x (D i)) (fun i hin => by
      obtain ⟨cs', h1, h2⟩ := hi i (by omega)
      obtain ⟨_, hlen, _⟩ := World.cells?_some h1
      obtain ⟨x, hx1, hx2⟩ := hel _ _ _ hlen h2
      exact ⟨x, ⟨cs', h1, hx1⟩, hx2⟩)
    have hcell : ∀ i j, i < n → j < size → w.cell? (a.add (i * size + j)) = (F (X i))[j]? := by
      intro i j hin hj
      obtain ⟨⟨cs', h1, h2⟩, _⟩ := hX i hin
      obtain ⟨_, hlen, hat⟩ := World.cells?_some h1
      have := hat j hj
      rw [← Go.Deep.add_add, this, h2]
    have hget : ∀ (k : Nat) (l : List α) (i j : Nat), l.length = k → i < k → j < size → (l.flatMap F)[i * size + j]? = (l[i]?).bind fun x => (F x)[j]? := by
      intro k
      induction k with
      | zero => intro l i j _ h; omega
      | succ k ih =>
        intro l i j hlk hik hj
        match l, hlk with
        | x :: r, hlk =>
          cases i with
          | zero =>
            simp only [List.flatMap_cons, Nat.zero_mul, Nat.zero_add, List.getElem?_cons_zero, Option.bind_some]
            rw [List.getElem?_append_left (by rw [hF]; exact hj)]
          | succ i =>
            simp only [List.flatMap_cons, List.getElem?_cons_succ]
            rw [List.getElem?_append_right (by rw [hF, Nat.add_mul]; omega), hF, show (i + 1) * size + j - size = i * size + j by rw [Nat.add_mul]; omega]
            exact ih r i j (by simpa using hlk) (by omega) hj
    have hll : ((List.range n).map X).length = n := by simp
    have hflen : ∀ l : List α, (l.flatMap F).length = l.length * size := by
      intro l
      induction l with
      | nil => simp
      | cons x r ih => simp only [List.flatMap_cons, List.length_append, ih, hF, List.length_cons, Nat.add_mul]; omega
    have key : ∀ q u, (((List.range n).map X).flatMap F)[q]? = some u → w.cell? (a.add q) = some u := by
      intro q u hu
      have hq : q < n * size := by
        have := (List.getElem?_eq_some_iff.1 hu).1
        rw [hflen, hll] at this; exact this
      have hq1 : q / size < n := Nat.div_lt_of_lt_mul (by rw [Nat.mul_comm]; exact hq)
      have hq2 : q % size < size := Nat.mod_lt _ hpos
      have hqe : q / size * size + q % size = q := by rw [Nat.mul_comm]; exact Nat.div_add_mod q size
      have h1 := hget n _ (q / size) (q % size) hll hq1 hq2
      rw [hqe, hu] at h1
      have h2 := hcell (q / size) (q % size) hq1 hq2
      rw [hqe] at h2
      rw [h2, h1]
      simp [hq1]
    refine ⟨some a, n, c, (List.range n).map X, rfl, hll, hl, by unfold maxLen at hm; omega, fun hne => ⟨a, rfl, ?_, key⟩, .inr ⟨_, _, hx.1, by simp, ?_⟩⟩
    · obtain ⟨u, us, hq⟩ := List.exists_cons_of_ne_nil hne
      have := World.block_lt_of_cell? _ _ (key 0 u (by rw [hq]; rfl))
      rwa [blk_add] at this
    · intro i x y hx1 hy1
      simp only [List.getElem?_map] at hx1 hy1
      obtain ⟨i1, hi1, rfl⟩ := Option.map_eq_some_iff.1 hx1
      obtain ⟨i2, hi2, rfl⟩ := Option.map_eq_some_iff.1 hy1
      have e1 := List.getElem?_eq_some_iff.1 hi1
      have e2 := List.getElem?_eq_some_iff.1 hi2
      obtain ⟨h1, rfl⟩ := e1
      obtain ⟨h2, rfl⟩ := e2
      simp only [List.getElem_range]
      exact (hX i (by simpa using h1)).2
/-- The fields of a struct of one-cell fields. -/
theorem open_fields {e : TypeId} {fs : Array Field} {n : Nat} {cs : List Value} {y : DataW H × List MemPlace} (he : P.underlying e = some (.struct fs)) (hone : oneCellFields P fs = true) (hC : P.cellsOf e = fs.size)
    (h : DataW.trod enc P w base spare held n e cs = some y) :
    ∃ (ys : List (DataW H × List MemPlace)) (n' : Nat), y.1 = .agg (ys.map (·.1)) ∧ ys.length = fs.size ∧ cs.length = fs.size ∧
      ∀ (j : Nat) (f : Field), fs[j]? = some f → ∃ (v : Value) (z : DataW H × List MemPlace), cs[j]? = some v ∧ ys[j]? = some z ∧ DataW.trod enc P w base spare held n' f.type [v] = some z := by
  obtain ⟨ys, n', _, hy, hlen, hyl, hf⟩ := DataW.trod_struct he h
  refine ⟨ys, n', by rw [hy], hyl, hlen.trans hC, fun j f hj => ?_⟩
  obtain ⟨ho, hk⟩ := hone_of hone j f hj
  have hjl : j < fs.size := (Array.getElem?_eq_some_iff.1 hj).1
  have hcl : j < cs.length := by rw [hlen, hC]; exact hjl
  have h1 := hf j f hj
  rw [ho, hk, List.drop_eq_getElem_cons hcl] at h1
  have hys : ys[j]? = some (ys[j]'(by omega)) := List.getElem?_eq_getElem (by omega)
  exact ⟨cs[j], _, List.getElem?_eq_getElem hcl, hys, h1.trans hys⟩
end

section
variable {H : Type}
end
end Go.Proofs.YtlmcpkomjofcgaaGreatDoor
namespace Go.Proofs.YtlmcpkomjofcgaaGreatDoor
theorem size_len (s : ByteArray) : s.data.toList.length = s.size := rfl
theorem tl_ne {s : ByteArray} {l : List UInt8} (h : ¬ s.data.toList = l) : (s.toList == l) = false := by
  rw [Lib.toList_data]; simpa using h
theorem tl_eq {s : ByteArray} {l : List UInt8} (h : s.data.toList = l) : (s.toList == l) = true := by
  rw [Lib.toList_data]; simpa using h
theorem tl_some {s : ByteArray} (h : ¬ s.data.toList = []) : s.toList.isEmpty = false := by
  rw [Lib.toList_data]; simpa using h
theorem tl_none {s : ByteArray} (h : s.data.toList = []) : s.toList.isEmpty = true := by
  rw [Lib.toList_data]; simpa using h
theorem size_zero {s : ByteArray} (h : s.data.toList = []) : s.size = 0 := by rw [← size_len, h]; rfl
theorem size_pos {s : ByteArray} (h : ¬ s.data.toList = []) : 0 < s.size := by rw [← size_len]; exact List.length_pos_iff.2 h
theorem ret_bool {b b' : Bool} (h : b = b') : Ending.returned (.bool b) = Ending.returned (.bool b') := by rw [h]
theorem u8_ne {x y : UInt8} (h : ¬ x = y) : ¬ (x.toNat : Int) = (y.toNat : Int) := fun e => h (UInt8.toNat_inj.1 (by omega))
end Go.Proofs.YtlmcpkomjofcgaaGreatDoor
namespace Go.Proofs.YtlmcpkomjofcgaaGreatDoor
open Go.RowKit
open Go.Lib (replaceAll countB splitB splitK splitB_data splitB_all countB_le)

/-- A text's cell. -/
def sV (x : List UInt8) : Value := .string ⟨x.toArray⟩
theorem str_info : ∃ i, Tryz.prog.info? 9 = some i ∧ i.zero = some (.string .empty) ∧ i.size = 1 ∧ i.bytes = 16 := info_parts (by kernel_rfl)
theorem strTy : ETy Tryz.prog 31 9 (.string .empty) 1 16 := ⟨Tryz.underlying31, str_info, rfl, by decide⟩
/-- What Split lays. -/
theorem split_row (s : ByteArray) (a : UInt8) : countB s ⟨#[a]⟩ + 1 = (cutL a s.data.toList).length ∧ (splitB ⟨#[a]⟩ 0 (countB s ⟨#[a]⟩) s).map Value.string = (cutL a s.data.toList).map sV := by
  have h := splitB_data ⟨#[a]⟩ 0 (countB s ⟨#[a]⟩) s
  have e : splitK (⟨#[a]⟩ : ByteArray).data.toList 0 (countB s ⟨#[a]⟩) s.data.toList = cutL a s.data.toList := split_cut a s.data.toList
  rw [e] at h
  refine ⟨?_, ?_⟩
  · rw [← h, List.length_map, splitB_all ⟨#[a]⟩ (Nat.le_refl 1) 0 _ s rfl]
  · rw [← h, List.map_map]; rfl
theorem idx_has {l : List UInt8} {x : UInt8} (h : l.contains x = true) : 0 ≤ Lib.indexByte l x := by
  have hge := Lib.indexByte_ge l x
  rcases Decidable.em (Lib.indexByte l x = -1) with h1 | h1
  · obtain ⟨i, hi⟩ := List.getElem?_of_mem (List.contains_iff_mem.1 h)
    exact absurd hi (Lib.indexByte_none h1 i)
  · omega
theorem idx_lacks {l : List UInt8} {x : UInt8} (h : l.contains x = false) : Lib.indexByte l x = -1 := by
  have hge := Lib.indexByte_ge l x
  rcases Decidable.em (Lib.indexByte l x = -1) with h1 | h1
  · exact h1
  · obtain ⟨hi, _⟩ := Lib.indexByte_some (l := l) (c := x) (o := (Lib.indexByte l x).toNat) (by omega)
    have := List.contains_iff_mem.2 (List.mem_of_getElem? hi)
    rw [h] at this; cases this
end Go.Proofs.YtlmcpkomjofcgaaGreatDoor
namespace Go.Proofs.YtlmcpkomjofcgaaGreatDoor
open Go.RowKit
/-- string(b) of whatever row of bytes. -/
theorem run_conv_str {P : Program} {w : World} {B : Nat} {A : Option Addr} {l : List UInt8} {n c : Nat} {src dst e : TypeId} (hs : P.underlying src = some (.slice e)) (he : P.underlying e = some (.int .u8)) (hd : P.underlying dst = some .string)
    (hn : l.length = n) (hr : RB w B A l) : (convert src dst (.slice A n c)).run P w = .ok (.string ⟨l.toArray⟩) w := by
  subst hn
  rcases A with _ | ad
  · have hl : l = [] := by
      rcases Decidable.em (l.map bV = []) with h | h
      · simpa using h
      · obtain ⟨_, h', _⟩ := hr h; cases h'
    subst hl
    exact Lib.run_convert_nil_bytes w src dst e c hs he hd
  · refine run_convert_bytes_back w src dst e ad c l hs he hd fun j hj => ?_
    obtain ⟨ad', h', _, hc⟩ := hr (fun h => by simp at h; subst h; simp at hj)
    injection h' with h'
    subst h'
    exact hc j _ (by simp [hj]; rfl)
end Go.Proofs.YtlmcpkomjofcgaaGreatDoor
namespace Go.Proofs.YtlmcpkomjofcgaaGreatDoor
open Go.RowKit
theorem Bk.setRow {w : World} {g : Nat} {t : TypeId} {old : Array Value} (h : Bk w g t old) (cs : Array Value) : Bk (w.setRow g cs) g t cs := by
  unfold Bk at h ⊢
  simp [World.setRow, Array.getElem?_modify, h]
theorem heap_setRow (w : World) (g : Nat) (cs : Array Value) (k : Nat) (h : k ≠ g) : (w.setRow g cs).heap[k]? = w.heap[k]? := by
  have h' : ¬ g = k := fun e => h e.symm
  simp [World.setRow, Array.getElem?_modify, h']
theorem bl_setRow {B : Nat} {a w : World} (h : Below B a w) {g : Nat} (hg : B ≤ g) (cs : Array Value) : Below B a (w.setRow g cs) :=
  ⟨h.os, h.tape, h.output, by simpa using h.size, fun k hk => (heap_setRow w g cs k (by omega)).trans (h.block k hk)⟩
/-- The worlds of a region that ends in the store of a whole row. -/
def setF (W : World) (g : Nat) (cs : Array Value) : Nat → World
  | 0 => W
  | _ => W.setRow g cs
end Go.Proofs.YtlmcpkomjofcgaaGreatDoor
namespace Go.Proofs.YtlmcpkomjofcgaaGreatDoor
section
variable {P : Program} {ops : Array Oper} {md : Region.Mode} {Q : Exit → Act → World → Prop} {F : Nat → World}

/-- In every world of the row the operation leaves v, and that very world. -/
def SameAt (P : Program) (o : Oper) (a : Act) (F : Nat → World) (v : Value) : Prop := ∀ n, Oper.quietUpon P (fun w' => w' = F n) (F n) v ((execOp a.eval o).run P (F n))
def InRow (F : Nat → World) (w : World) : Prop := ∃ n, w = F n
def YldS (P : Program) (ops : Array Oper) (F : Nat → World) (o : Oper) (v : Value) (a : Act) : Prop :=
  (Region.wanted o (yielded ops a.tmps) = true ∧ SameAt P o a F v) ∨ (Region.wanted o (yielded ops a.tmps) = false ∧ v = undef)
theorem wp_of_sameAt {o : Oper} {a : Act} {v : Value} {K : Act → World → Prop} {n : Nat} (h : SameAt P o a F v) (hk : K (a.put o.dst v) (F n)) : o.wp P a (F n) K Q := by
  have h3 := h n
  unfold Oper.wp
  generalize (execOp a.eval o).run P (F n) = r at *
  cases r with
  | ok x w' =>
    cases x <;> simp only [Oper.quietUpon] at h3 <;> simp only [Oper.upon]
    case value u =>
      obtain ⟨e1, e2⟩ := h3
      rw [e1, e2]; exact hk
    case skip =>
      obtain ⟨e1, e2⟩ := h3
      rw [e1, ← e2]; exact hk
    case enter f args =>
      obtain ⟨e1, hc⟩ := h3
      rw [e1]
      exact hc.mono fun e w'' ⟨he, hw''⟩ => by subst he; subst hw''; exact hk
  | halt x w' => simp only [Oper.quietUpon] at h3
theorem YldS.wpOp {i : Nat} {o : Oper} {v : Value} {a : Act} (hi : ops[i]? = some o) (hy : YldS P ops F o v a) {K : Act → World → Prop} {w : World} (hS : InRow F w) (h : K (a.put o.dst v) w) : wpOp P ops Q i K a w := by
  obtain ⟨n, rfl⟩ := hS
  unfold Go.wpOp
  simp only [hi]
  rcases hy with ⟨hw, hv⟩ | ⟨hw, rfl⟩
  · simp only [hw, if_true]; exact .inl (wp_of_sameAt hv h)
  · simp only [hw, Bool.false_eq_true, if_false]; exact h
theorem YldS.of_same {o : Oper} {v : Value} {a a' : Act} (hy : YldS P ops F o v a) (he : execOp a'.eval o = execOp a.eval o)
    (hw : Region.wanted o (yielded ops a'.tmps) = Region.wanted o (yielded ops a.tmps)) : YldS P ops F o v a' := by
  unfold YldS SameAt at *
  rw [he, hw]
  exact hy
theorem wpOp_putS {j : Nat} {oi oj : Oper} {v : Value} (hj : ops[j]? = some oj) (hap : oi.apart ops oj = true)
    (hsi : ∀ cs b, oi.op ≠ .select cs b) (hsj : ∀ cs b, oj.op ≠ .select cs b)
    (hQ : ∀ c a w d u, Q (.panic c) (a.put d u) w → Q (.panic c) a w) {K : Act → World → Prop} {a : Act} {w : World}
    (hy : YldS P ops F oi v a) (h : wpOp P ops Q j K (a.put oi.dst v) w) :
    wpOp P ops Q j (fun a' w' => YldS P ops F oi v a' ∧ K (a'.put oi.dst v) w') a w := by
  obtain ⟨h1, h2, h3⟩ := Oper.apart_spec hap
  have keep : ∀ (a : Act), YldS P ops F oi v a → ∀ u, YldS P ops F oi v (a.put oj.dst u) := fun a hy u =>
    hy.of_same (execOp_put oi hsi a oj.dst u h3) (wanted_put oi a oj.dst u h3)
  have keepD : ∀ d, YldS P ops F oi v { a with defers := d :: a.defers } := fun d => hy.of_same rfl rfl
  unfold wpOp at *
  simp only [hj] at *
  rw [wanted_put oj a oi.dst v h1] at h
  split
  · rename_i hw
    simp only [hw, if_true] at h
    rcases h with h | ⟨hasks, hlets⟩
    case inr => exact .inr ⟨by unfold Oper.asks at *; rw [execOp_put oj hsj a oi.dst v h1] at hasks; exact hasks, hlets⟩
    refine .inl ?_
    unfold Oper.wp at *
    rw [execOp_put oj hsj a oi.dst v h1] at h
    generalize (execOp a.eval oj).run P w = r at *
    cases r with
    | ok n w' =>
      cases n <;> simp only [Oper.upon] at h ⊢
      case value u => exact ⟨keep a hy u, by rw [← Act.put_comm a v u h2]; exact h⟩
      case skip => exact ⟨keep a hy _, by rw [← Act.put_comm a v undef h2]; exact h⟩
      case defer d =>
        refine ⟨keep _ (keepD d) _, ?_⟩
        rw [← Act.put_comm _ v undef h2, ← Act.put_defers]
        exact h
      case enter f args =>
        refine Calls.mono h fun e w'' he => ?_
        cases e with
        | returned u => exact ⟨keep a hy u, by rw [← Act.put_comm a v u h2]; exact he⟩
        | panicked c => exact hQ _ _ _ _ _ he
        | outgrown => exact he
      case row row args => exact Rows.mono h fun u w'' he => ⟨keep a hy u, by rw [← Act.put_comm a v u h2]; exact he⟩
    | halt x w' =>
      cases x <;> simp only [Oper.upon] at h ⊢
      case panic u => exact hQ _ _ _ _ _ h
  · rename_i hw
    simp only [hw] at h
    exact ⟨keep a hy _, by rw [← Act.put_comm a v undef h2]; exact h⟩
theorem wpAnyS_first {i : Nat} {oi : Oper} {v : Value} (hi : ops[i]? = some oi) (hsel : ∀ (j : Nat) (o : Oper) cs b, ops[j]? = some o → o.op ≠ .select cs b)
    (hQ : ∀ c a w d u, Q (.panic c) (a.put d u) w → Q (.panic c) a w) :
    ∀ (fuel : Nat) (listed : Array Bool) (a : Act) (w : World),
      (∀ j oj, ops[j]? = some oj → j ≠ i → listed.getD j true = false → (∀ e ∈ oj.after, Region.binds md e = true → e.on ≠ i) → oi.apart ops oj = true) →
      i ∈ Region.ready md ops listed → YldS P ops F oi v a → InRow F w →
      wpAnyH P md ops Q (InRow F) fuel (listed.setIfInBounds i true) (a.put oi.dst v) w → wpAnyH P md ops Q (InRow F) (fuel + 1) listed a w := by
  intro fuel
  induction fuel with
  | zero =>
    intro listed a w _ hr hy hS H
    refine ⟨fun h => (by rw [h] at hr; cases hr), fun j hj => ?_⟩
    by_cases hji : j = i
    · subst hji; exact hy.wpOp hi hS ⟨hS, H⟩
    · have := ready_mono hj hji
      rw [H.1] at this
      cases this
  | succ fuel ih =>
    intro listed a w hfree hr hy hS H
    refine ⟨fun h => (by rw [h] at hr; cases hr), fun j hj => ?_⟩
    by_cases hji : j = i
    · subst hji; exact hy.wpOp hi hS ⟨hS, H⟩
    · have h1 := H.2 j (ready_mono hj hji)
      obtain ⟨hjun, oj, hoj, hall⟩ := mem_ready.1 hj
      have hnot : ∀ e ∈ oj.after, Region.binds md e = true → e.on ≠ i := fun e he hb heq => by
        have h1 := hall e he hb
        have h0 := (mem_ready.1 hr).1
        rw [heq] at h1
        rcases Nat.lt_or_ge i listed.size with h' | h'
        · simp [h'] at h0 h1; rw [h0] at h1; cases h1
        · simp [Array.getElem?_eq_none h'] at h1
      have h2 := wpOp_putS hoj (hfree j oj hoj hji hjun hnot) (fun cs b => hsel i oi cs b hi) (fun cs b => hsel j oj cs b hoj) hQ hy h1
      have hfree' : ∀ k ok, ops[k]? = some ok → k ≠ i → (listed.setIfInBounds j true).getD k true = false →
          (∀ e ∈ ok.after, Region.binds md e = true → e.on ≠ i) → oi.apart ops ok = true := fun k ok hk hki hun hno => by
        refine hfree k ok hk hki ?_ hno
        by_cases hjk : j = k
        · subst hjk; exact hjun
        · rw [getD_set_ne true hjk] at hun; exact hun
      refine wpOp_mono (fun a' w' h3 => ⟨h3.2.1, ih (listed.setIfInBounds j true) a' w' hfree' (ready_mono hr (Ne.symm hji)) h3.1 h3.2.1 ?_⟩) h2
      rw [Array.setIfInBounds_comm _ _ hji]
      exact h3.2.2
/-- The walk of the head, in the order of the text. -/
def wpSame (P : Program) (ops : Array Oper) (F : Nat → World) (R : Act → Prop) : List Oper → Act → Prop
  | [], a => R a
  | o :: rest, a => if Region.wanted o (yielded ops a.tmps) then ∃ v, SameAt P o a F v ∧ wpSame P ops F R rest (a.put o.dst v) else wpSame P ops F R rest (a.put o.dst undef)
theorem wpSame_nil {R : Act → Prop} {a : Act} (h : R a) : wpSame P ops F R [] a := h
theorem wpSame_step {R : Act → Prop} {a : Act} {o : Oper} {rest : List Oper}
    (h : ∀ K : Act → Prop, (∀ a, wpSame P ops F R rest a → K a) → if Region.wanted o (yielded ops a.tmps) then ∃ v, SameAt P o a F v ∧ K (a.put o.dst v) else K (a.put o.dst undef)) : wpSame P ops F R (o :: rest) a :=
  h _ (fun _ h => h)
def qHeadB (md : Region.Mode) (ops : Array Oper) : Nat → Nat → Array Bool → Bool
  | 0, _, _ => true
  | c + 1, i, l => Region.free md ops l i && (Region.ready md ops l).contains i && qHeadB md ops c (i + 1) (l.setIfInBounds i true)
def marks : Nat → Nat → Array Bool → Array Bool
  | 0, _, l => l
  | c + 1, i, l => marks c (i + 1) (l.setIfInBounds i true)
theorem wpAnyH_head (hs : Region.noSelect ops = true) (hQ : ∀ c a w d u, Q (.panic c) (a.put d u) w → Q (.panic c) a w) {f : Nat} {w : World} (hS : InRow F w) :
    ∀ (c i : Nat) (listed : Array Bool) (a : Act) (rest : List Oper), (∀ j, j < c → ops[i + j]? = rest[j]?) → rest.length = c → qHeadB md ops c i listed = true →
      wpSame P ops F (fun a' => wpAnyH P md ops Q (InRow F) f (marks c i listed) a' w) rest a → wpAnyH P md ops Q (InRow F) (f + c) listed a w := by
  intro c
  induction c with
  | zero =>
    intro i listed a rest _ hl _ h
    have : rest = [] := List.eq_nil_of_length_eq_zero hl
    subst this; exact h
  | succ c ih =>
    intro i listed a rest ho hl hb h
    cases rest with
    | nil => cases hl
    | cons o rest =>
      simp only [qHeadB, Bool.and_eq_true] at hb
      obtain ⟨⟨h1, h2⟩, h3⟩ := hb
      have hi : ops[i]? = some o := by have := ho 0 (by omega); simpa using this
      have ho' : ∀ j, j < c → ops[i + 1 + j]? = rest[j]? := fun j hj => by
        have := ho (j + 1) (by omega)
        rw [show i + 1 + j = i + (j + 1) by omega, this]; rfl
      have hl' : rest.length = c := by simpa using hl
      have key : ∀ v, YldS P ops F o v a → wpSame P ops F (fun a' => wpAnyH P md ops Q (InRow F) f (marks c (i + 1) (listed.setIfInBounds i true)) a' w) rest (a.put o.dst v) → wpAnyH P md ops Q (InRow F) (f + (c + 1)) listed a w := fun v hy hk => by
        rw [← Nat.add_assoc]
        exact wpAnyS_first hi (Region.noSelect_spec hs) hQ _ _ _ _ (Region.free_spec hi h1) (by simpa using h2) hy hS (ih (i + 1) _ _ rest ho' hl' h3 hk)
      unfold wpSame at h
      by_cases hw : Region.wanted o (yielded ops a.tmps) = true
      · simp only [hw, if_true] at h
        obtain ⟨v, hv, hk⟩ := h
        exact key v (.inl ⟨hw, hv⟩) hk
      · simp only [hw] at h
        exact key undef (.inr ⟨by simpa using hw, rfl⟩) h
/-- What is left, one by one: behind each the world is one of the row. -/
def wpChain (P : Program) (ops : Array Oper) (F : Nat → World) (Q : Exit → Act → World → Prop) : List Oper → Act → World → Prop
  | [], a, w => Q .normal a w
  | o :: rest, a, w => if Region.wanted o (yielded ops a.tmps) then o.wp P a w (fun a' w' => InRow F w' ∧ wpChain P ops F Q rest a' w') Q else InRow F w ∧ wpChain P ops F Q rest (a.put o.dst undef) w
theorem wpChain_nil {a : Act} {w : World} (h : Q .normal a w) : wpChain P ops F Q [] a w := h
theorem wpChain_step {o : Oper} {rest : List Oper} {a : Act} {w : World} (hg : o.guard = none)
    (h : ∀ K : Act → World → Prop, (∀ a w, InRow F w → wpChain P ops F Q rest a w → K a w) → o.wp P a w K Q) : wpChain P ops F Q (o :: rest) a w := by
  unfold wpChain
  rw [if_pos (by simp [Region.wanted, hg])]
  exact h _ fun _ _ h1 h2 => ⟨h1, h2⟩
def chainB (md : Region.Mode) (ops : Array Oper) : Nat → Nat → Array Bool → Bool
  | 0, _, l => (Region.ready md ops l).isEmpty
  | c + 1, i, l => Region.ready md ops l == [i] && chainB md ops c (i + 1) (l.setIfInBounds i true)
theorem wpAnyH_chain : ∀ (c i : Nat) (listed : Array Bool) (a : Act) (w : World) (rest : List Oper), (∀ j, j < c → ops[i + j]? = rest[j]?) → rest.length = c → chainB md ops c i listed = true →
    wpChain P ops F Q rest a w → wpAnyH P md ops Q (InRow F) c listed a w := by
  intro c
  induction c with
  | zero =>
    intro i listed a w rest _ hl hb h
    have : rest = [] := List.eq_nil_of_length_eq_zero hl
    subst this
    exact wpAnyH_done (by simpa [chainB] using hb) h _
  | succ c ih =>
    intro i listed a w rest ho hl hb h
    cases rest with
    | nil => cases hl
    | cons o rest =>
      simp only [chainB, Bool.and_eq_true, beq_iff_eq] at hb
      have hi : ops[i]? = some o := by have := ho 0 (by omega); simpa using this
      have ho' : ∀ j, j < c → ops[i + 1 + j]? = rest[j]? := fun j hj => by
        have := ho (j + 1) (by omega)
        rw [show i + 1 + j = i + (j + 1) by omega, this]; rfl
      have hl' : rest.length = c := by simpa using hl
      refine wpAnyH_all hb.1 (by simp) fun k hk => ?_
      have : k = i := by simpa using hk
      subst this
      unfold wpChain at h
      unfold wpOp
      simp only [hi]
      by_cases hw : Region.wanted o (yielded ops a.tmps) = true
      · simp only [hw, if_true] at h ⊢
        exact .inl (Oper.wp_mono (fun a' w' h' => ⟨h'.1, ih (k + 1) _ _ _ rest ho' hl' hb.2 h'.2⟩) h)
      · simp only [hw] at h ⊢
        exact ⟨h.1, ih (k + 1) _ _ _ rest ho' hl' hb.2 h.2⟩
/-- A region: the first n operations are quiet, in every world of the row; what is left comes in its order. -/
theorem wp_region_same {id : Nat} {a : Act} {w : World} {l : List Oper} (n : Nat) (F : Nat → World) (hm : P.follows .mixedOrders = true) (hs : Region.noSelect l.toArray = true)
    (hB : qHeadB .any l.toArray n 0 (Array.replicate l.toArray.size false) = true) (hC : chainB .any l.toArray (l.length - n) n (marks n 0 (Array.replicate l.toArray.size false)) = true) (hn : n ≤ l.length) (hS : w.drew = F 0) (hQ : ∀ c a w d u, Q (.panic c) (a.put d u) w → Q (.panic c) a w)
    (h : wpSame P l.toArray F (fun a' => wpChain P l.toArray F Q (l.drop n) a' (F 0)) (l.take n) a) : (Code.region id l.toArray true).wp P Q a w := by
  rw [← hS] at h
  have hS' : InRow F w.drew := ⟨0, hS⟩
  refine wp_region_held_drew (S := InRow F) hm hS' (fun _ => ?_)
  have hmono : ∀ (rest : List Oper) (a : Act), wpSame P l.toArray F (fun a' => wpChain P l.toArray F Q (l.drop n) a' w.drew) rest a →
      wpSame P l.toArray F (fun a' => wpAnyH P .any l.toArray Q (InRow F) (l.length - n) (marks n 0 (Array.replicate l.toArray.size false)) a' w.drew) rest a := by
    intro rest
    induction rest with
    | nil => intro a h; exact wpAnyH_chain (l.length - n) n _ a w.drew (l.drop n) (fun j hj => by simp) (by simp) hC h
    | cons o rest ih =>
      intro a h
      unfold wpSame at h ⊢
      split
      · rename_i hw
        simp only [hw, if_true] at h
        obtain ⟨v, hv, hk⟩ := h
        exact ⟨v, hv, ih _ hk⟩
      · rename_i hw
        simp only [hw] at h
        exact ih _ h
  have := wpAnyH_head (md := .any) (f := l.length - n) hs hQ hS' n 0 (Array.replicate l.toArray.size false) a (l.take n) (fun j hj => by simp [hj]) (by simp; omega) hB (hmono _ _ h)
  rwa [show l.length - n + n = l.toArray.size by simp; omega] at this
end
/-- The worlds of a region that ends in one store. -/
def cellF (W : World) (a : Addr) (v : Value) : Nat → World
  | 0 => W
  | _ => W.setCell a v
/-- The worlds of a region that makes one struct: ahead, behind its making, behind its store. -/
def rowF (W : World) (t : TypeId) (z cs : Array Value) : Nat → World
  | 0 => W
  | 1 => W.alloc (.cells z t)
  | _ => (W.alloc (.cells z t)).setRow W.heap.size cs
open Go.RowKit in
theorem rowF_below (W : World) (t : TypeId) (z cs : Array Value) (n : Nat) : Below W.heap.size W (rowF W t z cs n) := by
  have h1 : Below W.heap.size W (W.alloc (.cells z t)) := bl_alloc (Below.refl _ _) (Nat.le_refl _) _
  match n with
  | 0 => exact Below.refl _ _
  | 1 => exact h1
  | _ + 2 => exact bl_setRow h1 (Nat.le_refl _) cs
end Go.Proofs.YtlmcpkomjofcgaaGreatDoor
namespace Go.Proofs.YtlmcpkomjofcgaaGreatDoor
open Go.RowKit

/-- Block b is a map in which the entry of key kl stands open under the stamp st: a value that is stored there makes of it what G says. -/
def OpenF (w : World) (P : Program) (k : TypeId) (b n : Nat) (F : Lit → Option Value) (kl : Lit) (st : Nat) : Prop :=
  ∃ es clock, w.heap[b]? = some (.map es clock) ∧ ∃ i, es.findIdx? (fun e => (e.born : Int) == (st : Int)) = some i ∧
    ∀ (val : Value) (w' : World), w'.heap[b]? = some (.map (es.modify i fun e => { e with val := val }) clock) → MapF w' P k b n (fun q => if q.sameKey kl = true then some val else F q)
section
variable {P : Program} {k : TypeId} {w w' : World} {b n st : Nat} {F : Lit → Option Value} {kl : Lit}
theorem MapF.same (h : MapF w P k b n F) (hb : w'.heap[b]? = w.heap[b]?) : MapF w' P k b n F := by
  obtain ⟨D, ⟨es, clock, he, r⟩, q⟩ := h
  exact ⟨D, ⟨es, clock, hb.trans he, r⟩, q⟩
theorem findIdx_born {es : Array MapEntry} {i : Nat} {e : MapEntry} (hn : (es.toList.map (·.born)).Nodup) (hi : es[i]? = some e) : es.findIdx? (fun x => (x.born : Int) == (e.born : Int)) = some i := by
  obtain ⟨hil, hie⟩ := Array.getElem?_eq_some_iff.1 hi
  rw [Array.findIdx?_eq_some_iff_getElem]
  refine ⟨hil, by simp [hie], fun j hj => ?_⟩
  have hjl : j < es.size := by omega
  have hne : es[j].born ≠ es[i].born := by
    have := (List.pairwise_iff_getElem.1 hn) j i (by simpa using hjl) (by simpa using hil) hj
    simpa using this
  rw [← hie]
  simp
  omega
theorem MapF.put {t e : TypeId} {key val : Value} (h : MapF w P k b n F) (K : Maps.Keyed P k) (ht : P.underlying t = some (.map k e)) (hn : n < maxLen) (hkey : keyOf P k key = some kl) :
    ∃ w', (Instr.mapUpdate t (.map (some b)) key val).run P w = .ok () w' ∧ MapF w' P k b (n + 1) (fun q => if q.sameKey kl = true then some val else F q) := by
  obtain ⟨D, hown, r⟩ := h
  obtain ⟨w', hrun, h', _⟩ := hown.update K ht hn hkey (show heldR val = some (.held val, []) from rfl)
  refine ⟨w', hrun, _, h', fun q hq => ?_⟩
  by_cases hqk : q = kl
  · subst hqk
    dsimp only
    rw [if_pos (WideAt.sameKey_self hq)]
    exact ⟨fun z => Maps.atKey_put_same hown.isMap hq _ z, Maps.has_put_same hown.isMap hq _⟩
  · dsimp only
    rw [if_neg (fun h => hqk (WideAt.sameKey_eq h))]
    obtain ⟨r1, r2⟩ := r q hq
    exact ⟨fun z => by rw [Maps.atKey_put_other hqk]; exact r1 z, by rw [Maps.has_put_other hqk]; exact r2⟩
theorem heap_set_at {w : World} {b : Nat} {o o' : Obj} (hb : w.heap[b]? = some o) : (w.heap.setIfInBounds b o')[b]? = some o' := (MapKept.heap_set hb).1
theorem gb_heap {w : World} {b : Nat} (o : Obj) : w.grownBy { w with heap := w.heap.setIfInBounds b o } (some b) :=
  ⟨rfl, rfl, rfl, by simp, fun i _ hi => by
    show (w.heap.setIfInBounds b o)[i]? = _
    rw [Array.getElem?_setIfInBounds_ne]
    exact fun e => hi (by rw [e])⟩
theorem MapF.entry {t e : TypeId} {z key : Value} (h : MapF w P k b n F) (K : Maps.Keyed P k) (ht : P.underlying t = some (.map k e)) (hz : (zeroValue e).run P w = .ok z w) (hn : n < maxLen) (hkey : keyOf P k key = some kl) :
    ∃ (v : Value) (st : Nat) (w1 : World), (Instr.mapEntry t (.map (some b)) key).run P w = .ok (.tuple #[v, .int .i64 (st : Int)]) w1 ∧ w.grownBy w1 (some b) ∧ OpenF w1 P k b (n + 1) F kl st := by
  have hmf := h
  obtain ⟨D, hown, hr⟩ := h
  obtain ⟨es, clock, hb, FT, hsz, hD⟩ := hown
  have hst := FT.stamped
  have hks : ∀ x ∈ es.toList, ∃ l, keyOf P k x.key = some l := fun x hx => by
    obtain ⟨y, hy⟩ := FT.reads x hx
    exact ⟨_, WideElems.rd_key hy⟩
  have hgo : (getObj b).run P w = .ok (.map es clock) w := MapKept.run_getObj_map hb
  have hset : ∀ o, (setObj b o).run P w = .ok () { w with heap := w.heap.setIfInBounds b o } := fun o => MapKept.run_setObj_map o hb
  have hck := K.check w false hkey
  rcases K.find w hkey es.toList hks with ⟨h1, h2⟩ | ⟨j, e0, h1, h2, h3⟩
  · refine ⟨z, clock, { w with heap := w.heap.setIfInBounds b (.map (es.push { key := key, val := z, born := clock }) (clock + 1)) }, ?_, gb_heap _, ?_⟩
    · simp only [Instr.mapEntry, Sem.run_bind, run_underlying ht, hgo, Result.andThen]
      simp [Sem.run_bind, hck, h1, hz, hset, Result.andThen, goInt]
    · refine ⟨_, _, heap_set_at hb, es.size, ?_, fun val w' hw' => ?_⟩
      · rw [Array.findIdx?_eq_some_iff_getElem]
        refine ⟨by simp, by simp, fun i hi => ?_⟩
        have := hst.1 es[i] (by simp)
        simp [Array.getElem_push, hi]
        omega
      · obtain ⟨wu, hrun, hmu⟩ := hmf.put (t := t) (val := val) K ht hn hkey
        have hrun2 : (Instr.mapUpdate t (.map (some b)) key val).run P w = .ok () { w with heap := w.heap.setIfInBounds b (.map (es.push { key := key, val := val, born := clock }) (clock + 1)) } := by
          simp only [Instr.mapUpdate, Sem.run_bind, run_underlying ht, hgo, Result.andThen]
          simp [hck, h1, hset]
        rw [hrun2] at hrun
        injection hrun with _ hwu
        subst hwu
        refine hmu.same ?_
        rw [hw']
        show _ = (w.heap.setIfInBounds b _)[b]?
        rw [heap_set_at hb]
        congr 2
        apply Array.ext'
        simp [Array.toList_modify, List.modify_eq_set]
  · have hj : es[j]? = some e0 := by simpa using h2
    have hjl := (Array.getElem?_eq_some_iff.1 hj).1
    have hje := (Array.getElem?_eq_some_iff.1 hj).2
    have hky := K.stays w hkey
    have hsame : (es.modify j fun e => { e with key := key }) = es := by
      apply Array.ext
      · simp
      · intro i h1 h2'
        rw [Array.getElem_modify]
        split
        · rename_i e; subst e; rw [hje, ← h3]
        · rfl
    refine ⟨e0.val, e0.born, { w with heap := w.heap.setIfInBounds b (.map es clock) }, ?_, gb_heap _, ?_⟩
    · simp only [Instr.mapEntry, Sem.run_bind, run_underlying ht, hgo, Result.andThen]
      simp [hck, h1, hj, h3, hky, hset, hsame, goInt]
    · refine ⟨_, _, heap_set_at hb, j, findIdx_born hst.2.1 hj, fun val w' hw' => ?_⟩
      obtain ⟨wu, hrun, hmu⟩ := hmf.put (t := t) (val := val) K ht hn hkey
      have hrun2 : (Instr.mapUpdate t (.map (some b)) key val).run P w = .ok () { w with heap := w.heap.setIfInBounds b (.map (es.modify j fun e => { e with key := key, val := val }) clock) } := by
        simp only [Instr.mapUpdate, Sem.run_bind, run_underlying ht, hgo, Result.andThen]
        simp [hck, h1, hj, h3, hky, hset]
      rw [hrun2] at hrun
      injection hrun with _ hwu
      subst hwu
      refine hmu.same ?_
      rw [hw']
      show _ = (w.heap.setIfInBounds b _)[b]?
      rw [heap_set_at hb]
      congr 2
      apply Array.ext
      · simp
      · intro i h1 h2'
        rw [Array.getElem_modify, Array.getElem_modify]
        split
        · rename_i e; subst e; rw [hje, ← h3]
        · rfl
theorem OpenF.store {t : TypeId} (h : OpenF w P k b n F kl st) (val : Value) : ∃ w', (Instr.entryStore t (.map (some b)) (.int .i64 (st : Int)) val).run P w = .ok () w' ∧ w.grownBy w' (some b) ∧ MapF w' P k b n (fun q => if q.sameKey kl = true then some val else F q) := by
  obtain ⟨es, clock, hb, i, hi, hv⟩ := h
  have hgo : (getObj b).run P w = .ok (.map es clock) w := MapKept.run_getObj_map hb
  have hset : ∀ o, (setObj b o).run P w = .ok () { w with heap := w.heap.setIfInBounds b o } := fun o => MapKept.run_setObj_map o hb
  refine ⟨{ w with heap := w.heap.setIfInBounds b (.map (es.modify i fun e => { e with val := val }) clock) }, ?_, gb_heap _, hv val _ (heap_set_at hb)⟩
  simp only [Instr.entryStore, Sem.run_bind, hgo, Result.andThen]
  simp [asInt, asIntOf, hi, hset]
/-- v, ok := m[k], the run itself. -/
theorem MapT.run_ok {κ : Type} {f : κ → Value} {G : κ → Option Value} {t e : TypeId} {z : Value} (hown : MapT f w P k b n G) (K : Maps.Keyed P k) (ht : P.underlying t = some (.map k e)) (hz : (zeroValue e).run P w = .ok z w) {y : κ} {kl : Lit} (hkey : keyOf P k (f y) = some kl) :
    (Instr.lookup t (.map (some b)) (f y) true).run P w = .ok (.tuple #[(G y).getD z, .bool (G y).isSome]) w := by
  obtain ⟨F, ⟨D, h, r⟩, rG⟩ := hown
  obtain ⟨r1, r2⟩ := r kl (K.key hkey)
  have hF := rG y kl hkey
  obtain ⟨v, ps, hrun, hv⟩ := h.look_ok K ht hz (zd := .held z) (zp := []) rfl hkey
  have hv' : v = (F kl).getD z := by
    rw [r1] at hv
    unfold heldR at hv
    simp only [Option.some.injEq, Prod.mk.injEq] at hv
    cases hF : F kl with
    | none => rw [hF] at hv; simpa using hv.1
    | some u => rw [hF] at hv; simpa using hv.1
  rw [hrun, r2, hv', hF]
end
end Go.Proofs.YtlmcpkomjofcgaaGreatDoor
namespace Go.Proofs.YtlmcpkomjofcgaaGreatDoor
open Go.RowKit

/-- An element's cells: just sz of them. -/
structure Cels {α : Type} (fC : α → List Value) (sz : Nat) : Prop where
  len : ∀ x, (fC x).length = sz
  one : ∀ x, ∀ u ∈ fC x, u.oneCell' = true
  pos : 0 < sz
def RS {α : Type} (fC : α → List Value) (w : World) (B : Nat) (A : Option Addr) (l : List α) : Prop := Rd w B A (l.flatMap fC)
def OwS {α : Type} (fC : α → List Value) (sz : Nat) (w : World) (base : Nat) (e : TypeId) (v : Value) (l : List α) : Prop := w.ownsRow base e sz v l.length (l.flatMap fC)
section
variable {α : Type} {fC : α → List Value} {sz : Nat} {w w' : World} {B B' : Nat} {A : Option Addr} {l : List α} {base : Nat} {e : TypeId} {v : Value}
theorem Cels.all (h : Cels fC sz) (l : List α) : (l.flatMap fC).length = l.length * sz := by
  induction l with
  | nil => simp
  | cons a r ih => rw [List.flatMap_cons, List.length_append, ih, h.len, List.length_cons, Nat.add_mul, Nat.one_mul, Nat.add_comm]
theorem Cels.ones (h : Cels fC sz) (l : List α) : ∀ u ∈ l.flatMap fC, u.oneCell' = true := by
  intro u hu
  obtain ⟨x, _, hx⟩ := List.mem_flatMap.1 hu
  exact h.one x u hx
theorem Cels.get (h : Cels fC sz) {l : List α} {k j : Nat} {x : α} {u : Value} (hx : l[k]? = some x) (hu : (fC x)[j]? = some u) : (l.flatMap fC)[k * sz + j]? = some u := by
  induction l generalizing k with
  | nil => simp at hx
  | cons a r ih =>
    have hj : j < sz := by rw [← h.len x]; exact (List.getElem?_eq_some_iff.1 hu).1
    rw [List.flatMap_cons]
    cases k with
    | zero =>
      simp at hx
      subst hx
      rw [Nat.zero_mul, Nat.zero_add, List.getElem?_append_left (by rw [h.len]; exact hj)]; exact hu
    | succ k =>
      rw [List.getElem?_append_right (by rw [h.len, Nat.add_mul, Nat.one_mul]; omega), h.len, show (k + 1) * sz + j - sz = k * sz + j by rw [Nat.add_mul, Nat.one_mul]; omega]
      exact ih (by simpa using hx)
theorem Cels.set (h : Cels fC sz) {l : List α} {k j : Nat} {x x' : α} {u : Value} (hx : l[k]? = some x) (hj : j < sz) (hu : fC x' = (fC x).set j u) : (l.flatMap fC).set (k * sz + j) u = (l.set k x').flatMap fC := by
  induction l generalizing k with
  | nil => simp at hx
  | cons a r ih =>
    rw [List.flatMap_cons]
    cases k with
    | zero =>
      simp at hx
      subst hx
      rw [Nat.zero_mul, Nat.zero_add, List.set_append_left _ _ (by rw [h.len]; exact hj), List.set_cons_zero, List.flatMap_cons, hu]
    | succ k =>
      rw [List.set_append_right _ _ (by rw [h.len, Nat.add_mul, Nat.one_mul]; omega), h.len, show (k + 1) * sz + j - sz = k * sz + j by rw [Nat.add_mul, Nat.one_mul]; omega, List.set_cons_succ, List.flatMap_cons]
      rw [ih (by simpa using hx)]
theorem RS.below (h : RS fC w B A l) (hb : Below B' w w') (hB : B ≤ B') : RS fC w' B A l := Rd.below h hb hB
theorem RS.more (h : RS fC w B A l) (hB : B ≤ B') : RS fC w B' A l := Rd.more h hB
theorem RS.step (h : RS fC w B A l) (hb : Below w.heap.size w w') : RS fC w' w'.heap.size A l := Rd.step h hb
/-- Element k: its first cell where the walk looks for it, its others behind it. -/
theorem RS.at_ (h : RS fC w B A l) (hC : Cels fC sz) {k : Nat} (hk : k < l.length) :
    ∃ ad x, A = some ad ∧ ad.block < B ∧ Hid (l[k]? = some x) ∧ (∀ u, (fC x)[0]? = some u → w.cell? (ad.add (k * sz)) = some u) ∧
      ∀ j u, (fC x)[j + 1]? = some u → w.cell? ⟨(ad.add (k * sz)).block, (ad.add (k * sz)).off + (j + 1), none⟩ = some u := by
  have hx : l[k]? = some l[k] := List.getElem?_eq_getElem hk
  have hne : l.flatMap fC ≠ [] := fun e => by
    have := hC.all l
    rw [e] at this
    have := Nat.mul_pos (show 0 < l.length by omega) hC.pos
    simp at *
    omega
  obtain ⟨ad, e, hb, hc⟩ := h hne
  refine ⟨ad, l[k], e, hb, hx, fun u hu => ?_, fun j u hu => ?_⟩
  · exact hc _ _ (hC.get hx hu)
  · rw [← add_pos _ j, addadd]; exact hc _ _ (hC.get hx hu)
theorem OwS.nil : OwS fC sz w base e (.slice none 0 0) [] := World.ownsRow_nil _ _ _ _
theorem OwS.alloc (h : OwS fC sz w base e v l) (o : Obj) : OwS fC sz (w.alloc o) base e v l := World.ownsRow.alloc h o
theorem OwS.drew (h : OwS fC sz w base e v l) : OwS fC sz w.drew base e v l := h
theorem OwS.drewN (h : OwS fC sz w base e v l) (k : Nat) : OwS fC sz (w.drewN k) base e v l := h
theorem OwS.kept (h : OwS fC sz w base e v l) {row : Option Nat} (hg : w.grownBy w' row) (hr : v.ownBlock = none ∨ v.ownBlock ≠ row) : OwS fC sz w' base e v l := World.ownsRow.kept h hg hr
theorem OwS.step (h : OwS fC sz w base e v l) (hb : Below w.heap.size w w') : OwS fC sz w' base e v l :=
  OwS.kept h (gb_below hb none) (by cases hv : v.ownBlock with
    | none => exact .inl rfl
    | some g => exact .inr (by simp))
theorem OwS.rd (h : OwS fC sz w base e v l) : ∃ A c, v = .slice A l.length c ∧ RS fC w w.heap.size A l ∧ l.length ≤ c := by
  rcases h.2 with ⟨rfl, h0⟩ | ⟨g, cap, cur, rfl, hb, hh, hc, hm, r⟩
  · have : l = [] := List.eq_nil_of_length_eq_zero h0
    subst this
    exact ⟨none, 0, rfl, Rd.nil, Nat.le_refl _⟩
  · exact ⟨_, cap, rfl, Rd.own h, hc⟩
/-- Where there is an element the row has a block. -/
theorem OwS.blk (h : OwS fC sz w base e v l) {g : Nat} (hg : v.ownBlock = some g) : base ≤ g ∧ g < w.heap.size := World.ownsRow.lt h g hg
theorem OwS.form (h : OwS fC sz w base e v l) (hl : 0 < l.length) : ∃ g c, v = .slice (some ⟨g, 0, none⟩) l.length c ∧ base ≤ g ∧ g < w.heap.size := World.ownsRow.form h hl
theorem OwS.cell {g n c : Nat} (h : OwS fC sz w base e (.slice (some ⟨g, 0, none⟩) n c) l) (hC : Cels fC sz) {k j : Nat} {x : α} {u : Value} (hx : l[k]? = some x) (hu : (fC x)[j]? = some u) : w.cell? ⟨g, k * sz + j, none⟩ = some u := by
  have := World.ownsRow.cells h (g := g) rfl _ u (hC.get hx hu)
  rwa [Addr.add_lit, Nat.zero_add] at this
theorem OwS.len {A : Option Addr} {n c : Nat} (h : OwS fC sz w base e (.slice A n c) l) : n = l.length := by
  rcases h.2 with ⟨h', h0⟩ | ⟨g', cap', cur, h', r⟩
  · simp only [Value.slice.injEq] at h'; omega
  · simp only [Value.slice.injEq] at h'; exact h'.2.1
theorem OwS.frz {g n c : Nat} (h : OwS fC sz w base e (.slice (some ⟨g, 0, none⟩) n c) l) (j : Nat) : w.frozen? ⟨g, j, none⟩ = false := by
  have hn := h.len
  subst hn
  exact World.ownsRow.frozenAt h j
theorem OwS.set {g n c : Nat} (h : OwS fC sz w base e (.slice (some ⟨g, 0, none⟩) n c) l) (hC : Cels fC sz) {k j : Nat} {x x' : α} {u : Value} (hx : l[k]? = some x) (hj : j < sz) (hu : fC x' = (fC x).set j u) :
    OwS fC sz (w.setCell ⟨g, k * sz + j, none⟩ u) base e (.slice (some ⟨g, 0, none⟩) n c) (l.set k x') := by
  have hn := h.len
  subst hn
  have := (World.ownsRow.stored h (k * sz + j) u).1
  unfold OwS
  rw [List.length_set, ← hC.set hx hj hu]
  exact this
end
theorem le_alloc0 {B : Nat} {w : World} (h : B ≤ w.heap.size) (o : Obj) : B ≤ (w.alloc o).heap.size := by
  show B ≤ (w.heap.push o).size
  rw [Array.size_push]; omega
theorem le_alloc {B : Nat} {w : World} (h : B ≤ w.heap.size) (o : Obj) : B ≤ (w.alloc o).drew.heap.size := by
  show B ≤ (w.heap.push o).size
  rw [Array.size_push]; omega
section
variable {P : Program} (w : World)
/-- append(v, x...) at a plain region's list of operations. -/
theorem wpList_appS {α : Type} {fC : α → List Value} {sz : Nat} (hC : Cels fC sz) {ops : Array Oper} {rest : List Oper} {o : Oper} {a : Act} {Q : Exit → Act → World → Prop} (hgd : o.guard = none) (s x : Operand) {t e : TypeId} {z : Value} {bytes : Nat}
    (ho : o.op = .call { callee := .builtin .append, args := #[s, x], argTypes := #[t, t] }) (hE : ETy P t e z sz bytes) (hby : 0 < bytes)
    (base : Nat) (v : Value) (l : List α) (hs : a.eval s = v) (hown : OwS fC sz w base e v l)
    (B : Nat) (A : Option Addr) (m c : Nat) (news : List α) (hx : a.eval x = .slice A m c) (hl : news.length = m) (hr : RS fC w B A news)
    (hn : (l.length + news.length) * bytes ≤ 140737488355328) (hbase : base ≤ w.heap.size)
    (h : ∀ v' w', OwS fC sz w' base e v' (l ++ news) → w.grownBy w' v.ownBlock → (v'.ownBlock = v.ownBlock ∨ v'.ownBlock = some w.heap.size) → Below base w w' → wpList P ops Q rest (a.put o.dst v') w') : wpList P ops Q (o :: rest) a w := by
  obtain ⟨i, hi, hz, hsz, hb⟩ := hE.info
  subst hl
  have hm : (l.length + news.length) * 1 ≤ (l.length + news.length) * bytes := Nat.mul_le_mul (Nat.le_refl _) hby
  refine wpList_app w hgd s x t ho base e hE.sl hi hz hsz hb hE.cells hE.pos v l.length (l.flatMap fC) hs hown B A news.length c (news.flatMap fC) hx (hC.all news) hr (hC.ones _) (by unfold maxLen; omega) hn hbase ?_
  intro v' w' h1 h2 h3 h4
  exact h v' w' (by unfold OwS; rw [List.length_append, List.flatMap_append]; exact h1) h2 h3 h4
/-- One new element's cells, laid ahead by append(v, x). -/
theorem RS.new {α : Type} {fC : α → List Value} (w : World) (x : α) (cs : Array Value) (h : cs.toList = fC x) (e : TypeId) (fr : Nat × Nat) : RS fC (w.alloc (.cells cs e fr)) (w.heap.size + 1) (some ⟨w.heap.size, 0, none⟩) [x] := fun _ =>
  ⟨_, rfl, Nat.lt_succ_self _, fun i u hu => by
    have e : (⟨w.heap.size, 0, none⟩ : Addr).add i = ⟨w.heap.size, i, none⟩ := by unfold Addr.add; split <;> simp_all
    rw [e, World.cell?_alloc_mark, ← Array.getElem?_toList, h]
    simpa using hu⟩
end
end Go.Proofs.YtlmcpkomjofcgaaGreatDoor
namespace Go.Proofs.YtlmcpkomjofcgaaGreatDoor
open Go.RowKit
theorem tl_same {s t : ByteArray} (h : s.data.toList = t.data.toList) : (s.toList == t.toList) = true := by
  rw [Lib.toList_data, Lib.toList_data]; simpa using h
theorem tl_diff {s t : ByteArray} (h : ¬ s.data.toList = t.data.toList) : (s.toList == t.toList) = false := by
  rw [Lib.toList_data, Lib.toList_data]; simpa using h
end Go.Proofs.YtlmcpkomjofcgaaGreatDoor
namespace Go.Proofs.YtlmcpkomjofcgaaGreatDoor
open Go.RowKit

/-- Block b is a map told by G in which the entry of key y stands open under the stamp st. -/
def OpenT {κ : Type} (f : κ → Value) (w : World) (P : Program) (k : TypeId) (b n : Nat) (G : κ → Option Value) (y : κ) (st : Nat) : Prop :=
  ∃ F kl, OpenF w P k b n F kl st ∧ keyOf P k (f y) = some kl ∧ ∀ x ql, keyOf P k (f x) = some ql → F ql = G x
section
variable {κ : Type} {f : κ → Value} {P : Program} {k : TypeId} {w w' : World} {b n st : Nat} {G : κ → Option Value} {y : κ}
theorem MapT.entry {t e : TypeId} {z : Value} (h : MapT f w P k b n G) (K : Maps.Keyed P k) (ht : P.underlying t = some (.map k e)) (hz : (zeroValue e).run P w = .ok z w) (hn : n < maxLen) {kl : Lit} (hkey : keyOf P k (f y) = some kl) :
    ∃ (v : Value) (st : Nat) (w1 : World), (Instr.mapEntry t (.map (some b)) (f y)).run P w = .ok (.tuple #[v, .int .i64 (st : Int)]) w1 ∧ w.grownBy w1 (some b) ∧ OpenT f w1 P k b (n + 1) G y st := by
  obtain ⟨F, h, r⟩ := h
  obtain ⟨v, st, w1, h1, h2, h3⟩ := h.entry K ht hz hn hkey
  exact ⟨v, st, w1, h1, h2, F, kl, h3, hkey, r⟩
theorem OpenT.store [DecidableEq κ] {t : TypeId} (h : OpenT f w P k b n G y st) (K : Maps.Keyed P k) (hinj : ∀ x y, f x = f y → x = y) (val : Value) : ∃ w', (Instr.entryStore t (.map (some b)) (.int .i64 (st : Int)) val).run P w = .ok () w' ∧ w.grownBy w' (some b) ∧ MapT f w' P k b n (fun q => if q = y then some val else G q) := by
  obtain ⟨F, kl, h, hkey, r⟩ := h
  obtain ⟨w1, h1, h2, h3⟩ := h.store (t := t) val
  refine ⟨w1, h1, h2, _, h3, fun q ql hq => ?_⟩
  dsimp only
  by_cases hqy : q = y
  · subst hqy
    rw [hkey] at hq
    injection hq with hq
    subst hq
    rw [if_pos (WideAt.sameKey_self (K.key hkey)), if_pos rfl]
  · have hne : ¬ ql.sameKey kl = true := fun hs => by
      have := WideAt.sameKey_eq hs
      subst this
      exact hqy (hinj _ _ (K.inj hq hkey))
    rw [if_neg hne, if_neg hqy]
    exact r q ql hq
end
end Go.Proofs.YtlmcpkomjofcgaaGreatDoor
namespace Go.Proofs.YtlmcpkomjofcgaaGreatDoor
open Go.RowKit

theorem take_snocS {α : Type} {l : List α} {k : Nat} {x : α} (h : l[k]? = some x) : l.take (k + 1) = l.take k ++ [x] := by
  rw [List.take_add_one, h]; rfl
set_option maxHeartbeats 400000 in
theorem same_any (A C : Option Addr) (n c m d : Nat) (w : World) (l r : List UInt8) (hn : l.length = n) (hm : r.length = m) (hl : (n : Int) ≤ 140737488355328) (hr : (m : Int) ≤ 140737488355328)
    (ha : RB w w.heap.size A l) (hc : RB w w.heap.size C r) :
    Calls Tryz.prog 10 #[.slice A n c, .slice C m d] w fun e w' => e = .returned (.bool (decide (l = r))) ∧ Below w.heap.size w w' := by
  subst hn
  subst hm
  by_cases he : l.length = r.length
  · go_enter Tryz.func10, Tryz.ntmps10
    have he1 : ((l.length : Int) != (r.length : Int)) = false := by simp [he]
    have HE := Lib.hid he
    clear he
    go_wp2
    go_loopw [5] (fun i wr => ∃ k m : Nat, k ≤ l.length ∧ i = .int .i64 (k : Int) ∧ l.take k = r.take k ∧ wr = w.drewN m) (fun i _ => l.length - (intOf i).toNat)
    case atStart => exact ⟨0, 0, by omega, rfl, rfl, rfl⟩
    case round =>
      obtain ⟨k, m, hk, rfl, heq, rfl⟩ := hrel
      have HQ := Lib.hid heq
      clear heq
      by_cases hk0 : k < l.length
      · have hk1 : k < r.length := by have := HE.out; omega
        obtain ⟨ad, x, rfl, _, hx, hcx⟩ := ha.byte hk0
        obtain ⟨bd, y, rfl, _, hy, hcy⟩ := hc.byte hk1
        by_cases hxy : x = y
        · subst hxy
          have hb1 : ((x.toNat : Int) != (x.toNat : Int)) = false := by simp
          go_wp2
          go_quiet (fail)
          go_wp2
          go_roundw
          case rel => exact ⟨k + 1, _, by omega, by go_num, by rw [take_snocS hx.out, take_snocS hy.out, HQ.out], rfl⟩
          case measure => simp [intOf]; omega
        · have hb1 : ((x.toNat : Int) != (y.toNat : Int)) = true := by
            simp only [bne_iff_ne, ne_eq, Int.natCast_inj]
            exact fun e => hxy (UInt8.toNat_inj.1 e)
          have HN : Hid (decide (l = r) = false) := by
            unfold Hid
            simp only [decide_eq_false_iff_not]
            rintro rfl
            have := hx.out.symm.trans hy.out
            exact hxy (by injection this)
          clear hxy
          go_wp2
          go_quiet (fail)
          go_wp2
          go_ret
          exact ⟨by rw [HN.out]; rfl, below_drewN (below_drewN (Below.refl _ _) _) _⟩
      · obtain rfl : k = l.length := by omega
        have HN : Hid (decide (l = r) = true) := by
          have h1 := HQ.out
          rw [List.take_length, List.take_of_length_le (by have := HE.out; omega)] at h1
          unfold Hid; simp [h1]
        go_wp2
        go_ret
        exact ⟨by rw [HN.out]; rfl, below_drewN (Below.refl _ _) _⟩
  · have he1 : ((l.length : Int) != (r.length : Int)) = true := by simp; omega
    have hne : decide (l = r) = false := by simp; rintro rfl; exact he rfl
    rw [hne]
    go_enter Tryz.func10, Tryz.ntmps10
    go_wp2
    go_ret
    exact ⟨rfl, Below.refl _ _⟩
end Go.Proofs.YtlmcpkomjofcgaaGreatDoor
namespace Go.Proofs.YtlmcpkomjofcgaaGreatDoor
open Go.ChangeShapes Go.WideShapes Go.ChangeAt Go.RowKit

section
variable {H : Type} {enc : TypeId × Value → H} {P : Program} {w : World} {base : Nat} {spare : Nat → Bool} {held : Bool} {r : Reach} {b0 : Nat}
/-- What the datum of a slice says of the elements. -/
def DAll {α : Type} (Q : α → DataW H → Prop) (d : DataW H) (l : List α) : Prop :=
  (d = .nil ∧ l = []) ∨ ∃ es sp, d = .slice es sp ∧ es.length = l.length ∧ ∀ (i : Nat) (x : α) (y : DataW H), l[i]? = some x → es[i]? = some y → Q x y
theorem flat_one {α : Type} (f : α → Value) (l : List α) : l.flatMap (fun x => [f x]) = l.map f := by
  induction l with
  | nil => rfl
  | cons x r ih => rw [List.flatMap_cons, ih]; rfl
end
section
variable {H : Type} {P : Program} {ts : List TypeId} {ds : List (DataW H)}
theorem mem_weightsAll {e : TypeId} : ∀ {l : List (DataW H)} {d : DataW H}, d ∈ l → ∀ n ∈ d.weights P e, n ∈ DataW.weightsAll P e l
  | x :: r, d, hd, n, hn => by
    simp only [DataW.weightsAll, List.mem_append]
    rcases List.mem_cons.1 hd with h | h
    · subst h; exact .inl hn
    · exact .inr (mem_weightsAll h n hn)
/-- The length of a slice, whatever its elements. -/
theorem sized_row {α : Type} {Q : α → DataW H → Prop} {l : List α} {d : DataW H} (h : (DataW.weightsEach P ts ds).all (· ≤ reachBytes) = true) {j : Nat} {t e : TypeId} (ht : ts[j]? = some t) (hd : ds[j]? = some d) (hu : P.underlying t = some (.slice e))
    (hb : 1 ≤ P.bytesOf e) (hl : DAll Q d l) : l.length ≤ 140737488351232 := by
  rcases hl with ⟨_, rfl⟩ | ⟨es, sp, rfl, hn, _⟩
  · simp
  · have h1 := sized_slice h ht hd hu
    have h2 : (es.length + sp.length) * 1 ≤ (es.length + sp.length) * P.bytesOf e := Nat.mul_le_mul (Nat.le_refl _) hb
    simp only [reachBytes] at h1
    omega
/-- What an element weighs. -/
theorem sized_elem {α : Type} {Q : α → DataW H → Prop} {l : List α} {d : DataW H} (h : (DataW.weightsEach P ts ds).all (· ≤ reachBytes) = true) {j : Nat} {t e : TypeId} (ht : ts[j]? = some t) (hd : ds[j]? = some d) (hu : P.underlying t = some (.slice e))
    (hl : DAll Q d l) {x : α} (hx : x ∈ l) : ∃ y, Q x y ∧ ∀ n ∈ DataW.weights P e y, n ≤ reachBytes := by
  rcases hl with ⟨_, rfl⟩ | ⟨es, sp, rfl, hn, hq⟩
  · cases hx
  · obtain ⟨i, hi⟩ := List.getElem?_of_mem hx
    have hil := (List.getElem?_eq_some_iff.1 hi).1
    have hei : es[i]? = some es[i] := List.getElem?_eq_getElem (by omega)
    refine ⟨es[i], hq i x _ hi hei, fun n hn => ?_⟩
    have hm : n ∈ DataW.weights P t (.slice es sp : DataW H) := by
      simp only [DataW.weights, hu, List.mem_cons, List.mem_append]
      exact .inr (.inl (mem_weightsAll (List.mem_of_getElem? hei) _ hn))
    simpa using List.all_eq_true.1 h _ (DataW.weights_mem_each ht hd _ hm)
end
/-- The cells that a datum of numbers lays, at most two aggregates deep. -/
def flat2 (d : DataW Unit) : List Value := match d with
  | .agg ps => ps.flatMap fun p => match p with
    | .lit (.int k n) => [.int k n]
    | .agg qs => qs.flatMap fun q => match q with
      | .lit (.int k n) => [.int k n]
      | _ => []
    | _ => []
  | .lit (.int k n) => [.int k n]
  | _ => []
/-- Block g holds the cells cs instead. -/
def layAt (h : Array Obj) (g : Nat) (cs : List Value) : Array Obj := h.modify g fun o => match o with
  | .cells _ t fr => .cells cs.toArray t fr
  | o => o
end Go.Proofs.YtlmcpkomjofcgaaGreatDoor
namespace Go.Proofs.YtlmcpkomjofcgaaGreatDoor
open Go.ChangeShapes Go.WideShapes Go.ChangeAt Go.RowKit

def SlOk (w : World) (x : Sl) : Prop := x.l.length = x.n ∧ x.n ≤ x.c ∧ (x.c : Int) ≤ 9223372036854775807 ∧ RB w w.heap.size x.A x.l
section
variable {H : Type} {enc : TypeId × Value → H} {P : Program} {w : World} {base : Nat} {spare : Nat → Bool} {held : Bool}
theorem bytes_el {t e : TypeId} {v : Value} {n : Nat} {y : DataW H × List MemPlace} (ht : P.underlying t = some (.slice e)) (he : P.underlying e = some (.int .u8)) (hc : P.cellsOf e = 1)
    (hf : DataW.trod enc P w base spare held n t [v] = some y) : ∃ x, v = slV x ∧ SlOk w x := by
  rcases open_ints ht he hc hf with ⟨hcs, hx⟩ | ⟨x, l, c', zs, hcs, _, hl, hm, hz, hx, hcell, hwz⟩
  · simp at hcs
    subst hcs
    exact ⟨⟨none, 0, 0, []⟩, rfl, rfl, Nat.le_refl _, by show ((0 : Nat) : Int) ≤ _; omega, Rd.nil⟩
  · simp at hcs
    subst hcs
    have hzl : l ≤ zs.length := by rw [hz]; split <;> omega
    refine ⟨⟨some x, l, c', (zs.take l).map fun q => UInt8.ofNat q.toNat⟩, rfl, by simp; omega, hl, by unfold maxLen at hm; show (c' : Int) ≤ _; omega, fun hne => ?_⟩
    have key : ∀ i u, (((zs.take l).map fun q => UInt8.ofNat q.toNat).map bV)[i]? = some u → w.cell? (x.add i) = some u := by
      intro i u hu
      have hi : i < l := by
        have := (List.getElem?_eq_some_iff.1 hu).1
        simp at this; omega
      have hiz : i < zs.length := by omega
      rw [hcell i hiz]
      have hw := hwz zs[i] (List.getElem_mem hiz)
      have hb := bounds_u8 hw
      rw [← hu]
      simp only [List.getElem?_map, List.getElem?_take_of_lt hi, List.getElem?_eq_getElem hiz, Option.map_some, List.getD, Option.getD_some, bV, UInt8.toNat_ofNat']
      congr 2
      omega
    refine ⟨x, rfl, ?_, key⟩
    obtain ⟨u, us, hq⟩ := List.exists_cons_of_ne_nil hne
    have := World.block_lt_of_cell? _ _ (key 0 u (by rw [hq]; rfl))
    rwa [blk_add] at this
end
end Go.Proofs.YtlmcpkomjofcgaaGreatDoor
