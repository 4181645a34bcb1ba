/- A map of the call's own, whatever its elements are: what it holds at a key, told by a function. Nothing here speaks of the program. -/
import Derived.WalkKit
import Derived.Maps.OwnSet
import Derived.Maps.Views
import Derived.Deep.LoopGhost
import Derived.Deep.QuietTactic
namespace Go.Proofs.YtokojichjliieaaDoor
open Go.RowKit

/-- An element is read as the token that it is. -/
def heldR (v : Value) : Option (DataW Value × List MemPlace) := some (.held v, [])
/-- Block b is a map of at most n entries that holds at each key what F says. -/
def MapF (w : World) (P : Program) (k : TypeId) (b n : Nat) (F : Lit → Option Value) : Prop :=
  ∃ D : DataW Value, w.ownsMap P k heldR b n D ∧ ∀ kl, WideAt.IsKeyLit kl → (∀ z, D.atKey kl z = ((F kl).map DataW.held).getD z) ∧ Maps.has D kl = (F kl).isSome

section
variable {P : Program} {k : TypeId} {w w' : World} {b n : Nat} {F : Lit → Option Value}
theorem MapF.made (w : World) (P : Program) (k : TypeId) : MapF (w.alloc (.map #[] 0)) P k w.heap.size 0 (fun _ => none) :=
  ⟨.map [], World.ownsMap_made w P k heldR, fun _ _ => ⟨fun _ => rfl, rfl⟩⟩
theorem MapF.madeAt {g : Nat} (w : World) (P : Program) (k : TypeId) (hg : w.heap.size = g) : MapF (w.alloc (.map #[] 0)) P k g 0 (fun _ => none) := by subst hg; exact MapF.made w P k
theorem MapF.lt (h : MapF w P k b n F) : b < w.heap.size := by obtain ⟨D, h, _⟩ := h; exact h.lt
theorem MapF.mono (h : MapF w P k b n F) {n' : Nat} (hn : n ≤ n') : MapF w P k b n' F := by obtain ⟨D, h, r⟩ := h; exact ⟨D, h.mono hn, r⟩
theorem MapF.grown (h : MapF w P k b n F) {row : Option Nat} (hg : w.grownBy w' row) (hne : some b ≠ row) : MapF w' P k b n F := by obtain ⟨D, h, r⟩ := h; exact ⟨D, h.kept hg hne, r⟩
theorem MapF.alloc (h : MapF w P k b n F) (o : Obj) : MapF (w.alloc o) P k b n F := by obtain ⟨D, h, r⟩ := h; exact ⟨D, h.alloc o, r⟩
theorem MapF.drewN (h : MapF w P k b n F) (q : Nat) : MapF (w.drewN q) P k b n F := h
theorem MapF.drew (h : MapF w P k b n F) : MapF w.drew P k b n F := h
theorem MapF.setCell (h : MapF w P k b n F) {a : Addr} (ha : b ≠ a.block) (u : Value) : MapF (w.setCell a u) P k b n F := by obtain ⟨D, h, r⟩ := h; exact ⟨D, h.setCell ha u, r⟩
theorem MapF.below (h : MapF w P k b n F) {B : Nat} (hb : Below B w w') (hB : b < B) : MapF w' P k b n F := by
  obtain ⟨D, ⟨es, clock, he, r⟩, q⟩ := h
  exact ⟨D, ⟨es, clock, (hb.block b hB).trans he, r⟩, q⟩
theorem MapF.ext (h : MapF w P k b n F) {G : Lit → Option Value} (he : ∀ kl, WideAt.IsKeyLit kl → G kl = F kl) : MapF w P k b n G := by
  obtain ⟨D, h, r⟩ := h
  exact ⟨D, h, fun kl hk => by rw [he kl hk]; exact r kl hk⟩

/-- v, ok := m[k]. -/
theorem wpList_look_ok {ops : Array Oper} {rest : List Oper} {o : Oper} {a : Act} {Q : Exit → Act → World → Prop}
    (hg : o.guard = none) (m x : Operand) (t : TypeId) (hop : o.op = Op.lookup t m x true)
    (e : TypeId) (K : Maps.Keyed P k) (ht : P.underlying t = some (.map k e)) (z : Value) (hz : (zeroValue e).run P w = .ok z w)
    (hm : a.eval m = .map (some b)) (hown : MapF w P k b n F) (key : Value) (kl : Lit) (hx : a.eval x = key) (hkey : keyOf P k key = some kl)
    (hK : wpList P ops Q rest (a.put o.dst (.tuple #[(F kl).getD z, .bool (F kl).isSome])) w) :
    wpList P ops Q (o :: rest) a w := by
  obtain ⟨D, h, r⟩ := hown
  obtain ⟨r1, r2⟩ := r kl (K.key hkey)
  refine wpList_lookup_own_ok w hg m x t hop k e K ht heldR hz (.held z) [] rfl b n D hm h key kl hx hkey (fun v ps hv => ?_)
  have hv' : v = (F kl).getD z := by
    rw [r1] at hv
    unfold heldR at hv
    simp only [Option.some.injEq, Prod.mk.injEq] at hv
    cases hF : F kl with
    | none => rw [hF] at hv; simpa using hv.1
    | some u => rw [hF] at hv; simpa using hv.1
  rw [r2, hv']
  exact hK
/-- m[k] = v. -/
theorem wpList_store {ops : Array Oper} {rest : List Oper} {o : Oper} {a : Act} {Q : Exit → Act → World → Prop}
    (hg : o.guard = none) (m x v : Operand) (t : TypeId) (hop : o.op = Op.mapUpdate t m x v)
    (e : TypeId) (K : Maps.Keyed P k) (ht : P.underlying t = some (.map k e)) (hm : a.eval m = .map (some b)) (hown : MapF w P k b n F) (hn : n < maxLen) (key val : Value) (kl : Lit)
    (hx : a.eval x = key) (hv : a.eval v = val) (hkey : keyOf P k key = some kl)
    (hK : ∀ w', MapF w' P k b (n + 1) (fun q => if q.sameKey kl = true then some val else F q) → w.grownBy w' (some b) → wpList P ops Q rest (a.put o.dst undef) w') :
    wpList P ops Q (o :: rest) a w := by
  obtain ⟨D, h, r⟩ := hown
  refine wpList_mapUpdate_own w hg m x v t hop k e K ht heldR b n D hm h hn key val kl hx hv hkey (.held val) [] rfl ?_
  intro w' h' hgr
  refine hK w' ⟨_, h', fun q hq => ?_⟩ hgr
  by_cases hqk : q = kl
  · subst hqk
    dsimp only
    rw [if_pos (WideAt.sameKey_self hq)]
    exact ⟨fun z => Maps.atKey_put_same h.isMap hq _ z, Maps.has_put_same h.isMap hq _⟩
  · dsimp only
    rw [if_neg (fun h => hqk (WideAt.sameKey_eq h))]
    obtain ⟨r1, r2⟩ := r q hq
    exact ⟨fun z => by rw [Maps.atKey_put_other hqk]; exact r1 z, by rw [Maps.has_put_other hqk]; exact r2⟩
/-- m[k]. -/
theorem wpList_look {ops : Array Oper} {rest : List Oper} {o : Oper} {a : Act} {Q : Exit → Act → World → Prop}
    (hg : o.guard = none) (m x : Operand) (t : TypeId) (hop : o.op = Op.lookup t m x false)
    (e : TypeId) (K : Maps.Keyed P k) (ht : P.underlying t = some (.map k e)) (z : Value) (hz : (zeroValue e).run P w = .ok z w)
    (hm : a.eval m = .map (some b)) (hown : MapF w P k b n F) (key : Value) (kl : Lit) (hx : a.eval x = key) (hkey : keyOf P k key = some kl)
    (hK : wpList P ops Q rest (a.put o.dst ((F kl).getD z)) w) :
    wpList P ops Q (o :: rest) a w := by
  refine wpList_plain hg fun K' hK' => ?_
  obtain ⟨D, h, r⟩ := hown
  obtain ⟨r1, r2⟩ := r kl (K.key hkey)
  obtain ⟨v, ps, hrun, hv⟩ := h.lookup K ht hz (zd := .held z) (zp := []) rfl hkey
  have hv' : v = (F kl).getD z := by
    rw [r1] at hv
    unfold heldR at hv
    simp only [Option.some.injEq, Prod.mk.injEq] at hv
    cases hF : F kl with
    | none => rw [hF] at hv; simpa using hv.1
    | some u => rw [hF] at hv; simpa using hv.1
  subst hv'
  unfold Oper.wp
  simp [execOp, hop, hm, hx, hrun, Result.andThen]
  exact hK' _ _ hK

/-- The same, told by keys of a type of one's own. -/
def MapT {κ : Type} (f : κ → Value) (w : World) (P : Program) (k : TypeId) (b n : Nat) (G : κ → Option Value) : Prop :=
  ∃ F, MapF w P k b n F ∧ ∀ x kl, keyOf P k (f x) = some kl → F kl = G x
variable {κ : Type} {f : κ → Value} {G : κ → Option Value}
theorem MapT.made (w : World) (P : Program) (k : TypeId) : MapT f (w.alloc (.map #[] 0)) P k w.heap.size 0 (fun _ => none) := ⟨_, MapF.made w P k, fun _ _ _ => rfl⟩
theorem MapT.madeAt {g : Nat} (w : World) (P : Program) (k : TypeId) (hg : w.heap.size = g) : MapT f (w.alloc (.map #[] 0)) P k g 0 (fun _ => none) := ⟨_, MapF.madeAt w P k hg, fun _ _ _ => rfl⟩
theorem MapT.lt (h : MapT f w P k b n G) : b < w.heap.size := by obtain ⟨F, h, _⟩ := h; exact h.lt
theorem MapT.mono (h : MapT f w P k b n G) {n' : Nat} (hn : n ≤ n') : MapT f w P k b n' G := by obtain ⟨F, h, r⟩ := h; exact ⟨F, h.mono hn, r⟩
theorem MapT.grown (h : MapT f w P k b n G) {row : Option Nat} (hg : w.grownBy w' row) (hne : some b ≠ row) : MapT f w' P k b n G := by obtain ⟨F, h, r⟩ := h; exact ⟨F, h.grown hg hne, r⟩
theorem MapT.alloc (h : MapT f w P k b n G) (o : Obj) : MapT f (w.alloc o) P k b n G := by obtain ⟨F, h, r⟩ := h; exact ⟨F, h.alloc o, r⟩
theorem MapT.drewN (h : MapT f w P k b n G) (q : Nat) : MapT f (w.drewN q) P k b n G := h
theorem MapT.drew (h : MapT f w P k b n G) : MapT f w.drew P k b n G := h
theorem MapT.setCell (h : MapT f w P k b n G) {a : Addr} (ha : b ≠ a.block) (u : Value) : MapT f (w.setCell a u) P k b n G := by obtain ⟨F, h, r⟩ := h; exact ⟨F, h.setCell ha u, r⟩
theorem MapT.below (h : MapT f w P k b n G) {B : Nat} (hb : Below B w w') (hB : b < B) : MapT f w' P k b n G := by obtain ⟨F, h, r⟩ := h; exact ⟨F, h.below hb hB, r⟩
theorem MapT.ext (h : MapT f w P k b n G) {G' : κ → Option Value} (he : ∀ x, G' x = G x) : MapT f w P k b n G' := by obtain ⟨F, h, r⟩ := h; exact ⟨F, h, fun x kl hk => (r x kl hk).trans (he x).symm⟩

theorem wpList_lookT_ok {ops : Array Oper} {rest : List Oper} {o : Oper} {a : Act} {Q : Exit → Act → World → Prop}
    (hg : o.guard = none) (m x : Operand) (t : TypeId) (hop : o.op = Op.lookup t m x true)
    (e : TypeId) (K : Maps.Keyed P k) (ht : P.underlying t = some (.map k e)) (z : Value) (hz : (zeroValue e).run P w = .ok z w)
    (hm : a.eval m = .map (some b)) (hown : MapT f w P k b n G) (y : κ) (kl : Lit) (hx : a.eval x = f y) (hkey : keyOf P k (f y) = some kl)
    (hK : wpList P ops Q rest (a.put o.dst (.tuple #[(G y).getD z, .bool (G y).isSome])) w) :
    wpList P ops Q (o :: rest) a w := by
  obtain ⟨F, h, r⟩ := hown
  exact wpList_look_ok hg m x t hop e K ht z hz hm h (f y) kl hx hkey (by rw [r y kl hkey]; exact hK)
theorem wpList_lookV_ok {ops : Array Oper} {rest : List Oper} {o : Oper} {a : Act} {Q : Exit → Act → World → Prop}
    (hg : o.guard = none) (m x : Operand) (t : TypeId) (hop : o.op = Op.lookup t m x true)
    (e : TypeId) (K : Maps.Keyed P k) (ht : P.underlying t = some (.map k e)) (z : Value) (hz : (zeroValue e).run P w = .ok z w)
    (hm : a.eval m = .map (some b)) (hown : MapT f w P k b n G) (y : κ) (kl : Lit) (hx : a.eval x = f y) (hkey : keyOf P k (f y) = some kl) (v : Value) (ok : Bool) (hv : (G y).getD z = v) (hb : (G y).isSome = ok)
    (hK : wpList P ops Q rest (a.put o.dst (.tuple #[v, .bool ok])) w) :
    wpList P ops Q (o :: rest) a w := by
  subst hv
  subst hb
  exact wpList_lookT_ok hg m x t hop e K ht z hz hm hown y kl hx hkey hK
theorem wpList_lookT {ops : Array Oper} {rest : List Oper} {o : Oper} {a : Act} {Q : Exit → Act → World → Prop}
    (hg : o.guard = none) (m x : Operand) (t : TypeId) (hop : o.op = Op.lookup t m x false)
    (e : TypeId) (K : Maps.Keyed P k) (ht : P.underlying t = some (.map k e)) (z : Value) (hz : (zeroValue e).run P w = .ok z w)
    (hm : a.eval m = .map (some b)) (hown : MapT f w P k b n G) (y : κ) (kl : Lit) (hx : a.eval x = f y) (hkey : keyOf P k (f y) = some kl)
    (hK : wpList P ops Q rest (a.put o.dst ((G y).getD z)) w) :
    wpList P ops Q (o :: rest) a w := by
  obtain ⟨F, h, r⟩ := hown
  exact wpList_look hg m x t hop e K ht z hz hm h (f y) kl hx hkey (by rw [r y kl hkey]; exact hK)
theorem wpList_storeT [DecidableEq κ] {ops : Array Oper} {rest : List Oper} {o : Oper} {a : Act} {Q : Exit → Act → World → Prop}
    (hg : o.guard = none) (m x v : Operand) (t : TypeId) (hop : o.op = Op.mapUpdate t m x v)
    (e : TypeId) (K : Maps.Keyed P k) (ht : P.underlying t = some (.map k e)) (hm : a.eval m = .map (some b)) (hown : MapT f w P k b n G) (hinj : ∀ x y, f x = f y → x = y) (hn : n < maxLen) (y : κ) (val : Value) (kl : Lit)
    (hx : a.eval x = f y) (hv : a.eval v = val) (hkey : keyOf P k (f y) = some kl)
    (hK : ∀ w', MapT f w' P k b (n + 1) (fun q => if q = y then some val else G q) → w.grownBy w' (some b) → wpList P ops Q rest (a.put o.dst undef) w') :
    wpList P ops Q (o :: rest) a w := by
  obtain ⟨F, h, r⟩ := hown
  refine wpList_store hg m x v t hop e K ht hm h hn (f y) val kl hx hv hkey ?_
  intro w' h' hgr
  refine hK w' ⟨_, h', fun q ql hq => ?_⟩ hgr
  dsimp only
  by_cases hqy : q = y
  · subst hqy
    rw [hkey] at hq
    injection hq with hq
    subst hq
    rw [if_pos (WideAt.sameKey_self (K.key hkey)), if_pos rfl]
  · have hne : ¬ ql.sameKey kl = true := fun hs => by
      have := WideAt.sameKey_eq hs
      subst this
      exact hqy (hinj _ _ (K.inj hq hkey))
    rw [if_neg hne, if_neg hqy]
    exact r q ql hq
end
end Go.Proofs.YtokojichjliieaaDoor
