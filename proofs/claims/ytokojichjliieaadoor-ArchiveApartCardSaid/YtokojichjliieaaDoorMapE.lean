/- A map's entry opened and stored into, apart (two maps stored into by one statement). Nothing here speaks of the program. -/
import Derived.Test.YtokojichjliieaaDoorMap
namespace Go.Proofs.YtokojichjliieaaDoor
open Go.RowKit

/-- Block b is a map in which the entry of key kl stands open under the stamp st: a value that is stored there makes of it what G says. -/
def OpenF (w : World) (P : Program) (k : TypeId) (b n : Nat) (F : Lit → Option Value) (kl : Lit) (st : Nat) : Prop :=
  ∃ es clock, w.heap[b]? = some (.map es clock) ∧ ∃ i, es.findIdx? (fun e => (e.born : Int) == (st : Int)) = some i ∧
    ∀ (val : Value) (w' : World), w'.heap[b]? = some (.map (es.modify i fun e => { e with val := val }) clock) → MapF w' P k b n (fun q => if q.sameKey kl = true then some val else F q)
section
variable {P : Program} {k : TypeId} {w w' : World} {b n st : Nat} {F : Lit → Option Value} {kl : Lit}
theorem MapF.same (h : MapF w P k b n F) (hb : w'.heap[b]? = w.heap[b]?) : MapF w' P k b n F := by
  obtain ⟨D, ⟨es, clock, he, r⟩, q⟩ := h
  exact ⟨D, ⟨es, clock, hb.trans he, r⟩, q⟩
theorem OpenF.same (h : OpenF w P k b n F kl st) (hb : w'.heap[b]? = w.heap[b]?) : OpenF w' P k b n F kl st := by
  obtain ⟨es, clock, he, r⟩ := h
  exact ⟨es, clock, hb.trans he, r⟩
theorem OpenF.lt (h : OpenF w P k b n F kl st) : b < w.heap.size := by
  obtain ⟨es, clock, he, _⟩ := h
  rcases Nat.lt_or_ge b w.heap.size with hlt | hge
  · exact hlt
  · rw [Array.getElem?_eq_none hge] at he; cases he
theorem findIdx_born {es : Array MapEntry} {i : Nat} {e : MapEntry} (hn : (es.toList.map (·.born)).Nodup) (hi : es[i]? = some e) : es.findIdx? (fun x => (x.born : Int) == (e.born : Int)) = some i := by
  obtain ⟨hil, hie⟩ := Array.getElem?_eq_some_iff.1 hi
  rw [Array.findIdx?_eq_some_iff_getElem]
  refine ⟨hil, by simp [hie], fun j hj => ?_⟩
  have hjl : j < es.size := by omega
  have hne : es[j].born ≠ es[i].born := by
    have := (List.pairwise_iff_getElem.1 hn) j i (by simpa using hjl) (by simpa using hil) hj
    simpa using this
  rw [← hie]
  simp
  omega
theorem MapF.put {t e : TypeId} {key val : Value} (h : MapF w P k b n F) (K : Maps.Keyed P k) (ht : P.underlying t = some (.map k e)) (hn : n < maxLen) (hkey : keyOf P k key = some kl) :
    ∃ w', (Instr.mapUpdate t (.map (some b)) key val).run P w = .ok () w' ∧ MapF w' P k b (n + 1) (fun q => if q.sameKey kl = true then some val else F q) := by
  obtain ⟨D, hown, r⟩ := h
  obtain ⟨w', hrun, h', _⟩ := hown.update K ht hn hkey (show heldR val = some (.held val, []) from rfl)
  refine ⟨w', hrun, _, h', fun q hq => ?_⟩
  by_cases hqk : q = kl
  · subst hqk
    dsimp only
    rw [if_pos (WideAt.sameKey_self hq)]
    exact ⟨fun z => Maps.atKey_put_same hown.isMap hq _ z, Maps.has_put_same hown.isMap hq _⟩
  · dsimp only
    rw [if_neg (fun h => hqk (WideAt.sameKey_eq h))]
    obtain ⟨r1, r2⟩ := r q hq
    exact ⟨fun z => by rw [Maps.atKey_put_other hqk]; exact r1 z, by rw [Maps.has_put_other hqk]; exact r2⟩
theorem heap_set_at {w : World} {b : Nat} {o o' : Obj} (hb : w.heap[b]? = some o) : (w.heap.setIfInBounds b o')[b]? = some o' := (MapKept.heap_set hb).1
theorem gb_heap {w : World} {b : Nat} (o : Obj) : w.grownBy { w with heap := w.heap.setIfInBounds b o } (some b) :=
  ⟨rfl, rfl, rfl, by simp, fun i _ hi => by
    show (w.heap.setIfInBounds b o)[i]? = _
    rw [Array.getElem?_setIfInBounds_ne]
    exact fun e => hi (by rw [e])⟩
theorem MapF.entry {t e : TypeId} {z key : Value} (h : MapF w P k b n F) (K : Maps.Keyed P k) (ht : P.underlying t = some (.map k e)) (hz : (zeroValue e).run P w = .ok z w) (hn : n < maxLen) (hkey : keyOf P k key = some kl) :
    ∃ (v : Value) (st : Nat) (w1 : World), (Instr.mapEntry t (.map (some b)) key).run P w = .ok (.tuple #[v, .int .i64 (st : Int)]) w1 ∧ w.grownBy w1 (some b) ∧ OpenF w1 P k b (n + 1) F kl st := by
  have hmf := h
  obtain ⟨D, hown, hr⟩ := h
  obtain ⟨es, clock, hb, FT, hsz, hD⟩ := hown
  have hst := FT.stamped
  have hks : ∀ x ∈ es.toList, ∃ l, keyOf P k x.key = some l := fun x hx => by
    obtain ⟨y, hy⟩ := FT.reads x hx
    exact ⟨_, WideElems.rd_key hy⟩
  have hgo : (getObj b).run P w = .ok (.map es clock) w := MapKept.run_getObj_map hb
  have hset : ∀ o, (setObj b o).run P w = .ok () { w with heap := w.heap.setIfInBounds b o } := fun o => MapKept.run_setObj_map o hb
  have hck := K.check w false hkey
  rcases K.find w hkey es.toList hks with ⟨h1, h2⟩ | ⟨j, e0, h1, h2, h3⟩
  · refine ⟨z, clock, { w with heap := w.heap.setIfInBounds b (.map (es.push { key := key, val := z, born := clock }) (clock + 1)) }, ?_, gb_heap _, ?_⟩
    · simp only [Instr.mapEntry, Sem.run_bind, run_underlying ht, hgo, Result.andThen]
      simp [Sem.run_bind, hck, h1, hz, hset, Result.andThen, goInt]
    · refine ⟨_, _, heap_set_at hb, es.size, ?_, fun val w' hw' => ?_⟩
      · rw [Array.findIdx?_eq_some_iff_getElem]
        refine ⟨by simp, by simp, fun i hi => ?_⟩
        have := hst.1 es[i] (by simp)
        simp [Array.getElem_push, hi]
        omega
      · obtain ⟨wu, hrun, hmu⟩ := hmf.put (t := t) (val := val) K ht hn hkey
        have hrun2 : (Instr.mapUpdate t (.map (some b)) key val).run P w = .ok () { w with heap := w.heap.setIfInBounds b (.map (es.push { key := key, val := val, born := clock }) (clock + 1)) } := by
          simp only [Instr.mapUpdate, Sem.run_bind, run_underlying ht, hgo, Result.andThen]
          simp [Sem.run_bind, hck, h1, hset, Result.andThen]
        rw [hrun2] at hrun
        injection hrun with _ hwu
        subst hwu
        refine hmu.same ?_
        rw [hw']
        show _ = (w.heap.setIfInBounds b _)[b]?
        rw [heap_set_at hb]
        congr 2
        apply Array.ext'
        simp [Array.toList_modify, List.modify_eq_set]
  · have hj : es[j]? = some e0 := by simpa using h2
    have hjl := (Array.getElem?_eq_some_iff.1 hj).1
    have hje := (Array.getElem?_eq_some_iff.1 hj).2
    have hky := K.stays w hkey
    have hsame : (es.modify j fun e => { e with key := key }) = es := by
      apply Array.ext
      · simp
      · intro i h1 h2'
        rw [Array.getElem_modify]
        split
        · rename_i e; subst e; rw [hje, ← h3]
        · rfl
    refine ⟨e0.val, e0.born, { w with heap := w.heap.setIfInBounds b (.map es clock) }, ?_, gb_heap _, ?_⟩
    · simp only [Instr.mapEntry, Sem.run_bind, run_underlying ht, hgo, Result.andThen]
      simp [hck, h1, hj, h3, hky, hset, hsame, goInt]
    · refine ⟨_, _, heap_set_at hb, j, findIdx_born hst.2.1 hj, fun val w' hw' => ?_⟩
      obtain ⟨wu, hrun, hmu⟩ := hmf.put (t := t) (val := val) K ht hn hkey
      have hrun2 : (Instr.mapUpdate t (.map (some b)) key val).run P w = .ok () { w with heap := w.heap.setIfInBounds b (.map (es.modify j fun e => { e with key := key, val := val }) clock) } := by
        simp only [Instr.mapUpdate, Sem.run_bind, run_underlying ht, hgo, Result.andThen]
        simp [hck, h1, hj, h3, hky, hset]
      rw [hrun2] at hrun
      injection hrun with _ hwu
      subst hwu
      refine hmu.same ?_
      rw [hw']
      show _ = (w.heap.setIfInBounds b _)[b]?
      rw [heap_set_at hb]
      congr 2
      apply Array.ext
      · simp
      · intro i h1 h2'
        rw [Array.getElem_modify, Array.getElem_modify]
        split
        · rename_i e; subst e; rw [hje, ← h3]
        · rfl
theorem OpenF.store {t : TypeId} (h : OpenF w P k b n F kl st) (val : Value) : ∃ w', (Instr.entryStore t (.map (some b)) (.int .i64 (st : Int)) val).run P w = .ok () w' ∧ w.grownBy w' (some b) ∧ MapF w' P k b n (fun q => if q.sameKey kl = true then some val else F q) := by
  obtain ⟨es, clock, hb, i, hi, hv⟩ := h
  have hgo : (getObj b).run P w = .ok (.map es clock) w := MapKept.run_getObj_map hb
  have hset : ∀ o, (setObj b o).run P w = .ok () { w with heap := w.heap.setIfInBounds b o } := fun o => MapKept.run_setObj_map o hb
  refine ⟨{ w with heap := w.heap.setIfInBounds b (.map (es.modify i fun e => { e with val := val }) clock) }, ?_, gb_heap _, hv val _ (heap_set_at hb)⟩
  simp only [Instr.entryStore, Sem.run_bind, hgo, Result.andThen]
  simp [asInt, asIntOf, hi, hset, Result.andThen]
/-- The two at a list of operations. -/
theorem wpList_entry {ops : Array Oper} {rest : List Oper} {o : Oper} {a : Act} {Q : Exit → Act → World → Prop}
    (hg : o.guard = none) (m x : Operand) (t : TypeId) (hop : o.op = Op.mapEntry t m x)
    (e : TypeId) (K : Maps.Keyed P k) (ht : P.underlying t = some (.map k e)) (z : Value) (hz : (zeroValue e).run P w = .ok z w) (hm : a.eval m = .map (some b)) (hown : MapF w P k b n F) (hn : n < maxLen) (key : Value) (kl : Lit)
    (hx : a.eval x = key) (hkey : keyOf P k key = some kl)
    (hK : ∀ (v : Value) (st : Nat) (w' : World), OpenF w' P k b (n + 1) F kl st → w.grownBy w' (some b) → wpList P ops Q rest (a.put o.dst (.tuple #[v, .int .i64 (st : Int)])) w') :
    wpList P ops Q (o :: rest) a w := by
  refine wpList_plain hg fun K' hK' => ?_
  obtain ⟨v, st, w1, hrun, h1, h2⟩ := hown.entry K ht hz hn hkey
  unfold Oper.wp
  simp [execOp, hop, hm, hx, hrun, Result.andThen]
  exact hK' _ _ (hK v st w1 h2 h1)
theorem wpList_entryStore {ops : Array Oper} {rest : List Oper} {o : Oper} {a : Act} {Q : Exit → Act → World → Prop}
    (hg : o.guard = none) (m s v : Operand) (t : TypeId) (hop : o.op = Op.entryStore t m s v)
    (hm : a.eval m = .map (some b)) (h : OpenF w P k b n F kl st) (hs : a.eval s = .int .i64 (st : Int)) (val : Value) (hv : a.eval v = val)
    (hK : ∀ w', MapF w' P k b n (fun q => if q.sameKey kl = true then some val else F q) → w.grownBy w' (some b) → wpList P ops Q rest (a.put o.dst undef) w') :
    wpList P ops Q (o :: rest) a w := by
  refine wpList_plain hg fun K' hK' => ?_
  obtain ⟨w1, hrun, h1, h2⟩ := h.store (t := t) val
  unfold Oper.wp
  simp [execOp, hop, hm, hs, hv, hrun, Result.andThen]
  exact hK' _ _ (hK w1 h2 h1)
/-- v, ok := m[k], the run itself. -/
theorem MapT.run_ok {κ : Type} {f : κ → Value} {G : κ → Option Value} {t e : TypeId} {z : Value} (hown : MapT f w P k b n G) (K : Maps.Keyed P k) (ht : P.underlying t = some (.map k e)) (hz : (zeroValue e).run P w = .ok z w) {y : κ} {kl : Lit} (hkey : keyOf P k (f y) = some kl) :
    (Instr.lookup t (.map (some b)) (f y) true).run P w = .ok (.tuple #[(G y).getD z, .bool (G y).isSome]) w := by
  obtain ⟨F, ⟨D, h, r⟩, rG⟩ := hown
  obtain ⟨r1, r2⟩ := r kl (K.key hkey)
  have hF := rG y kl hkey
  obtain ⟨v, ps, hrun, hv⟩ := h.look_ok K ht hz (zd := .held z) (zp := []) rfl hkey
  have hv' : v = (F kl).getD z := by
    rw [r1] at hv
    unfold heldR at hv
    simp only [Option.some.injEq, Prod.mk.injEq] at hv
    cases hF : F kl with
    | none => rw [hF] at hv; simpa using hv.1
    | some u => rw [hF] at hv; simpa using hv.1
  rw [hrun, r2, hv', hF]
end
end Go.Proofs.YtokojichjliieaaDoor
