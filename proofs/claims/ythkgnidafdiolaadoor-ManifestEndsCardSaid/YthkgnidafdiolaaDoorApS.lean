/- append(b, s...), s a string, onto bytes of the call's own: at a list of operations, at a step of a region that draws its order. Nothing here speaks of the program. -/
import Derived.Test.YthkgnidafdiolaaDoorBase
import Derived.Deep.RegionLaw
import Derived.Lib.AppendStr
namespace Go.Proofs.YthkgnidafdiolaaDoor
open Go.RowKit

section
variable {P : Program} (w : World)
theorem run_appStr {t u e : TypeId} (ty : TypeId) (hE : ETy P t e (.int .u8 0) 1 1) (hu : P.underlying u = some .string) (base : Nat) (v : Value) (l : List UInt8) (hown : OwB w base e v l) (s : ByteArray)
    (hn : l.length + s.size ≤ 140737488355328) (hbase : base ≤ w.heap.size) :
    ∃ v' w', (Builtin.append_ #[t, u] ty #[v, .string s]).run P w = .ok v' w' ∧ OwB w' base e v' (l ++ s.data.toList) ∧ Below base w w' := by
  obtain ⟨i, hi, hz, hsz, hb⟩ := hE.info
  obtain ⟨v', w', hr, h2, h3, _⟩ := Lib.run_append_own_string (P := P) w base t u ty e i hE.sl hu hi hz hsz hb v l.length (l.map bV) hown s (by unfold maxLen; omega) hn hbase
  refine ⟨v', w', hr, ?_, (Below.refl _ _).grown h3 hbase fun k hk => (World.ownsRow.lt hown k hk).1⟩
  unfold OwB OwL
  rw [List.length_append, List.map_append]
  exact h2
theorem wpList_appStr {ops : Array Oper} {rest : List Oper} {o : Oper} {a : Act} {Q : Exit → Act → World → Prop} (hgd : o.guard = none) (s x : Operand) {t u e : TypeId}
    (ho : o.op = .call { callee := .builtin .append, args := #[s, x], argTypes := #[t, u] }) (hE : ETy P t e (.int .u8 0) 1 1) (hu : P.underlying u = some .string)
    (base : Nat) (v : Value) (l : List UInt8) (hs : a.eval s = v) (hown : OwB w base e v l) (b : ByteArray) (hx : a.eval x = .string b)
    (hn : l.length + b.size ≤ 140737488355328) (hbase : base ≤ w.heap.size)
    (h : ∀ v' w', OwB w' base e v' (l ++ b.data.toList) → Below base w w' → wpList P ops Q rest (a.put o.dst v') w') : wpList P ops Q (o :: rest) a w :=
  wpList_plain hgd fun K hK => by
    obtain ⟨v', w', hrun, h2, h3⟩ := run_appStr (P := P) w o.type hE hu base v l hown b hn hbase
    unfold Oper.wp execOp
    simp only [ho, resolve, invoke, builtin, Sem.run_bind, Sem.run_pure, Result.andThen_ok, List.map_toArray, List.map_cons, List.map_nil, hs, hx, hrun]
    exact hK _ _ (h v' w' h2 h3)
theorem step_appStr {ops : Array Oper} {o : Oper} {a : Act} {K : Act → World → Prop} {Q : Exit → Act → World → Prop} {E : Prop} (hgd : o.guard = none) (s x : Operand) {t u e : TypeId}
    (ho : o.op = .call { callee := .builtin .append, args := #[s, x], argTypes := #[t, u] }) (hE : ETy P t e (.int .u8 0) 1 1) (hu : P.underlying u = some .string)
    (base : Nat) (v : Value) (l : List UInt8) (hs : a.eval s = v) (hown : OwB w base e v l) (b : ByteArray) (hx : a.eval x = .string b)
    (hn : l.length + b.size ≤ 140737488355328) (hbase : base ≤ w.heap.size)
    (h : ∀ v' w', OwB w' base e v' (l ++ b.data.toList) → Below base w w' → K (a.put o.dst v') w') :
    if Region.wanted o (yielded ops a.tmps) = true then Oper.wp P o a w K Q else E := by
  have hw : Region.wanted o (yielded ops a.tmps) = true := by simp [Region.wanted, hgd]
  rw [if_pos hw]
  obtain ⟨v', w', hrun, h2, h3⟩ := run_appStr (P := P) w o.type hE hu base v l hown b hn hbase
  unfold Oper.wp execOp
  simp only [ho, resolve, invoke, builtin, Sem.run_bind, Sem.run_pure, Result.andThen_ok, List.map_toArray, List.map_cons, List.map_nil, hs, hx, hrun]
  exact h v' w' h2 h3
end
end Go.Proofs.YthkgnidafdiolaaDoor
