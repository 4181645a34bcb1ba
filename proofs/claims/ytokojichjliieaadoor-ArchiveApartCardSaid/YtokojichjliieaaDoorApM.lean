/- append(s, make([]byte, k)...) where there is no room. Nothing here speaks of the program. -/
import Derived.Test.YtokojichjliieaaDoorBase
namespace Go.Proofs.YtokojichjliieaaDoor
open Go.RowKit
section
variable {P : Program} (w : World)
theorem run_append_mk (t u ty e : TypeId) (i : TypeInfo) (z : Value) (ht : P.underlying t = some (.slice e)) (hu : P.underlying u = some (.int .i64)) (hi : P.info? e = some i) (hz : i.zero = some z) (hs1 : i.size = 1)
    (b : Addr) (sLen sCap : Nat) (olds : List Value) (hlo : olds.length = sLen * i.size) (holds : ∀ j v, olds[j]? = some v → w.cell? (b.add j) = some v)
    (k : Nat) (hk : 0 < k) (hkb : k ≤ 1000000000) (hby : i.bytes ≤ 1000) (hg : sCap < sLen + k) (h63 : ((sLen + k : Nat) : Int) ≤ 9223372036854775807) (hfit : Builtin.nextslicecap (sLen + k) sCap * i.bytes ≤ 281474976710656) :
    (Builtin.append_ #[t, u] ty #[.slice (some b) sLen sCap, .int .i64 (k : Int)]).run P w =
      .ok (.slice (some ⟨w.heap.size, 0, none⟩) (sLen + k) (grownCap w (sLen + k) sCap e))
        (w.drew.alloc (.cells (olds.toArray ++ Builtin.zeroCells z.cells k ++ Builtin.zeroCells z.cells (grownCap w (sLen + k) sCap e - (sLen + k))) e)) := by
  have hn : ¬ (sLen + k ≤ sCap) := by omega
  have h63' : ¬ (9223372036854775807 < ((sLen : Int) + (k : Int))) := by omega
  have h48' : ¬ (281474976710656 < Builtin.nextslicecap (sLen + k) sCap * i.bytes) := by omega
  have hwr : IntKind.i64.wrap (k : Int) = (k : Int) := IntWalk.i64_in _ (by omega)
  have hneg : ¬ (k : Int) < 0 := by omega
  have hkk : (k : Int) * (i.bytes : Int) ≤ 281474976710656 := by
    have : k * i.bytes ≤ 1000000000 * 1000 := Nat.mul_le_mul hkb hby
    have h2 : ((k * i.bytes : Nat) : Int) ≤ 1000000000000 := by omega
    rw [Int.natCast_mul] at h2; omega
  have hkk' : ¬ (281474976710656 < (k : Int) * (i.bytes : Int)) := by omega
  have hk0 : ¬ k = 0 := by omega
  have hmax : max (k : Int) 0 = (k : Int) := by omega
  have hfo := run_firstCells_some (P := P) w.drew i.size sLen b sLen sCap olds hlo (by simpa using holds)
  rw [hs1] at hfo
  simp [Builtin.append_, run_underlying ht, run_underlying hu, sizeOf, typeInfo, zeroValue, hi, hz, hs1, asInt, asIntOf, hmax, hwr, hneg, hkk', hk0, hn, h63', h48', Question.forced, hfo, newRow, grownCap]
theorem zeroCells_one (z : Value) (n : Nat) : (Builtin.zeroCells #[z] n).toList = List.replicate n z := by
  unfold Builtin.zeroCells
  apply List.ext_getElem?
  intro i
  by_cases h : i < n
  · simp [h, Nat.mod_one]
  · simp [h]
theorem wpList_appMk {ops : Array Oper} {rest : List Oper} {o : Oper} {a : Act} {Q : Exit → Act → World → Prop} (hgd : o.guard = none) (s x : Operand) {t u e : TypeId}
    (ho : o.op = .call { callee := .builtin .append, args := #[s, x], argTypes := #[t, u] }) (hE : ETy P t e (.int .u8 0) 1 1) (hu : P.underlying u = some (.int .i64))
    (l : List UInt8) (ad : Addr) (n : Nat) (hl : l.length = n) (hs : a.eval s = .slice (some ad) n n) (B : Nat) (hr : RB w B (some ad) l) (k : Nat) (hk : 0 < k) (hkb : k ≤ 1000000) (hn : n ≤ 1000000) (hx : a.eval x = .int .i64 (k : Int))
    (h : ∀ v' w', OwB w' w.heap.size e v' (l ++ List.replicate k 0) → Below w.heap.size w w' → wpList P ops Q rest (a.put o.dst v') w') : wpList P ops Q (o :: rest) a w :=
  wpList_plain hgd fun K hK => by
    obtain ⟨i, hi, hz, hsz, hb⟩ := hE.info
    have hcells : ∀ j v, (l.map bV)[j]? = some v → w.cell? (ad.add j) = some v := fun j v hv => by
      obtain ⟨ad', h1, _, hc⟩ := hr (fun e => by simp at e; subst e; simp at hv)
      injection h1 with h1
      subst h1
      exact hc j v hv
    have hrun := run_append_mk (P := P) w t u o.type e i (.int .u8 0) hE.sl hu hi hz hsz ad n n (l.map bV) (by rw [hsz]; simpa using hl) hcells k hk (by omega) (by omega) (by omega) (by omega) (growslice_fits (by omega) (by rw [hb]; omega))
    unfold Oper.wp execOp
    simp only [ho, resolve, invoke, builtin, Sem.run_bind, Sem.run_pure, Result.andThen_ok, List.map_toArray, List.map_cons, List.map_nil, hs, hx, hrun]
    have hge := grownCap_ge w (n + k) n e
    have hcm : grownCap w (n + k) n e ≤ maxLen := grownCap_le_maxLen w (n + k) n e (by unfold maxLen; omega)
    have hzc : (Value.cells (.int .u8 0)) = #[.int .u8 0] := rfl
    refine hK _ _ (h _ _ ⟨by simp, .inr ⟨w.heap.size, _, _, by rw [List.length_append, List.length_replicate, hl], Nat.le_refl _, heap_alloc_new w.drew _, by rw [List.length_append, List.length_replicate, hl]; exact hge, hcm, ?_, ?_⟩⟩ (bl_alloc (below_drewN (Below.refl _ _) 1) (Nat.le_refl _) _))
    · simp only [Array.size_append, List.size_toArray, size_zeroCells, List.length_map, hl, hzc]
      simp; omega
    · simp only [Array.toList_append, hzc, zeroCells_one, List.map_append, List.map_replicate]
      rw [List.take_append_of_le_length (by simp [hl])]
      rw [List.take_of_length_le (by simp [hl])]
      rfl
end
end Go.Proofs.YtokojichjliieaaDoor
