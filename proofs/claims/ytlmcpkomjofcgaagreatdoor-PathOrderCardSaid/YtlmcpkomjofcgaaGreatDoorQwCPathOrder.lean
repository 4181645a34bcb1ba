/- Proved: PathOrder, as this seat states it, answers true for every argument that the row speaks of; no condition is added. -/
import Derived.Test.YtlmcpkomjofcgaaGreatDoorPw4
import Derived.Test.YtlmcpkomjofcgaaGreatDoorCards
import Derived.Test.YtlmcpkomjofcgaaGreatDoorTie
import Derived.Test.YtlmcpkomjofcgaaGreatDoorQwArgs
import Derived.Deep.DeepHandedRow
import Derived.Lib.LaidTab
import Derived.Test.YtlmcpkomjofcgaaGreatDoorQwPthOw
namespace Go.Proofs.YtlmcpkomjofcgaaGreatDoor.pathOrder
open Go.ChangeShapes Go.WideShapes Go.ChangeAt Go.RowKit
open Go.ChangeMaps (open_string shut_string)

set_option maxRecDepth 100000 in
theorem contract (H : Type) (enc : TypeId × Value → H) (F : Stop.Interp) (W : World) (base : Nat) (args : Array Value) (ds gs : List (DataW H)) (before : List MemPlace)
    (hval0 : ∀ (j : Nat) t v, Tryz.f3.params[j]? = some t → args[j]? = some v → Value.okWide Tryz.prog W .any base t v)
    (hW : DataW.Whole enc Tryz.prog Tryz.f3.params.toList Rows.pathOrderSpec.vars false W args.toList ds gs before)
    (hsz : (DataW.weightsEach Tryz.prog (Tryz.f3.params.toList ++ Rows.pathOrderSpec.plain.varTypes Tryz.prog) (ds ++ gs)).all (· ≤ reachBytes) = true)
    (_hL : laidMetH Tryz.prog Rows.pathOrderRow.laid W) (hsh : W.ShapedOpen Tryz.prog) :
    Calls Tryz.prog 3 args W fun e W' => ∃ v, e = .returned v ∧ (((OpenSpec.ofChange Rows.pathOrderSpec).at F).post enc Tryz.prog Tryz.f3 false true false false) W args v W' := by
  have hval : ∀ (j : Nat) t v, Tryz.f3.params[j]? = some t → args[j]? = some v → Value.okWide Tryz.prog W .any base t v := hval0
  have hW' := hW
  obtain ⟨p, q, hA0, hV, rfl, hfz, hnd⟩ := hW
  have hA : DataW.TrodAll enc Tryz.prog W 0 (fun _ => true) true Tryz.f3.params.toList args.toList ds p := hA0
  rw [Tryz.params3] at hA hval hsz
  obtain ⟨v0, vs0, d0, ds0, p0, q0, hargs, rfl, rfl, h0, r0a⟩ := trodAll_cons hA
  obtain ⟨v1, vs1, d1, ds1, p1, q1, rfl, rfl, rfl, h1, r1a⟩ := trodAll_cons r0a
  obtain ⟨v2, vs2, d2, ds2, p2, q2, rfl, rfl, rfl, h2, r2a⟩ := trodAll_cons r1a
  obtain ⟨rfl, rfl, rfl⟩ := trodAll_nil r2a
  obtain rfl : args = #[v0, v1, v2] := by cases args; simp_all
  obtain ⟨rfl, rfl⟩ := trodVars_none hV
  have k0 := h0
  have lt0 : ∀ x ∈ p0, x.block < W.heap.size := by obtain ⟨m, hm⟩ := k0; exact DataW.trod_lt m _ _ _ hm
  have k1 := h1
  have lt1 : ∀ x ∈ p1, x.block < W.heap.size := by obtain ⟨m, hm⟩ := k1; exact DataW.trod_lt m _ _ _ hm
  obtain ⟨A0, n0, c0, l0, rfl, e0, hc0, hm0, r0, hd0⟩ := open_bytes Tryz.underlying22 Tryz.underlying5 (by kernel_rfl) (hval 0 22 v0 rfl rfl) h0
  have b0 : n0 ≤ 140737488351232 := by
    rcases hd0 with ⟨_, h0⟩ | ⟨es, sp, hd, he⟩
    · omega
    · have h := sized_slice hsz (j := 0) (t := 22) (e := 5) rfl (by rw [hd]; rfl) Tryz.underlying22
      rw [(by kernel_rfl : Tryz.prog.bytesOf 5 = 1)] at h
      simp only [reachBytes] at h
      omega
  obtain ⟨A1, n1, c1, l1, rfl, e1, hc1, hm1, r1, hd1⟩ := open_bytes Tryz.underlying22 Tryz.underlying5 (by kernel_rfl) (hval 1 22 v1 rfl rfl) h1
  have b1 : n1 ≤ 140737488351232 := by
    rcases hd1 with ⟨_, h0⟩ | ⟨es, sp, hd, he⟩
    · omega
    · have h := sized_slice hsz (j := 1) (t := 22) (e := 5) rfl (by rw [hd]; rfl) Tryz.underlying22
      rw [(by kernel_rfl : Tryz.prog.bytesOf 5 = 1)] at h
      simp only [reachBytes] at h
      omega
  have k2 := h2
  obtain ⟨s2, rfl, hd2, rfl, hs2⟩ := open_string Tryz.underlying9 (hval 2 9 v2 rfl rfl) h2
  have b2 : s2.size ≤ 140737488351232 := by
    have := sized_string hsz (j := 2) (t := 9) (bytes := s2.data.toList) rfl (by rw [hd2]; rfl)
    simpa [reachBytes] using this
  have z2 := hd2
  subst hd2
  clear hA0 hval0
  obtain ⟨mx, hm⟩ := Tryz.laysM146.s1_3 W hsh
  refine (pathOrder_walk mx W hm A0 n0 c0 l0 e0 hc0 hm0 r0 b0 A1 n1 c1 l1 e1 hc1 hm1 r1 b1 s2 b2).mono fun e W' ⟨he, bel⟩ => ?_
  subst he
  exact ⟨_, rfl, _, _, _, [], _, [], hW', trodAll_mk1 (shut_bool Tryz.underlying4 _), (trodAll_cons_mk (Below.trod laidOut (by kernel_rfl) (of_decide_eq_true (by kernel_rfl)) k0 bel lt0) (trodAll_cons_mk (Below.trod laidOut (by kernel_rfl) (of_decide_eq_true (by kernel_rfl)) k1 bel lt1) (trodAll_cons_mk (shut_string Tryz.underlying9 hs2) trodAll_mk0))), rfl, bel.frame _, fun h => by cases h⟩

/-- The settled world, the listed variables holding what the row says. -/
noncomputable def laidWorld (os : Os) : World := { World.holding Tryz.prog os ⟨#[], #[], []⟩ with heap := layAt (layAt ((World.holding Tryz.prog os ⟨#[], #[], []⟩).heap) 2 (flat2 Rows.laid_unicode_utf8_acceptRanges)) 1 (flat2 Rows.laid_unicode_utf8_first) }
set_option maxRecDepth 100000 in
theorem laid_met (os : Os) : laidMet Tryz.prog Rows.pathOrderRow.laid ((laidWorld os).forCall (fun _ _ => 0) ⟨#[], #[.slice none 0 0, .slice none 0 0, .string .empty], []⟩).memory :=
  laidMet_of_run' 8 (by kernel_rfl) (by kernel_rfl)
theorem reads (os : Os) {H : Type} (enc : TypeId × Value → H) : ∃ places, DataW.whole enc Tryz.prog ((laidWorld os).forCall (fun _ _ => 0) ⟨#[], #[.slice none 0 0, .slice none 0 0, .string .empty], []⟩).memory Tryz.f3.params.toList Rows.pathOrderSpec.vars false (#[.slice none 0 0, .slice none 0 0, .string .empty] : Array Value).toList 8 = some ([.nil, .nil, .lit (.string [])], [], places) :=
  ⟨[], by kernel_rfl⟩
set_option maxRecDepth 100000 in
theorem lifted (os : Os) (started : os.Started) (H : Type) (enc : TypeId × Value → H) (F : Stop.Interp) :
    ReturnsInHanded {} Tryz.checked os 3 .any ((OpenSpec.ofChange Rows.pathOrderSpec).preRow enc Tryz.prog Tryz.f3 Rows.pathOrderRow.domain false Rows.pathOrderRow.laid) (((OpenSpec.ofChange Rows.pathOrderSpec).at F).post enc Tryz.prog Tryz.f3 false true false false) := by
  obtain ⟨places, hx⟩ := reads os enc
  refine returnsInHanded_of_row (C := Tryz.checked) (s := OpenSpec.ofChange Rows.pathOrderSpec) own started (by kernel_rfl) Tryz.func3
    (witness_row_at (enc := enc) (C := Tryz.checked) false (laidWorld os) #[.slice none 0 0, .slice none 0 0, .string .empty] rfl (by kernel_rfl) (by kernel_rfl) (by kernel_rfl)
      (OpenSpec.preRow_of_cond 8 hx (by kernel_rfl) (fun k hk => by cases hk) (by kernel_rfl) (laid_met os))) ?_
  intro W base args ds gs before hval hW _ _ hsz hL hsh _
  exact contract H enc F W base args ds gs before hval hW hsz hL hsh

theorem row : Rows.PathOrderSaid :=
  OpenClaim.holds_of_cond 3 Tryz.f3 rfl rfl rfl rfl rfl rfl rfl ⟨rfl, rfl, rfl, rfl, rfl⟩ rfl rfl rfl rfl rfl (by kernel_rfl) Tryz.func3 (by kernel_rfl)
    (of_decide_eq_true (by kernel_rfl)) (by unfold Func.isWrapper; first | (rw [if_pos (by decide +kernel)]; kernel_rfl) | (rw [if_neg (by decide +kernel)]; exact ⟨rfl, rfl⟩))
    (fun os started H enc _ F => by rw [OpenClaim.pre_eq_preRow]; exact lifted os started H enc F)
theorem plain (f : FuncId) (fn : Func) (hf : Tryz.pinned.checked.prog.funcNamed "samovar/samovarlaw22.PathOrder" = some f) (hfn : Tryz.pinned.checked.prog.funcs[f]? = some fn) :
    false = Tryz.pinned.checked.prog.looks [] ∧ ∀ (j : Nat) t, fn.params[j]? = some t → Tryz.pinned.checked.prog.wantsStandIn t = false := by
  obtain rfl : f = 3 := Option.some.inj ((show Tryz.prog.funcNamed "samovar/samovarlaw22.PathOrder" = some 3 by kernel_rfl).symm.trans hf) |>.symm
  obtain rfl : fn = Tryz.f3 := (Option.some.inj (Tryz.func3.symm.trans hfn)).symm
  refine ⟨by kernel_rfl, fun j t ht => ?_⟩
  rw [Tryz.params3] at ht
  have hm := Array.mem_of_getElem? ht
  simp only [List.mem_toArray, List.mem_cons, List.mem_nil_iff, or_false] at hm
  rcases hm with rfl | rfl | rfl
  · exact (show Tryz.prog.wantsStandIn 22 = false by kernel_rfl)
  · exact (show Tryz.prog.wantsStandIn 22 = false by kernel_rfl)
  · exact (show Tryz.prog.wantsStandIn 9 = false by kernel_rfl)
/-- The card. -/
theorem proved : Rows.PathOrderCardSaid :=
  Claim7.holds_tied_plain_at .later [] _ _ _ _ row (fun _ h => by cases h) (by kernel_rfl) (fun _ h => by cases h) pathOrder_row_tie rfl ⟨rfl, rfl⟩ (by kernel_rfl) rfl plain (by kernel_rfl)
#print axioms proved
end Go.Proofs.YtlmcpkomjofcgaaGreatDoor.pathOrder
