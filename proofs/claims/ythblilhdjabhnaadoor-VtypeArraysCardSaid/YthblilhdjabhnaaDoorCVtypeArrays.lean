/- The row of VtypeArrays: its arguments opened, the walk called, what was there left as it was. -/
import Derived.Test.YthblilhdjabhnaaDoorFrame
import Derived.Test.YthblilhdjabhnaaDoorCards
import Derived.Test.YthblilhdjabhnaaDoorTie
import Derived.Test.YthblilhdjabhnaaDoorArgs
import Derived.Deep.DeepHandedRow
import Derived.Lib.LaidTab
import Derived.Test.YthblilhdjabhnaaDoorVtYA
namespace Go.Proofs.YthblilhdjabhnaaDoor.vtypeArrays
open Go.ChangeShapes Go.WideShapes Go.ChangeAt Go.RowKit
open Go.ChangeMaps (open_string shut_string)

set_option maxRecDepth 100000 in
theorem contract (H : Type) (enc : TypeId × Value → H) (F : Stop.Interp) (W : World) (base : Nat) (args : Array Value) (ds gs : List (DataW H)) (before : List MemPlace)
    (hval0 : ∀ (j : Nat) t v, Tryd.f6.params[j]? = some t → args[j]? = some v → Value.okWide Tryd.prog W .any base t v)
    (hW : DataW.Whole enc Tryd.prog Tryd.f6.params.toList Rows.vtypeArraysSpec.vars false W args.toList ds gs before)
    (hsz : (DataW.weightsEach Tryd.prog (Tryd.f6.params.toList ++ Rows.vtypeArraysSpec.plain.varTypes Tryd.prog) (ds ++ gs)).all (· ≤ reachBytes) = true)
    (_hL : laidMetH Tryd.prog Rows.vtypeArraysRow.laid W) (hsh : W.ShapedOpen Tryd.prog) :
    Calls Tryd.prog 6 args W fun e W' => ∃ v, e = .returned v ∧ (((OpenSpec.ofChange Rows.vtypeArraysSpec).at F).post enc Tryd.prog Tryd.f6 false true false false) W args v W' := by
  have hval : ∀ (j : Nat) t v, Tryd.f6.params[j]? = some t → args[j]? = some v → Value.okWide Tryd.prog W .any base t v := hval0
  have hW' := hW
  obtain ⟨p, q, hA0, hV, rfl, hfz, hnd⟩ := hW
  have hA : DataW.TrodAll enc Tryd.prog W 0 (fun _ => true) true Tryd.f6.params.toList args.toList ds p := hA0
  rw [Tryd.params6] at hA hval hsz
  obtain ⟨v0, vs0, d0, ds0, p0, q0, hargs, rfl, rfl, h0, r0a⟩ := trodAll_cons hA
  obtain ⟨v1, vs1, d1, ds1, p1, q1, rfl, rfl, rfl, h1, r1a⟩ := trodAll_cons r0a
  obtain ⟨v2, vs2, d2, ds2, p2, q2, rfl, rfl, rfl, h2, r2a⟩ := trodAll_cons r1a
  obtain ⟨v3, vs3, d3, ds3, p3, q3, rfl, rfl, rfl, h3, r3a⟩ := trodAll_cons r2a
  obtain ⟨rfl, rfl, rfl⟩ := trodAll_nil r3a
  obtain rfl : args = #[v0, v1, v2, v3] := by cases args; simp_all
  obtain ⟨rfl, rfl⟩ := trodVars_none hV
  have k0 := h0
  have lt0 : ∀ x ∈ p0, x.block < W.heap.size := by obtain ⟨m, hm⟩ := k0; exact DataW.trod_lt m _ _ _ hm
  obtain ⟨A0, n0, c0, l0, rfl, e0, hc0, hm0, r0, hd0⟩ := open_rows 4 hdrC (fun x _ => x.1.length ≤ maxLen ∧ x.2.1.length ≤ maxLen) Tryd.underlying28 (by kernel_rfl) (by decide) (fun _ => rfl) hdr_el (hval 0 28 v0 rfl rfl) h0
  have b0 : n0 ≤ 140737488351232 := by rw [← e0]; exact sized_row (Q := fun x _ => x.1.length ≤ maxLen ∧ x.2.1.length ≤ maxLen) (l := l0) hsz (j := 0) (t := 28) (e := 39) rfl rfl Tryd.underlying28 (of_decide_eq_true (by kernel_rfl)) (dall_of hd0 e0)
  have q0 := dall_all (dall_of hd0 e0)
  have k1 := h1
  obtain ⟨s1, rfl, hd1, rfl, hs1⟩ := open_string Tryd.underlying9 (hval 1 9 v1 rfl rfl) h1
  have b1 : s1.size ≤ 140737488351232 := by
    have := sized_string hsz (j := 1) (t := 9) (bytes := s1.data.toList) rfl (by rw [hd1]; rfl)
    simpa [reachBytes] using this
  have z1 := hd1
  subst hd1
  have k2 := h2
  obtain ⟨s2, rfl, hd2, rfl, hs2⟩ := open_string Tryd.underlying9 (hval 2 9 v2 rfl rfl) h2
  have b2 : s2.size ≤ 140737488351232 := by
    have := sized_string hsz (j := 2) (t := 9) (bytes := s2.data.toList) rfl (by rw [hd2]; rfl)
    simpa [reachBytes] using this
  have z2 := hd2
  subst hd2
  obtain ⟨x3, rfl, rfl, rfl, h3w⟩ := open_int Tryd.underlying5 (hval 3 5 v3 rfl rfl) h3
  clear hA0 hval0
  obtain ⟨m, hm⟩ := Tryd.laysM146.s1_3 W hsh
  refine (vtypeArrays_walk m W hm A0 n0 c0 l0 e0 r0 q0 b0 s1 b1 s2 b2 x3 (bounds_u8 h3w)).mono fun e W' ⟨he, bel⟩ => ?_
  subst he
  exact ⟨_, rfl, _, _, _, [], _, [], hW', trodAll_mk1 (shut_bool Tryd.underlying4 _), (trodAll_cons_mk (Below.trod laidOut (by kernel_rfl) (of_decide_eq_true (by kernel_rfl)) k0 bel lt0) (trodAll_cons_mk (shut_string Tryd.underlying9 hs1) (trodAll_cons_mk (shut_string Tryd.underlying9 hs2) (trodAll_cons_mk (shut_int Tryd.underlying5 h3w) trodAll_mk0)))), rfl, bel.frame _, fun h => by cases h⟩

/-- The settled world, the listed variables holding what the row says. -/
noncomputable def laidWorld (os : Os) : World := { World.holding Tryd.prog os ⟨#[], #[], []⟩ with heap := layAt (layAt ((World.holding Tryd.prog os ⟨#[], #[], []⟩).heap) 2 (flat2 Rows.laid_unicode_utf8_acceptRanges)) 1 (flat2 Rows.laid_unicode_utf8_first) }
set_option maxRecDepth 100000 in
theorem laid_met (os : Os) : laidMet Tryd.prog Rows.vtypeArraysRow.laid ((laidWorld os).forCall (fun _ _ => 0) ⟨#[], #[.slice none 0 0, .string .empty, .string .empty, .int .u8 0], []⟩).memory :=
  laidMet_of_run' 8 (by kernel_rfl) (by kernel_rfl)
theorem reads (os : Os) {H : Type} (enc : TypeId × Value → H) : ∃ places, DataW.whole enc Tryd.prog ((laidWorld os).forCall (fun _ _ => 0) ⟨#[], #[.slice none 0 0, .string .empty, .string .empty, .int .u8 0], []⟩).memory Tryd.f6.params.toList Rows.vtypeArraysSpec.vars false (#[.slice none 0 0, .string .empty, .string .empty, .int .u8 0] : Array Value).toList 8 = some ([.nil, .lit (.string []), .lit (.string []), .lit (.int .u8 0)], [], places) :=
  ⟨[], by kernel_rfl⟩
set_option maxRecDepth 100000 in
theorem lifted (os : Os) (started : os.Started) (H : Type) (enc : TypeId × Value → H) (F : Stop.Interp) :
    ReturnsInHanded {} Tryd.checked os 6 .any ((OpenSpec.ofChange Rows.vtypeArraysSpec).preRow enc Tryd.prog Tryd.f6 Rows.vtypeArraysRow.domain false Rows.vtypeArraysRow.laid) (((OpenSpec.ofChange Rows.vtypeArraysSpec).at F).post enc Tryd.prog Tryd.f6 false true false false) := by
  obtain ⟨places, hx⟩ := reads os enc
  refine returnsInHanded_of_row (C := Tryd.checked) (s := OpenSpec.ofChange Rows.vtypeArraysSpec) own started (by kernel_rfl) Tryd.func6
    (witness_row_at (enc := enc) (C := Tryd.checked) false (laidWorld os) #[.slice none 0 0, .string .empty, .string .empty, .int .u8 0] rfl (by kernel_rfl) (by kernel_rfl) (by kernel_rfl)
      (OpenSpec.preRow_of_cond 8 hx (by kernel_rfl) (fun k hk => by cases hk) (by kernel_rfl) (laid_met os))) ?_
  intro W base args ds gs before hval hW _ _ hsz hL hsh _
  exact contract H enc F W base args ds gs before hval hW hsz hL hsh

theorem row : Rows.VtypeArraysSaid :=
  OpenClaim.holds_of_cond 6 Tryd.f6 rfl rfl rfl rfl rfl rfl rfl ⟨rfl, rfl, rfl, rfl, rfl⟩ rfl rfl rfl rfl rfl (by kernel_rfl) Tryd.func6 (by kernel_rfl)
    (of_decide_eq_true (by kernel_rfl)) (by unfold Func.isWrapper; first | (rw [if_pos (by decide +kernel)]; kernel_rfl) | (rw [if_neg (by decide +kernel)]; exact ⟨rfl, rfl⟩))
    (fun os started H enc _ F => by rw [OpenClaim.pre_eq_preRow]; exact lifted os started H enc F)
theorem plain (f : FuncId) (fn : Func) (hf : Tryd.pinned.checked.prog.funcNamed "samovar/samovarlaw17.VtypeArrays" = some f) (hfn : Tryd.pinned.checked.prog.funcs[f]? = some fn) :
    false = Tryd.pinned.checked.prog.looks [] ∧ ∀ (j : Nat) t, fn.params[j]? = some t → Tryd.pinned.checked.prog.wantsStandIn t = false := by
  obtain rfl : f = 6 := Option.some.inj ((show Tryd.prog.funcNamed "samovar/samovarlaw17.VtypeArrays" = some 6 by kernel_rfl).symm.trans hf) |>.symm
  obtain rfl : fn = Tryd.f6 := (Option.some.inj (Tryd.func6.symm.trans hfn)).symm
  refine ⟨by kernel_rfl, fun j t ht => ?_⟩
  rw [Tryd.params6] at ht
  have hm := Array.mem_of_getElem? ht
  simp only [List.mem_toArray, List.mem_cons, List.mem_nil_iff, or_false] at hm
  rcases hm with rfl | rfl | rfl | rfl
  · exact (show Tryd.prog.wantsStandIn 28 = false by kernel_rfl)
  · exact (show Tryd.prog.wantsStandIn 9 = false by kernel_rfl)
  · exact (show Tryd.prog.wantsStandIn 9 = false by kernel_rfl)
  · exact (show Tryd.prog.wantsStandIn 5 = false by kernel_rfl)
/-- The card. -/
theorem proved : Rows.VtypeArraysCardSaid :=
  Claim7.holds_tied_plain_at .later [] _ _ _ _ row (fun _ h => by cases h) (by kernel_rfl) (fun _ h => by cases h) vtypeArrays_row_tie rfl ⟨rfl, rfl⟩ (by kernel_rfl) rfl plain (by kernel_rfl)
#print axioms proved
end Go.Proofs.YthblilhdjabhnaaDoor.vtypeArrays
