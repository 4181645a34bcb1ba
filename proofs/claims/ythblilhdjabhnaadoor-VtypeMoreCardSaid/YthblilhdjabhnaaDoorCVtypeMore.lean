/- The row of VtypeMore: its arguments opened, the walk called, what was there left as it was. -/
import Derived.Test.YthblilhdjabhnaaDoorFrame
import Derived.Test.YthblilhdjabhnaaDoorCards
import Derived.Test.YthblilhdjabhnaaDoorTie
import Derived.Test.YthblilhdjabhnaaDoorArgs
import Derived.Deep.DeepHandedRow
import Derived.Lib.LaidTab
import Derived.Test.YthblilhdjabhnaaDoorVtYM
namespace Go.Proofs.YthblilhdjabhnaaDoor.vtypeMore
open Go.ChangeShapes Go.WideShapes Go.ChangeAt Go.RowKit
open Go.ChangeMaps (open_string shut_string)

set_option maxRecDepth 100000 in
theorem contract (H : Type) (enc : TypeId × Value → H) (F : Stop.Interp) (W : World) (base : Nat) (args : Array Value) (ds gs : List (DataW H)) (before : List MemPlace)
    (hval0 : ∀ (j : Nat) t v, Tryd.f5.params[j]? = some t → args[j]? = some v → Value.okWide Tryd.prog W .any base t v)
    (hW : DataW.Whole enc Tryd.prog Tryd.f5.params.toList Rows.vtypeMoreSpec.vars false W args.toList ds gs before)
    (hsz : (DataW.weightsEach Tryd.prog (Tryd.f5.params.toList ++ Rows.vtypeMoreSpec.plain.varTypes Tryd.prog) (ds ++ gs)).all (· ≤ reachBytes) = true)
    (_hL : laidMetH Tryd.prog Rows.vtypeMoreRow.laid W) (hsh : W.ShapedOpen Tryd.prog) :
    Calls Tryd.prog 5 args W fun e W' => ∃ v, e = .returned v ∧ (((OpenSpec.ofChange Rows.vtypeMoreSpec).at F).post enc Tryd.prog Tryd.f5 false true false false) W args v W' := by
  have hval : ∀ (j : Nat) t v, Tryd.f5.params[j]? = some t → args[j]? = some v → Value.okWide Tryd.prog W .any base t v := hval0
  have hW' := hW
  obtain ⟨p, q, hA0, hV, rfl, hfz, hnd⟩ := hW
  have hA : DataW.TrodAll enc Tryd.prog W 0 (fun _ => true) true Tryd.f5.params.toList args.toList ds p := hA0
  rw [Tryd.params5] at hA hval hsz
  obtain ⟨v0, vs0, d0, ds0, p0, q0, hargs, rfl, rfl, h0, r0a⟩ := trodAll_cons hA
  obtain ⟨v1, vs1, d1, ds1, p1, q1, rfl, rfl, rfl, h1, r1a⟩ := trodAll_cons r0a
  obtain ⟨v2, vs2, d2, ds2, p2, q2, rfl, rfl, rfl, h2, r2a⟩ := trodAll_cons r1a
  obtain ⟨v3, vs3, d3, ds3, p3, q3, rfl, rfl, rfl, h3, r3a⟩ := trodAll_cons r2a
  obtain ⟨rfl, rfl, rfl⟩ := trodAll_nil r3a
  obtain rfl : args = #[v0, v1, v2, v3] := by cases args; simp_all
  obtain ⟨rfl, rfl⟩ := trodVars_none hV
  have k0 := h0
  have lt0 : ∀ x ∈ p0, x.block < W.heap.size := by obtain ⟨m, hm⟩ := k0; exact DataW.trod_lt m _ _ _ hm
  have k1 := h1
  have lt1 : ∀ x ∈ p1, x.block < W.heap.size := by obtain ⟨m, hm⟩ := k1; exact DataW.trod_lt m _ _ _ hm
  obtain ⟨A0, n0, c0, l0, rfl, e0, hc0, hm0, r0, hd0⟩ := open_rows 4 hdrC (fun x _ => x.1.length ≤ maxLen ∧ x.2.1.length ≤ maxLen) Tryd.underlying28 (by kernel_rfl) (by decide) (fun _ => rfl) hdr_el (hval 0 28 v0 rfl rfl) h0
  have b0 : n0 ≤ 140737488351232 := by rw [← e0]; exact sized_row (Q := fun x _ => x.1.length ≤ maxLen ∧ x.2.1.length ≤ maxLen) (l := l0) hsz (j := 0) (t := 28) (e := 39) rfl rfl Tryd.underlying28 (of_decide_eq_true (by kernel_rfl)) (dall_of hd0 e0)
  have q0 := dall_all (dall_of hd0 e0)
  obtain ⟨A1, n1, c1, l1, rfl, e1, hc1, hm1, r1, hd1⟩ := open_rows 4 hdrC (fun x _ => x.1.length ≤ maxLen ∧ x.2.1.length ≤ maxLen) Tryd.underlying28 (by kernel_rfl) (by decide) (fun _ => rfl) hdr_el (hval 1 28 v1 rfl rfl) h1
  have b1 : n1 ≤ 140737488351232 := by rw [← e1]; exact sized_row (Q := fun x _ => x.1.length ≤ maxLen ∧ x.2.1.length ≤ maxLen) (l := l1) hsz (j := 1) (t := 28) (e := 39) rfl rfl Tryd.underlying28 (of_decide_eq_true (by kernel_rfl)) (dall_of hd1 e1)
  have q1 := dall_all (dall_of hd1 e1)
  have k2 := h2
  obtain ⟨s2, rfl, hd2, rfl, hs2⟩ := open_string Tryd.underlying9 (hval 2 9 v2 rfl rfl) h2
  have b2 : s2.size ≤ 140737488351232 := by
    have := sized_string hsz (j := 2) (t := 9) (bytes := s2.data.toList) rfl (by rw [hd2]; rfl)
    simpa [reachBytes] using this
  have z2 := hd2
  subst hd2
  have k3 := h3
  obtain ⟨s3, rfl, hd3, rfl, hs3⟩ := open_string Tryd.underlying9 (hval 3 9 v3 rfl rfl) h3
  have b3 : s3.size ≤ 140737488351232 := by
    have := sized_string hsz (j := 3) (t := 9) (bytes := s3.data.toList) rfl (by rw [hd3]; rfl)
    simpa [reachBytes] using this
  have z3 := hd3
  subst hd3
  clear hA0 hval0
  obtain ⟨m, hm⟩ := Tryd.laysM146.s1_3 W hsh
  refine (vtypeMore_walk m W hm A0 n0 c0 l0 e0 r0 q0 b0 A1 n1 c1 l1 e1 r1 q1 b1 s2 b2 s3 b3).mono fun e W' ⟨he, bel⟩ => ?_
  subst he
  exact ⟨_, rfl, _, _, _, [], _, [], hW', trodAll_mk1 (shut_bool Tryd.underlying4 _), (trodAll_cons_mk (Below.trod laidOut (by kernel_rfl) (of_decide_eq_true (by kernel_rfl)) k0 bel lt0) (trodAll_cons_mk (Below.trod laidOut (by kernel_rfl) (of_decide_eq_true (by kernel_rfl)) k1 bel lt1) (trodAll_cons_mk (shut_string Tryd.underlying9 hs2) (trodAll_cons_mk (shut_string Tryd.underlying9 hs3) trodAll_mk0)))), rfl, bel.frame _, fun h => by cases h⟩

/-- The settled world, the listed variables holding what the row says. -/
noncomputable def laidWorld (os : Os) : World := { World.holding Tryd.prog os ⟨#[], #[], []⟩ with heap := layAt (layAt ((World.holding Tryd.prog os ⟨#[], #[], []⟩).heap) 2 (flat2 Rows.laid_unicode_utf8_acceptRanges)) 1 (flat2 Rows.laid_unicode_utf8_first) }
set_option maxRecDepth 100000 in
theorem laid_met (os : Os) : laidMet Tryd.prog Rows.vtypeMoreRow.laid ((laidWorld os).forCall (fun _ _ => 0) ⟨#[], #[.slice none 0 0, .slice none 0 0, .string .empty, .string .empty], []⟩).memory :=
  laidMet_of_run' 8 (by kernel_rfl) (by kernel_rfl)
theorem reads (os : Os) {H : Type} (enc : TypeId × Value → H) : ∃ places, DataW.whole enc Tryd.prog ((laidWorld os).forCall (fun _ _ => 0) ⟨#[], #[.slice none 0 0, .slice none 0 0, .string .empty, .string .empty], []⟩).memory Tryd.f5.params.toList Rows.vtypeMoreSpec.vars false (#[.slice none 0 0, .slice none 0 0, .string .empty, .string .empty] : Array Value).toList 8 = some ([.nil, .nil, .lit (.string []), .lit (.string [])], [], places) :=
  ⟨[], by kernel_rfl⟩
set_option maxRecDepth 100000 in
theorem lifted (os : Os) (started : os.Started) (H : Type) (enc : TypeId × Value → H) (F : Stop.Interp) :
    ReturnsInHanded {} Tryd.checked os 5 .any ((OpenSpec.ofChange Rows.vtypeMoreSpec).preRow enc Tryd.prog Tryd.f5 Rows.vtypeMoreRow.domain false Rows.vtypeMoreRow.laid) (((OpenSpec.ofChange Rows.vtypeMoreSpec).at F).post enc Tryd.prog Tryd.f5 false true false false) := by
  obtain ⟨places, hx⟩ := reads os enc
  refine returnsInHanded_of_row (C := Tryd.checked) (s := OpenSpec.ofChange Rows.vtypeMoreSpec) own started (by kernel_rfl) Tryd.func5
    (witness_row_at (enc := enc) (C := Tryd.checked) false (laidWorld os) #[.slice none 0 0, .slice none 0 0, .string .empty, .string .empty] rfl (by kernel_rfl) (by kernel_rfl) (by kernel_rfl)
      (OpenSpec.preRow_of_cond 8 hx (by kernel_rfl) (fun k hk => by cases hk) (by kernel_rfl) (laid_met os))) ?_
  intro W base args ds gs before hval hW _ _ hsz hL hsh _
  exact contract H enc F W base args ds gs before hval hW hsz hL hsh

theorem row : Rows.VtypeMoreSaid :=
  OpenClaim.holds_of_cond 5 Tryd.f5 rfl rfl rfl rfl rfl rfl rfl ⟨rfl, rfl, rfl, rfl, rfl⟩ rfl rfl rfl rfl rfl (by kernel_rfl) Tryd.func5 (by kernel_rfl)
    (of_decide_eq_true (by kernel_rfl)) (by unfold Func.isWrapper; first | (rw [if_pos (by decide +kernel)]; kernel_rfl) | (rw [if_neg (by decide +kernel)]; exact ⟨rfl, rfl⟩))
    (fun os started H enc _ F => by rw [OpenClaim.pre_eq_preRow]; exact lifted os started H enc F)
theorem plain (f : FuncId) (fn : Func) (hf : Tryd.pinned.checked.prog.funcNamed "samovar/samovarlaw17.VtypeMore" = some f) (hfn : Tryd.pinned.checked.prog.funcs[f]? = some fn) :
    false = Tryd.pinned.checked.prog.looks [] ∧ ∀ (j : Nat) t, fn.params[j]? = some t → Tryd.pinned.checked.prog.wantsStandIn t = false := by
  obtain rfl : f = 5 := Option.some.inj ((show Tryd.prog.funcNamed "samovar/samovarlaw17.VtypeMore" = some 5 by kernel_rfl).symm.trans hf) |>.symm
  obtain rfl : fn = Tryd.f5 := (Option.some.inj (Tryd.func5.symm.trans hfn)).symm
  refine ⟨by kernel_rfl, fun j t ht => ?_⟩
  rw [Tryd.params5] at ht
  have hm := Array.mem_of_getElem? ht
  simp only [List.mem_toArray, List.mem_cons, List.mem_nil_iff, or_false] at hm
  rcases hm with rfl | rfl | rfl | rfl
  · exact (show Tryd.prog.wantsStandIn 28 = false by kernel_rfl)
  · exact (show Tryd.prog.wantsStandIn 28 = false by kernel_rfl)
  · exact (show Tryd.prog.wantsStandIn 9 = false by kernel_rfl)
  · exact (show Tryd.prog.wantsStandIn 9 = false by kernel_rfl)
/-- The card. -/
theorem proved : Rows.VtypeMoreCardSaid :=
  Claim7.holds_tied_plain_at .later [] _ _ _ _ row (fun _ h => by cases h) (by kernel_rfl) (fun _ h => by cases h) vtypeMore_row_tie rfl ⟨rfl, rfl⟩ (by kernel_rfl) rfl plain (by kernel_rfl)
#print axioms proved
end Go.Proofs.YthblilhdjabhnaaDoor.vtypeMore
