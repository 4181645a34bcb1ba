/- The row of OctetReads: its arguments opened, the walk called, what was there left as it was. -/
import Derived.Test.YtfbmocpkfaiddaaFrame
import Derived.Test.YtfbmocpkfaiddaaOctW4
namespace Go.Proofs.Ytfbmocpkfaiddaa.octetReads
open Go.ChangeShapes Go.WideShapes Go.ChangeAt Go.RowKit
open Go.ChangeMaps (open_string shut_string)

theorem ask_el {H : Type} {enc : TypeId × Value → H} {w : World} {base : Nat} {spare : Nat → Bool} {held : Bool} (n : Nat) (cs : List Value) (y : DataW H × List MemPlace) (hl : cs.length = 2)
    (h : DataW.trod enc Try.prog w base spare held n 40 cs = some y) : ∃ x : Int × Int, cs = askC x ∧ (0 ≤ x.1 ∧ x.1 ≤ 255) := by
  obtain ⟨ys, n', _, _, hl, hf⟩ := open_fields Try.underlying40 (by kernel_rfl) (by kernel_rfl) h
  obtain ⟨v0, z0, hc0, _, h0⟩ := hf 0 _ rfl
  obtain ⟨v1, z1, hc1, _, h1⟩ := hf 1 _ rfl
  obtain ⟨a, ha, _, wa⟩ := DataW.trod_int Try.underlying5 h0
  obtain ⟨b, hb, _, wb⟩ := DataW.trod_int Try.underlying3 h1
  simp at ha hb
  subst ha
  subst hb
  match cs, hl with
  | [c0, c1], _ =>
    simp at hc0 hc1
    subst hc0
    subst hc1
    exact ⟨(a, b), rfl, bounds_u8 wa⟩

set_option maxRecDepth 100000 in
theorem lifted (os : Os) (started : os.Started) (H : Type) (enc : TypeId × Value → H) :
    ReturnsInHanded {} Try.checked os 6 .any (Rows.octetReadsSpec.pre6 enc Try.prog Try.f6 Rows.octetReadsRow.domain false) (Rows.octetReadsSpec.post enc Try.prog Try.f6 false true false false) := by
  refine returnsInHanded_of_change_sized (C := Try.checked) own started (by kernel_rfl) Try.func6
    (ChangeSpec.witness6 (enc := enc) (C := Try.checked) false ⟨#[], #[.slice none 0 0, .slice none 0 0], []⟩ 8 (by kernel_rfl) (by kernel_rfl) (by kernel_rfl) (by kernel_rfl)) ?_
  intro W base args ds gs before hval0 hW _ hsz0 _
  have hsz : (DataW.weightsEach Try.prog (Try.f6.params.toList ++ Rows.octetReadsSpec.plain.varTypes Try.prog) (ds ++ gs)).all (· ≤ reachBytes) = true := hsz0
  have hval : ∀ (j : Nat) t v, Try.f6.params[j]? = some t → args[j]? = some v → Value.okWide Try.prog W .any base t v := hval0
  have hW' := hW
  obtain ⟨p, q, hA0, hV, rfl, hfz, hnd⟩ := hW
  have hA : DataW.TrodAll enc Try.prog W 0 (fun _ => true) true Try.f6.params.toList args.toList ds p := hA0
  rw [Try.params6] at hA hval hsz
  obtain ⟨v0, vs0, d0, ds0, p0, q0, hargs, rfl, rfl, h0, r0a⟩ := trodAll_cons hA
  obtain ⟨v1, vs1, d1, ds1, p1, q1, rfl, rfl, rfl, h1, r1a⟩ := trodAll_cons r0a
  obtain ⟨rfl, rfl, rfl⟩ := trodAll_nil r1a
  obtain rfl : args = #[v0, v1] := by cases args; simp_all
  obtain ⟨rfl, rfl⟩ := trodVars_none hV
  have k0 := h0
  have lt0 : ∀ x ∈ p0, x.block < W.heap.size := by obtain ⟨m, hm⟩ := k0; exact DataW.trod_lt m _ _ _ hm
  have k1 := h1
  have lt1 : ∀ x ∈ p1, x.block < W.heap.size := by obtain ⟨m, hm⟩ := k1; exact DataW.trod_lt m _ _ _ hm
  obtain ⟨A0, n0, c0, l0, rfl, e0, hc0, hm0, r0, hd0⟩ := open_bytes Try.underlying22 Try.underlying5 (by kernel_rfl) (hval 0 22 v0 rfl rfl) h0
  have b0 : n0 ≤ 140737488351232 := by
    rcases hd0 with ⟨_, h0⟩ | ⟨es, sp, hd, he⟩
    · omega
    · have h := sized_slice hsz (j := 0) (t := 22) (e := 5) rfl (by rw [hd]; rfl) Try.underlying22
      rw [(by kernel_rfl : Try.prog.bytesOf 5 = 1)] at h
      simp only [reachBytes] at h
      omega
  obtain ⟨A1, n1, c1, l1, rfl, e1, hc1, hm1, r1, hd1⟩ := open_rows 2 askC (fun a _ => 0 ≤ a.1 ∧ a.1 ≤ 255) Try.underlying33 (by kernel_rfl) (by decide) (fun _ => rfl) ask_el (hval 1 33 v1 rfl rfl) h1
  have q1 : ∀ a ∈ l1, 0 ≤ a.1 ∧ a.1 ≤ 255 := by
    intro a ha
    rcases hd1 with ⟨_, h0⟩ | ⟨es, sp, hd, he, hq⟩
    · subst h0; cases ha
    · obtain ⟨i, hi⟩ := List.getElem?_of_mem ha
      have hil : i < es.length := by have := (List.getElem?_eq_some_iff.1 hi).1; omega
      exact hq i a _ hi (List.getElem?_eq_getElem hil)
  have b1 : n1 ≤ 140737488351232 := by
    rcases hd1 with ⟨_, h0⟩ | ⟨es, sp, hd, he, _⟩
    · subst h0; simp at e1; omega
    · have h := sized_slice hsz (j := 1) (t := 33) (e := 40) rfl (by rw [hd]; rfl) Try.underlying33
      rw [(by kernel_rfl : Try.prog.bytesOf 40 = 16)] at h
      simp only [reachBytes] at h
      omega
  clear hA0 hval0
  refine (octetReads_walk W A0 n0 c0 l0 e0 hc0 hm0 r0 b0 A1 n1 c1 l1 e1 q1 r1 b1).mono fun e W' ⟨he, bel⟩ => ?_
  subst he
  exact ⟨_, rfl, _, _, _, [], _, [], hW', trodAll_mk1 (shut_bool Try.underlying4 _), (trodAll_cons_mk (Below.trod laidOut (by kernel_rfl) (of_decide_eq_true (by kernel_rfl)) k0 bel lt0) (trodAll_cons_mk (Below.trod laidOut (by kernel_rfl) (of_decide_eq_true (by kernel_rfl)) k1 bel lt1) trodAll_mk0)), rfl, bel.frame _, fun h => by cases h⟩

theorem proved : Rows.OctetReadsSaid :=
  OpenClaim.holds_of_wide 6 Try.f6 rfl rfl rfl rfl rfl rfl rfl ⟨rfl, rfl, rfl, rfl, rfl⟩ rfl rfl rfl rfl rfl (by kernel_rfl) Try.func6 (by kernel_rfl)
    (of_decide_eq_true (by kernel_rfl)) (by unfold Func.isWrapper; first | (rw [if_pos (by decide +kernel)]; kernel_rfl) | (rw [if_neg (by decide +kernel)]; exact ⟨rfl, rfl⟩))
    (fun os started H enc _ => lifted os started H enc)
#print axioms proved
end Go.Proofs.Ytfbmocpkfaiddaa.octetReads
