/- Contract: (*inflate.state).told. -/
import Derived.Test.YtbhljigppljjbaaInfT
import Derived.Test.YtbhljigppljjbaaInfU
import Derived.Outline
import Derived.Deep.DeepCutAuto
import Derived.Laws.Tables
import Derived.Deep.WholeRow
import Derived.Deep.CutBlock
namespace Go.Proofs.Ytbhljigppljjbaa
open Go.RowKit

def TPost (R : Rz ((List Nat × List Nat) × Nat)) (w : World) (gr : Nat) (b : List UInt8) (e : Ending) (w' : World) : Prop :=
  w.grownBy w' (some gr) ∧ match R with
    | .ok x => ∃ A n c A' n' c', e = .returned (.tuple #[.slice A n c, .slice A' n' c', .int .i64 0]) ∧ x.1.1.length = n ∧ x.1.2.length = n' ∧ RN w' w'.heap.size A x.1.1 ∧ RN w' w'.heap.size A' x.1.2 ∧ BRd w' gr b x.2 ∧
        (∀ y ∈ x.1.1, y ≤ 15) ∧ (∀ y ∈ x.1.2, y ≤ 15) ∧ n ≤ 288 ∧ n' ≤ 288
    | .err k => e = .returned (.tuple #[.slice none 0 0, .slice none 0 0, .int .i64 k]) ∧ k ≠ 0
theorem tPost_err {R : Rz ((List Nat × List Nat) × Nat)} {w w' : World} {gr : Nat} {b : List UInt8} {k : Int} (h : R = .err k) (hg : w.grownBy w' (some gr)) (hk : k ≠ 0 := by decide) : TPost R w gr b (.returned (.tuple #[.slice none 0 0, .slice none 0 0, .int .i64 k])) w' := by
  subst h; exact ⟨hg, rfl, hk⟩
theorem tPost_ok {R : Rz ((List Nat × List Nat) × Nat)} {w w' : World} {gr : Nat} {b : List UInt8} {l1 l2 : List Nat} {q n c n' c' : Nat} {A A' : Option Addr} (h : R = .ok ((l1, l2), q)) (hg : w.grownBy w' (some gr)) (h1 : l1.length = n) (h2 : l2.length = n') (h3 : RN w' w'.heap.size A l1) (h4 : RN w' w'.heap.size A' l2)
    (h5 : BRd w' gr b q) (h6 : ∀ y ∈ l1, y ≤ 15) (h7 : ∀ y ∈ l2, y ≤ 15) (h8 : n ≤ 288) (h9 : n' ≤ 288) : TPost R w gr b (.returned (.tuple #[.slice A n c, .slice A' n' c', .int .i64 0])) w' := by
  subst h; exact ⟨hg, A, n, c, A', n', c', rfl, h1, h2, h3, h4, h5, h6, h7, h8, h9⟩
/-- What is kept while the lengths are read: the state's first cell, the reader. -/
def ToV (w0 w : World) (gs gr : Nat) (b : List UInt8) (q : Nat) : Prop := w0.grownBy w (some gr) ∧ w.cell? ⟨gs, 0, none⟩ = some (.pointer (some ⟨gr, 0, none⟩)) ∧ BRd w gr b q ∧ gr < gs ∧ gs < w0.heap.size
section
variable {w0 w w' : World} {gs gr q q' : Nat} {b : List UInt8}
theorem ToV.next (h : ToV w0 w gs gr b q) (hg : w.grownBy w' (some gr)) (hR : BRd w' gr b q') : ToV w0 w' gs gr b q' := by
  obtain ⟨h1, h2, h3, h4, h5⟩ := h
  refine ⟨gb_trans h1 hg, ?_, hR, h4, h5⟩
  rw [World.cell?_of_block (hg.block gs (Nat.lt_of_lt_of_le h5 h1.size) (fun e => by injection e; omega))]; exact h2
theorem ToV.step (h : ToV w0 w gs gr b q) {B : Nat} (hb : Below B w w') (hB : w0.heap.size ≤ B) : ToV w0 w' gs gr b q := by
  obtain ⟨h1, h2, h3, h4, h5⟩ := h
  exact ⟨gb_past h1 hb hB, (hb.cell (p := ⟨gs, 0, none⟩) (Nat.lt_of_lt_of_le h5 hB)).trans h2, h3.below hb (by omega), h4, h5⟩
theorem ToV.drewN (h : ToV w0 w gs gr b q) (n : Nat) : ToV w0 (w.drewN n) gs gr b q := h.step (below_drewN (Below.refl w0.heap.size w) n) (Nat.le_refl _)
theorem ToV.size (h : ToV w0 w gs gr b q) : w0.heap.size ≤ w.heap.size := h.1.size
end
theorem ord_cells : ∀ i, i < 19 → (#[Value.int .u8 16, .int .u8 17, .int .u8 18, .int .u8 0, .int .u8 8, .int .u8 7, .int .u8 9, .int .u8 6, .int .u8 10, .int .u8 5, .int .u8 11, .int .u8 4, .int .u8 12, .int .u8 3, .int .u8 13, .int .u8 2, .int .u8 14, .int .u8 1, .int .u8 15] : Array Value)[i]? = some (.int .u8 ((ordL.getD i 0 : Nat) : Int)) := by
  intro i hi
  match i, hi with
  | 0, _ => rfl
  | 1, _ => rfl
  | 2, _ => rfl
  | 3, _ => rfl
  | 4, _ => rfl
  | 5, _ => rfl
  | 6, _ => rfl
  | 7, _ => rfl
  | 8, _ => rfl
  | 9, _ => rfl
  | 10, _ => rfl
  | 11, _ => rfl
  | 12, _ => rfl
  | 13, _ => rfl
  | 14, _ => rfl
  | 15, _ => rfl
  | 16, _ => rfl
  | 17, _ => rfl
  | 18, _ => rfl
  | i + 19, h => omega
theorem Bk.setRow {w : World} {g : Nat} {t : TypeId} {old : Array Value} (h : Bk w g t old) (cs : Array Value) : Bk (w.setRow g cs) g t cs := by
  unfold Bk at h ⊢
  simp [World.setRow, Array.getElem?_modify, h]
theorem heap_setRow (w : World) (g : Nat) (cs : Array Value) (k : Nat) (h : k ≠ g) : (w.setRow g cs).heap[k]? = w.heap[k]? := by
  have h' : ¬ g = k := fun e => h e.symm
  simp [World.setRow, Array.getElem?_modify, h']
theorem bl_setRow {B : Nat} {a w : World} (h : Below B a w) {g : Nat} (hg : B ≤ g) (cs : Array Value) : Below B a (w.setRow g cs) :=
  ⟨h.os, h.tape, h.output, by simpa using h.size, fun k hk => (heap_setRow w g cs k (by omega)).trans (h.block k hk)⟩
theorem ord_ones : (#[.int .u8 16, .int .u8 17, .int .u8 18, .int .u8 0, .int .u8 8, .int .u8 7, .int .u8 9, .int .u8 6, .int .u8 10, .int .u8 5, .int .u8 11, .int .u8 4, .int .u8 12, .int .u8 3, .int .u8 13, .int .u8 2, .int .u8 14, .int .u8 1, .int .u8 15] : Array Value).all (·.oneCell') = true := by simp [Value.oneCell']
theorem rep0 (n i : Nat) : (List.replicate n 0).getD i 0 = 0 := by rw [List.getD_eq_getElem?_getD, List.getElem?_replicate]; split <;> rfl
theorem info_ord : (Try.prog.info? 103).map (·.size) = some 19 := by kernel_rfl
theorem len_ord : Try.prog.arrayLen 103 = 19 := by kernel_rfl
theorem sz_ord (w : World) : (sizeOf (Try.prog.elem 103)).run Try.prog w = .ok 1 w := by kernel_rfl
theorem sl_ord (w : World) (a : Addr) (z : Nat) (hz : z < 16) : (Instr.sliceAt 103 (.pointer (some a)) none (some (.int .i64 ((z : Int) + 4))) none).run Try.prog w = .ok (.slice (some a) (z + 4) 19) w := by
  rw [run_sliceAt_array_h w 103 a (by kernel_rfl) .i64 ((z : Int) + 4) (by omega) (by rw [len_ord]; omega), sz_ord, Result.andThen_ok, len_ord]
  unfold slicedAt
  rw [show ((z : Int) + 4).toNat = z + 4 by omega, Nat.sub_zero, if_neg (by decide), Nat.zero_mul, show a.add 0 = a by unfold Addr.add; simp]
set_option maxRecDepth 100000 in
set_option maxHeartbeats 2000000 in
theorem itold_any (gs gr B : Nat) (b : List UInt8) (p lim : Nat) (out : List UInt8) (w : World) (h : ISt w gs gr B b p lim out) :
    Calls Try.prog 36 #[.pointer (some ⟨gs, 0, none⟩)] w (TPost (toldP b p) w gr b) := by
  obtain ⟨R, hRR⟩ : ∃ R, toldP b p = R := ⟨_, rfl⟩
  rw [hRR]
  have hlt := h.lt
  obtain ⟨v0, hK, hR, hO, hv, hgs, hol, hlim⟩ := id h
  have hble := hR.le
  have c0 : w.cell? ⟨gs, 0, none⟩ = some (.pointer (some ⟨gr, 0, none⟩)) := (hK.cell 0).trans rfl
  have hT0 : ToV w w gs gr b p := ⟨World.grownBy.refl w _, c0, hR, hgs, hlt.2⟩
  have hT1 := hT0.step (bl_alloc (Below.refl w.heap.size w) (Nat.le_refl _) (.cells #[.int .i64 5, .int .i64 5, .int .i64 4] 3)) (Nat.le_refl _)
  have hws : RN (w.alloc (.cells #[.int .i64 5, .int .i64 5, .int .i64 4] 3)) (w.alloc (.cells #[.int .i64 5, .int .i64 5, .int .i64 4] 3)).heap.size (some ⟨w.heap.size, 0, none⟩) [5, 5, 4] := (RL.news w [5, 5, 4] #[.int .i64 5, .int .i64 5, .int .i64 4] rfl _ _).top
  obtain ⟨cs, hcs, hcz, hr1⟩ := mk_row (P := Try.prog) 54 3 (.int .i64 0) 8 Try.underlying54 info_int rfl 19 (by omega) (by omega)
  have hm1 : ∀ w : World, (Instr.makeSlice 54 (.int .i64 19) (.int .i64 19)).run Try.prog w = .ok (.slice (some ⟨w.heap.size, 0, none⟩) 19 19) (w.alloc (.cells cs 3)) := hr1
  have HCS := bx hcs
  have HCZ := bx hcz
  clear hcs hcz hr1 hK hO hv hR
  rcases told_cases b p with ⟨ht1, ht2⟩ | ⟨x, y, z, q, ht1, ht2, hx, hy, hz, hq⟩
  · have HF : Bx (R = .err 2) := bx (by rw [← hRR, ht2])
    have HT := bx ht1
    clear hRR ht1 ht2
    go_enter Try.func36, Try.ntmps36
    go_wp2_with fail
    refine (itake_any gs gr (some ⟨w.heap.size, 0, none⟩) 3 3 [5, 5, 4] b p _ hT1.2.1 hgs (by simp; omega) hT1.2.2.1 rfl (by omega) (by simp) hws (fun ad e => by injection e with e; subst e; exact hlt.2)).mono ?_
    rintro e w1 ⟨hg1, hp⟩
    rw [HT.out] at hp
    obtain rfl := hp
    have hG := gb_trans hT1.1 hg1
    go_wp2
    go_ret3
    exact tPost_err HF.out hG
  · have HG : Bx (R = toldG b x y z q) := bx (by rw [← hRR, ht2])
    have HT := bx ht1
    clear hRR ht1 ht2
    go_enter Try.func36, Try.ntmps36
    go_wp2_with fail
    refine (itake_any gs gr (some ⟨w.heap.size, 0, none⟩) 3 3 [5, 5, 4] b p _ hT1.2.1 hgs (by simp; omega) hT1.2.2.1 rfl (by omega) (by simp) hws (fun ad e => by injection e with e; subst e; exact hlt.2)).mono ?_
    rintro e w1 ⟨hg1, hp⟩
    rw [HT.out] at hp
    obtain ⟨A1, cc1, rfl, hA1, hR1⟩ := hp
    have hT2 := hT1.next hg1 hR1
    obtain ⟨ad, x0, rfl, hadb, hx0, hc0⟩ := RL.atl hA1 (k := 0) (by simp)
    obtain ⟨ad', y0, hA', _, hy0, hc1⟩ := RL.atl hA1 (k := 1) (by simp)
    obtain ⟨ad'', z0, hA'', _, hz0, hc2⟩ := RL.atl hA1 (k := 2) (by simp)
    injection hA' with hA'
    injection hA'' with hA''
    subst hA' hA''
    obtain rfl : x = x0 := by have := hx0.out; injection this
    obtain rfl : y = y0 := by have := hy0.out; injection this
    obtain rfl : z = z0 := by have := hz0.out; injection this
    have hc0' : w1.cell? ad = some (.int .i64 (x : Int)) := by rw [show ad.add 0 = ad by unfold Addr.add; simp] at hc0; exact hc0
    have hc1' : w1.cell? ⟨ad.block, ad.off + 1, none⟩ = some (.int .i64 (y : Int)) := by rw [add_pos] at hc1; exact hc1
    have hc2' : w1.cell? ⟨ad.block, ad.off + 2, none⟩ = some (.int .i64 (z : Int)) := by rw [add_pos] at hc2; exact hc2
    clear hc0 hc1 hc2 hws hT0 hT1 hg1 hR1 c0 hx0 hy0 hz0 hA1
    have j1 : IntKind.i64.wrap ((x : Int) + 257) = (x : Int) + 257 := IntWalk.i64_in _ (by omega)
    have j2 : IntKind.i64.wrap ((y : Int) + 1) = (y : Int) + 1 := IntWalk.i64_in _ (by omega)
    go_wp2_with fail
    go_quiet (fail)
    rename Nat => nq
    clear j1 j2
    have hT3 := hT2.drewN nq
    have hc2' : (w1.drewN nq).cell? ⟨ad.block, ad.off + 2, none⟩ = some (.int .i64 (z : Int)) := hc2'
    have hadb : ad.block < (w1.drewN nq).heap.size := hadb
    clear hc0' hc1' hT2
    generalize w1.drewN nq = w2 at hT3 hc2' hadb ⊢
    by_cases hbig : 286 < x + 257 ∨ 30 < y + 1
    · have HF : Bx (R = .err 5) := bx (by rw [HG.out, toldG, if_pos hbig])
      rcases Nat.lt_or_ge 286 (x + 257) with hb1 | hb1
      · go_wp2
        go_ret3
        exact tPost_err HF.out hT3.1
      · have hb2 : 30 < y + 1 := by omega
        go_wp2
        go_ret3
        exact tPost_err HF.out hT3.1
    · have HG2 : Bx (R = (lensF b (ordL.take (z + 4)) (List.replicate 19 0) q).bind (toldC b x y)) := bx (by rw [HG.out, toldG, if_neg hbig])
      have hb1 : x ≤ 29 ∧ y ≤ 29 := by omega
      clear hbig HG
      obtain ⟨gl, hgl⟩ : ∃ gl, w2.heap.size = gl := ⟨_, rfl⟩
      have hz2 : gl + 1 = (w2.alloc (.cells cs 3)).heap.size := by simp [hgl]
      have hwz := hT3.size
      have hL3 : Rw (((w2.alloc (.cells cs 3)).alloc (.cells #[.int .u8 0, .int .u8 0, .int .u8 0, .int .u8 0, .int .u8 0, .int .u8 0, .int .u8 0, .int .u8 0, .int .u8 0, .int .u8 0, .int .u8 0, .int .u8 0, .int .u8 0, .int .u8 0, .int .u8 0, .int .u8 0, .int .u8 0, .int .u8 0, .int .u8 0] 103)).setRow (gl + 1) #[.int .u8 16, .int .u8 17, .int .u8 18, .int .u8 0, .int .u8 8, .int .u8 7, .int .u8 9, .int .u8 6, .int .u8 10, .int .u8 5, .int .u8 11, .int .u8 4, .int .u8 12, .int .u8 3, .int .u8 13, .int .u8 2, .int .u8 14, .int .u8 1, .int .u8 15]) gl 3 19 (fun i => nV ((List.replicate 19 0).getD i 0)) :=
        ((Rw.of (n := 19) (C := fun i => nV ((List.replicate 19 0).getD i 0)) (Bk.newAt w2 3 cs hgl) HCS.out (fun i hi => by rw [HCZ.out i hi, rep0]; rfl)).alloc _).keep (heap_setRow _ _ _ _ (by omega))
      have hO3 : Rw (((w2.alloc (.cells cs 3)).alloc (.cells #[.int .u8 0, .int .u8 0, .int .u8 0, .int .u8 0, .int .u8 0, .int .u8 0, .int .u8 0, .int .u8 0, .int .u8 0, .int .u8 0, .int .u8 0, .int .u8 0, .int .u8 0, .int .u8 0, .int .u8 0, .int .u8 0, .int .u8 0, .int .u8 0, .int .u8 0] 103)).setRow (gl + 1) #[.int .u8 16, .int .u8 17, .int .u8 18, .int .u8 0, .int .u8 8, .int .u8 7, .int .u8 9, .int .u8 6, .int .u8 10, .int .u8 5, .int .u8 11, .int .u8 4, .int .u8 12, .int .u8 3, .int .u8 13, .int .u8 2, .int .u8 14, .int .u8 1, .int .u8 15]) (gl + 1) 103 19 (fun i => .int .u8 ((ordL.getD i 0 : Nat) : Int)) :=
        Rw.of ((Bk.newAt _ _ _ hz2.symm).setRow _) rfl ord_cells
      have hBB : Below w2.heap.size w2 (((w2.alloc (.cells cs 3)).alloc (.cells #[.int .u8 0, .int .u8 0, .int .u8 0, .int .u8 0, .int .u8 0, .int .u8 0, .int .u8 0, .int .u8 0, .int .u8 0, .int .u8 0, .int .u8 0, .int .u8 0, .int .u8 0, .int .u8 0, .int .u8 0, .int .u8 0, .int .u8 0, .int .u8 0, .int .u8 0] 103)).setRow (gl + 1) #[.int .u8 16, .int .u8 17, .int .u8 18, .int .u8 0, .int .u8 8, .int .u8 7, .int .u8 9, .int .u8 6, .int .u8 10, .int .u8 5, .int .u8 11, .int .u8 4, .int .u8 12, .int .u8 3, .int .u8 13, .int .u8 2, .int .u8 14, .int .u8 1, .int .u8 15]) :=
        bl_setRow (bl_alloc (bl_alloc (Below.refl w2.heap.size w2) (Nat.le_refl _) _) (Nat.le_refl _) _) (by omega) _
      have hT4 := hT3.step hBB hwz
      have hc4 : (((w2.alloc (.cells cs 3)).alloc (.cells #[.int .u8 0, .int .u8 0, .int .u8 0, .int .u8 0, .int .u8 0, .int .u8 0, .int .u8 0, .int .u8 0, .int .u8 0, .int .u8 0, .int .u8 0, .int .u8 0, .int .u8 0, .int .u8 0, .int .u8 0, .int .u8 0, .int .u8 0, .int .u8 0, .int .u8 0] 103)).setRow (gl + 1) #[.int .u8 16, .int .u8 17, .int .u8 18, .int .u8 0, .int .u8 8, .int .u8 7, .int .u8 9, .int .u8 6, .int .u8 10, .int .u8 5, .int .u8 11, .int .u8 4, .int .u8 12, .int .u8 3, .int .u8 13, .int .u8 2, .int .u8 14, .int .u8 1, .int .u8 15]).cell? ⟨ad.block, ad.off + 2, none⟩ = some (.int .i64 (z : Int)) := (hBB.cell (p := ⟨ad.block, ad.off + 2, none⟩) hadb).trans hc2'
      have HBK := bx (Bk.newAt (w2.alloc (.cells cs 3)) 103 #[.int .u8 0, .int .u8 0, .int .u8 0, .int .u8 0, .int .u8 0, .int .u8 0, .int .u8 0, .int .u8 0, .int .u8 0, .int .u8 0, .int .u8 0, .int .u8 0, .int .u8 0, .int .u8 0, .int .u8 0, .int .u8 0, .int .u8 0, .int .u8 0, .int .u8 0] hz2.symm)
      have HL3 := bx hL3
      have HO3 := bx hO3
      have HT4 := bx hT4
      have HC4 := bx hc4
      clear hL3 hO3 hBB hT4 hT3 hc4 hc2' hz2
      go_upto_region 9 with (refine wpList_store_row rfl 103 (.tmp 9) (.tmp 44) rfl (gl + 1) #[.int .u8 16, .int .u8 17, .int .u8 18, .int .u8 0, .int .u8 8, .int .u8 7, .int .u8 9, .int .u8 6, .int .u8 10, .int .u8 5, .int .u8 11, .int .u8 4, .int .u8 12, .int .u8 3, .int .u8 13, .int .u8 2, .int .u8 14, .int .u8 1, .int .u8 15] rfl rfl 103 #[.int .u8 0, .int .u8 0, .int .u8 0, .int .u8 0, .int .u8 0, .int .u8 0, .int .u8 0, .int .u8 0, .int .u8 0, .int .u8 0, .int .u8 0, .int .u8 0, .int .u8 0, .int .u8 0, .int .u8 0, .int .u8 0, .int .u8 0, .int .u8 0, .int .u8 0] HBK.out info_ord rfl ord_ones ?_)
      have hL3 := HL3.out
      have hO3 := HO3.out
      have hT4 := HT4.out
      have hc4 := HC4.out
      clear HL3 HO3 HT4 HC4 HBK
      generalize (((w2.alloc (.cells cs 3)).alloc (.cells #[.int .u8 0, .int .u8 0, .int .u8 0, .int .u8 0, .int .u8 0, .int .u8 0, .int .u8 0, .int .u8 0, .int .u8 0, .int .u8 0, .int .u8 0, .int .u8 0, .int .u8 0, .int .u8 0, .int .u8 0, .int .u8 0, .int .u8 0, .int .u8 0, .int .u8 0] 103)).setRow (gl + 1) #[.int .u8 16, .int .u8 17, .int .u8 18, .int .u8 0, .int .u8 8, .int .u8 7, .int .u8 9, .int .u8 6, .int .u8 10, .int .u8 5, .int .u8 11, .int .u8 4, .int .u8 12, .int .u8 3, .int .u8 13, .int .u8 2, .int .u8 14, .int .u8 1, .int .u8 15]) = w3 at hL3 hO3 hT4 hc4 ⊢
      have hz4 : (z : Int) + 4 ≤ 19 := by omega
      simp only [Act.put]
      have hsl := sl_ord w3 ⟨gl + 1, 0, none⟩ z hz
      go_wp2_with fail
      clear hz4 hc4 hsl
      go_loopg [51] (z + 4) (fun κ jj wr => ∃ (j q1 : Nat) (L : List Nat), κ = z + 4 - j ∧ j ≤ z + 4 ∧ jj = .int .i64 (j : Int) ∧ Bx (L.length = 19) ∧ Bx (∀ x ∈ L, x ≤ 7) ∧ Rw wr gl 3 19 (fun i => nV (L.getD i 0)) ∧
        Rw wr (gl + 1) 103 19 (fun i => .int .u8 ((ordL.getD i 0 : Nat) : Int)) ∧ ToV w wr gs gr b q1 ∧ Bx (R = (lensF b ((ordL.take (z + 4)).drop j) L q1).bind (toldC b x y)))
      case atStart => exact ⟨0, q, List.replicate 19 0, by omega, by omega, rfl, bx (List.length_replicate ..), bx (fun x hx => by rw [List.eq_of_mem_replicate hx]; omega), hL3, hO3, hT4, bx HG2.out⟩
      case round =>
        clear hL3 hO3 hT4 HG2
        obtain ⟨j, q1, L, hgk, hj, rfl, hLl, hL7, hL, hO, hT, hgo⟩ := hrel
        have d0 := hT.2.1
        by_cases hjz : j < z + 4
        · obtain ⟨k, hk⟩ : ∃ k, ordL.getD j 0 = k := ⟨_, rfl⟩
          obtain ⟨ho1, ho2⟩ := ordL_at hz hjz
          rw [hk] at ho1 ho2
          have ho3 : wr.cell? ⟨gl + 1, j, none⟩ = some (.int .u8 (k : Int)) := by rw [hO.cell (by omega), hk]
          have hl1 : wr.cell? ⟨gl, k, none⟩ = some (.int .i64 ((L.getD k 0 : Nat) : Int)) := hL.cell ho2
          have hf1 := hL.frz k
          have hglw : w.heap.size ≤ gl := by omega
          have HO1 := bx ho1
          clear hk ho1
          by_cases hq3 : q1 + 3 ≤ 8 * b.length
          · obtain ⟨v, hv⟩ : ∃ v, takeN b q1 3 = v := ⟨_, rfl⟩
            have hv8 : v < 8 := by rw [← hv]; exact takeN_lt b q1 3
            have HGO : Bx (R = (lensF b ((ordL.take (z + 4)).drop (j + 1)) (L.set k v) (q1 + 3)).bind (toldC b x y)) := bx (by rw [hgo.out, lensF_step HO1.out hq3, hv])
            have HV := bx hv
            clear hv
            go_wp2_with fail
            refine (btake_ok gr b q1 3 wr hT.2.2.1 (by omega) hq3).mono ?_
            rintro e w5 ⟨rfl, hR5, hg5⟩
            rw [HV.out]
            have hT5 := hT.next hg5 hR5
            have hgrl : gr < gl := by have := hT.2.2.2; omega
            have hL5 := hL.grown hg5 (fun e => by injection e; omega)
            have hO5 := hO.grown hg5 (fun e => by injection e; omega)
            have hl5 : w5.cell? ⟨gl, k, none⟩ = some (.int .i64 ((L.getD k 0 : Nat) : Int)) := hL5.cell ho2
            have hf5 := hL5.frz k
            have HL6 := bx (hL5.set k (.int .i64 (v : Int)))
            have HO6 := bx (hO5.far (p := ⟨gl, k, none⟩) (by show gl + 1 ≠ gl; omega) (.int .i64 (v : Int)))
            have HT6 := bx (hT5.step ((Below.refl gl w5).setCell (p := ⟨gl, k, none⟩) (Nat.le_refl _) (.int .i64 (v : Int))) hglw)
            clear hL5 hO5 hT5 hg5 hR5 hl1 hf1 ho3 hL hO hT d0
            go_wp2
            go_roundg (z + 4 - (j + 1))
            case rel =>
              refine ⟨j + 1, q1 + 3, L.set k v, rfl, by omega, by go_num, bx (by rw [List.length_set, hLl.out]), bx ?_, HL6.out.ext fun i hi => ?_, HO6.out, HT6.out, HGO⟩
              · intro x hx
                rcases List.mem_or_eq_of_mem_set hx with h | h
                · exact hL7.out x h
                · omega
              · rw [List.getD_eq_getElem?_getD, List.getElem?_set]
                by_cases e : i = k
                · subst e; rw [if_pos rfl, if_pos rfl, if_pos (by rw [hLl.out]; exact hi)]; rfl
                · rw [if_neg (fun x => e x.symm), if_neg e, List.getD_eq_getElem?_getD]
            case measure => omega
          · have HF : Bx (R = .err 2) := bx (by rw [hgo.out, lensF_short HO1.out (by omega)]; rfl)
            go_wp2_with fail
            refine (btake_short gr b q1 3 wr hT.2.2.1 (by omega) (by omega)).mono ?_
            rintro e w5 ⟨rfl, hb5⟩
            have hl5 : w5.cell? ⟨gl, k, none⟩ = some (.int .i64 ((L.getD k 0 : Nat) : Int)) := (hb5.cell (p := ⟨gl, k, none⟩) hL.lt).trans hl1
            have hf5 : w5.frozen? ⟨gl, k, none⟩ = false := (hb5.frozen (p := ⟨gl, k, none⟩) hL.lt).trans hf1
            have HG6 := bx (gb_past (gb_then hT.1 hb5) ((Below.refl gl w5).setCell (p := ⟨gl, k, none⟩) (Nat.le_refl _) (.int .i64 0)) hglw)
            clear hb5 hl1 hf1 ho3 hL hO hT d0
            go_wp2
            go_ret3
            exact tPost_err HF.out HG6.out
        · obtain rfl : j = z + 4 := by omega
          have HGO : Bx (R = toldC b x y (L, q1)) := bx (by rw [hgo.out, List.drop_of_length_le (by rw [ordL_len hz]; exact Nat.le_refl _)]; rfl)
          have hLr : RN wr wr.heap.size (some ⟨gl, 0, none⟩) L := RL.more (Rw.read (l := L) (by rw [hLl.out]; exact hL) (fun i x hx => by rw [List.getD_eq_getElem?_getD, hx]; rfl)) (by have := hL.lt; omega)
          clear hgo hL hO
          go_wp2_with fail
          refine (pnew_any (some ⟨gl, 0, none⟩) 19 19 L false wr hLl.out (by omega) (fun x hx => by have := hL7.out x hx; omega) hLr).mono ?_
          rintro e w5 ⟨hb5, hp⟩
          have hT5 := hT.step hb5 hT.size
          cases hcb : codeB L false with
          | false =>
            have HF : Bx (R = .err 5) := bx (by rw [HGO.out, toldC, if_pos hcb])
            rw [hcb, if_neg (by simp)] at hp
            obtain rfl := hp
            have HG6 := bx hT5.1
            clear hcb hT hT5 hb5 d0
            go_wp2
            go_ret3
            exact tPost_err HF.out HG6.out
          | true =>
            rw [hcb, if_pos rfl] at hp
            obtain ⟨gc, rfl, hC⟩ := hp
            have HGO2 : Bx (R = toldA b x y (L, q1)) := bx (by rw [HGO.out, toldC, if_neg (by rw [hcb]; simp)])
            clear hcb HGO
            have d5 := hT5.2.1
            have hgcl := hC.lt
            have hz6 := hT.size
            clear hT hb5 d0
            obtain ⟨T, hT9⟩ : ∃ T, x + 257 + (y + 1) = T := ⟨_, rfl⟩
            have hTI : ((x : Int) + 257 + ((y : Int) + 1)) = (T : Int) := by omega
            have hTb : T ≤ 316 ∧ 258 ≤ T := by omega
            have HTI := bx hTI
            have HT9 := bx hT9
            obtain ⟨B5, hB5⟩ : ∃ B5, w5.heap.size = B5 := ⟨_, rfl⟩
            have HB5 := bx hB5
            obtain ⟨i0, hi0, hz0, hz1, hz9⟩ := intTy.info
            have hmk : i0.bytes * T ≤ 281474976710656 := by rw [hz9]; omega
            have HMK := bx hmk
            have HI0 := bx hi0
            have HZ0 := bx hz0
            have HZ1 := bx hz1
            have HZZ := hT5.size
            have hgcB : gc < B5 := by omega
            have hwB : w.heap.size ≤ B5 := by omega
            clear hTI hT9 hB5 hi0 hz0 hz1 hz9 hmk
            go_wp2_with (at_make; refine wpList_make_own _ rfl _ _ 54 rfl w5.heap.size 3 i0 (.int .i64 0) 1 Try.underlying54 HI0.out HZ0.out HZ1.out .i64 .i64 _ T rfl rfl HTI.out HMK.out (by unfold maxLen; omega) (Nat.le_refl _) ?_; intro w6 hown6 hg6)
            have hO6 : OwL nV w6 B5 3 (.slice (some ⟨w5.heap.size, 0, none⟩) 0 T) [] := by rw [← HB5.out]; exact hown6
            have hb6 : Below w5.heap.size w5 w6 := (Below.refl _ _).grown hg6 (Nat.le_refl _) (fun k e => by cases e)
            have hT6 := hT5.step hb6 HZZ
            have hC6 := hC.below hb6 (by rw [HB5.out]; exact hgcB)
            have hB6 : B5 ≤ w6.heap.size := by rw [← HB5.out]; exact hb6.size
            have hgrlo : gr < wr.heap.size := by have := hT6.2.2.2; omega
            obtain ⟨lo, hlo⟩ : ∃ lo, wr.heap.size = lo := ⟨_, rfl⟩
            rw [hlo] at hC6 hgrlo
            rw [HTI.out]
            have HGO3 : Bx (R = (allF L b T (8 * b.length + 1) q1 []).bind fun v => if v.1.getD 256 0 = 0 then .err 5 else .ok ((v.1.take (x + 257), v.1.drop (x + 257)), v.2)) := bx (by rw [HGO2.out, toldA, HT9.out]; rfl)
            have hq1 := hT6.2.2.1.le.1
            have hxT : x + 257 < T := by have := HT9.out; omega
            clear HGO2 hown6 hg6 hb6 hT5 hC d5 hlo HTI HI0 HZ0 HZ1 HMK HZZ hgcl hz6 hLr
            obtain ⟨wo, rfl⟩ : ∃ wo : World, wo = wr := ⟨_, rfl⟩
            go_loopg [13] (8 * b.length + 1) (fun κ v wr => ∃ (q2 : Nat) (all : List Nat), OwL nV wr B5 3 v all ∧ B5 ≤ wr.heap.size ∧ ToV w wr gs gr b q2 ∧ PCd wr lo gc L ∧ all.length ≤ T ∧ Bx (∀ x ∈ all, x ≤ 15) ∧ 8 * b.length < q2 + κ ∧ q2 ≤ 8 * b.length ∧
              Bx (R = (allF L b T κ q2 all).bind fun v => if v.1.getD 256 0 = 0 then .err 5 else .ok ((v.1.take (x + 257), v.1.drop (x + 257)), v.2)))
            case atStart => exact ⟨q1, [], hO6, hB6, hT6, hC6, by simp, bx (by simp), by omega, hq1, HGO3⟩
            case round =>
              clear hO6 hB6 hT6 hC6 HGO3
              obtain ⟨q2, all, hO, hBz, hT, hC, hal, h15, hgk, hq2, hgo⟩ := hrel
              obtain ⟨κ, rfl⟩ : ∃ κ, gk = κ + 1 := ⟨gk - 1, by omega⟩
              have d0 := hT.2.1
              obtain ⟨Av, nv, cv, rfl, hnv, hrv⟩ := OwL.sl hO
              have hnvT : nv ≤ T := by rw [hnv.out]; exact hal
              by_cases hfull : T ≤ all.length
              · have hnvt : ¬ (nv : Int) < (x : Int) + 257 + ((y : Int) + 1) := by have := HT9.out; have := hnv.out; omega
                have HGO4 : Bx (R = if all.getD 256 0 = 0 then .err 5 else .ok ((all.take (x + 257), all.drop (x + 257)), q2)) := bx (by rw [hgo.out, allF_full hfull]; rfl)
                have hcap : nv ≤ cv := by
                  obtain ⟨A', c', e, _, h, _⟩ := hO.rd
                  injection e with e1 e2 e3
                  subst e3
                  rw [hnv.out]; exact h
                obtain ⟨ad9, e9, rfl, _, hx9, hc9⟩ := RL.atl hrv (k := 256) (by omega)
                have hc9' : wr.cell? ⟨ad9.block, ad9.off + 256, none⟩ = some (.int .i64 (e9 : Int)) := by rw [add_pos] at hc9; exact hc9
                have he9 : all.getD 256 0 = e9 := by rw [List.getD_eq_getElem?_getD, hx9.out]; rfl
                have hnvg : 256 < nv := by have := hnv.out; omega
                rw [he9] at HGO4
                have HG := bx hT.1
                clear hgo hc9 he9
                by_cases h0 : e9 = 0
                · have HF : Bx (R = .err 5) := bx (by rw [HGO4.out, if_pos h0])
                  subst h0
                  go_wp2
                  go_ret3
                  exact tPost_err HF.out HG.out
                · have HF : Bx (R = .ok ((all.take (x + 257), all.drop (x + 257)), q2)) := bx (by rw [HGO4.out, if_neg h0])
                  have hb0 : ((e9 : Int) == 0) = false := by rw [beq_eq_false_iff_ne]; omega
                  have hx1 : (x : Int) + 257 ≤ (cv : Int) := by have := hnv.out; omega
                  have hx2 : (x : Int) + 257 ≤ (nv : Int) := by have := hnv.out; omega
                  have hx3 : ¬ cv = x + 257 := by have := hnv.out; omega
                  clear h0 HGO4
                  go_wp2_with fail
                  go_quiet (fail)
                  rename Nat => nq
                  go_wp2
                  go_ret3
                  have hl1 : (all.take (x + 257)).length = x + 257 := by rw [List.length_take]; have := hnv.out; omega
                  have hl2 : (all.drop (x + 257)).length = nv - (x + 257) := by rw [List.length_drop, hnv.out]
                  exact tPost_ok HF.out (gb_drewN HG.out nq) hl1 hl2 ((hrv.take _).drewN nq) (hrv.drop (x + 257)) (hT.drewN nq).2.2.1 (fun y hy => h15.out y (List.mem_of_mem_take hy)) (fun y hy => h15.out y (List.mem_of_mem_drop hy)) (by omega) (by have := HT9.out; have := hnv.out; omega)
              · have hnvt : nv < T := by rw [hnv.out]; omega
                have hlt9 : (nv : Int) < (x : Int) + 257 + ((y : Int) + 1) := by have := HT9.out; omega
                cases hN : nextP L b q2 with
                | err k =>
                  have HF : Bx (R = .err k) := bx (by rw [hgo.out, allF_err (by omega) hN]; rfl)
                  have HNX := bx hN
                  have hk := nextP_errs hN
                  clear hN
                  go_wp2_with fail
                  refine (pnext_any gc lo gr L b q2 wr hC hT.2.2.1 hgrlo).mono ?_
                  rintro e w7 ⟨hg7, hp⟩
                  rw [HNX.out] at hp
                  obtain rfl := hp
                  have hG7 := gb_trans hT.1 hg7
                  rcases hk with rfl | rfl
                  · go_wp2
                    go_ret3
                    exact tPost_err HF.out hG7
                  · go_wp2
                    go_ret3
                    exact tPost_err HF.out hG7
                | ok x7 =>
                  obtain ⟨s, p1⟩ := x7
                  have HNX := bx hN
                  have hs19 : s < 19 := by have := nextP_lt hN; rw [hLl.out] at this; exact this
                  have hmore := nextP_more hN
                  have HGO : Bx (R = (if s = 16 ∧ all = [] then .err 6
      else (tk b p1 (runP s all).2.2).bind fun y => if T < all.length + ((runP s all).2.1 + y.1) then .err 6
        else allF L b T κ y.2 (all ++ List.replicate ((runP s all).2.1 + y.1) (runP s all).1)).bind fun v => if v.1.getD 256 0 = 0 then .err 5 else .ok ((v.1.take (x + 257), v.1.drop (x + 257)), v.2)) := bx (by rw [hgo.out, allF_ok (by omega) hN])
                  clear hN hgo
                  go_wp2_with fail
                  refine (pnext_any gc lo gr L b q2 wr hC hT.2.2.1 hgrlo).mono ?_
                  rintro e w7 ⟨hg7, hp⟩
                  rw [HNX.out] at hp
                  obtain ⟨rfl, hR7⟩ := hp
                  have hT7 := hT.next hg7 hR7
                  have hC7 := hC.grown hg7 (fun k hk => by injection hk; omega)
                  have hO7 := hO.keptAt hg7 (by have := hC.lt; omega)
                  have hB7 : B5 ≤ w7.heap.size := Nat.le_trans hBz hg7.size
                  have hrv7 : RN w7 w7.heap.size Av all := hO7.rl
                  have d7 := hT7.2.1
                  clear hT hC hO hBz hg7 hR7 d0 hrv
                  by_cases hbad : s = 16 ∧ all = []
                  · have HF : Bx (R = .err 6) := bx (by rw [HGO.out, if_pos hbad]; rfl)
                    have hnv0 : nv = 0 := by rw [hnv.out, hbad.2]; rfl
                    obtain ⟨rfl, _⟩ := hbad
                    subst hnv0
                    have HG7 := bx hT7.1
                    go_wp2
                    go_ret3
                    exact tPost_err HF.out HG7.out
                  · rw [if_neg hbad] at HGO
                    have hbd := runP_bd hs19 h15.out hbad
                    obtain ⟨vv, hvv⟩ : ∃ vv, (runP s all).1 = vv := ⟨_, rfl⟩
                    obtain ⟨nn, hnn⟩ : ∃ nn, (runP s all).2.1 = nn := ⟨_, rfl⟩
                    obtain ⟨ww, hww⟩ : ∃ ww, (runP s all).2.2 = ww := ⟨_, rfl⟩
                    rw [hvv, hnn, hww] at hbd HGO
                    have hrun : (s = 16 ∧ all ≠ [] ∧ vv = all.getLastD 0 ∧ nn = 3 ∧ ww = 2) ∨ (s = 17 ∧ vv = 0 ∧ nn = 3 ∧ ww = 3) ∨ (s = 18 ∧ vv = 0 ∧ nn = 11 ∧ ww = 7) ∨ (s ≠ 16 ∧ s ≠ 17 ∧ s ≠ 18 ∧ vv = s ∧ nn = 1 ∧ ww = 0) := by
                      unfold runP at hvv hnn hww
                      by_cases e16 : s = 16
                      · rw [if_pos e16] at hvv hnn hww
                        exact .inl ⟨e16, fun e => hbad ⟨e16, e⟩, hvv.symm, hnn.symm, hww.symm⟩
                      · rw [if_neg e16] at hvv hnn hww
                        by_cases e17 : s = 17
                        · rw [if_pos e17] at hvv hnn hww
                          exact .inr (.inl ⟨e17, hvv.symm, hnn.symm, hww.symm⟩)
                        · rw [if_neg e17] at hvv hnn hww
                          by_cases e18 : s = 18
                          · rw [if_pos e18] at hvv hnn hww
                            exact .inr (.inr (.inl ⟨e18, hvv.symm, hnn.symm, hww.symm⟩))
                          · rw [if_neg e18] at hvv hnn hww
                            exact .inr (.inr (.inr ⟨e16, e17, e18, hvv.symm, hnn.symm, hww.symm⟩))
                    have HBAD := bx hbad
                    clear hvv hnn hww hbad
                    go_upto_block 4 with (fail)
                    go_cut [16, 17, 18] (fun a c d wx => a = .int .i64 (vv : Int) ∧ c = .int .i64 (nn : Int) ∧ d = .int .i64 (ww : Int) ∧ w7 = wx)
                    case first =>
                      rcases hrun with ⟨rfl, hne, hv9, rfl, rfl⟩ | ⟨rfl, rfl, rfl, rfl⟩ | ⟨rfl, rfl, rfl, rfl⟩ | ⟨h16, h17, h18, hvs, rfl, rfl⟩
                      · have hnv0 : 0 < nv := by rw [hnv.out]; exact List.length_pos_iff.2 hne
                        have hnvb : ((nv : Int) == 0) = false := by rw [beq_eq_false_iff_ne]; omega
                        obtain ⟨ad9, x9, rfl, _, hx9, hc9⟩ := RL.atl hrv7 (k := nv - 1) (by rw [← hnv.out]; omega)
                        have hxv : x9 = vv := by
                          rw [hv9, List.getLastD_eq_getLast?, List.getLast?_eq_getElem?, ← hnv.out, hx9.out]; rfl
                        have hc9' : w7.cell? (ad9.add (nv - 1)) = some (.int .i64 (vv : Int)) := by rw [hc9, hxv]; rfl
                        have hn1 : (1 : Int) ≤ (nv : Int) := by omega
                        clear hc9 hxv hv9 hne
                        go_wp2
                        go_meet
                        case rel => exact ⟨rfl, rfl, rfl, rfl⟩
                      · go_wp2
                        go_meet
                        case rel => exact ⟨rfl, rfl, rfl, rfl⟩
                      · go_wp2
                        go_meet
                        case rel => exact ⟨rfl, rfl, rfl, rfl⟩
                      · subst hvs
                        have b16 : ((vv : Int) == 16) = false := by rw [beq_eq_false_iff_ne]; omega
                        have b17 : ((vv : Int) == 17) = false := by rw [beq_eq_false_iff_ne]; omega
                        have b18 : ((vv : Int) == 18) = false := by rw [beq_eq_false_iff_ne]; omega
                        clear h16 h17 h18
                        go_wp2
                        go_meet
                        case rel => exact ⟨rfl, rfl, rfl, rfl⟩
                    case rest =>
                      obtain ⟨rfl, rfl, rfl, rfl⟩ := hcut
                      clear hrun
                      by_cases hq4 : p1 + ww ≤ 8 * b.length
                      · obtain ⟨m, hm⟩ : ∃ m, takeN b p1 ww = m := ⟨_, rfl⟩
                        have hm8 : m < 128 := by
                          rw [← hm]
                          have h1 := takeN_lt b p1 ww
                          have h2 : 2 ^ ww ≤ 2 ^ 7 := Nat.pow_le_pow_right (by decide) hbd.2.2.2
                          omega
                        have HGO2 : Bx (R = (if T < all.length + (nn + m) then .err 6 else allF L b T κ (p1 + ww) (all ++ List.replicate (nn + m) vv)).bind fun v => if v.1.getD 256 0 = 0 then .err 5 else .ok ((v.1.take (x + 257), v.1.drop (x + 257)), v.2)) := bx (by
                          rw [HGO.out, tk, if_pos hq4, hm]; rfl)
                        have HM := bx hm
                        clear hm HGO
                        go_wp2_with fail
                        refine (btake_ok gr b p1 ww w7 hT7.2.2.1 (by omega) hq4).mono ?_
                        rintro e w8 ⟨rfl, hR8, hg8⟩
                        rw [HM.out]
                        have hT8 := hT7.next hg8 hR8
                        have hC8 := hC7.grown hg8 (fun k hk => by injection hk; omega)
                        have hO8 := hO7.keptAt hg8 (by have := hC7.lt; omega)
                        have hB8 : B5 ≤ w8.heap.size := Nat.le_trans hB7 hg8.size
                        clear hT7 hC7 hO7 hB7 hg8 hR8 d7 hrv7
                        obtain ⟨N, hN9⟩ : ∃ N, nn + m = N := ⟨_, rfl⟩
                        have hNI : ((nn : Int) + (m : Int)) = (N : Int) := by omega
                        have hNb : N ≤ 200 ∧ 1 ≤ N := by omega
                        rw [hN9] at HGO2
                        have HNI := bx hNI
                        have HT10 := HT9.out
                        by_cases hmany : T < all.length + N
                        · have HF : Bx (R = .err 6) := bx (by rw [HGO2.out, if_pos hmany]; rfl)
                          have hgt : (x : Int) + 257 + ((y : Int) + 1) - (nv : Int) < (nn : Int) + (m : Int) := by have := hnv.out; omega
                          have HG8 := bx hT8.1
                          clear HT10 hNI
                          go_wp2
                          go_ret3
                          exact tPost_err HF.out HG8.out
                        · rw [if_neg hmany] at HGO2
                          have hgt : ¬ (x : Int) + 257 + ((y : Int) + 1) - (nv : Int) < (nn : Int) + (m : Int) := by have := hnv.out; omega
                          clear HT10 hNI hN9
                          go_wp2_with fail
                          rw [HNI.out]
                          obtain ⟨wo2, rfl⟩ : ∃ wo2 : World, wo2 = wr := ⟨_, rfl⟩
                          have hO8' : OwL nV w8 B5 3 (.slice Av nv cv) (all ++ List.replicate 0 vv) := by rw [List.replicate_zero, List.append_nil]; exact hO8
                          clear hO8 hgt
                          go_loopg [13, 17] N (fun κ2 v nnn wr => ∃ j : Nat, κ2 = N - j ∧ j ≤ N ∧ nnn = .int .i64 ((N : Int) - (j : Int)) ∧ OwL nV wr B5 3 v (all ++ List.replicate j vv) ∧ B5 ≤ wr.heap.size ∧ ToV w wr gs gr b (p1 + ww) ∧ PCd wr lo gc L)
                          case atStart => exact ⟨0, by omega, by omega, by go_num, hO8', hB8, hT8, hC8⟩
                          case round =>
                            clear hO8' hB8 hT8 hC8
                            obtain ⟨j, hgk2, hj, rfl, hO, hBz, hT, hC⟩ := hrel
                            by_cases hjN : j < N
                            · have HL : Bx (((all ++ List.replicate j vv).length + [vv].length) * 8 ≤ 140737488355328) := bx (by simp; omega)
                              have hjI : (0 : Int) < (N : Int) - (j : Int) := by omega
                              obtain ⟨v9, rfl⟩ : ∃ v9 : Value, v9 = u13 := ⟨_, rfl⟩
                              go_wp2_with (at_builtin; refine wpList_appL _ nV_one rfl (.tmp 144) (.tmp 146) rfl intTy (by decide) B5 _ _ rfl (hO.alloc _) _ _ 1 1 [vv] rfl rfl (RL.freshe _ _ rfl _) HL.out (le_alloc0 hBz _) ?_; intro v5 w9 hO5 hg5 _ hb5)
                              have hb9 : Below B5 wr w9 := (bl_alloc (Below.refl B5 wr) hBz _).trans hb5
                              have hO9 : OwL nV w9 B5 3 v5 (all ++ List.replicate (j + 1) vv) := by rw [List.replicate_succ', ← List.append_assoc]; exact hO5
                              have hB9 : B5 ≤ w9.heap.size := Nat.le_trans hBz hb9.size
                              have hT9 := hT.step hb9 hwB
                              have hC9 := hC.below hb9 hgcB
                              go_roundg (N - (j + 1))
                              case rel => exact ⟨j + 1, rfl, by omega, by go_num, hO9, hB9, hT9, hC9⟩
                              case measure => omega
                            · obtain rfl : j = N := by omega
                              have hjI : ¬ (0 : Int) < (j : Int) - (j : Int) := by omega
                              have HALL : Bx (∀ x ∈ all ++ List.replicate j vv, x ≤ 15) := bx (fun x hx => by
                                rcases List.mem_append.1 hx with h | h
                                · exact h15.out x h
                                · rw [List.eq_of_mem_replicate h]; exact hbd.1)
                              go_wp2_with fail
                              go_roundg κ
                              case rel => exact ⟨p1 + ww, all ++ List.replicate j vv, hO, hBz, hT, hC, by rw [List.length_append, List.length_replicate]; omega, HALL, by omega, by omega, HGO2⟩
                              case measure => omega
                      · have HF : Bx (R = .err 2) := bx (by rw [HGO.out, tk, if_neg hq4]; rfl)
                        go_wp2_with fail
                        refine (btake_short gr b p1 ww w7 hT7.2.2.1 (by omega) (by omega)).mono ?_
                        rintro e w8 ⟨rfl, hb8⟩
                        have HG8 := bx (gb_then hT7.1 hb8)
                        clear hb8 d7
                        go_wp2
                        go_ret3
                        exact tPost_err HF.out HG8.out
end Go.Proofs.Ytbhljigppljjbaa
