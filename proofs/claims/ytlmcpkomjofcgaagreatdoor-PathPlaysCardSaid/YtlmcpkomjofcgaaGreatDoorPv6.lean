/- Contract: (*inflate.state).told. Contract: (*inflate.state).symbols. Contract: (*inflate.state).block. Contract: inflate.All. What inflate.All answered, taken apart. -/
import Derived.Test.YtlmcpkomjofcgaaGreatDoorPv5
import Derived.Test.YtlmcpkomjofcgaaGreatDoorPv4
import Derived.Outline
import Derived.Deep.DeepCutAuto
import Derived.Laws.Tables
import Derived.Deep.WholeRow
import Derived.Deep.CutBlock
import Derived.Deep.RegionLaw
namespace Go.Proofs.YtlmcpkomjofcgaaGreatDoor
open Go.RowKit

def TPost (R : Rz ((List Nat × List Nat) × Nat)) (w : World) (gr : Nat) (b : List UInt8) (e : Ending) (w' : World) : Prop :=
  w.grownBy w' (some gr) ∧ match R with
    | .ok x => ∃ A n c A' n' c', e = .returned (.tuple #[.slice A n c, .slice A' n' c', .int .i64 0]) ∧ x.1.1.length = n ∧ x.1.2.length = n' ∧ RN w' w'.heap.size A x.1.1 ∧ RN w' w'.heap.size A' x.1.2 ∧ BRd w' gr b x.2 ∧
        (∀ y ∈ x.1.1, y ≤ 15) ∧ (∀ y ∈ x.1.2, y ≤ 15) ∧ n ≤ 288 ∧ n' ≤ 288
    | .err k => e = .returned (.tuple #[.slice none 0 0, .slice none 0 0, .int .i64 k]) ∧ k ≠ 0
theorem tPost_err {R : Rz ((List Nat × List Nat) × Nat)} {w w' : World} {gr : Nat} {b : List UInt8} {k : Int} (h : R = .err k) (hg : w.grownBy w' (some gr)) (hk : k ≠ 0 := by decide) : TPost R w gr b (.returned (.tuple #[.slice none 0 0, .slice none 0 0, .int .i64 k])) w' := by
  subst h; exact ⟨hg, rfl, hk⟩
theorem tPost_ok {R : Rz ((List Nat × List Nat) × Nat)} {w w' : World} {gr : Nat} {b : List UInt8} {l1 l2 : List Nat} {q n c n' c' : Nat} {A A' : Option Addr} (h : R = .ok ((l1, l2), q)) (hg : w.grownBy w' (some gr)) (h1 : l1.length = n) (h2 : l2.length = n') (h3 : RN w' w'.heap.size A l1) (h4 : RN w' w'.heap.size A' l2)
    (h5 : BRd w' gr b q) (h6 : ∀ y ∈ l1, y ≤ 15) (h7 : ∀ y ∈ l2, y ≤ 15) (h8 : n ≤ 288) (h9 : n' ≤ 288) : TPost R w gr b (.returned (.tuple #[.slice A n c, .slice A' n' c', .int .i64 0])) w' := by
  subst h; exact ⟨hg, A, n, c, A', n', c', rfl, h1, h2, h3, h4, h5, h6, h7, h8, h9⟩
/-- What is kept while the lengths are read: the state's first cell, the reader. -/
def ToV (w0 w : World) (gs gr : Nat) (b : List UInt8) (q : Nat) : Prop := w0.grownBy w (some gr) ∧ w.cell? ⟨gs, 0, none⟩ = some (.pointer (some ⟨gr, 0, none⟩)) ∧ BRd w gr b q ∧ gr < gs ∧ gs < w0.heap.size
section
variable {w0 w w' : World} {gs gr q q' : Nat} {b : List UInt8}
theorem ToV.next (h : ToV w0 w gs gr b q) (hg : w.grownBy w' (some gr)) (hR : BRd w' gr b q') : ToV w0 w' gs gr b q' := by
  obtain ⟨h1, h2, h3, h4, h5⟩ := h
  refine ⟨gb_trans h1 hg, ?_, hR, h4, h5⟩
  rw [World.cell?_of_block (hg.block gs (Nat.lt_of_lt_of_le h5 h1.size) (fun e => by injection e; omega))]; exact h2
theorem ToV.step (h : ToV w0 w gs gr b q) {B : Nat} (hb : Below B w w') (hB : w0.heap.size ≤ B) : ToV w0 w' gs gr b q := by
  obtain ⟨h1, h2, h3, h4, h5⟩ := h
  exact ⟨gb_past h1 hb hB, (hb.cell (p := ⟨gs, 0, none⟩) (Nat.lt_of_lt_of_le h5 hB)).trans h2, h3.below hb (by omega), h4, h5⟩
theorem ToV.drewN (h : ToV w0 w gs gr b q) (n : Nat) : ToV w0 (w.drewN n) gs gr b q := h.step (below_drewN (Below.refl w0.heap.size w) n) (Nat.le_refl _)
theorem ToV.size (h : ToV w0 w gs gr b q) : w0.heap.size ≤ w.heap.size := h.1.size
end
theorem ord_cells : ∀ i, i < 19 → (#[Value.int .u8 16, .int .u8 17, .int .u8 18, .int .u8 0, .int .u8 8, .int .u8 7, .int .u8 9, .int .u8 6, .int .u8 10, .int .u8 5, .int .u8 11, .int .u8 4, .int .u8 12, .int .u8 3, .int .u8 13, .int .u8 2, .int .u8 14, .int .u8 1, .int .u8 15] : Array Value)[i]? = some (.int .u8 ((ordL.getD i 0 : Nat) : Int)) := by
  intro i hi
  match i, hi with
  | 0, _ => rfl
  | 1, _ => rfl
  | 2, _ => rfl
  | 3, _ => rfl
  | 4, _ => rfl
  | 5, _ => rfl
  | 6, _ => rfl
  | 7, _ => rfl
  | 8, _ => rfl
  | 9, _ => rfl
  | 10, _ => rfl
  | 11, _ => rfl
  | 12, _ => rfl
  | 13, _ => rfl
  | 14, _ => rfl
  | 15, _ => rfl
  | 16, _ => rfl
  | 17, _ => rfl
  | 18, _ => rfl
  | i + 19, h => omega
theorem ord_ones : (#[.int .u8 16, .int .u8 17, .int .u8 18, .int .u8 0, .int .u8 8, .int .u8 7, .int .u8 9, .int .u8 6, .int .u8 10, .int .u8 5, .int .u8 11, .int .u8 4, .int .u8 12, .int .u8 3, .int .u8 13, .int .u8 2, .int .u8 14, .int .u8 1, .int .u8 15] : Array Value).all (·.oneCell') = true := by simp [Value.oneCell']
theorem rep0 (n i : Nat) : (List.replicate n 0).getD i 0 = 0 := by rw [List.getD_eq_getElem?_getD, List.getElem?_replicate]; split <;> rfl
theorem info_ord : (Tryz.prog.info? 190).map (·.size) = some 19 := by kernel_rfl
theorem len_ord : Tryz.prog.arrayLen 190 = 19 := by kernel_rfl
theorem sz_ord (w : World) : (sizeOf (Tryz.prog.elem 190)).run Tryz.prog w = .ok 1 w := by kernel_rfl
theorem sl_ord (w : World) (a : Addr) (z : Nat) (hz : z < 16) : (Instr.sliceAt 190 (.pointer (some a)) none (some (.int .i64 ((z : Int) + 4))) none).run Tryz.prog w = .ok (.slice (some a) (z + 4) 19) w := by
  rw [run_sliceAt_array_h w 190 a (by kernel_rfl) .i64 ((z : Int) + 4) (by omega) (by rw [len_ord]; omega), sz_ord, Result.andThen_ok, len_ord]
  unfold slicedAt
  rw [show ((z : Int) + 4).toNat = z + 4 by omega, Nat.sub_zero, if_neg (by decide), Nat.zero_mul, show a.add 0 = a by unfold Addr.add; simp]
set_option maxRecDepth 100000 in
set_option maxHeartbeats 2000000 in
theorem itold_any (gs gr B : Nat) (b : List UInt8) (p lim : Nat) (out : List UInt8) (w : World) (h : ISt w gs gr B b p lim out) :
    Calls Tryz.prog 92 #[.pointer (some ⟨gs, 0, none⟩)] w (TPost (toldP b p) w gr b) := by
  obtain ⟨R, hRR⟩ : ∃ R, toldP b p = R := ⟨_, rfl⟩
  rw [hRR]
  have hlt := h.lt
  obtain ⟨v0, hK, hR, hO, hv, hgs, hol, hlim⟩ := id h
  have hble := hR.le
  have c0 : w.cell? ⟨gs, 0, none⟩ = some (.pointer (some ⟨gr, 0, none⟩)) := (hK.cell 0).trans rfl
  have hT0 : ToV w w gs gr b p := ⟨World.grownBy.refl w _, c0, hR, hgs, hlt.2⟩
  have hT1 := hT0.step (bl_alloc (Below.refl w.heap.size w) (Nat.le_refl _) (.cells #[.int .i64 5, .int .i64 5, .int .i64 4] 3)) (Nat.le_refl _)
  have hws : RN (w.alloc (.cells #[.int .i64 5, .int .i64 5, .int .i64 4] 3)) (w.alloc (.cells #[.int .i64 5, .int .i64 5, .int .i64 4] 3)).heap.size (some ⟨w.heap.size, 0, none⟩) [5, 5, 4] := (RL.news w [5, 5, 4] #[.int .i64 5, .int .i64 5, .int .i64 4] rfl _ _).top
  obtain ⟨cs, hcs, hcz, hr1⟩ := mk_row (P := Tryz.prog) 41 3 (.int .i64 0) 8 Tryz.underlying41 info_int rfl 19 (by omega) (by omega)
  have hm1 : ∀ w : World, (Instr.makeSlice 41 (.int .i64 19) (.int .i64 19)).run Tryz.prog w = .ok (.slice (some ⟨w.heap.size, 0, none⟩) 19 19) (w.alloc (.cells cs 3)) := hr1
  have HCS := bx hcs
  have HCZ := bx hcz
  clear hcs hcz hr1 hK hO hv hR
  rcases told_cases b p with ⟨ht1, ht2⟩ | ⟨x, y, z, q, ht1, ht2, hx, hy, hz, hq⟩
  · have HF : Bx (R = .err 2) := bx (by rw [← hRR, ht2])
    have HT := bx ht1
    clear hRR ht1 ht2
    go_enter Tryz.func92, Tryz.ntmps92
    go_wp2_with fail
    refine (itake_any gs gr (some ⟨w.heap.size, 0, none⟩) 3 3 [5, 5, 4] b p _ hT1.2.1 hgs (by simp; omega) hT1.2.2.1 rfl (by omega) (by simp) hws (fun ad e => by injection e with e; subst e; exact hlt.2)).mono ?_
    rintro e w1 ⟨hg1, hp⟩
    rw [HT.out] at hp
    obtain rfl := hp
    have hG := gb_trans hT1.1 hg1
    go_wp2
    go_ret3
    exact tPost_err HF.out hG
  · have HG : Bx (R = toldG b x y z q) := bx (by rw [← hRR, ht2])
    have HT := bx ht1
    clear hRR ht1 ht2
    go_enter Tryz.func92, Tryz.ntmps92
    go_wp2_with fail
    refine (itake_any gs gr (some ⟨w.heap.size, 0, none⟩) 3 3 [5, 5, 4] b p _ hT1.2.1 hgs (by simp; omega) hT1.2.2.1 rfl (by omega) (by simp) hws (fun ad e => by injection e with e; subst e; exact hlt.2)).mono ?_
    rintro e w1 ⟨hg1, hp⟩
    rw [HT.out] at hp
    obtain ⟨A1, cc1, rfl, hA1, hR1⟩ := hp
    have hT2 := hT1.next hg1 hR1
    obtain ⟨ad, x0, rfl, hadb, hx0, hc0⟩ := RL.atl hA1 (k := 0) (by simp)
    obtain ⟨ad', y0, hA', _, hy0, hc1⟩ := RL.atl hA1 (k := 1) (by simp)
    obtain ⟨ad'', z0, hA'', _, hz0, hc2⟩ := RL.atl hA1 (k := 2) (by simp)
    injection hA' with hA'
    injection hA'' with hA''
    subst hA' hA''
    obtain rfl : x = x0 := by have := hx0.out; injection this
    obtain rfl : y = y0 := by have := hy0.out; injection this
    obtain rfl : z = z0 := by have := hz0.out; injection this
    have hc0' : w1.cell? ad = some (.int .i64 (x : Int)) := by rw [show ad.add 0 = ad by unfold Addr.add; simp] at hc0; exact hc0
    have hc1' : w1.cell? ⟨ad.block, ad.off + 1, none⟩ = some (.int .i64 (y : Int)) := by rw [add_pos] at hc1; exact hc1
    have hc2' : w1.cell? ⟨ad.block, ad.off + 2, none⟩ = some (.int .i64 (z : Int)) := by rw [add_pos] at hc2; exact hc2
    clear hc0 hc1 hc2 hws hT0 hT1 hg1 hR1 c0 hx0 hy0 hz0 hA1
    have j1 : IntKind.i64.wrap ((x : Int) + 257) = (x : Int) + 257 := IntWalk.i64_in _ (by omega)
    have j2 : IntKind.i64.wrap ((y : Int) + 1) = (y : Int) + 1 := IntWalk.i64_in _ (by omega)
    go_wp2_with fail
    go_quiet (fail)
    rename Nat => nq
    clear j1 j2
    have hT3 := hT2.drewN nq
    have hc2' : (w1.drewN nq).cell? ⟨ad.block, ad.off + 2, none⟩ = some (.int .i64 (z : Int)) := hc2'
    have hadb : ad.block < (w1.drewN nq).heap.size := hadb
    clear hc0' hc1' hT2
    generalize w1.drewN nq = w2 at hT3 hc2' hadb ⊢
    by_cases hbig : 286 < x + 257 ∨ 30 < y + 1
    · have HF : Bx (R = .err 5) := bx (by rw [HG.out, toldG, if_pos hbig])
      rcases Nat.lt_or_ge 286 (x + 257) with hb1 | hb1
      · go_wp2
        go_ret3
        exact tPost_err HF.out hT3.1
      · have hb2 : 30 < y + 1 := by omega
        go_wp2
        go_ret3
        exact tPost_err HF.out hT3.1
    · have HG2 : Bx (R = (lensF b (ordL.take (z + 4)) (List.replicate 19 0) q).bind (toldC b x y)) := bx (by rw [HG.out, toldG, if_neg hbig])
      have hb1 : x ≤ 29 ∧ y ≤ 29 := by omega
      clear hbig HG
      obtain ⟨gl, hgl⟩ : ∃ gl, w2.heap.size = gl := ⟨_, rfl⟩
      have hz2 : gl + 1 = (w2.alloc (.cells cs 3)).heap.size := by simp [hgl]
      have hwz := hT3.size
      have hL3 : Rw (((w2.alloc (.cells cs 3)).alloc (.cells #[.int .u8 0, .int .u8 0, .int .u8 0, .int .u8 0, .int .u8 0, .int .u8 0, .int .u8 0, .int .u8 0, .int .u8 0, .int .u8 0, .int .u8 0, .int .u8 0, .int .u8 0, .int .u8 0, .int .u8 0, .int .u8 0, .int .u8 0, .int .u8 0, .int .u8 0] 190)).setRow (gl + 1) #[.int .u8 16, .int .u8 17, .int .u8 18, .int .u8 0, .int .u8 8, .int .u8 7, .int .u8 9, .int .u8 6, .int .u8 10, .int .u8 5, .int .u8 11, .int .u8 4, .int .u8 12, .int .u8 3, .int .u8 13, .int .u8 2, .int .u8 14, .int .u8 1, .int .u8 15]) gl 3 19 (fun i => nV ((List.replicate 19 0).getD i 0)) :=
        ((Rw.of (n := 19) (C := fun i => nV ((List.replicate 19 0).getD i 0)) (Bk.newAt w2 3 cs hgl) HCS.out (fun i hi => by rw [HCZ.out i hi, rep0]; rfl)).alloc _).keep (heap_setRow _ _ _ _ (by omega))
      have hO3 : Rw (((w2.alloc (.cells cs 3)).alloc (.cells #[.int .u8 0, .int .u8 0, .int .u8 0, .int .u8 0, .int .u8 0, .int .u8 0, .int .u8 0, .int .u8 0, .int .u8 0, .int .u8 0, .int .u8 0, .int .u8 0, .int .u8 0, .int .u8 0, .int .u8 0, .int .u8 0, .int .u8 0, .int .u8 0, .int .u8 0] 190)).setRow (gl + 1) #[.int .u8 16, .int .u8 17, .int .u8 18, .int .u8 0, .int .u8 8, .int .u8 7, .int .u8 9, .int .u8 6, .int .u8 10, .int .u8 5, .int .u8 11, .int .u8 4, .int .u8 12, .int .u8 3, .int .u8 13, .int .u8 2, .int .u8 14, .int .u8 1, .int .u8 15]) (gl + 1) 190 19 (fun i => .int .u8 ((ordL.getD i 0 : Nat) : Int)) :=
        Rw.of ((Bk.newAt _ _ _ hz2.symm).setRow _) rfl ord_cells
      have hBB : Below w2.heap.size w2 (((w2.alloc (.cells cs 3)).alloc (.cells #[.int .u8 0, .int .u8 0, .int .u8 0, .int .u8 0, .int .u8 0, .int .u8 0, .int .u8 0, .int .u8 0, .int .u8 0, .int .u8 0, .int .u8 0, .int .u8 0, .int .u8 0, .int .u8 0, .int .u8 0, .int .u8 0, .int .u8 0, .int .u8 0, .int .u8 0] 190)).setRow (gl + 1) #[.int .u8 16, .int .u8 17, .int .u8 18, .int .u8 0, .int .u8 8, .int .u8 7, .int .u8 9, .int .u8 6, .int .u8 10, .int .u8 5, .int .u8 11, .int .u8 4, .int .u8 12, .int .u8 3, .int .u8 13, .int .u8 2, .int .u8 14, .int .u8 1, .int .u8 15]) :=
        bl_setRow (bl_alloc (bl_alloc (Below.refl w2.heap.size w2) (Nat.le_refl _) _) (Nat.le_refl _) _) (by omega) _
      have hT4 := hT3.step hBB hwz
      have hc4 : (((w2.alloc (.cells cs 3)).alloc (.cells #[.int .u8 0, .int .u8 0, .int .u8 0, .int .u8 0, .int .u8 0, .int .u8 0, .int .u8 0, .int .u8 0, .int .u8 0, .int .u8 0, .int .u8 0, .int .u8 0, .int .u8 0, .int .u8 0, .int .u8 0, .int .u8 0, .int .u8 0, .int .u8 0, .int .u8 0] 190)).setRow (gl + 1) #[.int .u8 16, .int .u8 17, .int .u8 18, .int .u8 0, .int .u8 8, .int .u8 7, .int .u8 9, .int .u8 6, .int .u8 10, .int .u8 5, .int .u8 11, .int .u8 4, .int .u8 12, .int .u8 3, .int .u8 13, .int .u8 2, .int .u8 14, .int .u8 1, .int .u8 15]).cell? ⟨ad.block, ad.off + 2, none⟩ = some (.int .i64 (z : Int)) := (hBB.cell (p := ⟨ad.block, ad.off + 2, none⟩) hadb).trans hc2'
      have HBK := bx (Bk.newAt (w2.alloc (.cells cs 3)) 190 #[.int .u8 0, .int .u8 0, .int .u8 0, .int .u8 0, .int .u8 0, .int .u8 0, .int .u8 0, .int .u8 0, .int .u8 0, .int .u8 0, .int .u8 0, .int .u8 0, .int .u8 0, .int .u8 0, .int .u8 0, .int .u8 0, .int .u8 0, .int .u8 0, .int .u8 0] hz2.symm)
      have HL3 := bx hL3
      have HO3 := bx hO3
      have HT4 := bx hT4
      have HC4 := bx hc4
      clear hL3 hO3 hBB hT4 hT3 hc4 hc2' hz2
      go_upto_region 9 with (refine wpList_store_row rfl 190 (.tmp 9) (.tmp 44) rfl (gl + 1) #[.int .u8 16, .int .u8 17, .int .u8 18, .int .u8 0, .int .u8 8, .int .u8 7, .int .u8 9, .int .u8 6, .int .u8 10, .int .u8 5, .int .u8 11, .int .u8 4, .int .u8 12, .int .u8 3, .int .u8 13, .int .u8 2, .int .u8 14, .int .u8 1, .int .u8 15] rfl rfl 190 #[.int .u8 0, .int .u8 0, .int .u8 0, .int .u8 0, .int .u8 0, .int .u8 0, .int .u8 0, .int .u8 0, .int .u8 0, .int .u8 0, .int .u8 0, .int .u8 0, .int .u8 0, .int .u8 0, .int .u8 0, .int .u8 0, .int .u8 0, .int .u8 0, .int .u8 0] HBK.out info_ord rfl ord_ones ?_)
      have hL3 := HL3.out
      have hO3 := HO3.out
      have hT4 := HT4.out
      have hc4 := HC4.out
      clear HL3 HO3 HT4 HC4 HBK
      generalize (((w2.alloc (.cells cs 3)).alloc (.cells #[.int .u8 0, .int .u8 0, .int .u8 0, .int .u8 0, .int .u8 0, .int .u8 0, .int .u8 0, .int .u8 0, .int .u8 0, .int .u8 0, .int .u8 0, .int .u8 0, .int .u8 0, .int .u8 0, .int .u8 0, .int .u8 0, .int .u8 0, .int .u8 0, .int .u8 0] 190)).setRow (gl + 1) #[.int .u8 16, .int .u8 17, .int .u8 18, .int .u8 0, .int .u8 8, .int .u8 7, .int .u8 9, .int .u8 6, .int .u8 10, .int .u8 5, .int .u8 11, .int .u8 4, .int .u8 12, .int .u8 3, .int .u8 13, .int .u8 2, .int .u8 14, .int .u8 1, .int .u8 15]) = w3 at hL3 hO3 hT4 hc4 ⊢
      have hz4 : (z : Int) + 4 ≤ 19 := by omega
      simp only [Act.put]
      have hsl := sl_ord w3 ⟨gl + 1, 0, none⟩ z hz
      go_wp2_with fail
      clear hz4 hc4 hsl
      go_loopg [51] (z + 4) (fun κ jj wr => ∃ (j q1 : Nat) (L : List Nat), κ = z + 4 - j ∧ j ≤ z + 4 ∧ jj = .int .i64 (j : Int) ∧ Bx (L.length = 19) ∧ Bx (∀ x ∈ L, x ≤ 7) ∧ Rw wr gl 3 19 (fun i => nV (L.getD i 0)) ∧
        Rw wr (gl + 1) 190 19 (fun i => .int .u8 ((ordL.getD i 0 : Nat) : Int)) ∧ ToV w wr gs gr b q1 ∧ Bx (R = (lensF b ((ordL.take (z + 4)).drop j) L q1).bind (toldC b x y)))
      case atStart => exact ⟨0, q, List.replicate 19 0, by omega, by omega, rfl, bx (List.length_replicate ..), bx (fun x hx => by rw [List.eq_of_mem_replicate hx]; omega), hL3, hO3, hT4, bx HG2.out⟩
      case round =>
        clear hL3 hO3 hT4 HG2
        obtain ⟨j, q1, L, hgk, hj, rfl, hLl, hL7, hL, hO, hT, hgo⟩ := hrel
        have d0 := hT.2.1
        by_cases hjz : j < z + 4
        · obtain ⟨k, hk⟩ : ∃ k, ordL.getD j 0 = k := ⟨_, rfl⟩
          obtain ⟨ho1, ho2⟩ := ordL_at hz hjz
          rw [hk] at ho1 ho2
          have ho3 : wr.cell? ⟨gl + 1, j, none⟩ = some (.int .u8 (k : Int)) := by rw [hO.cell (by omega), hk]
          have hl1 : wr.cell? ⟨gl, k, none⟩ = some (.int .i64 ((L.getD k 0 : Nat) : Int)) := hL.cell ho2
          have hf1 := hL.frz k
          have hglw : w.heap.size ≤ gl := by omega
          have HO1 := bx ho1
          clear hk ho1
          by_cases hq3 : q1 + 3 ≤ 8 * b.length
          · obtain ⟨v, hv⟩ : ∃ v, takeN b q1 3 = v := ⟨_, rfl⟩
            have hv8 : v < 8 := by rw [← hv]; exact takeN_lt b q1 3
            have HGO : Bx (R = (lensF b ((ordL.take (z + 4)).drop (j + 1)) (L.set k v) (q1 + 3)).bind (toldC b x y)) := bx (by rw [hgo.out, lensF_step HO1.out hq3, hv])
            have HV := bx hv
            clear hv
            go_wp2_with fail
            refine (btake_ok gr b q1 3 wr hT.2.2.1 (by omega) hq3).mono ?_
            rintro e w5 ⟨rfl, hR5, hg5⟩
            rw [HV.out]
            have hT5 := hT.next hg5 hR5
            have hgrl : gr < gl := by have := hT.2.2.2; omega
            have hL5 := hL.grown hg5 (fun e => by injection e; omega)
            have hO5 := hO.grown hg5 (fun e => by injection e; omega)
            have hl5 : w5.cell? ⟨gl, k, none⟩ = some (.int .i64 ((L.getD k 0 : Nat) : Int)) := hL5.cell ho2
            have hf5 := hL5.frz k
            have HL6 := bx (hL5.set k (.int .i64 (v : Int)))
            have HO6 := bx (hO5.far (p := ⟨gl, k, none⟩) (by show gl + 1 ≠ gl; omega) (.int .i64 (v : Int)))
            have HT6 := bx (hT5.step ((Below.refl gl w5).setCell (p := ⟨gl, k, none⟩) (Nat.le_refl _) (.int .i64 (v : Int))) hglw)
            clear hL5 hO5 hT5 hg5 hR5 hl1 hf1 ho3 hL hO hT d0
            go_wp2
            go_roundg (z + 4 - (j + 1))
            case rel =>
              refine ⟨j + 1, q1 + 3, L.set k v, rfl, by omega, by go_num, bx (by rw [List.length_set, hLl.out]), bx ?_, HL6.out.ext fun i hi => ?_, HO6.out, HT6.out, HGO⟩
              · intro x hx
                rcases List.mem_or_eq_of_mem_set hx with h | h
                · exact hL7.out x h
                · omega
              · rw [List.getD_eq_getElem?_getD, List.getElem?_set]
                by_cases e : i = k
                · subst e; rw [if_pos rfl, if_pos rfl, if_pos (by rw [hLl.out]; exact hi)]; rfl
                · rw [if_neg (fun x => e x.symm), if_neg e, List.getD_eq_getElem?_getD]
            case measure => omega
          · have HF : Bx (R = .err 2) := bx (by rw [hgo.out, lensF_short HO1.out (by omega)]; rfl)
            go_wp2_with fail
            refine (btake_short gr b q1 3 wr hT.2.2.1 (by omega) (by omega)).mono ?_
            rintro e w5 ⟨rfl, hb5⟩
            have hl5 : w5.cell? ⟨gl, k, none⟩ = some (.int .i64 ((L.getD k 0 : Nat) : Int)) := (hb5.cell (p := ⟨gl, k, none⟩) hL.lt).trans hl1
            have hf5 : w5.frozen? ⟨gl, k, none⟩ = false := (hb5.frozen (p := ⟨gl, k, none⟩) hL.lt).trans hf1
            have HG6 := bx (gb_past (gb_then hT.1 hb5) ((Below.refl gl w5).setCell (p := ⟨gl, k, none⟩) (Nat.le_refl _) (.int .i64 0)) hglw)
            clear hb5 hl1 hf1 ho3 hL hO hT d0
            go_wp2
            go_ret3
            exact tPost_err HF.out HG6.out
        · obtain rfl : j = z + 4 := by omega
          have HGO : Bx (R = toldC b x y (L, q1)) := bx (by rw [hgo.out, List.drop_of_length_le (by rw [ordL_len hz]; exact Nat.le_refl _)]; rfl)
          have hLr : RN wr wr.heap.size (some ⟨gl, 0, none⟩) L := RL.more (Rw.read (l := L) (by rw [hLl.out]; exact hL) (fun i x hx => by rw [List.getD_eq_getElem?_getD, hx]; rfl)) (by have := hL.lt; omega)
          clear hgo hL hO
          go_wp2_with fail
          refine (pnew_any (some ⟨gl, 0, none⟩) 19 19 L false wr hLl.out (by omega) (fun x hx => by have := hL7.out x hx; omega) hLr).mono ?_
          rintro e w5 ⟨hb5, hp⟩
          have hT5 := hT.step hb5 hT.size
          cases hcb : codeB L false with
          | false =>
            have HF : Bx (R = .err 5) := bx (by rw [HGO.out, toldC, if_pos hcb])
            rw [hcb, if_neg (by simp)] at hp
            obtain rfl := hp
            have HG6 := bx hT5.1
            clear hcb hT hT5 hb5 d0
            go_wp2
            go_ret3
            exact tPost_err HF.out HG6.out
          | true =>
            rw [hcb, if_pos rfl] at hp
            obtain ⟨gc, rfl, hC⟩ := hp
            have HGO2 : Bx (R = toldA b x y (L, q1)) := bx (by rw [HGO.out, toldC, if_neg (by rw [hcb]; simp)])
            clear hcb HGO
            have d5 := hT5.2.1
            have hgcl := hC.lt
            have hz6 := hT.size
            clear hT hb5 d0
            obtain ⟨T, hT9⟩ : ∃ T, x + 257 + (y + 1) = T := ⟨_, rfl⟩
            have hTI : ((x : Int) + 257 + ((y : Int) + 1)) = (T : Int) := by omega
            have hTb : T ≤ 316 ∧ 258 ≤ T := by omega
            have HTI := bx hTI
            have HT9 := bx hT9
            obtain ⟨B5, hB5⟩ : ∃ B5, w5.heap.size = B5 := ⟨_, rfl⟩
            have HB5 := bx hB5
            obtain ⟨i0, hi0, hz0, hz1, hz9⟩ := intTy.info
            have hmk : i0.bytes * T ≤ 281474976710656 := by rw [hz9]; omega
            have HMK := bx hmk
            have HI0 := bx hi0
            have HZ0 := bx hz0
            have HZ1 := bx hz1
            have HZZ := hT5.size
            have hgcB : gc < B5 := by omega
            have hwB : w.heap.size ≤ B5 := by omega
            clear hTI hT9 hB5 hi0 hz0 hz1 hz9 hmk
            go_wp2_with (at_make; refine wpList_make_own _ rfl _ _ 41 rfl w5.heap.size 3 i0 (.int .i64 0) 1 Tryz.underlying41 HI0.out HZ0.out HZ1.out .i64 .i64 _ T rfl rfl HTI.out HMK.out (by unfold maxLen; omega) (Nat.le_refl _) ?_; intro w6 hown6 hg6)
            have hO6 : OwL nV w6 B5 3 (.slice (some ⟨w5.heap.size, 0, none⟩) 0 T) [] := by rw [← HB5.out]; exact hown6
            have hb6 : Below w5.heap.size w5 w6 := (Below.refl _ _).grown hg6 (Nat.le_refl _) (fun k e => by cases e)
            have hT6 := hT5.step hb6 HZZ
            have hC6 := hC.below hb6 (by rw [HB5.out]; exact hgcB)
            have hB6 : B5 ≤ w6.heap.size := by rw [← HB5.out]; exact hb6.size
            have hgrlo : gr < wr.heap.size := by have := hT6.2.2.2; omega
            obtain ⟨lo, hlo⟩ : ∃ lo, wr.heap.size = lo := ⟨_, rfl⟩
            rw [hlo] at hC6 hgrlo
            rw [HTI.out]
            have HGO3 : Bx (R = (allF L b T (8 * b.length + 1) q1 []).bind fun v => if v.1.getD 256 0 = 0 then .err 5 else .ok ((v.1.take (x + 257), v.1.drop (x + 257)), v.2)) := bx (by rw [HGO2.out, toldA, HT9.out]; rfl)
            have hq1 := hT6.2.2.1.le.1
            have hxT : x + 257 < T := by have := HT9.out; omega
            clear HGO2 hown6 hg6 hb6 hT5 hC d5 hlo HTI HI0 HZ0 HZ1 HMK HZZ hgcl hz6 hLr
            obtain ⟨wo, rfl⟩ : ∃ wo : World, wo = wr := ⟨_, rfl⟩
            go_loopg [13] (8 * b.length + 1) (fun κ v wr => ∃ (q2 : Nat) (all : List Nat), OwL nV wr B5 3 v all ∧ B5 ≤ wr.heap.size ∧ ToV w wr gs gr b q2 ∧ PCd wr lo gc L ∧ all.length ≤ T ∧ Bx (∀ x ∈ all, x ≤ 15) ∧ 8 * b.length < q2 + κ ∧ q2 ≤ 8 * b.length ∧
              Bx (R = (allF L b T κ q2 all).bind fun v => if v.1.getD 256 0 = 0 then .err 5 else .ok ((v.1.take (x + 257), v.1.drop (x + 257)), v.2)))
            case atStart => exact ⟨q1, [], hO6, hB6, hT6, hC6, by simp, bx (by simp), by omega, hq1, HGO3⟩
            case round =>
              clear hO6 hB6 hT6 hC6 HGO3
              obtain ⟨q2, all, hO, hBz, hT, hC, hal, h15, hgk, hq2, hgo⟩ := hrel
              obtain ⟨κ, rfl⟩ : ∃ κ, gk = κ + 1 := ⟨gk - 1, by omega⟩
              have d0 := hT.2.1
              obtain ⟨Av, nv, cv, rfl, hnv, hrv⟩ := OwL.sl hO
              have hnvT : nv ≤ T := by rw [hnv.out]; exact hal
              by_cases hfull : T ≤ all.length
              · have hnvt : ¬ (nv : Int) < (x : Int) + 257 + ((y : Int) + 1) := by have := HT9.out; have := hnv.out; omega
                have HGO4 : Bx (R = if all.getD 256 0 = 0 then .err 5 else .ok ((all.take (x + 257), all.drop (x + 257)), q2)) := bx (by rw [hgo.out, allF_full hfull]; rfl)
                have hcap : nv ≤ cv := by
                  obtain ⟨A', c', e, _, h, _⟩ := hO.rd
                  injection e with e1 e2 e3
                  subst e3
                  rw [hnv.out]; exact h
                obtain ⟨ad9, e9, rfl, _, hx9, hc9⟩ := RL.atl hrv (k := 256) (by omega)
                have hc9' : wr.cell? ⟨ad9.block, ad9.off + 256, none⟩ = some (.int .i64 (e9 : Int)) := by rw [add_pos] at hc9; exact hc9
                have he9 : all.getD 256 0 = e9 := by rw [List.getD_eq_getElem?_getD, hx9.out]; rfl
                have hnvg : 256 < nv := by have := hnv.out; omega
                rw [he9] at HGO4
                have HG := bx hT.1
                clear hgo hc9 he9
                by_cases h0 : e9 = 0
                · have HF : Bx (R = .err 5) := bx (by rw [HGO4.out, if_pos h0])
                  subst h0
                  go_wp2
                  go_ret3
                  exact tPost_err HF.out HG.out
                · have HF : Bx (R = .ok ((all.take (x + 257), all.drop (x + 257)), q2)) := bx (by rw [HGO4.out, if_neg h0])
                  have hb0 : ((e9 : Int) == 0) = false := by rw [beq_eq_false_iff_ne]; omega
                  have hx1 : (x : Int) + 257 ≤ (cv : Int) := by have := hnv.out; omega
                  have hx2 : (x : Int) + 257 ≤ (nv : Int) := by have := hnv.out; omega
                  have hx3 : ¬ cv = x + 257 := by have := hnv.out; omega
                  clear h0 HGO4
                  go_wp2_with fail
                  go_quiet (fail)
                  rename Nat => nq
                  go_wp2
                  go_ret3
                  have hl1 : (all.take (x + 257)).length = x + 257 := by rw [List.length_take]; have := hnv.out; omega
                  have hl2 : (all.drop (x + 257)).length = nv - (x + 257) := by rw [List.length_drop, hnv.out]
                  exact tPost_ok HF.out (gb_drewN HG.out nq) hl1 hl2 ((hrv.take _).drewN nq) (hrv.drop (x + 257)) (hT.drewN nq).2.2.1 (fun y hy => h15.out y (List.mem_of_mem_take hy)) (fun y hy => h15.out y (List.mem_of_mem_drop hy)) (by omega) (by have := HT9.out; have := hnv.out; omega)
              · have hnvt : nv < T := by rw [hnv.out]; omega
                have hlt9 : (nv : Int) < (x : Int) + 257 + ((y : Int) + 1) := by have := HT9.out; omega
                cases hN : nextP L b q2 with
                | err k =>
                  have HF : Bx (R = .err k) := bx (by rw [hgo.out, allF_err (by omega) hN]; rfl)
                  have HNX := bx hN
                  have hk := nextP_errs hN
                  clear hN
                  go_wp2_with fail
                  refine (pnext_any gc lo gr L b q2 wr hC hT.2.2.1 hgrlo).mono ?_
                  rintro e w7 ⟨hg7, hp⟩
                  rw [HNX.out] at hp
                  obtain rfl := hp
                  have hG7 := gb_trans hT.1 hg7
                  rcases hk with rfl | rfl
                  · go_wp2
                    go_ret3
                    exact tPost_err HF.out hG7
                  · go_wp2
                    go_ret3
                    exact tPost_err HF.out hG7
                | ok x7 =>
                  obtain ⟨s, p1⟩ := x7
                  have HNX := bx hN
                  have hs19 : s < 19 := by have := nextP_lt hN; rw [hLl.out] at this; exact this
                  have hmore := nextP_more hN
                  have HGO : Bx (R = (if s = 16 ∧ all = [] then .err 6
      else (tk b p1 (runP s all).2.2).bind fun y => if T < all.length + ((runP s all).2.1 + y.1) then .err 6
        else allF L b T κ y.2 (all ++ List.replicate ((runP s all).2.1 + y.1) (runP s all).1)).bind fun v => if v.1.getD 256 0 = 0 then .err 5 else .ok ((v.1.take (x + 257), v.1.drop (x + 257)), v.2)) := bx (by rw [hgo.out, allF_ok (by omega) hN])
                  clear hN hgo
                  go_wp2_with fail
                  refine (pnext_any gc lo gr L b q2 wr hC hT.2.2.1 hgrlo).mono ?_
                  rintro e w7 ⟨hg7, hp⟩
                  rw [HNX.out] at hp
                  obtain ⟨rfl, hR7⟩ := hp
                  have hT7 := hT.next hg7 hR7
                  have hC7 := hC.grown hg7 (fun k hk => by injection hk; omega)
                  have hO7 := hO.keptAt hg7 (by have := hC.lt; omega)
                  have hB7 : B5 ≤ w7.heap.size := Nat.le_trans hBz hg7.size
                  have hrv7 : RN w7 w7.heap.size Av all := hO7.rl
                  have d7 := hT7.2.1
                  clear hT hC hO hBz hg7 hR7 d0 hrv
                  by_cases hbad : s = 16 ∧ all = []
                  · have HF : Bx (R = .err 6) := bx (by rw [HGO.out, if_pos hbad]; rfl)
                    have hnv0 : nv = 0 := by rw [hnv.out, hbad.2]; rfl
                    obtain ⟨rfl, _⟩ := hbad
                    subst hnv0
                    have HG7 := bx hT7.1
                    go_wp2
                    go_ret3
                    exact tPost_err HF.out HG7.out
                  · rw [if_neg hbad] at HGO
                    have hbd := runP_bd hs19 h15.out hbad
                    obtain ⟨vv, hvv⟩ : ∃ vv, (runP s all).1 = vv := ⟨_, rfl⟩
                    obtain ⟨nn, hnn⟩ : ∃ nn, (runP s all).2.1 = nn := ⟨_, rfl⟩
                    obtain ⟨ww, hww⟩ : ∃ ww, (runP s all).2.2 = ww := ⟨_, rfl⟩
                    rw [hvv, hnn, hww] at hbd HGO
                    have hrun : (s = 16 ∧ all ≠ [] ∧ vv = all.getLastD 0 ∧ nn = 3 ∧ ww = 2) ∨ (s = 17 ∧ vv = 0 ∧ nn = 3 ∧ ww = 3) ∨ (s = 18 ∧ vv = 0 ∧ nn = 11 ∧ ww = 7) ∨ (s ≠ 16 ∧ s ≠ 17 ∧ s ≠ 18 ∧ vv = s ∧ nn = 1 ∧ ww = 0) := by
                      unfold runP at hvv hnn hww
                      by_cases e16 : s = 16
                      · rw [if_pos e16] at hvv hnn hww
                        exact .inl ⟨e16, fun e => hbad ⟨e16, e⟩, hvv.symm, hnn.symm, hww.symm⟩
                      · rw [if_neg e16] at hvv hnn hww
                        by_cases e17 : s = 17
                        · rw [if_pos e17] at hvv hnn hww
                          exact .inr (.inl ⟨e17, hvv.symm, hnn.symm, hww.symm⟩)
                        · rw [if_neg e17] at hvv hnn hww
                          by_cases e18 : s = 18
                          · rw [if_pos e18] at hvv hnn hww
                            exact .inr (.inr (.inl ⟨e18, hvv.symm, hnn.symm, hww.symm⟩))
                          · rw [if_neg e18] at hvv hnn hww
                            exact .inr (.inr (.inr ⟨e16, e17, e18, hvv.symm, hnn.symm, hww.symm⟩))
                    have HBAD := bx hbad
                    clear hvv hnn hww hbad
                    go_upto_block 4 with (fail)
                    go_cut [16, 17, 18] (fun a c d wx => a = .int .i64 (vv : Int) ∧ c = .int .i64 (nn : Int) ∧ d = .int .i64 (ww : Int) ∧ w7 = wx)
                    case first =>
                      rcases hrun with ⟨rfl, hne, hv9, rfl, rfl⟩ | ⟨rfl, rfl, rfl, rfl⟩ | ⟨rfl, rfl, rfl, rfl⟩ | ⟨h16, h17, h18, hvs, rfl, rfl⟩
                      · have hnv0 : 0 < nv := by rw [hnv.out]; exact List.length_pos_iff.2 hne
                        have hnvb : ((nv : Int) == 0) = false := by rw [beq_eq_false_iff_ne]; omega
                        obtain ⟨ad9, x9, rfl, _, hx9, hc9⟩ := RL.atl hrv7 (k := nv - 1) (by rw [← hnv.out]; omega)
                        have hxv : x9 = vv := by
                          rw [hv9, List.getLastD_eq_getLast?, List.getLast?_eq_getElem?, ← hnv.out, hx9.out]; rfl
                        have hc9' : w7.cell? (ad9.add (nv - 1)) = some (.int .i64 (vv : Int)) := by rw [hc9, hxv]; rfl
                        have hn1 : (1 : Int) ≤ (nv : Int) := by omega
                        clear hc9 hxv hv9 hne
                        go_wp2
                        go_meet
                        case rel => exact ⟨rfl, rfl, rfl, rfl⟩
                      · go_wp2
                        go_meet
                        case rel => exact ⟨rfl, rfl, rfl, rfl⟩
                      · go_wp2
                        go_meet
                        case rel => exact ⟨rfl, rfl, rfl, rfl⟩
                      · subst hvs
                        have b16 : ((vv : Int) == 16) = false := by rw [beq_eq_false_iff_ne]; omega
                        have b17 : ((vv : Int) == 17) = false := by rw [beq_eq_false_iff_ne]; omega
                        have b18 : ((vv : Int) == 18) = false := by rw [beq_eq_false_iff_ne]; omega
                        clear h16 h17 h18
                        go_wp2
                        go_meet
                        case rel => exact ⟨rfl, rfl, rfl, rfl⟩
                    case rest =>
                      obtain ⟨rfl, rfl, rfl, rfl⟩ := hcut
                      clear hrun
                      by_cases hq4 : p1 + ww ≤ 8 * b.length
                      · obtain ⟨m, hm⟩ : ∃ m, takeN b p1 ww = m := ⟨_, rfl⟩
                        have hm8 : m < 128 := by
                          rw [← hm]
                          have h1 := takeN_lt b p1 ww
                          have h2 : 2 ^ ww ≤ 2 ^ 7 := Nat.pow_le_pow_right (by decide) hbd.2.2.2
                          omega
                        have HGO2 : Bx (R = (if T < all.length + (nn + m) then .err 6 else allF L b T κ (p1 + ww) (all ++ List.replicate (nn + m) vv)).bind fun v => if v.1.getD 256 0 = 0 then .err 5 else .ok ((v.1.take (x + 257), v.1.drop (x + 257)), v.2)) := bx (by
                          rw [HGO.out, tk, if_pos hq4, hm]; rfl)
                        have HM := bx hm
                        clear hm HGO
                        go_wp2_with fail
                        refine (btake_ok gr b p1 ww w7 hT7.2.2.1 (by omega) hq4).mono ?_
                        rintro e w8 ⟨rfl, hR8, hg8⟩
                        rw [HM.out]
                        have hT8 := hT7.next hg8 hR8
                        have hC8 := hC7.grown hg8 (fun k hk => by injection hk; omega)
                        have hO8 := hO7.keptAt hg8 (by have := hC7.lt; omega)
                        have hB8 : B5 ≤ w8.heap.size := Nat.le_trans hB7 hg8.size
                        clear hT7 hC7 hO7 hB7 hg8 hR8 d7 hrv7
                        obtain ⟨N, hN9⟩ : ∃ N, nn + m = N := ⟨_, rfl⟩
                        have hNI : ((nn : Int) + (m : Int)) = (N : Int) := by omega
                        have hNb : N ≤ 200 ∧ 1 ≤ N := by omega
                        rw [hN9] at HGO2
                        have HNI := bx hNI
                        have HT10 := HT9.out
                        by_cases hmany : T < all.length + N
                        · have HF : Bx (R = .err 6) := bx (by rw [HGO2.out, if_pos hmany]; rfl)
                          have hgt : (x : Int) + 257 + ((y : Int) + 1) - (nv : Int) < (nn : Int) + (m : Int) := by have := hnv.out; omega
                          have HG8 := bx hT8.1
                          clear HT10 hNI
                          go_wp2
                          go_ret3
                          exact tPost_err HF.out HG8.out
                        · rw [if_neg hmany] at HGO2
                          have hgt : ¬ (x : Int) + 257 + ((y : Int) + 1) - (nv : Int) < (nn : Int) + (m : Int) := by have := hnv.out; omega
                          clear HT10 hNI hN9
                          go_wp2_with fail
                          rw [HNI.out]
                          obtain ⟨wo2, rfl⟩ : ∃ wo2 : World, wo2 = wr := ⟨_, rfl⟩
                          have hO8' : OwL nV w8 B5 3 (.slice Av nv cv) (all ++ List.replicate 0 vv) := by rw [List.replicate_zero, List.append_nil]; exact hO8
                          clear hO8 hgt
                          go_loopg [13, 17] N (fun κ2 v nnn wr => ∃ j : Nat, κ2 = N - j ∧ j ≤ N ∧ nnn = .int .i64 ((N : Int) - (j : Int)) ∧ OwL nV wr B5 3 v (all ++ List.replicate j vv) ∧ B5 ≤ wr.heap.size ∧ ToV w wr gs gr b (p1 + ww) ∧ PCd wr lo gc L)
                          case atStart => exact ⟨0, by omega, by omega, by go_num, hO8', hB8, hT8, hC8⟩
                          case round =>
                            clear hO8' hB8 hT8 hC8
                            obtain ⟨j, hgk2, hj, rfl, hO, hBz, hT, hC⟩ := hrel
                            by_cases hjN : j < N
                            · have HL : Bx (((all ++ List.replicate j vv).length + [vv].length) * 8 ≤ 140737488355328) := bx (by simp; omega)
                              have hjI : (0 : Int) < (N : Int) - (j : Int) := by omega
                              obtain ⟨v9, rfl⟩ : ∃ v9 : Value, v9 = u13 := ⟨_, rfl⟩
                              go_wp2_with (at_builtin; refine wpList_appL _ nV_one rfl (.tmp 144) (.tmp 146) rfl intTy (by decide) B5 _ _ rfl (hO.alloc _) _ _ 1 1 [vv] rfl rfl (RL.freshe _ _ rfl _) HL.out (le_alloc0 hBz _) ?_; intro v5 w9 hO5 hg5 _ hb5)
                              have hb9 : Below B5 wr w9 := (bl_alloc (Below.refl B5 wr) hBz _).trans hb5
                              have hO9 : OwL nV w9 B5 3 v5 (all ++ List.replicate (j + 1) vv) := by rw [List.replicate_succ', ← List.append_assoc]; exact hO5
                              have hB9 : B5 ≤ w9.heap.size := Nat.le_trans hBz hb9.size
                              have hT9 := hT.step hb9 hwB
                              have hC9 := hC.below hb9 hgcB
                              go_roundg (N - (j + 1))
                              case rel => exact ⟨j + 1, rfl, by omega, by go_num, hO9, hB9, hT9, hC9⟩
                              case measure => omega
                            · obtain rfl : j = N := by omega
                              have hjI : ¬ (0 : Int) < (j : Int) - (j : Int) := by omega
                              have HALL : Bx (∀ x ∈ all ++ List.replicate j vv, x ≤ 15) := bx (fun x hx => by
                                rcases List.mem_append.1 hx with h | h
                                · exact h15.out x h
                                · rw [List.eq_of_mem_replicate h]; exact hbd.1)
                              go_wp2_with fail
                              go_roundg κ
                              case rel => exact ⟨p1 + ww, all ++ List.replicate j vv, hO, hBz, hT, hC, by rw [List.length_append, List.length_replicate]; omega, HALL, by omega, by omega, HGO2⟩
                              case measure => omega
                      · have HF : Bx (R = .err 2) := bx (by rw [HGO.out, tk, if_neg hq4]; rfl)
                        go_wp2_with fail
                        refine (btake_short gr b p1 ww w7 hT7.2.2.1 (by omega) (by omega)).mono ?_
                        rintro e w8 ⟨rfl, hb8⟩
                        have HG8 := bx (gb_then hT7.1 hb8)
                        clear hb8 d7
                        go_wp2
                        go_ret3
                        exact tPost_err HF.out HG8.out
end Go.Proofs.YtlmcpkomjofcgaaGreatDoor
namespace Go.Proofs.YtlmcpkomjofcgaaGreatDoor
open Go.RowKit

/-- While symbols are read: the state's own slice is v; the two codes. -/
def SyV (w0 w : World) (gs gr lim lo1 g1 lo2 g2 : Nat) (b : List UInt8) (lit dist : List Nat) (v : Value) (p : Nat) (out : List UInt8) : Prop :=
  Below gr w0 w ∧ Bk w gs 144 #[.pointer (some ⟨gr, 0, none⟩), v, .int .i64 (lim : Int)] ∧ BRd w gr b p ∧ OwB w (gs + 1) 5 v out ∧ PCd w lo1 g1 lit ∧ PCd w lo2 g2 dist ∧
    (∀ k, v.ownBlock = some k → ¬ (lo1 ≤ k ∧ k ≤ g1) ∧ ¬ (lo2 ≤ k ∧ k ≤ g2))
section
variable {w0 w w' : World} {gs gr lim lo1 g1 lo2 g2 : Nat} {b : List UInt8} {lit dist : List Nat} {v : Value} {p q : Nat} {out : List UInt8}
theorem SyV.next (h : SyV w0 w gs gr lim lo1 g1 lo2 g2 b lit dist v p out) (hg : w.grownBy w' (some gr)) (hR : BRd w' gr b q) (h1 : gr < gs) (h2 : gs < lo1) (h3 : gs < lo2) : SyV w0 w' gs gr lim lo1 g1 lo2 g2 b lit dist v q out := by
  obtain ⟨a1, a2, a3, a4, a5, a6, a7⟩ := h
  refine ⟨a1.trans (gb_low hg (Nat.le_refl _) a3.lt), a2.grown hg (fun e => by injection e; omega), hR, a4.keptAt hg (by omega), a5.grown hg (fun k hk => by injection hk; omega), a6.grown hg (fun k hk => by injection hk; omega), a7⟩
theorem SyV.drewN (h : SyV w0 w gs gr lim lo1 g1 lo2 g2 b lit dist v p out) (n : Nat) : SyV w0 (w.drewN n) gs gr lim lo1 g1 lo2 g2 b lit dist v p out := by
  obtain ⟨a1, a2, a3, a4, a5, a6, a7⟩ := h
  exact ⟨below_drewN a1 n, a2, a3, a4.drewN n, a5.keep (fun _ _ _ => rfl), a6.keep (fun _ _ _ => rfl), a7⟩
/-- One new cell was laid, v has grown, and was put back. -/
theorem SyV.push (h : SyV w0 w gs gr lim lo1 g1 lo2 g2 b lit dist v p out) {v' : Value} {out' : List UInt8} (hO : OwB w' (gs + 1) 5 v' out') (o : Obj) {wm : World} (hm : wm.heap = (w.alloc o).heap) (hmo : wm.os = w.os ∧ wm.tape = w.tape ∧ wm.output = w.output)
    (hg : wm.grownBy w' v.ownBlock) (hv : v'.ownBlock = v.ownBlock ∨ v'.ownBlock = some wm.heap.size) (h1 : gr < gs) (h2 : gs < lo1) (h3 : gs < lo2) :
    SyV w0 (w'.setCell ⟨gs, 1, none⟩ v') gs gr lim lo1 g1 lo2 g2 b lit dist v' p out' := by
  obtain ⟨a1, a2, a3, a4, a5, a6, a7⟩ := h
  have hsz : wm.heap.size = w.heap.size + 1 := by rw [hm]; simp
  have hgs := a2.lt
  have hl1 := a5.lt
  have hl2 := a6.lt
  have same : ∀ i, i < w.heap.size → v.ownBlock ≠ some i → w'.heap[i]? = w.heap[i]? := fun i hi hne => by
    rw [hg.block i (by omega) (fun e => hne e.symm), hm, Below.heap_alloc w o i hi]
  have same2 : ∀ i, i < w.heap.size → v.ownBlock ≠ some i → i ≠ gs → (w'.setCell ⟨gs, 1, none⟩ v').heap[i]? = w.heap[i]? := fun i hi hne hi2 => by
    rw [Below.heap_setCell w' ⟨gs, 1, none⟩ v' i hi2, same i hi hne]
  have hvb : ∀ k, v.ownBlock = some k → gs + 1 ≤ k ∧ k < w.heap.size := fun k hk => World.ownsRow.lt a4 k hk
  have hvg : ∀ i, i ≤ gs → v.ownBlock ≠ some i := fun i hi e => by have := hvb i e; omega
  refine ⟨⟨?_, ?_, ?_, ?_, fun i hi => ?_⟩, ?_, ?_, ?_, ?_, ?_, ?_⟩
  · exact (hg.os.trans hmo.1).trans a1.os
  · exact (hg.tape.trans hmo.2.1).trans a1.tape
  · exact (hg.output.trans hmo.2.2).trans a1.output
  · have := hg.size; have := a1.size; simp [World.setCell]; omega
  · rw [same2 i (by omega) (hvg i (by omega)) (by omega)]; exact a1.block i hi
  · have hb : Bk w' gs 144 #[.pointer (some ⟨gr, 0, none⟩), v, .int .i64 (lim : Int)] := (same gs hgs (hvg gs (Nat.le_refl _))).trans a2
    have := hb.set 1 v'
    simpa using this
  · exact a3.keep fun i hi => same2 i (by omega) (hvg i (by omega)) (by omega)
  · refine hO.agree fun k hk1 hk2 => ?_
    exact Below.heap_setCell w' ⟨gs, 1, none⟩ v' k (by show k ≠ gs; omega)
  · exact a5.keep fun i hi1 hi2 => same2 i (by omega) (fun e => (a7 i e).1 ⟨hi1, hi2⟩) (by omega)
  · exact a6.keep fun i hi1 hi2 => same2 i (by omega) (fun e => (a7 i e).2 ⟨hi1, hi2⟩) (by omega)
  · intro k hk
    rcases hv with e | e
    · exact a7 k (e ▸ hk)
    · rw [e] at hk
      injection hk with hk
      omega
theorem SyV.cells (h : SyV w0 w gs gr lim lo1 g1 lo2 g2 b lit dist v p out) : w.cell? ⟨gs, 0, none⟩ = some (.pointer (some ⟨gr, 0, none⟩)) ∧ w.cell? ⟨gs, 1, none⟩ = some v ∧ w.cell? ⟨gs, 2, none⟩ = some (.int .i64 (lim : Int)) ∧ w.frozen? ⟨gs, 1, none⟩ = false := by
  obtain ⟨_, a2, _⟩ := h
  exact ⟨(a2.cell 0).trans rfl, (a2.cell 1).trans rfl, (a2.cell 2).trans rfl, a2.frz 1⟩
theorem SyV.ist (h : SyV w0 w gs gr lim lo1 g1 lo2 g2 b lit dist v p out) (h1 : gr < gs) (hl : out.length ≤ lim) (hlim : lim ≤ 32768) : ISt w gs gr w.heap.size b p lim out := by
  obtain ⟨_, a2, a3, a4, _⟩ := h
  exact ⟨v, a2, a3, a4, fun k hk => (World.ownsRow.lt a4 k hk).2, h1, hl, hlim⟩
end
theorem symF_err {lit dist : List Nat} {b : List UInt8} {lim f p : Nat} {out : List UInt8} {k : Int} (h : nextP lit b p = .err k) : symF lit dist b lim (f + 1) p out = .err k := by rw [symF, h]; rfl
theorem symF_ok {lit dist : List Nat} {b : List UInt8} {lim f p s p1 : Nat} {out : List UInt8} (h : nextP lit b p = .ok (s, p1)) : symF lit dist b lim (f + 1) p out = if s = 256 then .ok (out, p1)
      else if s < 256 then (if lim ≤ out.length then .err 8 else symF lit dist b lim f p1 (out ++ [UInt8.ofNat s]))
      else if 285 < s then .err 6
      else (tk b p1 (lenP s).2).bind fun y => (nextP dist b y.2).bind fun z =>
        if 29 < z.1 then .err 6
        else (tk b z.2 (dstP z.1).2).bind fun u =>
          if out.length < (dstP z.1).1 + u.1 then .err 7
          else if lim < out.length + ((lenP s).1 + y.1) then .err 8
          else symF lit dist b lim f u.2 (copyN ((dstP z.1).1 + u.1) ((lenP s).1 + y.1) out) := by rw [symF, h]; rfl
theorem spread_bd2 : ∀ c, c < 31 → (spreadP c 2).1 ≤ 1000000 ∧ (spreadP c 2).2 ≤ 14 := by decide +kernel
theorem spread_bd4 : ∀ c, c < 31 → (spreadP c 4).1 ≤ 1000000 ∧ (spreadP c 4).2 ≤ 14 := by decide +kernel
theorem copyN_step (far n : Nat) (o : List UInt8) (x : UInt8) (h : o.getD (o.length - far) 0 = x) : copyN far (n + 1) o = copyN far n (o ++ [x]) := by subst h; rfl
set_option maxRecDepth 100000 in
set_option maxHeartbeats 2000000 in
theorem isymbols_any (gs gr B lo1 g1 lo2 g2 : Nat) (b : List UInt8) (lit dist : List Nat) (p lim : Nat) (out : List UInt8) (w : World) (h : ISt w gs gr B b p lim out) (hC1 : PCd w lo1 g1 lit) (hC2 : PCd w lo2 g2 dist) (hB1 : B ≤ lo1) (hB2 : B ≤ lo2) (hg1 : gs < lo1) (hg2 : gs < lo2) :
    Calls Tryz.prog 94 #[.pointer (some ⟨gs, 0, none⟩), .pointer (some ⟨g1, 0, none⟩), .pointer (some ⟨g2, 0, none⟩)] w (IPost (symP lit dist lim out b p) w gs gr b lim) := by
  obtain ⟨R, hRR⟩ : ∃ R, symP lit dist lim out b p = R := ⟨_, rfl⟩
  rw [hRR]
  have HR := bx hRR
  clear hRR
  have hlt := h.lt
  obtain ⟨v0, hK, hR, hO, hv, hgs, hol, hlim⟩ := h
  have hble := hR.le
  have hV0 : SyV w w gs gr lim lo1 g1 lo2 g2 b lit dist v0 p out := ⟨Below.refl _ _, hK, hR, hO, hC1, hC2, fun k hk => by have := hv k hk; omega⟩
  clear hK hR hO hv hC1 hC2
  go_enter Tryz.func94, Tryz.ntmps94
  go_wp2_with fail
  go_loopg [7] (8 * b.length + 1) (fun κ _ wr => ∃ (v : Value) (q : Nat) (o : List UInt8), SyV w wr gs gr lim lo1 g1 lo2 g2 b lit dist v q o ∧ o.length ≤ lim ∧ 8 * b.length < q + κ ∧ q ≤ 8 * b.length ∧ Bx (R = symF lit dist b lim κ q o))
  case atStart => exact ⟨v0, p, out, hV0, hol, by omega, by omega, bx HR.out.symm⟩
  case round =>
    clear hV0 hol
    obtain ⟨v, q, o, hV, hol, hgk, hq, hgo⟩ := hrel
    obtain ⟨κ, rfl⟩ : ∃ κ, gk = κ + 1 := ⟨gk - 1, by omega⟩
    obtain ⟨c0, c1, c2, f1⟩ := hV.cells
    cases hN : nextP lit b q with
    | err k =>
      have HF : Bx (R = .err k) := bx (hgo.out.trans (symF_err hN))
      have HNX := bx hN
      have hk := nextP_errs hN
      clear hN
      go_wp2_with fail
      refine (pnext_any g1 lo1 gr lit b q wr hV.2.2.2.2.1 hV.2.2.1 (by omega)).mono ?_
      rintro e w1 ⟨hg3, hp⟩
      rw [HNX.out] at hp
      obtain rfl := hp
      have hB1 := hV.1.trans (gb_low (B := gr) hg3 (Nat.le_refl _) (by have := hV.2.2.1.lt; omega))
      rcases hk with rfl | rfl
      · go_wp2
        go_ret
        exact iPost_err HF.out hB1
      · go_wp2
        go_ret
        exact iPost_err HF.out hB1
    | ok x =>
      obtain ⟨s, p1⟩ := x
      have HGO := bx (hgo.out.trans (symF_ok hN))
      have hmore := nextP_more hN
      have HNX := bx hN
      clear hN hgo
      go_wp2_with fail
      refine (pnext_any g1 lo1 gr lit b q wr hV.2.2.2.2.1 hV.2.2.1 (by omega)).mono ?_
      rintro e w1 ⟨hg3, hp⟩
      rw [HNX.out] at hp
      obtain ⟨rfl, hR1⟩ := hp
      have hV1 := hV.next hg3 hR1 hgs hg1 hg2
      clear hV c0 c1 c2 f1 hg3 hR1
      obtain ⟨c0, c1, c2, f1⟩ := hV1.cells
      by_cases hs : s = 256
      · subst hs
        have HF : Bx (R = .ok (o, p1)) := bx (by rw [HGO.out, if_pos rfl])
        go_wp2
        go_ret
        exact iPost_ok HF.out hV1.1 (hV1.ist hgs hol hlim)
      · obtain ⟨Av, nv, cv, rfl, hnv, hrv⟩ := OwL.sl hV1.2.2.2.1
        have hO1 := hV1.2.2.2.1
        have hgz := hV1.2.1.lt
        rw [if_neg hs] at HGO
        have hol2 : nv ≤ lim := by rw [hnv.out]; exact hol
        by_cases hs2 : s < 256
        · rw [if_pos hs2] at HGO
          have hse : ((s : Int) == 256) = false := by rw [beq_eq_false_iff_ne]; omega
          by_cases hfull : lim ≤ o.length
          · have HF : Bx (R = .err 8) := bx (by rw [HGO.out, if_pos hfull])
            have hnl : (lim : Int) ≤ (nv : Int) := by rw [hnv.out]; omega
            clear hs HGO
            go_wp2_with fail
            go_quiet (fail)
            rename Nat => nq
            go_wp2
            go_ret
            exact iPost_err HF.out (below_drewN hV1.1 nq)
          · rw [if_neg hfull] at HGO
            have hnl : ¬ (lim : Int) ≤ (nv : Int) := by rw [hnv.out]; omega
            clear hs
            go_wp2_with fail
            go_quiet (fail)
            rename Nat => nq
            have hV2 := hV1.drewN nq
            have hO2 := hO1.drewN nq
            have c0' : (w1.drewN nq).cell? ⟨gs, 0, none⟩ = some (.pointer (some ⟨gr, 0, none⟩)) := c0
            have c1' : (w1.drewN nq).cell? ⟨gs, 1, none⟩ = some (.slice Av nv cv) := c1
            have f1' : (w1.drewN nq).frozen? ⟨gs, 1, none⟩ = false := f1
            have hgz2 : gs < (w1.drewN nq).heap.size := hgz
            clear c0 c1 c2 f1 hV1 hO1 hrv hgz
            generalize w1.drewN nq = w2 at hV2 hO2 c0' c1' f1' hgz2 ⊢
            have HL : Bx ((o.length + [UInt8.ofNat s].length) * 1 ≤ 140737488355328) := bx (by simp; omega)
            have HU : Bx (Value.int .u8 (s : Int) = bV (UInt8.ofNat s)) := bx (by unfold bV; rw [UInt8.toNat_ofNat']; congr 1; omega)
            have c1a : (w2.alloc (.cells #[.int .u8 (s : Int)] 5)).cell? ⟨gs, 1, none⟩ = some (.slice Av nv cv) := (World.cell?_alloc_lt _ _ _ hgz2).trans c1'
            have f1a : (w2.alloc (.cells #[.int .u8 (s : Int)] 5)).frozen? ⟨gs, 1, none⟩ = false := (Below.frozen (bl_alloc (Below.refl w2.heap.size w2) (Nat.le_refl _) _) hgz2).trans f1'
            go_wp2_with (at_builtin; refine wpList_appL _ bV_one rfl (.tmp 46) (.tmp 49) rfl byteTy (by decide) (gs + 1) _ o rfl (hO2.alloc _) _ _ 1 1 [UInt8.ofNat s] rfl rfl (RL.freshe _ _ HU.out _) HL.out (le_alloc0 hgz2 _) ?_; intro v5 w5 hO5 hg5 hv5 hb5; obtain ⟨A5, n5, c5, rfl, _, _⟩ := OwL.sl hO5; have e1 := (hb5.cell (p := ⟨gs, 1, none⟩) (Nat.lt_succ_self gs)).trans c1a; have e2 := (hb5.frozen (p := ⟨gs, 1, none⟩) (Nat.lt_succ_self gs)).trans f1a)
            have hP := hV2.push hO5 (.cells #[.int .u8 (s : Int)] 5) rfl ⟨rfl, rfl, rfl⟩ hg5 hv5 hgs hg1 hg2
            go_roundg κ
            case rel => exact ⟨_, p1, o ++ [UInt8.ofNat s], hP, by rw [List.length_append]; simp; omega, by omega, by omega, HGO⟩
            case measure => omega
        · rw [if_neg hs2] at HGO
          have hse : ((s : Int) == 256) = false := by rw [beq_eq_false_iff_ne]; omega
          by_cases hs3 : 285 < s
          · have HF : Bx (R = .err 6) := bx (by rw [HGO.out, if_pos hs3])
            clear hs HGO
            go_wp2_with fail
            go_ret
            exact iPost_err HF.out hV1.1
          · rw [if_neg hs3] at HGO
            have h257 : 257 ≤ s := by omega
            have hsp := spread_bd4 (s - 257) (by omega)
            obtain ⟨n0, hn0⟩ : ∃ n0, (spreadP (s - 257) 4).1 = n0 := ⟨_, rfl⟩
            obtain ⟨m0, hm0⟩ : ∃ m0, (spreadP (s - 257) 4).2 = m0 := ⟨_, rfl⟩
            obtain ⟨L, hL⟩ : ∃ L, (lenP s).1 = L := ⟨_, rfl⟩
            obtain ⟨M, hM⟩ : ∃ M, (lenP s).2 = M := ⟨_, rfl⟩
            have hLM : (s = 285 ∧ L = 258 ∧ M = 0) ∨ (s ≠ 285 ∧ L = n0 + 3 ∧ M = m0) := by
              by_cases e : s = 285
              · left; refine ⟨e, ?_, ?_⟩
                · rw [← hL, lenP, if_pos e]
                · rw [← hM, lenP, if_pos e]
              · right; refine ⟨e, ?_, ?_⟩
                · rw [← hL, lenP, if_neg e, ← hn0]
                · rw [← hM, lenP, if_neg e, ← hm0]
            rw [hn0, hm0] at hsp
            rw [hL, hM] at HGO
            have HN0 := bx hn0
            have HM0 := bx hm0
            have hLb : L ≤ 1000003 ∧ M ≤ 14 := by omega
            clear hn0 hm0 hL hM hs
            go_wp2_with fail
            refine (spread_any ((s : Int) - 257) (s - 257) 4 w1 (by omega) (by omega) (.inr rfl)).mono ?_
            rintro e w2 ⟨rfl, rfl⟩
            rw [HN0.out, HM0.out]
            go_upto_if 65 with (fail)
            go_cut [9, 10] (fun a c wx => a = .int .i64 (L : Int) ∧ c = .int .i64 (M : Int) ∧ w1 = wx)
            case first =>
              rcases hLM with ⟨rfl, rfl, rfl⟩ | ⟨hs5, rfl, rfl⟩
              · go_wp2
                go_meet
                case rel => exact ⟨rfl, rfl, rfl⟩
              · have hse5 : ((s : Int) == 285) = false := by rw [beq_eq_false_iff_ne]; omega
                go_wp2
                go_meet
                case rel => exact ⟨by go_num, rfl, rfl⟩
            case rest =>
              obtain ⟨rfl, rfl, rfl⟩ := hcut
              have HLM := bx hLM
              clear hLM HN0 HM0 hsp hse
              by_cases hq1 : p1 + M ≤ 8 * b.length
              · obtain ⟨k1, hk1⟩ : ∃ k1, takeN b p1 M = k1 := ⟨_, rfl⟩
                have hk1b : k1 < 65536 := by
                  rw [← hk1]
                  have h1 := takeN_lt b p1 M
                  have h2 : 2 ^ M ≤ 2 ^ 14 := Nat.pow_le_pow_right (by decide) hLb.2
                  omega
                have HT1 : Bx (tk b p1 M = .ok (k1, p1 + M)) := bx (by rw [tk, if_pos hq1, hk1])
                have HK1 := bx hk1
                have HGO2 : Bx (R = (nextP dist b (p1 + M)).bind fun z => if 29 < z.1 then .err 6 else (tk b z.2 (dstP z.1).2).bind fun u => if o.length < (dstP z.1).1 + u.1 then .err 7 else if lim < o.length + (L + k1) then .err 8 else symF lit dist b lim κ u.2 (copyN ((dstP z.1).1 + u.1) (L + k1) o)) := bx (by rw [HGO.out, HT1.out]; rfl)
                clear hk1 HGO
                go_wp2_with fail
                refine (btake_ok gr b p1 M w1 hV1.2.2.1 (by omega) hq1).mono ?_
                rintro e w2 ⟨rfl, hR2, hg2'⟩
                rw [HK1.out]
                have hV2 := hV1.next hg2' hR2 hgs hg1 hg2
                clear hV1 hO1 hrv c0 c1 c2 f1 hg2' hR2
                obtain ⟨c0, c1, c2, f1⟩ := hV2.cells
                cases hN : nextP dist b (p1 + M) with
                | err k =>
                  have HF : Bx (R = .err k) := bx (by rw [HGO2.out, hN]; rfl)
                  have HNX2 := bx hN
                  have hk := nextP_errs hN
                  clear hN HGO2
                  go_wp2_with fail
                  refine (pnext_any g2 lo2 gr dist b (p1 + M) w2 hV2.2.2.2.2.2.1 hV2.2.2.1 (by omega)).mono ?_
                  rintro e w3 ⟨hg3, hp⟩
                  rw [HNX2.out] at hp
                  obtain rfl := hp
                  have hB1 := hV2.1.trans (gb_low (B := gr) hg3 (Nat.le_refl _) (by have := hV2.2.2.1.lt; omega))
                  rcases hk with rfl | rfl
                  · go_wp2
                    go_ret
                    exact iPost_err HF.out hB1
                  · go_wp2
                    go_ret
                    exact iPost_err HF.out hB1
                | ok x =>
                  obtain ⟨t, p2⟩ := x
                  have hmore2 := nextP_more hN
                  have HNX2 := bx hN
                  have HGO3 : Bx (R = if 29 < t then .err 6 else (tk b p2 (dstP t).2).bind fun u => if o.length < (dstP t).1 + u.1 then .err 7 else if lim < o.length + (L + k1) then .err 8 else symF lit dist b lim κ u.2 (copyN ((dstP t).1 + u.1) (L + k1) o)) := bx (by rw [HGO2.out, hN]; rfl)
                  clear hN HGO2
                  go_wp2_with fail
                  refine (pnext_any g2 lo2 gr dist b (p1 + M) w2 hV2.2.2.2.2.2.1 hV2.2.2.1 (by omega)).mono ?_
                  rintro e w3 ⟨hg3, hp⟩
                  rw [HNX2.out] at hp
                  obtain ⟨rfl, hR3⟩ := hp
                  have hV3 := hV2.next hg3 hR3 hgs hg1 hg2
                  clear hV2 c0 c1 c2 f1 hg3 hR3
                  obtain ⟨c0, c1, c2, f1⟩ := hV3.cells
                  by_cases ht : 29 < t
                  · have HF : Bx (R = .err 6) := bx (by rw [HGO3.out, if_pos ht])
                    clear HGO3
                    go_wp2_with fail
                    go_ret
                    exact iPost_err HF.out hV3.1
                  · rw [if_neg ht] at HGO3
                    have hsp := spread_bd2 t (by omega)
                    obtain ⟨d0, hd0⟩ : ∃ d0, (spreadP t 2).1 = d0 := ⟨_, rfl⟩
                    obtain ⟨dm, hdm⟩ : ∃ dm, (spreadP t 2).2 = dm := ⟨_, rfl⟩
                    have hds : (dstP t).1 = d0 + 1 ∧ (dstP t).2 = dm := ⟨by rw [← hd0]; rfl, by rw [← hdm]; rfl⟩
                    rw [hds.1, hds.2] at HGO3
                    rw [hd0, hdm] at hsp
                    have HD0 := bx hd0
                    have HDM := bx hdm
                    clear hd0 hdm hds
                    go_wp2_with fail
                    refine (spread_any (t : Int) t 2 w3 rfl (by omega) (.inl rfl)).mono ?_
                    rintro e w4 ⟨rfl, rfl⟩
                    rw [HD0.out, HDM.out]
                    by_cases hq2 : p2 + dm ≤ 8 * b.length
                    · obtain ⟨k2, hk2⟩ : ∃ k2, takeN b p2 dm = k2 := ⟨_, rfl⟩
                      have hk2b : k2 < 65536 := by
                        rw [← hk2]
                        have h1 := takeN_lt b p2 dm
                        have h2 : 2 ^ dm ≤ 2 ^ 14 := Nat.pow_le_pow_right (by decide) hsp.2
                        omega
                      have HT2 : Bx (tk b p2 dm = .ok (k2, p2 + dm)) := bx (by rw [tk, if_pos hq2, hk2])
                      have HK2 := bx hk2
                      have HGO4 : Bx (R = if o.length < d0 + 1 + k2 then .err 7 else if lim < o.length + (L + k1) then .err 8 else symF lit dist b lim κ (p2 + dm) (copyN (d0 + 1 + k2) (L + k1) o)) := bx (by rw [HGO3.out, HT2.out]; rfl)
                      clear hk2 HGO3
                      go_wp2_with fail
                      refine (btake_ok gr b p2 dm w3 hV3.2.2.1 (by omega) hq2).mono ?_
                      rintro e w4 ⟨rfl, hR4, hg4⟩
                      rw [HK2.out]
                      have hV4 := hV3.next hg4 hR4 hgs hg1 hg2
                      clear hV3 c0 c1 c2 f1 hg4 hR4
                      obtain ⟨c0, c1, c2, f1⟩ := hV4.cells
                      by_cases hfar : o.length < d0 + 1 + k2
                      · have HF : Bx (R = .err 7) := bx (by rw [HGO4.out, if_pos hfar])
                        have hfi : (nv : Int) < (d0 : Int) + (1 + (k2 : Int)) := by rw [hnv.out]; omega
                        clear HGO4
                        go_wp2_with fail
                        go_ret
                        exact iPost_err HF.out hV4.1
                      · have hfi : ¬ (nv : Int) < (d0 : Int) + (1 + (k2 : Int)) := by rw [hnv.out]; omega
                        rw [if_neg hfar] at HGO4
                        have i1 : IntKind.i64.wrap ((lim : Int) - (nv : Int)) = (lim : Int) - (nv : Int) := IntWalk.i64_in _ (by omega)
                        by_cases hlong : lim < o.length + (L + k1)
                        · have HF : Bx (R = .err 8) := bx (by rw [HGO4.out, if_pos hlong])
                          have hli : (lim : Int) - (nv : Int) < (L : Int) + (k1 : Int) := by rw [hnv.out]; omega
                          clear HGO4
                          go_wp2_with fail
                          go_quiet (fail)
                          rename Nat => nq
                          go_wp2
                          go_ret
                          exact iPost_err HF.out (below_drewN hV4.1 nq)
                        · have hli : ¬ (lim : Int) - (nv : Int) < (L : Int) + (k1 : Int) := by rw [hnv.out]; omega
                          rw [if_neg hlong] at HGO4
                          go_wp2_with fail
                          go_quiet (fail)
                          rename Nat => nq
                          have hV5 := hV4.drewN nq
                          clear hV4 c0 c1 c2 f1 i1
                          generalize w4.drewN nq = w5 at hV5 ⊢
                          go_wp2_with fail
                          obtain ⟨N, hN⟩ : ∃ N, L + k1 = N := ⟨_, rfl⟩
                          obtain ⟨F, hF⟩ : ∃ F, d0 + 1 + k2 = F := ⟨_, rfl⟩
                          have hNb : N < 2000000 := by omega
                          have hFb : F ≤ o.length ∧ 1 ≤ F := by omega
                          have hsum : ((L : Int) + (k1 : Int)) = (N : Int) := by omega
                          have hFI : ((d0 : Int) + (1 + (k2 : Int))) = (F : Int) := by omega
                          rw [hN, hF] at HGO4
                          have hlongN : ¬ lim < o.length + N := by omega
                          rw [hsum, hFI]
                          have HGO5 : Bx (R = symF lit dist b lim κ (p2 + dm) (copyN F N o)) := bx HGO4.out
                          clear hN hF hsum hFI HLM HK1 HK2 HD0 HDM HT1 HT2 HGO4 hLb hk1b hk2b hsp hfi hli hfar hlong HNX HNX2
                          obtain ⟨wo, rfl⟩ : ∃ wo : World, wo = wr := ⟨_, rfl⟩
                          generalize decide ((s : Int) < 256) = q1
                          generalize decide (285 < (s : Int)) = q2
                          generalize decide (29 < (t : Int)) = q3
                          generalize decide ((nv : Int) < (F : Int)) = q4
                          generalize decide ((lim : Int) - (nv : Int) < (N : Int)) = q5
                          generalize (lim : Int) - (nv : Int) = q6
                          go_loopg [136] N (fun κ2 jj wr2 => ∃ (j : Nat) (v : Value) (o2 : List UInt8), κ2 = N - j ∧ j ≤ N ∧ jj = .int .i64 (j : Int) ∧ SyV w wr2 gs gr lim lo1 g1 lo2 g2 b lit dist v (p2 + dm) o2 ∧ Bx (o2.length = o.length + j) ∧ Bx (copyN F N o = copyN F (N - j) o2))
                          case atStart => exact ⟨0, _, o, by omega, by omega, rfl, hV5, bx rfl, bx rfl⟩
                          case round =>
                            clear hV5
                            obtain ⟨j, v2, o2, hgk2, hj, rfl, hV6, hol6, hcp⟩ := hrel
                            obtain ⟨A2, n2, cc2, rfl, hn2, hr2⟩ := OwL.sl hV6.2.2.2.1
                            obtain ⟨c0, c1, c2, f1⟩ := hV6.cells
                            have hO6 := hV6.2.2.2.1
                            have hgz6 := hV6.2.1.lt
                            have hn2o : n2 = o.length + j := by rw [hn2.out, hol6.out]
                            by_cases hjN : j < N
                            · obtain ⟨kx, hkx⟩ : ∃ kx, n2 - F = kx := ⟨_, rfl⟩
                              have hkl : kx < o2.length := by rw [hol6.out]; omega
                              obtain ⟨ad, x, rfl, _, hx, hcx⟩ := RL.byte hr2 (k := kx) hkl
                              have hx8 := x.toNat_lt
                              have i2 : IntKind.i64.wrap ((n2 : Int) - (F : Int)) = (kx : Int) := by rw [show (n2 : Int) - (F : Int) = (kx : Int) by omega]; exact IntWalk.i64_in _ (by omega)
                              have hkn : (kx : Int) < (n2 : Int) := by omega
                              have hk0 : (0 : Int) ≤ (kx : Int) := by omega
                              have HX : Bx (o2.getD (o2.length - F) 0 = x) := bx (by
                                rw [← hn2.out, hkx, List.getD_eq_getElem?_getD, hx.out]; rfl)
                              have HL : Bx ((o2.length + [x].length) * 1 ≤ 140737488355328) := bx (by rw [hol6.out]; simp; omega)
                              have HN2 := bx hn2o
                              have c1a : ((wr.alloc (.cells #[.int .u8 (x.toNat : Int)] 5)).drew).cell? ⟨gs, 1, none⟩ = some (.slice (some ad) n2 cc2) := (World.cell?_alloc_lt _ _ _ hgz6).trans c1
                              have f1a : ((wr.alloc (.cells #[.int .u8 (x.toNat : Int)] 5)).drew).frozen? ⟨gs, 1, none⟩ = false := (Below.frozen (bl_alloc (Below.refl wr.heap.size wr) (Nat.le_refl _) _) hgz6).trans f1
                              clear hn2o hkx hr2
                              go_wp2_with fail
                              go_region_law ((refine step_appL _ bV_one rfl (.tmp 142) (.tmp 156) rfl byteTy (by decide) (gs + 1) _ o2 rfl (OwL.drew (OwL.alloc hO6 _)) _ _ 1 1 [x] rfl rfl (RL.drew (RL.freshe _ _ rfl _)) HL.out (le_alloc hgz6 _) ?_; intro v5 w5 hO5 hg5 hv5 hb5; obtain ⟨A5, n5, c5, rfl, _, _⟩ := OwL.sl hO5; have e1 := (hb5.cell (p := ⟨gs, 1, none⟩) (Nat.lt_succ_self gs)).trans c1a; have e2 := (hb5.frozen (p := ⟨gs, 1, none⟩) (Nat.lt_succ_self gs)).trans f1a))
                              all_goals
                                have hP := hV6.push hO5 (.cells #[.int .u8 (x.toNat : Int)] 5) (wm := (wr.alloc (.cells #[.int .u8 (x.toNat : Int)] 5)).drew) rfl ⟨rfl, rfl, rfl⟩ hg5 hv5 hgs hg1 hg2
                                have hcp2 : Bx (copyN F N o = copyN F (N - (j + 1)) (o2 ++ [x])) := bx (by
                                  rw [hcp.out, show N - j = (N - (j + 1)) + 1 by omega, copyN_step _ _ _ _ HX.out])
                                have hol7 : Bx ((o2 ++ [x]).length = o.length + (j + 1)) := bx (by rw [List.length_append, hol6.out]; rfl)
                                clear c1a f1a e1 e2 hg5 hv5 hb5 hO5 c0 c1 c2 f1 hO6 hcx i2
                                go_wp2
                                go_roundg (N - (j + 1))
                                case rel => exact ⟨j + 1, _, o2 ++ [x], rfl, by omega, by go_num, hP, hol7, hcp2⟩
                                case measure => omega
                            · obtain rfl : j = N := by omega
                              have HF : Bx (R = symF lit dist b lim κ (p2 + dm) o2) := bx (by rw [HGO5.out, hcp.out, Nat.sub_self]; rfl)
                              go_wp2_with fail
                              go_roundg κ
                              case rel => exact ⟨_, p2 + dm, o2, hV6, by rw [hol6.out]; omega, by omega, by omega, HF⟩
                              case measure => omega
                    · have HF : Bx (R = .err 2) := bx (by rw [HGO3.out, tk, if_neg hq2]; rfl)
                      clear HGO3
                      go_wp2_with fail
                      refine (btake_short gr b p2 dm w3 hV3.2.2.1 (by omega) (by omega)).mono ?_
                      rintro e w4 ⟨rfl, hb4⟩
                      have hB1 := hV3.1.trans (hb4.mono (by have := hV3.2.2.1.lt; omega))
                      go_wp2_with fail
                      go_ret
                      exact iPost_err HF.out hB1
              · have HF : Bx (R = .err 2) := bx (by rw [HGO.out, tk, if_neg hq1]; rfl)
                clear HGO
                go_wp2_with fail
                refine (btake_short gr b p1 M w1 hV1.2.2.1 (by omega) (by omega)).mono ?_
                rintro e w2 ⟨rfl, hb2⟩
                have hB1 := hV1.1.trans (hb2.mono (by have := hV1.2.2.1.lt; omega))
                go_wp2_with fail
                go_ret
                exact iPost_err HF.out hB1
end Go.Proofs.YtlmcpkomjofcgaaGreatDoor
namespace Go.Proofs.YtlmcpkomjofcgaaGreatDoor
open Go.RowKit

def BlkPost (R : Rz ((Bool × List UInt8) × Nat)) (w : World) (gs gr : Nat) (b : List UInt8) (lim : Nat) (e : Ending) (w' : World) : Prop :=
  Below gr w w' ∧ match R with
    | .ok x => e = .returned (.tuple #[.bool x.1.1, .int .i64 0]) ∧ ISt w' gs gr w'.heap.size b x.2 lim x.1.2
    | .err k => (∃ t : Bool, e = .returned (.tuple #[.bool t, .int .i64 k])) ∧ k ≠ 0
theorem blkPost_err {R : Rz ((Bool × List UInt8) × Nat)} {w w' : World} {gs gr : Nat} {b : List UInt8} {lim : Nat} {k : Int} {t : Bool} (h : R = .err k) (hb : Below gr w w') (hk : k ≠ 0 := by decide) : BlkPost R w gs gr b lim (.returned (.tuple #[.bool t, .int .i64 k])) w' := by
  subst h; exact ⟨hb, ⟨t, rfl⟩, hk⟩
theorem blkPost_ok {R : Rz ((Bool × List UInt8) × Nat)} {w w' : World} {gs gr : Nat} {b out : List UInt8} {lim q : Nat} {t : Bool} (h : R = .ok ((t, out), q)) (hb : Below gr w w') (hS : ISt w' gs gr w'.heap.size b q lim out) : BlkPost R w gs gr b lim (.returned (.tuple #[.bool t, .int .i64 0])) w' := by
  subst h; exact ⟨hb, rfl, hS⟩
/-- What a block's body answers goes on as the block's answer. -/
theorem blk_of_body {R0 : Rz (List UInt8 × Nat)} {R : Rz ((Bool × List UInt8) × Nat)} {w w1 w' : World} {gs gr : Nat} {b : List UInt8} {lim : Nat} {t : Bool} {e : Ending} (h : R = R0.bind fun z => .ok ((t, z.1), z.2)) (hb : Below gr w w1) (hp : IPost R0 w1 gs gr b lim e w') :
    ∃ k : Int, e = .returned (.int .i64 k) ∧ BlkPost R w gs gr b lim (.returned (.tuple #[.bool t, .int .i64 k])) w' := by
  obtain ⟨h1, h2⟩ := hp
  cases R0 with
  | ok z => exact ⟨0, h2.1, blkPost_ok h (hb.trans h1) h2.2⟩
  | err k => exact ⟨k, h2.1, blkPost_err h (hb.trans h1) h2.2⟩
set_option maxRecDepth 100000 in
set_option maxHeartbeats 2000000 in
theorem iblock_any (gs gr B : Nat) (b : List UInt8) (p lim : Nat) (out : List UInt8) (w : World) (h : ISt w gs gr B b p lim out) (hBw : B ≤ w.heap.size) :
    Calls Tryz.prog 73 #[.pointer (some ⟨gs, 0, none⟩)] w (BlkPost (blkP lim out b p) w gs gr b lim) := by
  obtain ⟨R, hRR⟩ : ∃ R, blkP lim out b p = R := ⟨_, rfl⟩
  rw [hRR]
  have hlt := h.lt
  have h' := h
  have hB0 : Below gr w (w.alloc (.cells #[.int .i64 1, .int .i64 2] 3)) := bl_alloc (Below.refl gr w) (by omega) _
  have hS1 := h.step (bl_alloc (Below.refl w.heap.size w) (Nat.le_refl _) (.cells #[.int .i64 1, .int .i64 2] 3))
  obtain ⟨v1, hK1, hR1, hO1, hv1, hgs, hol, hlim⟩ := id hS1
  have c1 : (w.alloc (.cells #[.int .i64 1, .int .i64 2] 3)).cell? ⟨gs, 0, none⟩ = some (.pointer (some ⟨gr, 0, none⟩)) := (hK1.cell 0).trans rfl
  have hws : RN (w.alloc (.cells #[.int .i64 1, .int .i64 2] 3)) (w.alloc (.cells #[.int .i64 1, .int .i64 2] 3)).heap.size (some ⟨w.heap.size, 0, none⟩) [1, 2] := (RL.news w [1, 2] #[.int .i64 1, .int .i64 2] rfl _ _).top
  clear hK1 hO1 hv1 h'
  rcases blk_cases lim out b p with ⟨ht1, ht2⟩ | ⟨x, y, q, ht1, ht2, hx, hy, hq, hpq⟩
  · have HF : Bx (R = .err 2) := bx (by rw [← hRR, ht2])
    have HT := bx ht1
    clear hRR ht1 ht2
    go_enter Tryz.func73, Tryz.ntmps73
    go_wp2_with fail
    refine (itake_any gs gr (some ⟨w.heap.size, 0, none⟩) 2 2 [1, 2] b p _ c1 hgs (by simp; omega) hR1 rfl (by omega) (by simp) hws (fun ad e => by injection e with e; subst e; exact hlt.2)).mono ?_
    rintro e w1 ⟨hg1, hp⟩
    rw [HT.out] at hp
    obtain rfl := hp
    have HB := bx (hB0.trans (gb_under hg1 hR1.lt))
    clear c1 hg1
    go_wp2
    go_ret2
    exact blkPost_err HF.out HB.out
  · have HG : Bx (R = (bodyP lim out y b q).bind fun z => .ok ((decide (x = 1), z.1), z.2)) := bx (by rw [← hRR, ht2])
    have HT := bx ht1
    clear hRR ht1 ht2
    go_enter Tryz.func73, Tryz.ntmps73
    go_wp2_with fail
    refine (itake_any gs gr (some ⟨w.heap.size, 0, none⟩) 2 2 [1, 2] b p _ c1 hgs (by simp; omega) hR1 rfl (by omega) (by simp) hws (fun ad e => by injection e with e; subst e; exact hlt.2)).mono ?_
    rintro e w1 ⟨hg1, hp⟩
    rw [HT.out] at hp
    obtain ⟨A1, cc1, rfl, hA1, hR2⟩ := hp
    have hS2 := hS1.next hg1 hR2
    have hB2 := hB0.trans (gb_under hg1 hR1.lt)
    obtain ⟨ad, x0, rfl, hadb, hx0, hc0⟩ := RL.atl hA1 (k := 0) (by simp)
    obtain ⟨ad', y0, hA', _, hy0, hc1⟩ := RL.atl hA1 (k := 1) (by simp)
    injection hA' with hA'
    subst hA'
    obtain rfl : x = x0 := by have := hx0.out; injection this
    obtain rfl : y = y0 := by have := hy0.out; injection this
    have hc0' : w1.cell? ad = some (.int .i64 (x : Int)) := by rw [show ad.add 0 = ad by unfold Addr.add; simp] at hc0; exact hc0
    have hc1' : w1.cell? ⟨ad.block, ad.off + 1, none⟩ = some (.int .i64 (y : Int)) := by rw [add_pos] at hc1; exact hc1
    have hxb : ((x : Int) == 1) = decide (x = 1) := by
      rw [Bool.eq_iff_iff]; simp; omega
    clear hc0 hc1 hx0 hy0 hA1 hws hB0 hS1 hR1 hR2 c1 hg1
    by_cases hy0 : y = 0
    · subst hy0
      have HG2 : Bx (R = (storedP b lim q out).bind fun z => .ok ((decide (x = 1), z.1), z.2)) := bx (by rw [HG.out, bodyP, if_pos rfl])
      go_wp2_with fail
      refine (istored_any gs gr B b q lim out w1 hS2).mono ?_
      rintro e w2 hp
      obtain ⟨k, rfl, hP⟩ := blk_of_body HG2.out hB2 hp
      clear hc0' hc1' hp
      have HP := bx hP
      clear hP
      go_wp2
      go_ret2
      exact HP.out
    · have hy0b : ((y : Int) == 0) = false := by rw [beq_eq_false_iff_ne]; omega
      by_cases hy3 : y = 3
      · subst hy3
        have HF : Bx (R = .err 3) := bx (by rw [HG.out, bodyP, if_neg hy0, if_pos rfl]; rfl)
        have HB := bx hB2
        clear hy0 hy0b
        go_wp2
        go_ret2
        exact blkPost_err HF.out HB.out
      · have hy3b : ((y : Int) == 3) = false := by rw [beq_eq_false_iff_ne]; omega
        have HG2 : Bx (R = (if y = 2 then (toldP b q).bind fun u => codedP lim out u.1.1 u.1.2 b u.2 else codedP lim out fixLit fixDist b q).bind fun z => .ok ((decide (x = 1), z.1), z.2)) := bx (by rw [HG.out, bodyP, if_neg hy0, if_neg hy3])
        clear hy0 hy3 HG
        go_wp2_with fail
        refine (fixed_any w1).mono ?_
        rintro e w2 ⟨A2, A3, cc2, cc3, rfl, hL2, hD2, hb2⟩
        have hS3 := hS2.step hb2
        have hB3 := hB2.trans (hb2.mono (by have := hS2.lt; omega))
        have hc1'' : w2.cell? ⟨ad.block, ad.off + 1, none⟩ = some (.int .i64 (y : Int)) := (hb2.cell (p := ⟨ad.block, ad.off + 1, none⟩) hadb).trans hc1'
        clear hc0' hc1' hS2 hB2 hb2 hy0b hy3b
        go_upto_if 41 with (fail)
        go_cut [5, 7, 8, 42, 43, 44, 45, 46, 47, 48, 49, 50] (fun _ a c _ _ _ _ _ _ _ _ _ wx => ∃ A n cc A' n' cc' l d q', a = .slice A n cc ∧ c = .slice A' n' cc' ∧ l.length = n ∧ d.length = n' ∧ RN wx wx.heap.size A l ∧ RN wx wx.heap.size A' d ∧ ISt wx gs gr B b q' lim out ∧ Below gr w wx ∧
            (∀ t ∈ l, t ≤ 15) ∧ (∀ t ∈ d, t ≤ 15) ∧ n ≤ 288 ∧ n' ≤ 288 ∧ Bx (R = (codedP lim out l d b q').bind fun z => .ok ((decide (x = 1), z.1), z.2)))
        case first =>
          by_cases hy2 : y = 2
          · subst hy2
            rw [if_pos rfl] at HG2
            go_wp2_with fail
            refine (itold_any gs gr B b q lim out w2 hS3).mono ?_
            rintro e w3 ⟨hg3, hp⟩
            cases hT2 : toldP b q with
            | err k =>
              rw [hT2] at hp
              obtain ⟨rfl, hk0⟩ := hp
              have HF : Bx (R = .err k) := bx (by rw [HG2.out, hT2]; rfl)
              have HB := bx (hB3.trans (gb_under hg3 (by have := hS3.lt; omega)))
              have hkb : (k != 0) = true := by rw [bne_iff_ne]; exact hk0
              have HK0 := bx hk0
              clear hT2 hg3 hk0 hc1''
              go_wp2
              go_ret2
              exact blkPost_err HF.out HB.out HK0.out
            | ok u =>
              rw [hT2] at hp
              obtain ⟨⟨l, d⟩, q'⟩ := u
              obtain ⟨A, n, cc, A', n', cc', rfl, e1, e2, e3, e4, e5, e6, e7, e8, e9⟩ := hp
              have HG3 : Bx (R = (codedP lim out l d b q').bind fun z => .ok ((decide (x = 1), z.1), z.2)) := bx (by rw [HG2.out, hT2]; rfl)
              have HALL := bx (And.intro e1 (And.intro e2 (And.intro e3 (And.intro e4 (And.intro (hS3.next hg3 e5) (And.intro (hB3.trans (gb_under hg3 (by have := hS3.lt; omega))) (And.intro e6 (And.intro e7 (And.intro e8 (And.intro e9 HG3))))))))))
              clear hT2 hg3 e1 e2 e3 e4 e5 e6 e7 e8 e9 hc1''
              go_wp2
              go_meet
              case rel => exact ⟨A, n, cc, A', n', cc', l, d, q', rfl, rfl, HALL.out⟩
          · have hy2b : ((y : Int) == 2) = false := by rw [beq_eq_false_iff_ne]; omega
            rw [if_neg hy2] at HG2
            have HALL := bx (And.intro fixLit_len (And.intro (show fixDist.length = 32 from List.length_replicate ..) (And.intro hL2 (And.intro hD2 (And.intro hS3 (And.intro hB3 (And.intro (show ∀ t ∈ fixLit, t ≤ 15 by decide +kernel) (And.intro (show ∀ t ∈ fixDist, t ≤ 15 by decide +kernel) (And.intro (show 288 ≤ 288 from Nat.le_refl _) (And.intro (show 32 ≤ 288 by omega) HG2))))))))))
            clear hy2
            go_wp2
            go_meet
            case rel => exact ⟨A2, 288, cc2, A3, 32, cc3, fixLit, fixDist, q, rfl, rfl, HALL.out⟩
        case rest =>
          clear hc1'' hS3 hB3 hL2 hD2 HG2
          obtain ⟨A, n, cc, A', n', cc', l, d, q', rfl, rfl, hl, hd, hL, hD, hS, hB, h15, h16, hn1, hn2, hgo⟩ := hcut
          have hwcs := hB.size
          have H15 := bx h15
          have H16 := bx h16
          have HL := bx hl
          have HD := bx hd
          clear h15 h16 hl hd
          go_wp2_with fail
          refine (pnew_any A n cc l false wc HL.out hn1 H15.out hL).mono ?_
          rintro e w4 ⟨hb4, hp⟩
          have hS4 := hS.step hb4
          have hB4 := hB.trans (hb4.mono (by have := hS.lt; omega))
          have hD4 := hD.step hb4
          have hwc := hb4.size
          have hSl := hS.lt
          cases hcb : codeB l false with
          | false =>
            have HF : Bx (R = .err 5) := bx (by rw [hgo.out, codedP, if_pos hcb]; rfl)
            rw [hcb, if_neg (by simp)] at hp
            obtain rfl := hp
            have HB := bx hB4
            clear hcb
            go_wp2
            go_ret2
            exact blkPost_err HF.out HB.out
          | true =>
            rw [hcb, if_pos rfl] at hp
            obtain ⟨g1, rfl, hC1⟩ := hp
            have HG3 : Bx (R = (if codeB d true = false then .err 5 else symP l d lim out b q').bind fun z => .ok ((decide (x = 1), z.1), z.2)) := bx (by rw [hgo.out, codedP, if_neg (by rw [hcb]; simp)])
            have hg1l := hC1.lt
            clear hcb hgo hb4 hS hB hD hL
            go_wp2_with fail
            refine (pnew_any A' n' cc' d true w4 HD.out hn2 H16.out hD4).mono ?_
            rintro e w5 ⟨hb5, hp⟩
            have hS5 := hS4.step hb5
            have hB5 := hB4.trans (hb5.mono (by have := hS4.lt; omega))
            have hC15 := hC1.below hb5 hg1l.2
            cases hcb : codeB d true with
            | false =>
              have HF : Bx (R = .err 5) := bx (by rw [HG3.out, if_pos hcb]; rfl)
              rw [hcb, if_neg (by simp)] at hp
              obtain rfl := hp
              have HB := bx hB5
              clear hcb
              go_wp2
              go_ret2
              exact blkPost_err HF.out HB.out
            | true =>
              rw [hcb, if_pos rfl] at hp
              obtain ⟨g2, rfl, hC2⟩ := hp
              have HG4 : Bx (R = (symP l d lim out b q').bind fun z => .ok ((decide (x = 1), z.1), z.2)) := bx (by rw [HG3.out, if_neg (by rw [hcb]; simp)])
              clear hcb HG3 hb5
              go_wp2_with fail
              refine (isymbols_any gs gr wc.heap.size wc.heap.size g1 w4.heap.size g2 b l d q' lim out w5 (hS5.more (by omega)) hC15 hC2 (Nat.le_refl _) hwc (by omega) (by omega)).mono ?_
              rintro e w6 hp
              obtain ⟨k, rfl, hP⟩ := blk_of_body HG4.out hB5 hp
              clear hp
              have HP := bx hP
              clear hP
              go_wp2
              go_ret2
              exact HP.out
end Go.Proofs.YtlmcpkomjofcgaaGreatDoor
namespace Go.Proofs.YtlmcpkomjofcgaaGreatDoor
open Go.RowKit

/-- What unpacking answers: bytes in memory that was made by the call, and how many were taken; or an error. -/
def AllPost (R : Rz (List UInt8 × Nat)) (w : World) (e : Ending) (w' : World) : Prop :=
  Below w.heap.size w w' ∧ match R with
    | .ok x => ∃ v, e = .returned (.tuple #[v, .int .i64 (x.2 : Int), .int .i64 0]) ∧ OwB w' w.heap.size 5 v x.1 ∧ x.1.length ≤ 32768
    | .err k => e = .returned (.tuple #[.slice none 0 0, .int .i64 0, .int .i64 k]) ∧ k ≠ 0
theorem allPost_err {R : Rz (List UInt8 × Nat)} {w w' : World} {k : Int} (h : R = .err k) (hb : Below w.heap.size w w') (hk : k ≠ 0 := by decide) : AllPost R w (.returned (.tuple #[.slice none 0 0, .int .i64 0, .int .i64 k])) w' := by
  subst h; exact ⟨hb, rfl, hk⟩
theorem allPost_ok {R : Rz (List UInt8 × Nat)} {w w' : World} {v : Value} {l : List UInt8} {n : Nat} (h : R = .ok (l, n)) (hb : Below w.heap.size w w') (ho : OwB w' w.heap.size 5 v l) (hl : l.length ≤ 32768) : AllPost R w (.returned (.tuple #[v, .int .i64 (n : Int), .int .i64 0])) w' := by
  subst h; exact ⟨hb, v, rfl, ho, hl⟩
theorem BRd.drewN {w : World} {g : Nat} {b : List UInt8} {p : Nat} (h : BRd w g b p) (n : Nat) : BRd (w.drewN n) g b p := h.keep (fun _ _ => rfl)
set_option maxRecDepth 100000 in
set_option maxHeartbeats 2000000 in
theorem iall_any (A : Option Addr) (n c : Nat) (b : List UInt8) (lim : Int) (w : World) (hn : b.length = n) (hz : n ≤ 1000000000) (hr : RB w w.heap.size A b) (hlim1 : -9223372036854775808 ≤ lim) (hlim2 : lim ≤ 9223372036854775807) :
    Calls Tryz.prog 51 #[.slice A n c, .int .i64 lim] w (AllPost (inflP b lim) w) := by
  obtain ⟨R, hRR⟩ : ∃ R, inflP b lim = R := ⟨_, rfl⟩
  rw [hRR]
  by_cases hbad : lim < 0 ∨ 32768 < lim
  · have HF : Bx (R = .err 1) := bx (by rw [← hRR, inflP, if_pos hbad])
    clear hRR
    rcases (by omega : lim < 0 ∨ 0 ≤ lim) with hb1 | hb1
    · go_enter Tryz.func51, Tryz.ntmps51
      go_wp2
      go_ret3
      exact allPost_err HF.out (Below.refl _ _)
    · have hb2 : 32768 < lim := by omega
      go_enter Tryz.func51, Tryz.ntmps51
      go_wp2
      go_ret3
      exact allPost_err HF.out (Below.refl _ _)
  · obtain ⟨L, rfl⟩ : ∃ L : Nat, lim = (L : Int) := ⟨lim.toNat, by omega⟩
    have hL : L ≤ 32768 := by omega
    have HG : Bx (R = (allB L b (8 * b.length + 1) 0 []).bind fun x => .ok (x.1, (x.2 + 7) / 8)) := bx (by rw [← hRR, inflP, if_neg hbad, Int.toNat_natCast]; rfl)
    clear hRR hbad hlim1 hlim2
    go_enter Tryz.func51, Tryz.ntmps51
    go_wp2_with fail
    refine (bnew_any A n c b w hn hz hr).mono ?_
    rintro e w1 ⟨gr, rfl, hgr, hR1, hb1⟩
    obtain ⟨gs, hgs⟩ : ∃ gs, w1.heap.size = gs := ⟨_, rfl⟩
    have hgrs : gr < gs := by have := hR1.lt; omega
    have hS2 : ISt (w1.alloc (.cells #[.pointer (some ⟨gr, 0, none⟩), .slice none 0 0, .int .i64 (L : Int)] 144)) gs gr gs b 0 L [] :=
      ⟨.slice none 0 0, Bk.newAt _ _ _ hgs, hR1.keep (fun i hi => Below.heap_alloc _ _ i (by omega)), OwL.nil, fun k hk => (by cases hk), hgrs, by simp, hL⟩
    have hB2 : Below w.heap.size w (w1.alloc (.cells #[.pointer (some ⟨gr, 0, none⟩), .slice none 0 0, .int .i64 (L : Int)] 144)) := hb1.alloc hb1.size _
    have hz2 : gs ≤ (w1.alloc (.cells #[.pointer (some ⟨gr, 0, none⟩), .slice none 0 0, .int .i64 (L : Int)] 144)).heap.size := by simp [hgs]
    have HS2 := bx hS2
    have HB2 := bx hB2
    have HZ2 := bx hz2
    clear hS2 hB2 hz2 hb1 hR1
    go_wp2_with fail
    have hS2 := HS2.out
    have hB2 := HB2.out
    have hz2 := HZ2.out
    clear HS2 HB2 HZ2
    generalize w1.alloc (.cells #[.pointer (some ⟨gr, 0, none⟩), .slice none 0 0, .int .i64 (L : Int)] 144) = w2 at hS2 hB2 hz2 ⊢
    have hgw : w.heap.size ≤ gr := hgr
    go_loopg [] (8 * b.length + 1) (fun κ wr => ∃ (q B : Nat) (o : List UInt8), ISt wr gs gr B b q L o ∧ B ≤ wr.heap.size ∧ Below w.heap.size w wr ∧ 8 * b.length < q + κ ∧ q ≤ 8 * b.length ∧ Bx (R = (allB L b κ q o).bind fun x => .ok (x.1, (x.2 + 7) / 8)))
    case atStart => exact ⟨0, gs, [], hS2, hz2, hB2, by omega, by omega, HG⟩
    case round =>
      clear hS2 hB2 hz2 HG
      obtain ⟨q, B, o, hS, hBw, hB, hgk, hq, hgo⟩ := hrel
      obtain ⟨κ, rfl⟩ : ∃ κ, gk = κ + 1 := ⟨gk - 1, by omega⟩
      have hble : b.length ≤ 1000000000 := by omega
      cases hbk : blkP L o b q with
      | err k =>
        have HF : Bx (R = .err k) := bx (by rw [hgo.out, allB, hbk]; rfl)
        have HBK := bx hbk
        clear hbk
        go_wp2_with fail
        refine (iblock_any gs gr B b q L o wr hS hBw).mono ?_
        rintro e w3 ⟨hb3, hp⟩
        rw [HBK.out] at hp
        obtain ⟨⟨t, rfl⟩, hk0⟩ := hp
        have HB := bx (hB.trans (hb3.mono hgw))
        have hkb : (k != 0) = true := by rw [bne_iff_ne]; exact hk0
        have HK0 := bx hk0
        clear hk0 hb3
        go_wp2
        go_ret3
        exact allPost_err HF.out HB.out HK0.out
      | ok x =>
        obtain ⟨⟨t, o2⟩, q2⟩ := x
        have hmore := blk_more hbk
        have HG2 : Bx (R = (if t = true then Rz.ok (o2, q2) else allB L b κ q2 o2).bind fun x => .ok (x.1, (x.2 + 7) / 8)) := bx (by rw [hgo.out, allB, hbk]; rfl)
        have HBK := bx hbk
        clear hbk
        go_wp2_with fail
        refine (iblock_any gs gr B b q L o wr hS hBw).mono ?_
        rintro e w3 ⟨hb3, hp⟩
        rw [HBK.out] at hp
        obtain ⟨rfl, hS3⟩ := hp
        have hB3 := hB.trans (hb3.mono hgw)
        clear hb3 hS hB hgo
        cases t with
        | false =>
          have HG3 : Bx (R = (allB L b κ q2 o2).bind fun x => .ok (x.1, (x.2 + 7) / 8)) := bx (by rw [HG2.out, if_neg (by simp)])
          have hq2 : q + 3 ≤ q2 ∧ q2 ≤ 8 * b.length := hmore
          go_wp2_with fail
          go_roundg κ
          case rel => exact ⟨q2, _, o2, hS3, Nat.le_refl _, hB3, by omega, hq2.2, HG3⟩
          case measure => omega
        | true =>
          have HF : Bx (R = .ok (o2, (q2 + 7) / 8)) := bx (by rw [HG2.out, if_pos rfl]; rfl)
          obtain ⟨v, hK, hR3, hO, hv, hgs3, hol, hlim⟩ := hS3
          obtain ⟨Av, nv, cv, rfl, hnv, hrv⟩ := OwL.sl hO
          have c0 : w3.cell? ⟨gs, 0, none⟩ = some (.pointer (some ⟨gr, 0, none⟩)) := (hK.cell 0).trans rfl
          have c1 : w3.cell? ⟨gs, 1, none⟩ = some (.slice Av nv cv) := (hK.cell 1).trans rfl
          have hq2 : q + 3 ≤ q2 ∧ q2 ≤ 8 * b.length := hmore
          have i1 : IntKind.i64.wrap ((q2 : Int) + 7) = (q2 : Int) + 7 := IntWalk.i64_in _ (by omega)
          have i2 : (0 : Int) ≤ (q2 : Int) + 7 := by omega
          have HQ := bx hq2
          have HM := bx hmore
          clear hK hrv hmore hq2
          go_wp2_with fail
          go_quiet ((go_at_call 74; exact quiet_eq (bat_any gr b q2 _ (BRd.drewN hR3 _))))
          rename Nat => nq
          clear i1 i2
          go_wp2
          go_ret3
          have hOb : OwB (w3.drewN nq) w.heap.size 5 (.slice Av nv cv) o2 := (OwL.low hO (by omega)).drewN nq
          exact allPost_ok HF.out (below_drewN hB3 nq) hOb (by omega)
end Go.Proofs.YtlmcpkomjofcgaaGreatDoor
namespace Go.Proofs.YtlmcpkomjofcgaaGreatDoor
open Go.RowKit
theorem allOk {R : Rz (List UInt8 × Nat)} {w w' : World} {e : Ending} {l : List UInt8} {n : Nat} (h : AllPost R w e w') (hR : R = .ok (l, n)) : ∃ A k c, e = .returned (.tuple #[.slice A k c, .int .i64 (n : Int), .int .i64 0]) ∧ Bx (k = l.length) ∧ RB w' w'.heap.size A l ∧ k ≤ c ∧ Below w.heap.size w w' ∧ (∀ ad, A = some ad → w.heap.size ≤ ad.block) ∧ OwB w' w.heap.size 5 (.slice A k c) l ∧ l.length ≤ 32768 := by
  subst hR
  obtain ⟨hb, v, rfl, hO, hl⟩ := h
  obtain ⟨A, c, rfl, hr, hc, _⟩ := OwL.rd hO
  exact ⟨A, _, c, rfl, ⟨rfl⟩, hr, hc, hb, fun ad e => by subst e; exact (World.ownsRow.lt hO ad.block rfl).1, hO, hl⟩
theorem allErr {R : Rz (List UInt8 × Nat)} {w w' : World} {e : Ending} {k : Int} (h : AllPost R w e w') (hR : R = .err k) : e = .returned (.tuple #[.slice none 0 0, .int .i64 0, .int .i64 k]) ∧ Below w.heap.size w w' ∧ k ≠ 0 := by
  subst hR
  exact ⟨h.2.1, h.1, h.2.2⟩
theorem cellB {W w1 : World} {p : Addr} {v : Value} (hb : Below W.heap.size W w1) (h : W.cell? p = some v) : w1.cell? p = some v := (hb.cell (World.block_lt_of_cell? _ _ h)).trans h
end Go.Proofs.YtlmcpkomjofcgaaGreatDoor
