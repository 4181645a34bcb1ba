/- Contracts of the document's files: Read, Fail. -/
import Derived.Test.YtlmcpkomjofcgaaGreatDoorQvDfC
import Derived.BigQuiet
namespace Go.Proofs.YtlmcpkomjofcgaaGreatDoor
open Go.RowKit
section
variable {w w' : World} {M N : Nat → Prop} {bx : Nat} {F : FS} {vL vF : Value} {L : List FEl} {fl : List Nat}
/-- One read more. -/
theorem DfB.next (h : DfB w M N bx F vL vF L fl) (hr : F.reads < 1000000) : DfB (w.setCell ⟨bx, 1, none⟩ (.int .i64 ((F.reads : Int) + 1))) M N bx (nextFS F) vL vF L fl ∧ Ch w (w.setCell ⟨bx, 1, none⟩ (.int .i64 ((F.reads : Int) + 1))) (OneK bx) := by
  have hh : ∀ k, k ≠ bx → (w.setCell ⟨bx, 1, none⟩ (.int .i64 ((F.reads : Int) + 1))).heap[k]? = w.heap[k]? := fun k hk => Below.heap_setCell w ⟨bx, 1, none⟩ _ k hk
  have hc : Ch w (w.setCell ⟨bx, 1, none⟩ (.int .i64 ((F.reads : Int) + 1))) (OneK bx) := Ch.setCell (S := OneK bx) (p := ⟨bx, 1, none⟩) (Ch.refl w) (fun _ => rfl) _
  have hG : Gr w (w.setCell ⟨bx, 1, none⟩ (.int .i64 ((F.reads : Int) + 1))) M M (OneK bx) := Gr.of_ch hc (fun k e => by rw [show k = bx from e]; exact h.sub _ h.own) h.all
  refine ⟨⟨?_, h.lst.same10 (fun k hk => hh k (h.nL k hk).2), h.fls.own_same (fun k hk => hh k (h.nF k hk).2), h.nL, h.nF, h.ne, h.cnt, h.nf, h.rows, fun x hx => ⟨hG.std (h.std x hx).1, (h.std x hx).2⟩, h.fails, h.own, h.sub, hG.all, h.small.1, hr, h.small.2.2⟩, hc⟩
  have := h.box.set 1 (.int .i64 ((F.reads : Int) + 1))
  have e : (((nextFS F).reads : Nat) : Int) = (F.reads : Int) + 1 := by show ((F.reads + 1 : Nat) : Int) = _; omega
  rw [e]
  simpa using this
end
set_option maxRecDepth 100000 in
set_option maxHeartbeats 8000000 in
theorem r8read_any (s : ByteArray) (a n : Nat) (w : World) (M N : Nat → Prop) (bx0 : Nat) (F : FS) (h : DfM w M N bx0 F) (hrd : F.reads < 1000000) (ha : a ≤ 100000000000) (hn : n ≤ 100000000000) :
    Calls Tryz.prog 44 #[.pointer (some ⟨bx0, 0, none⟩), .string s, .int .i64 (a : Int), .int .i64 (n : Int)] w fun e w' => RdPost (readFS F s.data.toList a n).1 w.heap.size e w' ∧ DfM w' M N bx0 (readFS F s.data.toList a n).2 ∧ Ch w w' (OneK bx0) := by
  have HH := bx h
  obtain ⟨P, hP⟩ : ∃ P, readFS F s.data.toList a n = P := ⟨_, rfl⟩
  rw [hP]
  unfold readFS at hP
  obtain ⟨vL, vF, L, fl, hd⟩ := h
  have HD := bx hd
  have HFD := bx (r8find_any s w M N bx0 F vL vF L fl hd)
  obtain ⟨AL, cL, hvL, hrL, hcL⟩ := hd.list
  have ha0 : ¬ (a : Int) < 0 := by omega
  have hn0 : ¬ (n : Int) < 0 := by omega
  cases hp : fpos L s.data.toList with
  | none =>
    rw [hd.rows_none hp] at hP
    rw [hp] at HFD
    have HP := bx hP
    clear hd hvL hrL hcL hp hP
    go_enter Tryz.func44, Tryz.ntmps44
    go_wp2_with fail
    refine HFD.out.mono ?_
    rintro e w1 ⟨rfl, hw⟩
    obtain rfl : w = w1 := hw.symm
    rw [show posI none = -1 from rfl]
    go_wp2
    go_ret2
    rw [← HP.out]
    exact ⟨RdPost.bad rfl (by decide), HH.out, Ch.refl _⟩
  | some k =>
    obtain ⟨x, hx, he, hrw⟩ := hd.rows_some hp
    rw [hrw] at hP
    rw [hp] at HFD
    dsimp only at hP
    obtain ⟨hsx, hx6⟩ := hd.std x (List.mem_of_getElem? hx)
    obtain ⟨nL, hnL⟩ : ∃ nL, L.length = nL := ⟨_, rfl⟩
    have hkl : k < nL := by have := (List.getElem?_eq_some_iff.1 hx).1; omega
    have hn16 : nL ≤ 16 := by rw [← hnL, hd.cnt]; exact hd.small.1
    obtain ⟨adL, y, hA, hadl, hy, _, hcs⟩ := hrL.at_ fiCels (k := k) (by rw [hnL]; exact hkl)
    subst hA
    have hxy : y = x := by have := hy.out; rw [hx] at this; injection this with this; exact this.symm
    subst hxy
    obtain ⟨xA, xn, xc, xl, hxe⟩ : ∃ xA xn xc xl, y.2 = ⟨xA, xn, xc, xl⟩ := ⟨_, _, _, _, rfl⟩
    have k1 := hcs 0 (.slice xA xn xc) (by unfold fiC slV; rw [hxe]; rfl)
    rw [Nat.zero_add] at k1
    rw [hxe] at hP hsx hx6
    rw [hnL] at hvL
    have c0 : w.cell? ⟨bx0, 0, none⟩ = some (.slice (some adL) nL cL) := (hd.box.cell 0).trans (by rw [← hvL]; rfl)
    have c1 : w.cell? ⟨bx0, 1, none⟩ = some (.int .i64 (F.reads : Int)) := (hd.box.cell 1).trans rfl
    have z1 := hd.box.frz 1
    have hlt := hd.lt
    have HLX : Bx (xl.length = xn) := bx hsx.1
    have hxc : xn ≤ xc := hsx.2.1
    have hxm : (xc : Int) ≤ 9223372036854775807 := hsx.2.2.1
    have hx7 : xn ≤ 65536 := hx6
    have hkI : (k : Int) < (nL : Int) := by omega
    have hk0 : (0 : Int) ≤ (k : Int) := by omega
    have hsm := hd.small
    have hrm : (F.reads : Int) ≤ 1000000 := by omega
    dsimp only at hP
    by_cases hsh : xl.length < a ∨ xl.length - a < n
    · rw [if_pos hsh] at hP
      have HP := bx hP
      have hsh2 : xn < a ∨ xn - a < n := by rw [← HLX.out]; exact hsh
      by_cases h1 : xn < a
      · have h1I : (xn : Int) < (a : Int) := by omega
        clear hd hvL hrL hcL hp hP hsh hsh2 h1 hx hy hcs hsx hx6 he hrw hxe hnL hadl hsm
        go_enter Tryz.func44, Tryz.ntmps44
        go_wp2_with fail
        refine HFD.out.mono ?_
        rintro e w1 ⟨rfl, hw⟩
        obtain rfl : w = w1 := hw.symm
        rw [show posI (some k) = (k : Int) from rfl]
        go_wp2
        go_ret2
        rw [← HP.out]
        exact ⟨RdPost.bad rfl (by decide), HH.out, Ch.refl _⟩
      · have h1I : ¬ (xn : Int) < (a : Int) := by omega
        have h2I : (xn : Int) - (a : Int) < (n : Int) := by omega
        clear hd hvL hrL hcL hp hP hsh hsh2 h1 hx hy hcs hsx hx6 he hrw hxe hnL hadl hsm
        go_enter Tryz.func44, Tryz.ntmps44
        go_wp2_with fail
        refine HFD.out.mono ?_
        rintro e w1 ⟨rfl, hw⟩
        obtain rfl : w = w1 := hw.symm
        rw [show posI (some k) = (k : Int) from rfl]
        go_wp2
        go_ret2
        rw [← HP.out]
        exact ⟨RdPost.bad rfl (by decide), HH.out, Ch.refl _⟩
    rw [if_neg hsh] at hP
    have h1I : ¬ (xn : Int) < (a : Int) := by have := HLX.out; omega
    have h2I : ¬ (xn : Int) - (a : Int) < (n : Int) := by have := HLX.out; omega
    have HAN : Bx (a + n ≤ xl.length) := bx (by omega)
    obtain ⟨hd1, hch1⟩ := hd.next hrd
    have HD1 := bx hd1
    have HCH1 := bx hch1
    have hne : adL.block ≠ bx0 := fun e => by
      have h9 := hd.nL bx0 (by rw [hvL]; show some adL.block = some bx0; rw [e])
      exact h9.2 rfl
    have k1' : (w.setCell ⟨bx0, 1, none⟩ (.int .i64 ((F.reads : Int) + 1))).cell? ⟨(adL.add (k * 2)).block, (adL.add (k * 2)).off + 1, none⟩ = some (.slice xA xn xc) := (cell_same (p := ⟨(adL.add (k * 2)).block, (adL.add (k * 2)).off + 1, none⟩) (by rw [blk_add]; exact Below.heap_setCell w ⟨bx0, 1, none⟩ _ _ hne)).trans k1
    have HK1 := bx k1'
    have HRX : Bx (RB (w.setCell ⟨bx0, 1, none⟩ (.int .i64 ((F.reads : Int) + 1))) (w.setCell ⟨bx0, 1, none⟩ (.int .i64 ((F.reads : Int) + 1))).heap.size xA xl) := bx (by
      have h9 := (hd1.std y (List.mem_of_getElem? hx)).1
      rw [hxe] at h9
      exact (SlX.slB h9 (fun _ hk => hk.1)).2.2.2)
    have HADL := bx hadl
    have HSZ1 : Bx (w.heap.size ≤ (w.setCell ⟨bx0, 1, none⟩ (.int .i64 ((F.reads : Int) + 1))).heap.size) := bx hch1.size
    obtain ⟨AF, nF, cF, hvF, hnF, hrF⟩ := OwL.sl hd.fls
    have HVL : Bx (vL = .slice (some adL) nL cL) := bx hvL
    have HVF := bx hvF
    have HNF := bx hnF.out
    have hf16 : (nF : Int) ≤ 1000000 := by rw [hnF.out, hd.nf]; have := hsm.2.2; omega
    have HRF : Bx (RL intN (w.setCell ⟨bx0, 1, none⟩ (.int .i64 ((F.reads : Int) + 1))) (w.setCell ⟨bx0, 1, none⟩ (.int .i64 ((F.reads : Int) + 1))).heap.size AF fl) := bx (by have h9 := hd1.fls; rw [hvF] at h9; exact OwL.rl h9)
    have HFL : Bx (∀ q, F.fails q = decide (q ∈ fl)) := bx hd.fails
    have HP := bx hP
    clear hd hvL hrL hcL hp hP hsh hx hy hcs hsx hx6 he hrw hxe hnL hadl hsm hd1 hch1 hne k1' hvF hnF hrF
    go_enter Tryz.func44, Tryz.ntmps44
    go_wp2_with fail
    refine HFD.out.mono ?_
    rintro e w1 ⟨rfl, hw⟩
    obtain rfl : w = w1 := hw.symm
    rw [show posI (some k) = (k : Int) from rfl]
    go_wp2_with fail
    clear c0 c1 z1 k1
    obtain ⟨w1, hw1⟩ : ∃ w1, w.setCell ⟨bx0, 1, none⟩ (.int .i64 ((F.reads : Int) + 1)) = w1 := ⟨_, rfl⟩
    rw [hw1] at HD1 HCH1 HK1 HRX HSZ1 HRF ⊢
    clear hw1
    have c0 : w1.cell? ⟨bx0, 0, none⟩ = some (.slice (some adL) nL cL) := (HD1.out.box.cell 0).trans (by rw [← HVL.out]; rfl)
    have c1 : w1.cell? ⟨bx0, 1, none⟩ = some (.int .i64 ((F.reads : Int) + 1)) := (HD1.out.box.cell 1).trans (by show some (Value.int .i64 ((F.reads + 1 : Nat) : Int)) = _; rw [Int.natCast_add]; rfl)
    have c2 : w1.cell? ⟨bx0, 2, none⟩ = some (.slice AF nF cF) := (HD1.out.box.cell 2).trans (by rw [← HVF.out]; rfl)
    have hl1 : bx0 < w1.heap.size := HD1.out.lt
    have k1 := HK1.out
    go_loopw [11] (fun iv wx => ∃ j : Nat, j ≤ nF ∧ iv = .int .i64 (j : Int) ∧ Bx ((∃ q, wx = w1.drewN q) ∧ ∀ i y, i < j → fl[i]? = some y → y ≠ F.reads + 1)) (fun iv _ => nF - (intOf iv).toNat)
    case atStart => exact ⟨0, by omega, rfl, bx ⟨⟨0, rfl⟩, fun i y hi => by omega⟩⟩
    case round =>
      obtain ⟨j, hj, rfl, HST⟩ := hrel
      obtain ⟨⟨q, rfl⟩, _⟩ := HST.out
      by_cases hjn : j < nF
      · have hjI : (j : Int) < (nF : Int) := by omega
        have hj0 : (0 : Int) ≤ (j : Int) := by omega
        obtain ⟨adF, z, rfl, hlz, hz, hcz⟩ := HRF.out.atl (k := j) (by rw [← HNF.out]; exact hjn)
        replace hcz : w1.cell? (adF.add j) = some (.int .i64 (z : Int)) := hcz
        have HZ := bx hz.out
        have HLZ := bx hlz
        clear hz hlz
        by_cases hzr : z = F.reads + 1
        · have hzI : ((z : Int) == (F.reads : Int) + 1) = true := by rw [beq_iff_eq, hzr]; omega
          have HPP : Bx (P = (.err 20, nextFS F)) := bx (by
            rw [← HP.out, if_pos]
            rw [HFL.out, decide_eq_true_iff, ← hzr]
            exact List.mem_of_getElem? HZ.out)
          clear hzr
          go_wp2_with fail
          go_quiet (fail)
          go_wp2
          go_ret2
          rw [HPP.out]
          exact ⟨RdPost.bad rfl (by decide), ⟨_, _, _, _, HD1.out.below (below_drewN (below_drewN (Below.refl _ _) _) _)⟩, (HCH1.out.drewN _).drewN _⟩
        · have hzI : ((z : Int) == (F.reads : Int) + 1) = false := by rw [beq_eq_false_iff_ne]; omega
          have HN : Bx (∀ i y, i < j + 1 → fl[i]? = some y → y ≠ F.reads + 1) := bx (fun i y hi hy => by
            by_cases e : i = j
            · subst e
              rw [HZ.out] at hy
              injection hy with hy
              rw [← hy]; exact hzr
            · exact HST.out.2 i y (by omega) hy)
          clear hzr
          go_wp2_with fail
          go_quiet (fail)
          go_wp2
          go_roundw
          case rel => exact ⟨j + 1, by omega, by go_num, bx ⟨⟨_, rfl⟩, HN.out⟩⟩
          case measure => simp [intOf]; omega
      · obtain rfl : j = nF := by omega
        have hjI : ¬ (j : Int) < (j : Int) := by omega
        have HPP : Bx (P = (.ok ((xl.drop a).take n), nextFS F)) := bx (by
          rw [← HP.out, if_neg]
          rw [HFL.out, decide_eq_true_iff]
          intro hm
          obtain ⟨i, hi⟩ := List.mem_iff_getElem?.1 hm
          exact HST.out.2 i _ (by have := (List.getElem?_eq_some_iff.1 hi).1; rw [HNF.out]; exact this) hi rfl)
        have hAN := HAN.out
        have hLX := HLX.out
        have s1 : (0 : Int) ≤ a := by omega
        have s2 : (a : Int) ≤ (a : Int) + (n : Int) := by omega
        have s3 : (a : Int) + (n : Int) ≤ xc := by omega
        have HNN : Bx ((([] : List UInt8).length + ((xl.drop a).take n).length) * 1 ≤ 140737488355328) := bx (by simp only [List.length_nil, List.length_take, List.length_drop]; omega)
        have HDq : Bx (DfB (w1.drewN q) M N bx0 (nextFS F) vL vF L fl) := bx (HD1.out.below (below_drewN (Below.refl _ _) _))
        have HCHq := bx (HCH1.out.drewN q)
        have HRXq : Bx (RB (w1.drewN q) (w1.drewN q).heap.size xA xl) := HRX
        have HSZq : Bx (w.heap.size ≤ (w1.drewN q).heap.size) := HSZ1
        have c0' : (w1.drewN q).cell? ⟨bx0, 0, none⟩ = some (.slice (some adL) nL cL) := c0
        have k1' : (w1.drewN q).cell? ⟨(adL.add (k * 2)).block, (adL.add (k * 2)).off + 1, none⟩ = some (.slice xA xn xc) := k1
        have c2' : (w1.drewN q).cell? ⟨bx0, 2, none⟩ = some (.slice AF j cF) := c2
        have hl1' : bx0 < (w1.drewN q).heap.size := hl1
        clear c0 c1 c2 k1 hl1
        generalize w1.drewN q = w2 at HDq HCHq HRXq HSZq c0' k1' c2' hl1' ⊢
        have hz2 := le_alloc0 (w := w2) (Nat.le_refl w2.heap.size) (.cells #[] 5)
        have hbz : Below w2.heap.size w2 (w2.alloc (.cells #[] 5)) := bl_alloc (Below.refl _ _) (Nat.le_refl _) _
        have k2' : (w2.alloc (.cells #[] 5)).cell? ⟨(adL.add (k * 2)).block, (adL.add (k * 2)).off + 1, none⟩ = some (.slice xA xn xc) := (hbz.cell (p := ⟨(adL.add (k * 2)).block, (adL.add (k * 2)).off + 1, none⟩) (by rw [blk_add]; exact Nat.lt_of_lt_of_le HADL.out HSZq.out)).trans k1'
        have c2'' : (w2.alloc (.cells #[] 5)).cell? ⟨bx0, 0, none⟩ = some (.slice (some adL) nL cL) := (hbz.cell (p := ⟨bx0, 0, none⟩) hl1').trans c0'
        clear hbz k1'
        have hln : ((xl.drop a).take n).length = a + n - a := by simp; omega
        have HLN := bx hln
        have HRS : Bx (RB (w2.alloc (.cells #[] 5)) w2.heap.size (if xc = a then xA else xA.map (·.add a)) ((xl.drop a).take n)) := bx (((HRXq.out.cut (by omega)).take n).alloc (Nat.le_refl _) _)
        clear hAN hLX hln
        go_wp2_with (at_builtin; refine wpList_appL _ bV_one rfl (.tmp 78) (.tmp 91) rfl byteTy (by decide) w2.heap.size _ [] rfl (OwL.lit0 w2 (Nat.le_refl _)) _ (if xc = a then xA else xA.map (·.add a)) (a + n - a) (xc - a) ((xl.drop a).take n) rfl HLN.out HRS.out HNN.out hz2 ?_; intro v4 w4 own4 _ _ hb4; rw [List.nil_append] at own4; have HO4 := bx own4; have HB4 := bx ((bl_alloc (Below.refl w2.heap.size w2) (Nat.le_refl _) (.cells #[] 5)).trans hb4); clear own4 hb4)
        all_goals (
          go_ret2
          rw [HPP.out]
          exact ⟨RdPost.good rfl (OwL.low HO4.out HSZq.out), ⟨_, _, _, _, HDq.out.below HB4.out⟩, HCHq.out.trans (Ch.of_below (S := OneK bx0) HB4.out) (fun _ _ e => e)⟩)
end Go.Proofs.YtlmcpkomjofcgaaGreatDoor
