/- Contract: samovarref14.right: is a constant as it should be? -/
import Derived.Test.YtdioijhmmmnbgaaQiRiT
import Derived.Test.YtdioijhmmmnbgaaQiImZ
import Derived.Test.YtdioijhmmmnbgaaPi5
import Derived.Test.YtdioijhmmmnbgaaQiImL
import Derived.Deep.DeepCutAuto
import Derived.Deep.CutBlock
namespace Go.Proofs.Ytdioijhmmmnbgaa
open Go.RowKit
theorem rt_K {k : Nat} {c y : Cst} {P : Prop} [Decidable P] (h0 : c.tag ≠ 0) (hp : P) : (decide (k ≠ 0) && decide (P ∧ c = y)) = (decide (c = y) && (decide (k ≠ 0) || decide (c.tag = 0))) := by
  rw [decide_eq_false h0, Bool.or_false, Bool.and_comm]
  congr 1
  exact decide_eq_decide.2 ⟨fun h => h.2, fun h => ⟨hp, h⟩⟩
theorem rt_no {k : Nat} {c y : Cst} {P : Prop} [Decidable P] (hp : ¬ P) : (decide (k ≠ 0) && decide (P ∧ c = y)) = false := by rw [show decide (P ∧ c = y) = false from decide_eq_false (fun h => hp h.1), Bool.and_false]
section
variable {pool : List Cst} {k : Nat} {c : Cst}
theorem right_0 (h : c.tag = 0) (hp : k = 0 ∨ (pool[k - 1]?).map (·.tag) = some 5) : rightP pool k c = (decide (c = ⟨c.tag, 0, 0, 0, []⟩) && (decide (k ≠ 0) || decide (c.tag = 0))) := by
  unfold rightP
  rw [if_pos h, decide_eq_true h, Bool.or_true, Bool.and_true, h]
  exact decide_eq_decide.2 ⟨fun h => h.2, fun h => ⟨hp, h⟩⟩
theorem right_0n (h : c.tag = 0) (hk : k ≠ 0) (hp : (pool[k - 1]?).map (·.tag) ≠ some 5) : rightP pool k c = false := by
  unfold rightP
  rw [if_pos h]
  exact decide_eq_false (fun e => by rcases e.1 with e | e; exact hk e; exact hp e)
theorem right_1 (h : c.tag = 1) : rightP pool k c = (decide (k ≠ 0) && decide ((uOk c.text = true ∧ c.text.length ≤ 65535) ∧ c = ⟨c.tag, 0, 0, 0, c.text⟩)) := by
  unfold rightP
  rw [if_neg (by omega), if_pos h, h]
  cases uOk c.text <;> simp
theorem right_3 (h : c.tag = 3) : rightP pool k c = (decide (k ≠ 0) && decide ((-2147483648 ≤ c.num ∧ c.num ≤ 2147483647) ∧ c = ⟨c.tag, 0, 0, c.num, []⟩)) := by
  unfold rightP
  rw [if_neg (by omega), if_neg (by omega), if_pos h, h]
  congr 1
  exact decide_eq_decide.2 ⟨fun h => ⟨⟨h.1, h.2.1⟩, h.2.2⟩, fun h => ⟨h.1.1, h.1.2, h.2⟩⟩
theorem right_5 (h : c.tag = 5) : rightP pool k c = (decide (k ≠ 0) && decide ((pool[k + 1]?).map (·.tag) = some 0 ∧ c = ⟨c.tag, 0, 0, c.num, []⟩)) := by
  unfold rightP
  rw [if_neg (by omega), if_neg (by omega), if_neg (by omega), if_pos h, h]
theorem right_7 (h : c.tag = 7 ∨ c.tag = 8) : rightP pool k c = (decide (k ≠ 0) && decide (tagP pool c.a = 1 ∧ c = ⟨c.tag, c.a, 0, 0, []⟩)) := by
  unfold rightP
  rw [if_neg (by omega), if_neg (by omega), if_neg (by omega), if_neg (by omega), if_pos h]
theorem right_9 (h : c.tag = 9 ∨ c.tag = 10 ∨ c.tag = 11) : rightP pool k c = (decide (k ≠ 0) && decide ((tagP pool c.a = 7 ∧ tagP pool c.b = 12) ∧ c = ⟨c.tag, c.a, c.b, 0, []⟩)) := by
  unfold rightP
  rw [if_neg (by omega), if_neg (by omega), if_neg (by omega), if_neg (by omega), if_neg (by omega), if_pos h]
  congr 1
  exact decide_eq_decide.2 ⟨fun h => ⟨⟨h.1, h.2.1⟩, h.2.2⟩, fun h => ⟨h.1.1, h.1.2, h.2⟩⟩
theorem right_12 (h : c.tag = 12) : rightP pool k c = (decide (k ≠ 0) && decide ((tagP pool c.a = 1 ∧ tagP pool c.b = 1) ∧ c = ⟨c.tag, c.a, c.b, 0, []⟩)) := by
  unfold rightP
  rw [if_neg (by omega), if_neg (by omega), if_neg (by omega), if_neg (by omega), if_neg (by omega), if_neg (by omega), if_pos h, h]
  congr 1
  exact decide_eq_decide.2 ⟨fun h => ⟨⟨h.1, h.2.1⟩, h.2.2⟩, fun h => ⟨h.1.1, h.1.2, h.2⟩⟩
theorem right_else (h : c.tag ≠ 0 ∧ c.tag ≠ 1 ∧ c.tag ≠ 3 ∧ c.tag ≠ 5 ∧ c.tag ≠ 7 ∧ c.tag ≠ 8 ∧ c.tag ≠ 9 ∧ c.tag ≠ 10 ∧ c.tag ≠ 11 ∧ c.tag ≠ 12) : rightP pool k c = false := by
  unfold rightP
  rw [if_neg (by omega), if_neg (by omega), if_neg (by omega), if_neg (by omega), if_neg (by omega), if_neg (by omega), if_neg (by omega), Bool.and_false]
end
/-- A constant's cells. -/
def cA (x : Cst) : Array Value := #[.int .i64 x.tag, .int .i64 x.a, .int .i64 x.b, .int .i64 x.num, .string ⟨x.text.toArray⟩]
/-- Where right stands: the image's block B, the constant's gc, the one to be compared gx. -/
structure RtS (w wx : World) (B gc gx : Nat) (x : ImE) (c y : Cst) : Prop where
  bel : Below w.heap.size w wx
  im : Bk wx B 29 (imC x)
  cc : Bk wx gc 53 (cA c)
  cy : Bk wx gx 53 (cA y)
  lo : w.heap.size ≤ gx
  ne : B ≠ gx ∧ gc ≠ gx
section
variable {w wx w' : World} {B gc gx : Nat} {x : ImE} {c y y' : Cst}
theorem RtS.below (h : RtS w wx B gc gx x c y) (hb : Below wx.heap.size wx w') : RtS w w' B gc gx x c y :=
  ⟨h.bel.trans (hb.mono h.bel.size), h.im.below hb h.im.lt, h.cc.below hb h.cc.lt, h.cy.below hb h.cy.lt, h.lo, h.ne⟩
theorem RtS.set (h : RtS w wx B gc gx x c y) (i : Nat) (u : Value) (hy : (cA y).setIfInBounds i u = cA y') : RtS w (wx.setCell ⟨gx, i, none⟩ u) B gc gx x c y' := by
  have h1 := h.cy.set i u
  rw [hy] at h1
  exact ⟨h.bel.setCell h.lo u, h.im.far h.ne.1 u, h.cc.far h.ne.2 u, h1, h.lo, h.ne⟩
theorem RtS.c0 (h : RtS w wx B gc gx x c y) : wx.cell? ⟨gc, 0, none⟩ = some (.int .i64 c.tag) := (h.cc.cell 0).trans rfl
theorem RtS.c1 (h : RtS w wx B gc gx x c y) : wx.cell? ⟨gc, 1, none⟩ = some (.int .i64 c.a) := (h.cc.cell 1).trans rfl
theorem RtS.c2 (h : RtS w wx B gc gx x c y) : wx.cell? ⟨gc, 2, none⟩ = some (.int .i64 c.b) := (h.cc.cell 2).trans rfl
theorem RtS.c3 (h : RtS w wx B gc gx x c y) : wx.cell? ⟨gc, 3, none⟩ = some (.int .i64 c.num) := (h.cc.cell 3).trans rfl
theorem RtS.c4 (h : RtS w wx B gc gx x c y) : wx.cell? ⟨gc, 4, none⟩ = some (.string ⟨c.text.toArray⟩) := (h.cc.cell 4).trans rfl
theorem RtS.y0 (h : RtS w wx B gc gx x c y) : wx.cell? ⟨gx, 0, none⟩ = some (.int .i64 y.tag) := (h.cy.cell 0).trans rfl
theorem RtS.y1 (h : RtS w wx B gc gx x c y) : wx.cell? ⟨gx, 1, none⟩ = some (.int .i64 y.a) := (h.cy.cell 1).trans rfl
theorem RtS.y2 (h : RtS w wx B gc gx x c y) : wx.cell? ⟨gx, 2, none⟩ = some (.int .i64 y.b) := (h.cy.cell 2).trans rfl
theorem RtS.y3 (h : RtS w wx B gc gx x c y) : wx.cell? ⟨gx, 3, none⟩ = some (.int .i64 y.num) := (h.cy.cell 3).trans rfl
theorem RtS.y4 (h : RtS w wx B gc gx x c y) : wx.cell? ⟨gx, 4, none⟩ = some (.string ⟨y.text.toArray⟩) := (h.cy.cell 4).trans rfl
end
set_option maxRecDepth 100000 in
set_option maxHeartbeats 16000000 in
theorem rright_any (x : ImE) (k : Nat) (c : Cst) (w : World) (hx : RIm w w.heap.size x) (hc : x.pool[k]? = some c) (hT : c.text.length ≤ 2000000) :
    Calls Try.prog 54 #[.agg (imC x), .int .i64 (k : Int)] w fun e w' => e = .returned (.bool (rightP x.pool k c)) ∧ Below w.heap.size w w' := by
  have HX := bx hx
  have HC := bx hc
  have HT := bx hT
  have hpb : (x.pn : Int) ≤ 9223372036854775807 := by have := hx.pl; omega
  have hkn : k < x.pn := by rw [← hx.pl.1]; exact (List.getElem?_eq_some_iff.1 hc).1
  have hkI : (k : Int) < (x.pn : Int) := by omega
  have hkJ : (0 : Int) ≤ (k : Int) := by omega
  obtain ⟨R, hR⟩ : ∃ R, rightP x.pool k c = R := ⟨_, rfl⟩
  rw [hR]
  have HR := bx hR
  obtain ⟨cs, hcs⟩ : ∃ cs, cs = imC x := ⟨_, rfl⟩
  rw [← hcs]
  have HCS := bx hcs
  obtain ⟨B, hB⟩ : ∃ B, w.heap.size = B := ⟨_, rfl⟩
  have HKB := bx (Bk.newAt w 29 cs hB)
  have HBB := bx (bl_alloc (Below.refl w.heap.size w) (Nat.le_refl _) (.cells cs 29))
  have HB := bx hB
  clear hx hc hT hR hcs hB
  go_enter Try.func54, Try.ntmps54
  go_upto_region 1 with (fail)
  rw [HB.out]
  change Code.wp _ _ _ _ (w.alloc (.cells cs 29))
  generalize w.alloc (.cells cs 29) = wb at HKB HBB ⊢
  have HKI : Bx (Bk wb B 29 (imC x)) := bx (by rw [← HCS.out]; exact HKB.out)
  have HXB := bx (HX.out.up HBB.out)
  have f2 := HKI.out.im2 rfl
  obtain ⟨ad, c', hA, hlt, HC', p0, p1, p2, p3, p4⟩ := cst_at HXB.out.pool (k := k) (by rw [HX.out.pl.1]; exact hkn)
  obtain rfl : c = c' := by have := HC.out.symm.trans HC'.out; injection this
  rw [hA] at f2
  obtain ⟨gc, hgc⟩ : ∃ g, wb.heap.size = g := ⟨_, rfl⟩
  have HGC := bx hgc
  have HK1 : Bx (Bk (wb.alloc (.cells #[.int .i64 c.tag, .int .i64 c.a, .int .i64 c.b, .int .i64 c.num, .string ⟨c.text.toArray⟩] 53)) gc 53 (cA c)) := bx (Bk.newAt _ _ _ hgc)
  have HKB1 := bx (HKI.out.alloc (.cells #[.int .i64 c.tag, .int .i64 c.a, .int .i64 c.b, .int .i64 c.num, .string ⟨c.text.toArray⟩] 53))
  have HB1 := bx (bl_alloc HBB.out (Nat.le_refl _) (.cells #[.int .i64 c.tag, .int .i64 c.a, .int .i64 c.b, .int .i64 c.num, .string ⟨c.text.toArray⟩] 53))
  clear hA hgc
  go_upto_region 2 with (fail)
  rw [HGC.out]
  generalize wb.alloc (.cells #[.int .i64 c.tag, .int .i64 c.a, .int .i64 c.b, .int .i64 c.num, .string ⟨c.text.toArray⟩] 53) = w1 at HK1 HKB1 HB1 ⊢
  clear p0 p1 p2 p3 p4 f2 HC' hlt
  have c0 : w1.cell? ⟨gc, 0, none⟩ = some (.int .i64 c.tag) := (HK1.out.cell 0).trans rfl
  obtain ⟨gx, hgx⟩ : ∃ g, w1.heap.size = g := ⟨_, rfl⟩
  have HGX := bx hgx
  have HS : Bx (RtS w (w1.alloc (.cells #[.int .i64 c.tag, .int .i64 0, .int .i64 0, .int .i64 0, .string ⟨#[]⟩] 53)) B gc gx x c ⟨c.tag, 0, 0, 0, []⟩) := bx
    ⟨bl_alloc HB1.out (Nat.le_refl _) _, HKB1.out.alloc _, HK1.out.alloc _, Bk.newAt _ _ _ hgx, by rw [← hgx]; exact HB1.out.size, by rw [← hgx]; exact ⟨Nat.ne_of_lt HKB1.out.lt, Nat.ne_of_lt HK1.out.lt⟩⟩
  clear hgx
  go_upto_region 3 with (fail)
  rw [HGX.out]
  generalize w1.alloc (.cells #[.int .i64 c.tag, .int .i64 0, .int .i64 0, .int .i64 0, .string ⟨#[]⟩] 53) = w2 at HS ⊢
  clear c0 HK1 HKB1 HB1 HKB HBB HKI HXB
  have c0 := HS.out.c0
  go_upto_block 0 with (fail)
  go_cut [7, 8] from 19 to 144 (fun _ _ wx => ∃ y : Cst, Bx (RtS w wx B gc gx x c y) ∧ Bx (R = (decide (c = y) && (decide (k ≠ 0) || decide (c.tag = 0)))))
  case first =>
    by_cases t0 : c.tag = 0
    · -- tag 0
      have b0 : (c.tag == 0) = true := by rw [beq_iff_eq]; omega
      clear t0
      have T0 : c.tag = 0 := beq_iff_eq.1 b0
      by_cases hk0 : k = 0
      · have hkz : ¬ (0 : Int) < (k : Int) := by omega
        have HN := bx (HR.out.symm.trans (right_0 T0 (.inl hk0)))
        clear T0 hk0
        go_wp2
        go_meet
        case rel => exact ⟨_, HS, HN⟩
      · have hkz : (0 : Int) < (k : Int) := by omega
        obtain ⟨j, hj⟩ : ∃ j : Nat, k = j + 1 := ⟨k - 1, by omega⟩
        have hjn : j < x.pn := by omega
        have HX2 := bx (HX.out.up HS.out.bel)
        obtain ⟨ad2, d, hA2, _, HD, p0, p1, p2, p3, p4⟩ := cst_at HX2.out.pool (k := j) (by rw [HX.out.pl.1]; exact hjn)
        have f2 := HS.out.im.im2 rfl
        rw [hA2] at f2
        have hkj : (k : Int) - 1 = (j : Int) := by omega
        have hjI : (j : Int) < (x.pn : Int) := by omega
        have hjJ : (0 : Int) ≤ (j : Int) := by omega
        have HKJ := bx hj
        clear hA2 hj p1 p2 p3 p4
        by_cases h5 : d.tag = 5
        · have h5b : (d.tag != 5) = false := by rw [h5]; rfl
          have HN := bx (HR.out.symm.trans (right_0 T0 (.inr (by rw [HKJ.out, Nat.add_sub_cancel, HD.out]; simp [h5]))))
          clear T0 hk0 h5
          go_wp2
          go_meet
          case rel => exact ⟨_, HS, HN⟩
        · have h5b : (d.tag != 5) = true := by rw [bne_iff_ne]; exact h5
          have HN := bx (HR.out.symm.trans (right_0n T0 hk0 (by rw [HKJ.out, Nat.add_sub_cancel, HD.out]; simpa using h5)))
          clear T0 hk0 h5
          go_wp2
          go_ret
          exact ⟨by rw [HN.out]; rfl, HS.out.bel⟩
    by_cases t1 : c.tag = 1
    · -- tag 1
      have b0 : (c.tag == 0) = false := by rw [beq_eq_false_iff_ne]; omega
      have b1 : (c.tag == 1) = true := by rw [beq_iff_eq]; omega
      have T1 := right_1 (pool := x.pool) (k := k) t1
      have HNZ := bx t0
      clear t0 t1
      obtain ⟨sn, hsn⟩ : ∃ s : ByteArray, ⟨c.text.toArray⟩ = s := ⟨_, rfl⟩
      have HSL : Bx (sn.data.toList = c.text) := bx (by rw [← hsn])
      have c4 : w2.cell? ⟨gc, 4, none⟩ = some (.string sn) := by rw [← hsn]; exact HS.out.c4
      have hs2 : sn.size ≤ 2000000 := by rw [← hsn]; show c.text.toArray.size ≤ 2000000; rw [List.size_toArray]; exact HT.out
      have hsz : sn.size = c.text.length := by rw [← hsn]; show c.text.toArray.size = _; rw [List.size_toArray]
      have HSN := bx hsn
      have HSZ := bx hsz
      have HU := bx (refUnits_post sn w2 hs2)
      have HTT := bx T1
      clear hsn hsz T1 hs2
      go_wp2_with fail
      refine HU.out.mono ?_
      rintro e w5 ⟨A5, n5, c5, rfl, -, -, hb5⟩
      rw [HSL.out]
      have HS5 := bx (HS.out.below hb5)
      clear hb5 HU c4 HS
      have c4 : w5.cell? ⟨gc, 4, none⟩ = some (.string sn) := by rw [← HSN.out]; exact HS5.out.c4
      have y4 := HS5.out.y4
      have z4 := HS5.out.cy.frz 4
      by_cases hu : uOk c.text = true
      · have HU0 := bx (units_0 hu)
        rw [HU0.out]
        by_cases hl : c.text.length ≤ 65535
        · have hlI : ¬ (65535 : Int) < (sn.size : Int) := by rw [HSZ.out]; omega
          have HN := bx (HR.out.symm.trans (HTT.out.trans (rt_K HNZ.out ⟨hu, hl⟩)))
          have HS6 : Bx (RtS w (w5.setCell ⟨gx, 4, none⟩ (.string sn)) B gc gx x c ⟨c.tag, 0, 0, 0, c.text⟩) := bx (HS5.out.set 4 _ (by rw [← HSN.out]; rfl))
          clear hu hl HU0 HTT
          go_wp2
          go_meet
          case rel => exact ⟨_, HS6, HN⟩
        · have hlI : (65535 : Int) < (sn.size : Int) := by rw [HSZ.out]; omega
          have HN := bx (HR.out.symm.trans (HTT.out.trans (rt_no (fun h => hl h.2))))
          clear hu hl HU0 HTT
          go_wp2
          go_ret
          exact ⟨by rw [HN.out]; rfl, HS5.out.bel⟩
      · have HU1 := bx (units_1 (by simpa using hu))
        rw [HU1.out]
        have HN := bx (HR.out.symm.trans (HTT.out.trans (rt_no (fun h => hu h.1))))
        clear hu HU1 HTT
        go_wp2
        go_ret
        exact ⟨by rw [HN.out]; rfl, HS5.out.bel⟩
    by_cases t3 : c.tag = 3
    · -- tag 3
      have b0 : (c.tag == 0) = false := by rw [beq_eq_false_iff_ne]; omega
      have b1 : (c.tag == 1) = false := by rw [beq_eq_false_iff_ne]; omega
      have b3 : (c.tag == 3) = true := by rw [beq_iff_eq]; omega
      have T3 := right_3 (pool := x.pool) (k := k) t3
      have HNZ := bx t0
      have b3b : (c.tag == 5) = false := by rw [beq_eq_false_iff_ne]; omega
      have HTT := bx T3
      clear t0 t1 t3 T3
      have c3 := HS.out.c3
      have y3 := HS.out.y3
      have z3 := HS.out.cy.frz 3
      by_cases hl : c.num < -2147483648
      · have HN := bx (HR.out.symm.trans (HTT.out.trans (rt_no (fun h => by have := h.1; omega))))
        clear HTT
        go_wp2
        go_ret
        exact ⟨by rw [HN.out]; rfl, HS.out.bel⟩
      by_cases hh : 2147483647 < c.num
      · have HN := bx (HR.out.symm.trans (HTT.out.trans (rt_no (fun h => by have := h.2; omega))))
        clear HTT
        go_wp2
        go_ret
        exact ⟨by rw [HN.out]; rfl, HS.out.bel⟩
      · have HN := bx (HR.out.symm.trans (HTT.out.trans (rt_K HNZ.out ⟨by omega, by omega⟩)))
        have HS6 : Bx (RtS w (w2.setCell ⟨gx, 3, none⟩ (.int .i64 c.num)) B gc gx x c ⟨c.tag, 0, 0, c.num, []⟩) := bx (HS.out.set 3 _ rfl)
        clear HTT
        go_wp2
        go_meet
        case rel => exact ⟨_, HS6, HN⟩
    by_cases t5 : c.tag = 5
    · -- tag 5
      have b0 : (c.tag == 0) = false := by rw [beq_eq_false_iff_ne]; omega
      have b1 : (c.tag == 1) = false := by rw [beq_eq_false_iff_ne]; omega
      have b3 : (c.tag == 3) = false := by rw [beq_eq_false_iff_ne]; omega
      have b5 : (c.tag == 5) = true := by rw [beq_iff_eq]; omega
      have T5 := right_5 (pool := x.pool) (k := k) t5
      have HNZ := bx t0
      have HTT := bx T5
      clear t0 t1 t3 t5 T5
      have c3 := HS.out.c3
      have y3 := HS.out.y3
      have z3 := HS.out.cy.frz 3
      have HX2 := bx (HX.out.up HS.out.bel)
      have f2 := HS.out.im.im2 rfl
      by_cases hl : k + 1 < x.pn
      · have hlI : ¬ (x.pn : Int) ≤ (k : Int) + 1 := by omega
        have hlJ : (k : Int) + 1 < (x.pn : Int) := by omega
        have hlK : (0 : Int) ≤ (k : Int) + 1 := by omega
        have hlT : ((k : Int) + 1).toNat = k + 1 := by omega
        obtain ⟨ad2, d, hA2, _, HD, p0, p1, p2, p3, p4⟩ := cst_at HX2.out.pool (k := k + 1) (by rw [HX.out.pl.1]; exact hl)
        rw [hA2] at f2
        clear hA2 p1 p2 p3 p4 hl
        by_cases h0 : d.tag = 0
        · have h0b : (d.tag != 0) = false := by rw [h0]; rfl
          have HN := bx (HR.out.symm.trans (HTT.out.trans (rt_K HNZ.out (by rw [HD.out]; simp [h0]))))
          have HS6 : Bx (RtS w (w2.setCell ⟨gx, 3, none⟩ (.int .i64 c.num)) B gc gx x c ⟨c.tag, 0, 0, c.num, []⟩) := bx (HS.out.set 3 _ rfl)
          clear HTT h0
          go_wp2
          go_meet
          case rel => exact ⟨_, HS6, HN⟩
        · have h0b : (d.tag != 0) = true := by rw [bne_iff_ne]; exact h0
          have HN := bx (HR.out.symm.trans (HTT.out.trans (rt_no (by rw [HD.out]; simpa using h0))))
          clear HTT h0
          go_wp2
          go_ret
          exact ⟨by rw [HN.out]; rfl, HS.out.bel⟩
      · have hlI : (x.pn : Int) ≤ (k : Int) + 1 := by omega
        have HN := bx (HR.out.symm.trans (HTT.out.trans (rt_no (by rw [List.getElem?_eq_none (by rw [HX.out.pl.1]; omega)]; simp))))
        clear HTT hl
        go_wp2
        go_ret
        exact ⟨by rw [HN.out]; rfl, HS.out.bel⟩
    by_cases t7 : c.tag = 7
    · -- tag 7
      have b0 : (c.tag == 0) = false := by rw [beq_eq_false_iff_ne]; omega
      have b1 : (c.tag == 1) = false := by rw [beq_eq_false_iff_ne]; omega
      have b3 : (c.tag == 3) = false := by rw [beq_eq_false_iff_ne]; omega
      have b5 : (c.tag == 5) = false := by rw [beq_eq_false_iff_ne]; omega
      have b7 : (c.tag == 7) = true := by rw [beq_iff_eq]; omega
      have HTT := bx (right_7 (pool := x.pool) (k := k) (.inl t7))
      have HNZ := bx t0
      clear t0 t1 t3 t5 t7
      have c1 := HS.out.c1
      obtain ⟨f0, f1, f2, f3, f4, f5, f6, f7, f8, f9⟩ := im_all HS.out.im
      have HTG := bx (rtag_any x c.a w2 (HX.out.up HS.out.bel))
      obtain ⟨tg, htg⟩ : ∃ t, tagP x.pool c.a = t := ⟨_, rfl⟩
      rw [htg] at HTG
      have HTE := bx htg
      clear htg
      go_wp2_with fail
      refine HTG.out.mono ?_
      rintro e w5 ⟨rfl, hb5⟩
      have HS5 := bx (HS.out.below hb5)
      clear hb5 HTG c1 HS f0 f1 f2 f3 f4 f5 f6 f7 f8 f9
      have c1 := HS5.out.c1
      have y1 := HS5.out.y1
      have z1 := HS5.out.cy.frz 1
      by_cases h1 : tg = 1
      · have h1b : (tg != 1) = false := by rw [h1]; rfl
        have HN := bx (HR.out.symm.trans (HTT.out.trans (rt_K HNZ.out (by rw [HTE.out]; exact h1))))
        have HS6 : Bx (RtS w (w5.setCell ⟨gx, 1, none⟩ (.int .i64 c.a)) B gc gx x c ⟨c.tag, c.a, 0, 0, []⟩) := bx (HS5.out.set 1 _ rfl)
        clear HTT h1
        go_wp2
        go_meet
        case rel => exact ⟨_, HS6, HN⟩
      · have h1b : (tg != 1) = true := by rw [bne_iff_ne]; exact h1
        have HN := bx (HR.out.symm.trans (HTT.out.trans (rt_no (by rw [HTE.out]; exact h1))))
        clear HTT h1
        go_wp2
        go_ret
        exact ⟨by rw [HN.out]; rfl, HS5.out.bel⟩
    by_cases t8 : c.tag = 8
    · -- tag 8
      have b0 : (c.tag == 0) = false := by rw [beq_eq_false_iff_ne]; omega
      have b1 : (c.tag == 1) = false := by rw [beq_eq_false_iff_ne]; omega
      have b3 : (c.tag == 3) = false := by rw [beq_eq_false_iff_ne]; omega
      have b5 : (c.tag == 5) = false := by rw [beq_eq_false_iff_ne]; omega
      have b7 : (c.tag == 7) = false := by rw [beq_eq_false_iff_ne]; omega
      have b8 : (c.tag == 8) = true := by rw [beq_iff_eq]; omega
      have HTT := bx (right_7 (pool := x.pool) (k := k) (.inr t8))
      have HNZ := bx t0
      clear t0 t1 t3 t5 t7 t8
      have c1 := HS.out.c1
      obtain ⟨f0, f1, f2, f3, f4, f5, f6, f7, f8, f9⟩ := im_all HS.out.im
      have HTG := bx (rtag_any x c.a w2 (HX.out.up HS.out.bel))
      obtain ⟨tg, htg⟩ : ∃ t, tagP x.pool c.a = t := ⟨_, rfl⟩
      rw [htg] at HTG
      have HTE := bx htg
      clear htg
      go_wp2_with fail
      refine HTG.out.mono ?_
      rintro e w5 ⟨rfl, hb5⟩
      have HS5 := bx (HS.out.below hb5)
      clear hb5 HTG c1 HS f0 f1 f2 f3 f4 f5 f6 f7 f8 f9
      have c1 := HS5.out.c1
      have y1 := HS5.out.y1
      have z1 := HS5.out.cy.frz 1
      by_cases h1 : tg = 1
      · have h1b : (tg != 1) = false := by rw [h1]; rfl
        have HN := bx (HR.out.symm.trans (HTT.out.trans (rt_K HNZ.out (by rw [HTE.out]; exact h1))))
        have HS6 : Bx (RtS w (w5.setCell ⟨gx, 1, none⟩ (.int .i64 c.a)) B gc gx x c ⟨c.tag, c.a, 0, 0, []⟩) := bx (HS5.out.set 1 _ rfl)
        clear HTT h1
        go_wp2
        go_meet
        case rel => exact ⟨_, HS6, HN⟩
      · have h1b : (tg != 1) = true := by rw [bne_iff_ne]; exact h1
        have HN := bx (HR.out.symm.trans (HTT.out.trans (rt_no (by rw [HTE.out]; exact h1))))
        clear HTT h1
        go_wp2
        go_ret
        exact ⟨by rw [HN.out]; rfl, HS5.out.bel⟩
    by_cases t9 : c.tag = 9
    · -- tag 9
      have b0 : (c.tag == 0) = false := by rw [beq_eq_false_iff_ne]; omega
      have b1 : (c.tag == 1) = false := by rw [beq_eq_false_iff_ne]; omega
      have b3 : (c.tag == 3) = false := by rw [beq_eq_false_iff_ne]; omega
      have b5 : (c.tag == 5) = false := by rw [beq_eq_false_iff_ne]; omega
      have b7 : (c.tag == 7) = false := by rw [beq_eq_false_iff_ne]; omega
      have b8 : (c.tag == 8) = false := by rw [beq_eq_false_iff_ne]; omega
      have b9 : (c.tag == 9) = true := by rw [beq_iff_eq]; omega
      have HTT := bx (right_9 (pool := x.pool) (k := k) (.inl t9))
      have HNZ := bx t0
      clear t0 t1 t3 t5 t7 t8 t9
      have c1 := HS.out.c1
      obtain ⟨f0, f1, f2, f3, f4, f5, f6, f7, f8, f9⟩ := im_all HS.out.im
      have HTG := bx (rtag_any x c.a w2 (HX.out.up HS.out.bel))
      obtain ⟨tg, htg⟩ : ∃ t, tagP x.pool c.a = t := ⟨_, rfl⟩
      rw [htg] at HTG
      have HTE := bx htg
      clear htg
      go_wp2_with fail
      refine HTG.out.mono ?_
      rintro e w5 ⟨rfl, hb5⟩
      have HS5 := bx (HS.out.below hb5)
      clear hb5 HTG c1 HS f0 f1 f2 f3 f4 f5 f6 f7 f8 f9
      have c2 := HS5.out.c2
      by_cases h1 : tg = 7
      · have h1b : (tg != 7) = false := by rw [h1]; rfl
        have HTH : Bx (tagP x.pool c.a = 7) := bx (by rw [HTE.out]; exact h1)
        obtain ⟨f0, f1, f2, f3, f4, f5, f6, f7, f8, f9⟩ := im_all HS5.out.im
        have HTG := bx (rtag_any x c.b w5 (HX.out.up HS5.out.bel))
        obtain ⟨th, hth⟩ : ∃ t, tagP x.pool c.b = t := ⟨_, rfl⟩
        rw [hth] at HTG
        have HTF := bx hth
        clear hth h1
        go_wp2_with fail
        refine HTG.out.mono ?_
        rintro e w6 ⟨rfl, hb6⟩
        have HS6 := bx (HS5.out.below hb6)
        clear hb6 HTG c2 HS5 f0 f1 f2 f3 f4 f5 f6 f7 f8 f9
        have c1 := HS6.out.c1
        have c2 := HS6.out.c2
        have y1 := HS6.out.y1
        have y2 := HS6.out.y2
        have z1 := HS6.out.cy.frz 1
        have z2 := HS6.out.cy.frz 2
        by_cases h2 : th = 12
        · have h2b : (th != 12) = false := by rw [h2]; rfl
          have HN := bx (HR.out.symm.trans (HTT.out.trans (rt_K HNZ.out ⟨HTH.out, by rw [HTF.out]; exact h2⟩)))
          clear HTT h2
          go_upto_region 30 with (fail)
          have HS7 : Bx (RtS w ((w6.drew.setCell ⟨gx, 1, none⟩ (.int .i64 c.a)).setCell ⟨gx, 2, none⟩ (.int .i64 c.b)) B gc gx x c ⟨c.tag, c.a, c.b, 0, []⟩) := bx (((HS6.out.below (below_drewN (Below.refl _ _) 1)).set (y' := ⟨c.tag, c.a, 0, 0, []⟩) 1 _ rfl).set 2 _ rfl)
          go_region
          all_goals (
            go_wp2
            go_meet
            case rel => exact ⟨_, HS7, HN⟩)
        · have h2b : (th != 12) = true := by rw [bne_iff_ne]; exact h2
          have HN := bx (HR.out.symm.trans (HTT.out.trans (rt_no (fun h => h2 (by rw [← HTF.out]; exact h.2)))))
          clear HTT h2
          go_wp2
          go_ret
          exact ⟨by rw [HN.out]; rfl, HS6.out.bel⟩
      · have h1b : (tg != 7) = true := by rw [bne_iff_ne]; exact h1
        have HN := bx (HR.out.symm.trans (HTT.out.trans (rt_no (fun h => h1 (by rw [← HTE.out]; exact h.1)))))
        clear HTT h1
        go_wp2
        go_ret
        exact ⟨by rw [HN.out]; rfl, HS5.out.bel⟩
    by_cases t10 : c.tag = 10
    · -- tag 10
      have b0 : (c.tag == 0) = false := by rw [beq_eq_false_iff_ne]; omega
      have b1 : (c.tag == 1) = false := by rw [beq_eq_false_iff_ne]; omega
      have b3 : (c.tag == 3) = false := by rw [beq_eq_false_iff_ne]; omega
      have b5 : (c.tag == 5) = false := by rw [beq_eq_false_iff_ne]; omega
      have b7 : (c.tag == 7) = false := by rw [beq_eq_false_iff_ne]; omega
      have b8 : (c.tag == 8) = false := by rw [beq_eq_false_iff_ne]; omega
      have b9 : (c.tag == 9) = false := by rw [beq_eq_false_iff_ne]; omega
      have b10 : (c.tag == 10) = true := by rw [beq_iff_eq]; omega
      have HTT := bx (right_9 (pool := x.pool) (k := k) (.inr (.inl t10)))
      have HNZ := bx t0
      clear t0 t1 t3 t5 t7 t8 t9 t10
      have c1 := HS.out.c1
      obtain ⟨f0, f1, f2, f3, f4, f5, f6, f7, f8, f9⟩ := im_all HS.out.im
      have HTG := bx (rtag_any x c.a w2 (HX.out.up HS.out.bel))
      obtain ⟨tg, htg⟩ : ∃ t, tagP x.pool c.a = t := ⟨_, rfl⟩
      rw [htg] at HTG
      have HTE := bx htg
      clear htg
      go_wp2_with fail
      refine HTG.out.mono ?_
      rintro e w5 ⟨rfl, hb5⟩
      have HS5 := bx (HS.out.below hb5)
      clear hb5 HTG c1 HS f0 f1 f2 f3 f4 f5 f6 f7 f8 f9
      have c2 := HS5.out.c2
      by_cases h1 : tg = 7
      · have h1b : (tg != 7) = false := by rw [h1]; rfl
        have HTH : Bx (tagP x.pool c.a = 7) := bx (by rw [HTE.out]; exact h1)
        obtain ⟨f0, f1, f2, f3, f4, f5, f6, f7, f8, f9⟩ := im_all HS5.out.im
        have HTG := bx (rtag_any x c.b w5 (HX.out.up HS5.out.bel))
        obtain ⟨th, hth⟩ : ∃ t, tagP x.pool c.b = t := ⟨_, rfl⟩
        rw [hth] at HTG
        have HTF := bx hth
        clear hth h1
        go_wp2_with fail
        refine HTG.out.mono ?_
        rintro e w6 ⟨rfl, hb6⟩
        have HS6 := bx (HS5.out.below hb6)
        clear hb6 HTG c2 HS5 f0 f1 f2 f3 f4 f5 f6 f7 f8 f9
        have c1 := HS6.out.c1
        have c2 := HS6.out.c2
        have y1 := HS6.out.y1
        have y2 := HS6.out.y2
        have z1 := HS6.out.cy.frz 1
        have z2 := HS6.out.cy.frz 2
        by_cases h2 : th = 12
        · have h2b : (th != 12) = false := by rw [h2]; rfl
          have HN := bx (HR.out.symm.trans (HTT.out.trans (rt_K HNZ.out ⟨HTH.out, by rw [HTF.out]; exact h2⟩)))
          clear HTT h2
          go_upto_region 30 with (fail)
          have HS7 : Bx (RtS w ((w6.drew.setCell ⟨gx, 1, none⟩ (.int .i64 c.a)).setCell ⟨gx, 2, none⟩ (.int .i64 c.b)) B gc gx x c ⟨c.tag, c.a, c.b, 0, []⟩) := bx (((HS6.out.below (below_drewN (Below.refl _ _) 1)).set (y' := ⟨c.tag, c.a, 0, 0, []⟩) 1 _ rfl).set 2 _ rfl)
          go_region
          all_goals (
            go_wp2
            go_meet
            case rel => exact ⟨_, HS7, HN⟩)
        · have h2b : (th != 12) = true := by rw [bne_iff_ne]; exact h2
          have HN := bx (HR.out.symm.trans (HTT.out.trans (rt_no (fun h => h2 (by rw [← HTF.out]; exact h.2)))))
          clear HTT h2
          go_wp2
          go_ret
          exact ⟨by rw [HN.out]; rfl, HS6.out.bel⟩
      · have h1b : (tg != 7) = true := by rw [bne_iff_ne]; exact h1
        have HN := bx (HR.out.symm.trans (HTT.out.trans (rt_no (fun h => h1 (by rw [← HTE.out]; exact h.1)))))
        clear HTT h1
        go_wp2
        go_ret
        exact ⟨by rw [HN.out]; rfl, HS5.out.bel⟩
    by_cases t11 : c.tag = 11
    · -- tag 11
      have b0 : (c.tag == 0) = false := by rw [beq_eq_false_iff_ne]; omega
      have b1 : (c.tag == 1) = false := by rw [beq_eq_false_iff_ne]; omega
      have b3 : (c.tag == 3) = false := by rw [beq_eq_false_iff_ne]; omega
      have b5 : (c.tag == 5) = false := by rw [beq_eq_false_iff_ne]; omega
      have b7 : (c.tag == 7) = false := by rw [beq_eq_false_iff_ne]; omega
      have b8 : (c.tag == 8) = false := by rw [beq_eq_false_iff_ne]; omega
      have b9 : (c.tag == 9) = false := by rw [beq_eq_false_iff_ne]; omega
      have b10 : (c.tag == 10) = false := by rw [beq_eq_false_iff_ne]; omega
      have b11 : (c.tag == 11) = true := by rw [beq_iff_eq]; omega
      have HTT := bx (right_9 (pool := x.pool) (k := k) (.inr (.inr t11)))
      have HNZ := bx t0
      clear t0 t1 t3 t5 t7 t8 t9 t10 t11
      have c1 := HS.out.c1
      obtain ⟨f0, f1, f2, f3, f4, f5, f6, f7, f8, f9⟩ := im_all HS.out.im
      have HTG := bx (rtag_any x c.a w2 (HX.out.up HS.out.bel))
      obtain ⟨tg, htg⟩ : ∃ t, tagP x.pool c.a = t := ⟨_, rfl⟩
      rw [htg] at HTG
      have HTE := bx htg
      clear htg
      go_wp2_with fail
      refine HTG.out.mono ?_
      rintro e w5 ⟨rfl, hb5⟩
      have HS5 := bx (HS.out.below hb5)
      clear hb5 HTG c1 HS f0 f1 f2 f3 f4 f5 f6 f7 f8 f9
      have c2 := HS5.out.c2
      by_cases h1 : tg = 7
      · have h1b : (tg != 7) = false := by rw [h1]; rfl
        have HTH : Bx (tagP x.pool c.a = 7) := bx (by rw [HTE.out]; exact h1)
        obtain ⟨f0, f1, f2, f3, f4, f5, f6, f7, f8, f9⟩ := im_all HS5.out.im
        have HTG := bx (rtag_any x c.b w5 (HX.out.up HS5.out.bel))
        obtain ⟨th, hth⟩ : ∃ t, tagP x.pool c.b = t := ⟨_, rfl⟩
        rw [hth] at HTG
        have HTF := bx hth
        clear hth h1
        go_wp2_with fail
        refine HTG.out.mono ?_
        rintro e w6 ⟨rfl, hb6⟩
        have HS6 := bx (HS5.out.below hb6)
        clear hb6 HTG c2 HS5 f0 f1 f2 f3 f4 f5 f6 f7 f8 f9
        have c1 := HS6.out.c1
        have c2 := HS6.out.c2
        have y1 := HS6.out.y1
        have y2 := HS6.out.y2
        have z1 := HS6.out.cy.frz 1
        have z2 := HS6.out.cy.frz 2
        by_cases h2 : th = 12
        · have h2b : (th != 12) = false := by rw [h2]; rfl
          have HN := bx (HR.out.symm.trans (HTT.out.trans (rt_K HNZ.out ⟨HTH.out, by rw [HTF.out]; exact h2⟩)))
          clear HTT h2
          go_upto_region 30 with (fail)
          have HS7 : Bx (RtS w ((w6.drew.setCell ⟨gx, 1, none⟩ (.int .i64 c.a)).setCell ⟨gx, 2, none⟩ (.int .i64 c.b)) B gc gx x c ⟨c.tag, c.a, c.b, 0, []⟩) := bx (((HS6.out.below (below_drewN (Below.refl _ _) 1)).set (y' := ⟨c.tag, c.a, 0, 0, []⟩) 1 _ rfl).set 2 _ rfl)
          go_region
          all_goals (
            go_wp2
            go_meet
            case rel => exact ⟨_, HS7, HN⟩)
        · have h2b : (th != 12) = true := by rw [bne_iff_ne]; exact h2
          have HN := bx (HR.out.symm.trans (HTT.out.trans (rt_no (fun h => h2 (by rw [← HTF.out]; exact h.2)))))
          clear HTT h2
          go_wp2
          go_ret
          exact ⟨by rw [HN.out]; rfl, HS6.out.bel⟩
      · have h1b : (tg != 7) = true := by rw [bne_iff_ne]; exact h1
        have HN := bx (HR.out.symm.trans (HTT.out.trans (rt_no (fun h => h1 (by rw [← HTE.out]; exact h.1)))))
        clear HTT h1
        go_wp2
        go_ret
        exact ⟨by rw [HN.out]; rfl, HS5.out.bel⟩
    by_cases t12 : c.tag = 12
    · -- tag 12
      have b0 : (c.tag == 0) = false := by rw [beq_eq_false_iff_ne]; omega
      have b1 : (c.tag == 1) = false := by rw [beq_eq_false_iff_ne]; omega
      have b3 : (c.tag == 3) = false := by rw [beq_eq_false_iff_ne]; omega
      have b5 : (c.tag == 5) = false := by rw [beq_eq_false_iff_ne]; omega
      have b7 : (c.tag == 7) = false := by rw [beq_eq_false_iff_ne]; omega
      have b8 : (c.tag == 8) = false := by rw [beq_eq_false_iff_ne]; omega
      have b9 : (c.tag == 9) = false := by rw [beq_eq_false_iff_ne]; omega
      have b10 : (c.tag == 10) = false := by rw [beq_eq_false_iff_ne]; omega
      have b11 : (c.tag == 11) = false := by rw [beq_eq_false_iff_ne]; omega
      have b12 : (c.tag == 12) = true := by rw [beq_iff_eq]; omega
      have HTT := bx (right_12 (pool := x.pool) (k := k) t12)
      have HNZ := bx t0
      clear t0 t1 t3 t5 t7 t8 t9 t10 t11 t12
      have c1 := HS.out.c1
      obtain ⟨f0, f1, f2, f3, f4, f5, f6, f7, f8, f9⟩ := im_all HS.out.im
      have HTG := bx (rtag_any x c.a w2 (HX.out.up HS.out.bel))
      obtain ⟨tg, htg⟩ : ∃ t, tagP x.pool c.a = t := ⟨_, rfl⟩
      rw [htg] at HTG
      have HTE := bx htg
      clear htg
      go_wp2_with fail
      refine HTG.out.mono ?_
      rintro e w5 ⟨rfl, hb5⟩
      have HS5 := bx (HS.out.below hb5)
      clear hb5 HTG c1 HS f0 f1 f2 f3 f4 f5 f6 f7 f8 f9
      have c2 := HS5.out.c2
      by_cases h1 : tg = 1
      · have h1b : (tg != 1) = false := by rw [h1]; rfl
        have HTH : Bx (tagP x.pool c.a = 1) := bx (by rw [HTE.out]; exact h1)
        obtain ⟨f0, f1, f2, f3, f4, f5, f6, f7, f8, f9⟩ := im_all HS5.out.im
        have HTG := bx (rtag_any x c.b w5 (HX.out.up HS5.out.bel))
        obtain ⟨th, hth⟩ : ∃ t, tagP x.pool c.b = t := ⟨_, rfl⟩
        rw [hth] at HTG
        have HTF := bx hth
        clear hth h1
        go_wp2_with fail
        refine HTG.out.mono ?_
        rintro e w6 ⟨rfl, hb6⟩
        have HS6 := bx (HS5.out.below hb6)
        clear hb6 HTG c2 HS5 f0 f1 f2 f3 f4 f5 f6 f7 f8 f9
        have c1 := HS6.out.c1
        have c2 := HS6.out.c2
        have y1 := HS6.out.y1
        have y2 := HS6.out.y2
        have z1 := HS6.out.cy.frz 1
        have z2 := HS6.out.cy.frz 2
        by_cases h2 : th = 1
        · have h2b : (th != 1) = false := by rw [h2]; rfl
          have HN := bx (HR.out.symm.trans (HTT.out.trans (rt_K HNZ.out ⟨HTH.out, by rw [HTF.out]; exact h2⟩)))
          clear HTT h2
          go_upto_region 34 with (fail)
          have HS7 : Bx (RtS w ((w6.drew.setCell ⟨gx, 1, none⟩ (.int .i64 c.a)).setCell ⟨gx, 2, none⟩ (.int .i64 c.b)) B gc gx x c ⟨c.tag, c.a, c.b, 0, []⟩) := bx (((HS6.out.below (below_drewN (Below.refl _ _) 1)).set (y' := ⟨c.tag, c.a, 0, 0, []⟩) 1 _ rfl).set 2 _ rfl)
          go_region
          all_goals (
            go_wp2
            go_meet
            case rel => exact ⟨_, HS7, HN⟩)
        · have h2b : (th != 1) = true := by rw [bne_iff_ne]; exact h2
          have HN := bx (HR.out.symm.trans (HTT.out.trans (rt_no (fun h => h2 (by rw [← HTF.out]; exact h.2)))))
          clear HTT h2
          go_wp2
          go_ret
          exact ⟨by rw [HN.out]; rfl, HS6.out.bel⟩
      · have h1b : (tg != 1) = true := by rw [bne_iff_ne]; exact h1
        have HN := bx (HR.out.symm.trans (HTT.out.trans (rt_no (fun h => h1 (by rw [← HTE.out]; exact h.1)))))
        clear HTT h1
        go_wp2
        go_ret
        exact ⟨by rw [HN.out]; rfl, HS5.out.bel⟩
    · -- tag None
      have b0 : (c.tag == 0) = false := by rw [beq_eq_false_iff_ne]; omega
      have b1 : (c.tag == 1) = false := by rw [beq_eq_false_iff_ne]; omega
      have b3 : (c.tag == 3) = false := by rw [beq_eq_false_iff_ne]; omega
      have b5 : (c.tag == 5) = false := by rw [beq_eq_false_iff_ne]; omega
      have b7 : (c.tag == 7) = false := by rw [beq_eq_false_iff_ne]; omega
      have b8 : (c.tag == 8) = false := by rw [beq_eq_false_iff_ne]; omega
      have b9 : (c.tag == 9) = false := by rw [beq_eq_false_iff_ne]; omega
      have b10 : (c.tag == 10) = false := by rw [beq_eq_false_iff_ne]; omega
      have b11 : (c.tag == 11) = false := by rw [beq_eq_false_iff_ne]; omega
      have b12 : (c.tag == 12) = false := by rw [beq_eq_false_iff_ne]; omega
      have HN := bx (HR.out.symm.trans (right_else ⟨t0, t1, t3, t5, t7, t8, t9, t10, t11, t12⟩))
      clear t0 t1 t3 t5 t7 t8 t9 t10 t11 t12
      go_wp2
      go_ret
      exact ⟨by rw [HN.out]; rfl, HS.out.bel⟩
  case rest =>
  obtain ⟨y, HY, HN⟩ := hcut
  clear HS c0
  have c0 := HY.out.c0
  have c1 := HY.out.c1
  have c2 := HY.out.c2
  have c3 := HY.out.c3
  have c4 := HY.out.c4
  have y0 := HY.out.y0
  have y1 := HY.out.y1
  have y2 := HY.out.y2
  have y3 := HY.out.y3
  have y4 := HY.out.y4
  by_cases hcy : c = y
  · have HE : Bx (R = (decide (k ≠ 0) || decide (c.tag = 0))) := bx (by rw [HN.out, decide_eq_true hcy, Bool.true_and])
    clear HN
    subst hcy
    by_cases hk0 : k = 0
    · have hkz : ¬ (0 : Int) < (k : Int) := by omega
      by_cases h0 : c.tag = 0
      · have h0b : (c.tag == 0) = true := by rw [h0]; rfl
        have HN : Bx (R = true) := bx (by rw [HE.out, decide_eq_true h0, Bool.or_true])
        clear h0 hk0
        go_wp2
        go_ret
        exact ⟨by rw [HN.out]; rfl, HY.out.bel⟩
      · have h0b : (c.tag == 0) = false := by rw [beq_eq_false_iff_ne]; exact h0
        have HN : Bx (R = false) := bx (by rw [HE.out, decide_eq_false h0, decide_eq_false (fun h => h hk0)]; rfl)
        clear h0 hk0
        go_wp2
        go_ret
        exact ⟨by rw [HN.out]; rfl, HY.out.bel⟩
    · have hkz : (0 : Int) < (k : Int) := by omega
      have HM : Bx (R = true) := bx (by rw [HE.out, decide_eq_true hk0, Bool.true_or])
      clear hk0
      go_wp2
      go_ret
      exact ⟨by rw [HM.out]; rfl, HY.out.bel⟩
  · have HM : Bx (R = false) := bx (by rw [HN.out, decide_eq_false hcy, Bool.false_and])
    have HCY := bx hcy
    clear hcy HN
    by_cases etag : c.tag = y.tag
    · rw [etag] at c0
      by_cases ea : c.a = y.a
      · rw [ea] at c1
        by_cases eb : c.b = y.b
        · rw [eb] at c2
          by_cases enum : c.num = y.num
          · rw [enum] at c3
            have HE0 := bx (show c.tag = y.tag ∧ c.a = y.a ∧ c.b = y.b ∧ c.num = y.num from ⟨etag, ea, eb, enum⟩)
            clear etag ea eb enum
            have ht : ¬ c.text = y.text := fun e => HCY.out (cst_eq HE0.out.1 HE0.out.2.1 HE0.out.2.2.1 HE0.out.2.2.2 e)
            go_wp2
            go_ret
            exact ⟨by rw [HM.out]; rfl, HY.out.bel⟩
          · clear etag ea eb
            go_wp2
            go_ret
            exact ⟨by rw [HM.out]; rfl, HY.out.bel⟩
        · clear etag ea
          go_wp2
          go_ret
          exact ⟨by rw [HM.out]; rfl, HY.out.bel⟩
      · clear etag
        go_wp2
        go_ret
        exact ⟨by rw [HM.out]; rfl, HY.out.bel⟩
    · go_wp2
      go_ret
      exact ⟨by rw [HM.out]; rfl, HY.out.bel⟩
end Go.Proofs.Ytdioijhmmmnbgaa
