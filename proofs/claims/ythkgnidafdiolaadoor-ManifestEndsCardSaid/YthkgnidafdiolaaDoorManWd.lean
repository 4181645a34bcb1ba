/- The walk of ManifestEnds. -/
import Derived.Test.YthkgnidafdiolaaDoorManU
import Derived.Test.YthkgnidafdiolaaDoorTri
namespace Go.Proofs.YthkgnidafdiolaaDoor
open Go.RowKit

def fTwo (c : UInt8) : UInt8 := if c = 10 then 13 else c
def fThree (c : UInt8) : List UInt8 := if c = 10 then [13, 10] else [c]
theorem readM_same {a b : List UInt8} (ha : a.length ≤ 32768) (hb : b.length ≤ 32768) (h : linesM a = linesM b) : readM a = readM b := by
  unfold readM; rw [if_neg (by omega), if_neg (by omega), h]
theorem three_len (l : List UInt8) : (l.flatMap fThree).length ≤ 2 * l.length := by
  induction l with
  | nil => simp
  | cons c r ih =>
    rw [List.flatMap_cons, List.length_append, List.length_cons]
    have : (fThree c).length ≤ 2 := by unfold fThree; split <;> simp
    omega
theorem ends_two {x : List UInt8} (h : ∀ c ∈ x, c ≠ 13) (hl : x.length ≤ 3000) : readM (x.map fTwo) = readM x :=
  readM_same (by simp; omega) (by omega) (by unfold linesM; rw [show (x.map fTwo) = x.map fun c => if c = 10 then 13 else c from rfl, norm_two h, norm_one h])
theorem ends_three {x : List UInt8} (h : ∀ c ∈ x, c ≠ 13) (hl : x.length ≤ 3000) : readM (x.flatMap fThree) = readM x :=
  readM_same (by have := three_len x; omega) (by omega) (by unfold linesM; rw [show (x.flatMap fThree) = x.flatMap fun c => if c = 10 then [13, 10] else [c] from rfl, norm_three h, norm_one h])
theorem ends_behind {x y : List UInt8} (h : ∀ c ∈ x, c ≠ 13) (hl : x.length ≤ 3000) (hy : y.length ≤ 3000) : readM (x ++ [10, 10] ++ y) = readM x :=
  readM_same (by simp; omega) (by omega) (by rw [List.append_assoc]; exact lines_behind h y)
theorem take_new {l : List UInt8} {k : Nat} {x : UInt8} (h : l[k]? = some x) : l.take (k + 1) = l.take k ++ [x] ∧ (l.take (k + 1)).map fTwo = (l.take k).map fTwo ++ [fTwo x] ∧ (l.take (k + 1)).flatMap fThree = (l.take k).flatMap fThree ++ fThree x := by
  have e : l.take (k + 1) = l.take k ++ [x] := by rw [List.take_add_one, h]; rfl
  rw [e]; simp
set_option maxRecDepth 100000 in
set_option maxHeartbeats 8000000 in
theorem manifestEnds_walk (m : Int) (w : World) (hm : w.cell? ⟨0, 0, none⟩ = some (.int .i64 m)) (A0 : Option Addr) (n0 c0 : Nat) (l0 : List UInt8) (e0 : l0.length = n0) (_hc0 : n0 ≤ c0) (_hm0 : (c0 : Int) ≤ 9223372036854775807) (r0 : RB w w.heap.size A0 l0) (_b0 : n0 ≤ 140737488351232)
    (A1 : Option Addr) (n1 c1 : Nat) (l1 : List UInt8) (e1 : l1.length = n1) (_hc1 : n1 ≤ c1) (_hm1 : (c1 : Int) ≤ 9223372036854775807) (r1 : RB w w.heap.size A1 l1) (_b1 : n1 ≤ 140737488351232) :
    Calls Tryd.prog 6 #[.slice A0 n0 c0, .slice A1 n1 c1] w fun e w' => e = .returned (.bool true) ∧ Below w.heap.size w w' := by
  have E0 := Lib.hid e0
  have E1 := Lib.hid e1
  have HM := Lib.hid hm
  clear e0 e1 hm
  go_enter Tryd.func6, Tryd.ntmps6
  go_wp2_with fail
  refine (fixed12_any m _ HM.out).mono ?_
  rintro e w1 ⟨rfl, hb1⟩
  by_cases hz : n0 ≤ 3000
  · by_cases hz1 : n1 ≤ 3000
    · obtain ⟨B1, hB1⟩ : ∃ B1, w1.heap.size = B1 := ⟨_, rfl⟩
      have hBb : w.heap.size ≤ B1 := by have := hb1.size; omega
      have hB1' : B1 ≤ w1.heap.size := by omega
      clear hB1
      go_wp2
      go_loopw [5, 6, 7, 9, 30] (fun v1 v2 v3 _ i wr => ∃ (k : Nat) (o1 o2 o3 : List UInt8), k ≤ n0 ∧ i = .int .i64 (k : Int) ∧ Tri bV wr B1 5 v1 o1 v2 o2 v3 o3 ∧ Below B1 w1 wr ∧ o1.length ≤ 3000 ∧ o2.length ≤ 3000 ∧ o3.length ≤ 6000 ∧
        Hid (o1 = l0.take k) ∧ Hid (o2 = (l0.take k).map fTwo) ∧ Hid (o3 = (l0.take k).flatMap fThree) ∧ Hid (∀ c ∈ l0.take k, c ≠ 13)) (fun _ _ _ _ i _ => n0 - (intOf i).toNat)
      case atStart => exact ⟨0, [], [], [], by omega, rfl, Tri.nil, Below.refl _ _, by simp, by simp, by simp, Lib.hid rfl, Lib.hid rfl, Lib.hid rfl, Lib.hid (by simp)⟩
      case round =>
        obtain ⟨k, o1, o2, o3, hk, rfl, T, hbel, hl1, hl2, hl3, h1, h2, h3, hno⟩ := hrel
        have hfb : Below w.heap.size w wr := hb1.trans (hbel.mono hBb)
        have hzw : B1 ≤ wr.heap.size := Nat.le_trans hB1' hbel.size
        by_cases hk0 : k < n0
        · obtain ⟨ad, x, rfl, hlt, hx, hc⟩ := (r0.below hfb (Nat.le_refl _)).byte (k := k) (by rw [E0.out]; exact hk0)
          have htn := take_new hx.out
          have H1 : Hid (o1 ++ [x] = l0.take (k + 1)) := Lib.hid (by rw [htn.1, h1.out])
          have H2 : Hid (o2 ++ [fTwo x] = (l0.take (k + 1)).map fTwo) := Lib.hid (by rw [htn.2.1, h2.out])
          have H3 : Hid (o3 ++ fThree x = (l0.take (k + 1)).flatMap fThree) := Lib.hid (by rw [htn.2.2, h3.out])
          have HL1 : Hid ((o1 ++ [x]).length ≤ 3000) := Lib.hid (by rw [H1.out, List.length_take]; omega)
          have HL2 : Hid ((o2 ++ [fTwo x]).length ≤ 3000) := Lib.hid (by rw [H2.out, List.length_map, List.length_take]; omega)
          have HL3 : Hid ((o3 ++ fThree x).length ≤ 6000) := Lib.hid (by rw [H3.out]; have := three_len (l0.take (k + 1)); rw [List.length_take] at this; omega)
          clear htn
          by_cases h13 : x = 13
          · have g1 : (x.toNat : Int) = 13 := by rw [h13]; rfl
            clear h13
            go_wp2
            go_ret
            exact ⟨rfl, hfb⟩
          · have g1 : ¬ (x.toNat : Int) = 13 := u8_ne (y := 13) h13
            have g2 : ((x.toNat : Int) == 13) = false := by simpa using g1
            have HNO : Hid (∀ c ∈ l0.take (k + 1), c ≠ 13) := Lib.hid (by
              rw [List.take_add_one, hx.out]
              intro c hc
              rcases List.mem_append.1 hc with hc | hc
              · exact hno.out c hc
              · simp at hc; subst hc; exact h13)
            clear h13
            by_cases h10 : x = 10
            · have g3 : (x.toNat : Int) = 10 := by rw [h10]; rfl
              have HX : Hid (fTwo x = 13 ∧ fThree x = [13, 10] ∧ x = 10) := Lib.hid (by rw [h10]; exact ⟨rfl, rfl, rfl⟩)
              have HN1 : Hid ((o1.length + ([10] : List UInt8).length) * 1 ≤ 140737488355328) := Lib.hid (by simp; omega)
              have HN2 : Hid ((o2.length + ([13] : List UInt8).length) * 1 ≤ 140737488355328) := Lib.hid (by simp; omega)
              have HN3 : Hid ((o3.length + ([13, 10] : List UInt8).length) * 1 ≤ 140737488355328) := Lib.hid (by simp; omega)
              clear h10
              go_wp2_with (first
                | (at_builtin; refine wpList_appL _ bV_one rfl (.tmp 38) (.tmp 39) rfl byteTy (by decide) B1 _ o1 rfl (T.o1.alloc _) _ _ 1 1 [10] rfl rfl (RL.freshe _ _ rfl _) HN1.out (le_alloc0 hzw _) ?_; intro v4 w4 own4 gr4 bk4 hb4; have T4 := ((T.alloc _).app own4 gr4 bk4).rot; have hz4 := Nat.le_trans (le_alloc0 hzw _) hb4.size)
                | (at_builtin; refine wpList_appL _ bV_one rfl (.tmp 41) (.tmp 42) rfl byteTy (by decide) B1 _ o2 rfl (T4.o1.alloc _) _ _ 1 1 [13] rfl rfl (RL.freshe _ _ rfl _) HN2.out (le_alloc0 hz4 _) ?_; intro v5 w5 own5 gr5 bk5 hb5; have T5 := ((T4.alloc _).app own5 gr5 bk5).rot; have hz5 := Nat.le_trans (le_alloc0 hz4 _) hb5.size)
                | (at_builtin; refine wpList_appL _ bV_one rfl (.tmp 44) (.tmp 45) rfl byteTy (by decide) B1 _ o3 rfl (T5.o1.alloc _) _ _ 2 2 [13, 10] rfl rfl (RL.news _ _ _ rfl _ _) HN3.out (le_alloc0 hz5 _) ?_; intro v6 w6 own6 gr6 bk6 hb6; have T6 := ((T5.alloc _).app own6 gr6 bk6).rot))
              have hbel2 := (bl_alloc ((bl_alloc ((bl_alloc hbel hB1' _).trans hb4) hB1' _).trans hb5) hB1' _).trans hb6
              rw [HX.out.1] at H2 HL2
              rw [HX.out.2.1] at H3 HL3
              rw [HX.out.2.2] at H1 HL1
              clear T T4 T5 own4 own5 own6 gr4 gr5 gr6 bk4 bk5 bk6 hb4 hb5 hb6 hbel
              go_roundw
              case rel => exact ⟨k + 1, o1 ++ [10], o2 ++ [13], o3 ++ [13, 10], by omega, by go_num, T6, hbel2, HL1.out, HL2.out, HL3.out, H1, H2, H3, HNO⟩
              case measure => simp [intOf]; omega
            · have g3 : ¬ (x.toNat : Int) = 10 := u8_ne (y := 10) h10
              have g4 : ((x.toNat : Int) == 10) = false := by simpa using g3
              have HX : Hid (fTwo x = x ∧ fThree x = [x]) := Lib.hid ⟨by unfold fTwo; rw [if_neg h10], by unfold fThree; rw [if_neg h10]⟩
              have HN1 : Hid ((o1.length + ([x] : List UInt8).length) * 1 ≤ 140737488355328) := Lib.hid (by simp; omega)
              have HN2 : Hid ((o2.length + ([x] : List UInt8).length) * 1 ≤ 140737488355328) := Lib.hid (by simp; omega)
              have HN3 : Hid ((o3.length + ([x] : List UInt8).length) * 1 ≤ 140737488355328) := Lib.hid (by simp; omega)
              clear h10
              go_wp2_with (first
                | (at_builtin; refine wpList_appL _ bV_one rfl (.tmp 47) (.tmp 49) rfl byteTy (by decide) B1 _ o1 rfl (T.o1.alloc _) _ _ 1 1 [x] rfl rfl (RL.freshe _ _ rfl _) HN1.out (le_alloc0 hzw _) ?_; intro v4 w4 own4 gr4 bk4 hb4; have T4 := ((T.alloc _).app own4 gr4 bk4).rot; have hz4 := Nat.le_trans (le_alloc0 hzw _) hb4.size)
                | (at_builtin; refine wpList_appL _ bV_one rfl (.tmp 51) (.tmp 53) rfl byteTy (by decide) B1 _ o2 rfl (T4.o1.alloc _) _ _ 1 1 [x] rfl rfl (RL.freshe _ _ rfl _) HN2.out (le_alloc0 hz4 _) ?_; intro v5 w5 own5 gr5 bk5 hb5; have T5 := ((T4.alloc _).app own5 gr5 bk5).rot; have hz5 := Nat.le_trans (le_alloc0 hz4 _) hb5.size)
                | (at_builtin; refine wpList_appL _ bV_one rfl (.tmp 55) (.tmp 57) rfl byteTy (by decide) B1 _ o3 rfl (T5.o1.alloc _) _ _ 1 1 [x] rfl rfl (RL.freshe _ _ rfl _) HN3.out (le_alloc0 hz5 _) ?_; intro v6 w6 own6 gr6 bk6 hb6; have T6 := ((T5.alloc _).app own6 gr6 bk6).rot))
              have hbel2 := (bl_alloc ((bl_alloc ((bl_alloc hbel hB1' _).trans hb4) hB1' _).trans hb5) hB1' _).trans hb6
              rw [HX.out.1] at H2 HL2
              rw [HX.out.2] at H3 HL3
              clear T T4 T5 own4 own5 own6 gr4 gr5 gr6 bk4 bk5 bk6 hb4 hb5 hb6 hbel
              go_roundw
              case rel => exact ⟨k + 1, o1 ++ [x], o2 ++ [x], o3 ++ [x], by omega, by go_num, T6, hbel2, HL1.out, HL2.out, HL3.out, H1, H2, H3, HNO⟩
              case measure => simp [intOf]; omega
        · obtain rfl : k = n0 := by omega
          have ho1 : o1 = l0 := by rw [h1.out, ← E0.out, List.take_length]
          have hno' : ∀ c ∈ o1, c ≠ 13 := by rw [h1.out]; exact hno.out
          have ho2 : o2 = o1.map fTwo := by rw [h1.out]; exact h2.out
          have ho3 : o3 = o1.flatMap fThree := by rw [h1.out]; exact h3.out
          obtain ⟨C, M, hCM⟩ : ∃ C M, readM o1 = (C, M) := ⟨_, _, rfl⟩
          have R1 := Lib.hid hCM
          have R2 : Hid (readM o2 = (C, M)) := Lib.hid (by rw [ho2, ends_two hno' hl1, hCM])
          have R3 : Hid (readM o3 = (C, M)) := Lib.hid (by rw [ho3, ends_three hno' hl1, hCM])
          have R4 : Hid (readM (o1 ++ [10, 10] ++ l1) = (C, M)) := Lib.hid (by rw [ends_behind hno' hl1 (by rw [E1.out]; exact hz1), hCM])
          have hml : M.length ≤ 32769 := by have := (readM_ok o1).1; rw [hCM] at this; exact this
          have hcc : (C != C) = false := by simp
          have hcc2 : (C == C) = true := by simp
          clear ho1 hno' ho2 ho3 hCM h1 h2 h3 hno
          obtain ⟨A5, c5, rfl, q5, _⟩ := T.o1.rd
          obtain ⟨A6, c6, rfl, q6, _⟩ := T.o2.rd
          obtain ⟨A7, c7, rfl, q7, _⟩ := T.o3.rd
          clear T hbel
          go_wp2_with fail
          refine (read_any A5 _ c5 o1 m wr rfl (by omega) q5 (cell_old hfb HM.out)).mono ?_
          rw [R1.out]
          rintro e w2 ⟨D1, d1, rfl, x1, b2⟩
          have f2 := hfb.trans (b2.mono hfb.size)
          have q5 := q5.step b2
          have q6 := q6.step b2
          have q7 := q7.step b2
          clear hfb hzw b2
          go_wp2_with fail
          refine (read_any A6 _ c6 o2 m w2 rfl (by omega) q6 (cell_old f2 HM.out)).mono ?_
          rw [R2.out]
          rintro e w3 ⟨D2, d2, rfl, x2, b3⟩
          have f3 := f2.trans (b3.mono f2.size)
          have q5 := q5.step b3
          have q7 := q7.step b3
          have x1 := x1.step b3
          clear f2 q6 b3
          go_wp2_with fail
          refine (read_any A7 _ c7 o3 m w3 rfl (by omega) q7 (cell_old f3 HM.out)).mono ?_
          rw [R3.out]
          rintro e w4 ⟨D3, d3, rfl, x3, b4⟩
          have f4 := f3.trans (b4.mono f3.size)
          have q5 := q5.step b4
          have x1 := x1.step b4
          have x2 := x2.step b4
          clear f3 q7 b4
          go_wp2_with fail
          refine (theirs_any D1 _ d1 M w4 rfl (by omega) x1).mono ?_
          rintro e w5 ⟨G1, g1, rfl, y1, b5⟩
          have f5 := f4.trans (b5.mono f4.size)
          have q5 := q5.step b5
          have x1 := x1.step b5
          have x2 := x2.step b5
          have x3 := x3.step b5
          clear f4 b5
          go_wp2_with fail
          refine (theirs_any D2 _ d2 M w5 rfl (by omega) x2).mono ?_
          rintro e w6 ⟨G2, g2, rfl, y2, b6⟩
          have f6 := f5.trans (b6.mono f5.size)
          have q5 := q5.step b6
          have x1 := x1.step b6
          have x3 := x3.step b6
          have y1 := y1.step b6
          clear f5 b6 x2
          go_wp2_with fail
          refine (samePairs_any G1 G2 _ g1 _ g2 M M w6 rfl rfl (by omega) (by omega) y1 y2).mono ?_
          rintro e w7 ⟨rfl, b7⟩
          rw [decide_eq_true (rfl : M = M)]
          have f7 := f6.trans (b7.mono f6.size)
          have q5 := q5.step b7
          have x1 := x1.step b7
          have x3 := x3.step b7
          clear f6 b7 y1 y2
          go_wp2_with fail
          refine (theirs_any D1 _ d1 M w7 rfl (by omega) x1).mono ?_
          rintro e w8 ⟨G1, g1, rfl, y1, b8⟩
          have f8 := f7.trans (b8.mono f7.size)
          have q5 := q5.step b8
          have x1 := x1.step b8
          have x3 := x3.step b8
          clear f7 b8
          go_wp2_with fail
          refine (theirs_any D3 _ d3 M w8 rfl (by omega) x3).mono ?_
          rintro e w9 ⟨G2, g2, rfl, y2, b9⟩
          have f9 := f8.trans (b9.mono f8.size)
          have q5 := q5.step b9
          have x1 := x1.step b9
          have y1 := y1.step b9
          clear f8 b9 x3
          go_wp2_with fail
          refine (samePairs_any G1 G2 _ g1 _ g2 M M w9 rfl rfl (by omega) (by omega) y1 y2).mono ?_
          rintro e wa ⟨rfl, ba⟩
          rw [decide_eq_true (rfl : M = M)]
          have fa := f9.trans (ba.mono f9.size)
          have q5 := q5.step ba
          have x1 := x1.step ba
          clear f9 ba y1 y2
          have HN1 : Hid ((([] : List UInt8).length + o1.length) * 1 ≤ 140737488355328) := Lib.hid (by simp; omega)
          have HN2 : Hid ((([] ++ o1 : List UInt8).length + ([10, 10] : List UInt8).length) * 1 ≤ 140737488355328) := Lib.hid (by simp; omega)
          have HN3 : Hid ((([] ++ o1 ++ [10, 10] : List UInt8).length + l1.length) * 1 ≤ 140737488355328) := Lib.hid (by rw [E1.out]; simp; omega)
          have HW : Hid (w.heap.size ≤ wa.heap.size) := Lib.hid fa.size
          have r1' : RB wa w.heap.size A1 l1 := r1.below fa (Nat.le_refl _)
          go_wp2_with (first
            | (at_builtin; refine wpList_appL _ bV_one rfl (.tmp 100) (.tmp 101) rfl byteTy (by decide) wa.heap.size _ [] rfl (OwL.lit0 wa (Nat.le_refl _)) _ A5 _ c5 o1 rfl rfl (q5.alloc (Nat.le_refl _) _) HN1.out (le_alloc0 (Nat.le_refl _) _) ?_; intro vb wb ownb _ _ bb; have zb := Nat.le_trans (le_alloc0 (Nat.le_refl wa.heap.size) _) bb.size)
            | (at_builtin; refine wpList_appL _ bV_one rfl (.tmp 102) (.tmp 103) rfl byteTy (by decide) wa.heap.size _ ([] ++ o1) rfl (ownb.alloc _) _ _ 2 2 [10, 10] rfl rfl (RL.news _ _ _ rfl _ _) HN2.out (le_alloc0 zb _) ?_; intro vc wc ownc _ _ bc; have zc := Nat.le_trans (le_alloc0 zb _) bc.size)
            | (at_builtin; refine wpList_appL _ bV_one rfl (.tmp 104) (.tmp 105) rfl byteTy (by decide) wa.heap.size _ ([] ++ o1 ++ [10, 10]) rfl ownc _ A1 n1 c1 l1 rfl E1.out ((r1'.below ((bl_alloc ((bl_alloc (Below.refl wa.heap.size wa) (Nat.le_refl _) _).trans bb) (Nat.le_refl _) _).trans bc) HW.out)) HN3.out zc ?_; intro vd wd ownd _ _ bd)
            | fail)
          rw [List.nil_append] at ownd
          have bw := ((bl_alloc ((bl_alloc (Below.refl wa.heap.size wa) (Nat.le_refl _) _).trans bb) (Nat.le_refl _) _).trans bc).trans bd
          have fd := fa.trans (bw.mono fa.size)
          have x1 := x1.step bw
          have hll : (o1 ++ [10, 10] ++ l1).length ≤ 6002 := by rw [List.length_append, E1.out]; simp; omega
          obtain ⟨Ad, cd, rfl, qd, _⟩ := ownd.rd
          clear fa q5 r1' bb bc bd bw ownb ownc ownd
          refine (read_any Ad _ cd (o1 ++ [10, 10] ++ l1) m wd rfl (by omega) qd (cell_old fd HM.out)).mono ?_
          rw [R4.out]
          rintro e we ⟨D4, d4, rfl, x4, be⟩
          have fe := fd.trans (be.mono fd.size)
          have x1 := x1.step be
          clear fd be qd
          go_wp2_with fail
          refine (theirs_any D4 _ d4 M we rfl (by omega) x4).mono ?_
          rintro e wf ⟨G1, g1, rfl, y1, bf⟩
          have ff := fe.trans (bf.mono fe.size)
          have x1 := x1.step bf
          clear fe bf x4
          go_wp2_with fail
          refine (theirs_any D1 _ d1 M wf rfl (by omega) x1).mono ?_
          rintro e wg ⟨G2, g2, rfl, y2, bg⟩
          have fg := ff.trans (bg.mono ff.size)
          have y1 := y1.step bg
          clear ff bg x1
          go_wp2_with fail
          refine (samePairs_any G1 G2 _ g1 _ g2 M M wg rfl rfl (by omega) (by omega) y1 y2).mono ?_
          rintro e wh ⟨rfl, bh⟩
          rw [decide_eq_true (rfl : M = M)]
          have fh := fg.trans (bh.mono fg.size)
          clear fg bh y1 y2
          go_wp2
          go_ret
          exact ⟨rfl, fh⟩
    · have hz1' : 3000 < n1 := by omega
      go_wp2
      go_ret
      exact ⟨rfl, hb1⟩
  · have hz' : 3000 < n0 := by omega
    go_wp2
    go_ret
    exact ⟨rfl, hb1⟩
end Go.Proofs.YthkgnidafdiolaaDoor
