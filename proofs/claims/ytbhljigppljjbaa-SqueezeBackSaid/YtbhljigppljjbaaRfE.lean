/- Contract: samovarref06.told. -/
import Derived.Test.YtbhljigppljjbaaRfC
import Derived.Test.YtbhljigppljjbaaRfD
import Derived.Deep.WholeRow
namespace Go.Proofs.Ytbhljigppljjbaa
open Go.RowKit

def RToPost (R : Rz ((List Nat × List Nat) × Nat)) (w : World) (gr : Nat) (b : List UInt8) (e : Ending) (w' : World) : Prop :=
  w.grownBy w' (some gr) ∧ match R with
    | .ok x => ∃ A n c A' n' c', e = .returned (.tuple #[.slice A n c, .slice A' n' c', .int .i64 0]) ∧ x.1.1.length = n ∧ x.1.2.length = n' ∧ RN w' w'.heap.size A x.1.1 ∧ RN w' w'.heap.size A' x.1.2 ∧ RRd w' gr b x.2 ∧
        (∀ y ∈ x.1.1, y ≤ 15) ∧ (∀ y ∈ x.1.2, y ≤ 15) ∧ n ≤ 288 ∧ n' ≤ 288
    | .err k => e = .returned (.tuple #[.slice none 0 0, .slice none 0 0, .int .i64 k]) ∧ k ≠ 0
theorem rtoPost_err {R : Rz ((List Nat × List Nat) × Nat)} {w w' : World} {gr : Nat} {b : List UInt8} {k : Int} (h : R = .err k) (hg : w.grownBy w' (some gr)) (hk : k ≠ 0 := by decide) : RToPost R w gr b (.returned (.tuple #[.slice none 0 0, .slice none 0 0, .int .i64 k])) w' := by
  subst h; exact ⟨hg, rfl, hk⟩
theorem rtoPost_ok {R : Rz ((List Nat × List Nat) × Nat)} {w w' : World} {gr : Nat} {b : List UInt8} {l1 l2 : List Nat} {q n c n' c' : Nat} {A A' : Option Addr} (h : R = .ok ((l1, l2), q)) (hg : w.grownBy w' (some gr)) (h1 : l1.length = n) (h2 : l2.length = n') (h3 : RN w' w'.heap.size A l1) (h4 : RN w' w'.heap.size A' l2)
    (h5 : RRd w' gr b q) (h6 : ∀ y ∈ l1, y ≤ 15) (h7 : ∀ y ∈ l2, y ≤ 15) (h8 : n ≤ 288) (h9 : n' ≤ 288) : RToPost R w gr b (.returned (.tuple #[.slice A n c, .slice A' n' c', .int .i64 0])) w' := by
  subst h; exact ⟨hg, A, n, c, A', n', c', rfl, h1, h2, h3, h4, h5, h6, h7, h8, h9⟩
/-- What is kept while the lengths are read. -/
def RTo (w0 w : World) (gr : Nat) (b : List UInt8) (q : Nat) : Prop := w0.grownBy w (some gr) ∧ RRd w gr b q ∧ gr < w0.heap.size
section
variable {w0 w w' : World} {gr q q' : Nat} {b : List UInt8}
theorem RTo.next (h : RTo w0 w gr b q) (hg : w.grownBy w' (some gr)) (hR : RRd w' gr b q') : RTo w0 w' gr b q' := ⟨gb_trans h.1 hg, hR, h.2.2⟩
theorem RTo.step (h : RTo w0 w gr b q) {B : Nat} (hb : Below B w w') (hB : w0.heap.size ≤ B) : RTo w0 w' gr b q := ⟨gb_past h.1 hb hB, h.2.1.below hb (by have := h.2.2; omega), h.2.2⟩
theorem RTo.drewN (h : RTo w0 w gr b q) (n : Nat) : RTo w0 (w.drewN n) gr b q := h.step (below_drewN (Below.refl w0.heap.size w) n) (Nat.le_refl _)
theorem RTo.size (h : RTo w0 w gr b q) : w0.heap.size ≤ w.heap.size := h.1.size
end
theorem allF_small {lens : List Nat} {b : List UInt8} {total f p s q : Nat} {all : List Nat} (h : all.length < total) (hN : nextP lens b p = .ok (s, q)) (hs : s < 16) (hq : q ≤ 8 * b.length) : allF lens b total (f + 1) p all = allF lens b total f q (all ++ [s]) := by
  rw [allF_ok h hN, if_neg (by omega)]
  have e : runP s all = (s, 1, 0) := by unfold runP; rw [if_neg (by omega), if_neg (by omega), if_neg (by omega)]
  rw [e]
  show (tk b q 0).bind _ = _
  rw [tk, if_pos (by omega)]
  show (if total < all.length + (1 + takeN b q 0) then _ else allF lens b total f (q + 0) (all ++ List.replicate (1 + takeN b q 0) s)) = _
  have e0 : takeN b q 0 = 0 := rfl
  rw [e0, if_neg (by omega)]; rfl
theorem ord_cells2 : ∀ i, i < 19 → (#[Value.int .i64 16, .int .i64 17, .int .i64 18, .int .i64 0, .int .i64 8, .int .i64 7, .int .i64 9, .int .i64 6, .int .i64 10, .int .i64 5, .int .i64 11, .int .i64 4, .int .i64 12, .int .i64 3, .int .i64 13, .int .i64 2, .int .i64 14, .int .i64 1, .int .i64 15] : Array Value)[i]? = some (nV (ordL.getD i 0)) := by
  intro i hi
  match i, hi with
  | 0, _ => rfl
  | 1, _ => rfl
  | 2, _ => rfl
  | 3, _ => rfl
  | 4, _ => rfl
  | 5, _ => rfl
  | 6, _ => rfl
  | 7, _ => rfl
  | 8, _ => rfl
  | 9, _ => rfl
  | 10, _ => rfl
  | 11, _ => rfl
  | 12, _ => rfl
  | 13, _ => rfl
  | 14, _ => rfl
  | 15, _ => rfl
  | 16, _ => rfl
  | 17, _ => rfl
  | 18, _ => rfl
  | i + 19, h => omega
set_option maxRecDepth 100000 in
set_option maxHeartbeats 8000000 in
theorem rtold_any (gr : Nat) (b : List UInt8) (p : Nat) (w : World) (hR : RRd w gr b p) :
    Calls Try.prog 25 #[.pointer (some ⟨gr, 0, none⟩)] w (RToPost (toldP b p) w gr b) := by
  obtain ⟨R, hRR⟩ : ∃ R, toldP b p = R := ⟨_, rfl⟩
  rw [hRR]
  have hble := hR.le
  have hT0 : RTo w w gr b p := ⟨World.grownBy.refl w _, hR, hR.lt⟩
  have HR := bx hRR.symm
  obtain ⟨cs, hcs, hcz, hr1⟩ := mk_row (P := Try.prog) 54 3 (.int .i64 0) 8 Try.underlying54 info_int rfl 19 (by omega) (by omega)
  have hm1 : ∀ w : World, (Instr.makeSlice 54 (.int .i64 19) (.int .i64 19)).run Try.prog w = .ok (.slice (some ⟨w.heap.size, 0, none⟩) 19 19) (w.alloc (.cells cs 3)) := hr1
  have HCS := bx hcs
  have HCZ := bx hcz
  clear hcs hcz hr1 hR hRR
  go_enter Try.func25, Try.ntmps25
  by_cases hq1 : p + 5 ≤ 8 * b.length
  case neg =>
    have HF : Bx (R = .err 2) := bx (by rw [HR.out]; unfold toldP; rw [tk, if_neg hq1]; rfl)
    go_wp2_with fail
    refine (rtake_short gr b p 5 w hT0.2.1 (by omega) (by omega)).mono ?_
    rintro e w1 ⟨rfl, hb1⟩
    have hG := gb_then hT0.1 hb1
    go_wp2
    go_ret3
    exact rtoPost_err HF.out hG
  case pos =>
  go_wp2_with fail
  refine (rtake_ok gr b p 5 w hT0.2.1 (by omega) hq1).mono ?_
  rintro e w1 ⟨rfl, hR1, hg1⟩
  have hT1 := hT0.next hg1 hR1
  obtain ⟨x, hx⟩ : ∃ x, takeN b p 5 = x := ⟨_, rfl⟩
  have hx5 : x < 32 := by rw [← hx]; exact takeN_lt b p 5
  have HX := bx hx
  rw [hx]
  clear hT0 hg1 hR1 hx
  by_cases hq2 : p + 5 + 5 ≤ 8 * b.length
  case neg =>
    have HF : Bx (R = .err 2) := bx (by rw [HR.out]; unfold toldP; rw [tk, if_pos hq1]; show (tk b (p + 5) 5).bind _ = _; rw [tk, if_neg hq2]; rfl)
    go_wp2_with fail
    refine (rtake_short gr b (p + 5) 5 w1 hT1.2.1 (by omega) (by omega)).mono ?_
    rintro e w2 ⟨rfl, hb2⟩
    have hG := gb_then hT1.1 hb2
    go_wp2
    go_ret3
    exact rtoPost_err HF.out hG
  case pos =>
  go_wp2_with fail
  refine (rtake_ok gr b (p + 5) 5 w1 hT1.2.1 (by omega) hq2).mono ?_
  rintro e w2 ⟨rfl, hR2, hg2⟩
  have hT2 := hT1.next hg2 hR2
  obtain ⟨y, hy⟩ : ∃ y, takeN b (p + 5) 5 = y := ⟨_, rfl⟩
  have hy5 : y < 32 := by rw [← hy]; exact takeN_lt b (p + 5) 5
  have HY := bx hy
  rw [hy]
  clear hT1 hg2 hR2 hy
  by_cases hq3 : p + 5 + 5 + 4 ≤ 8 * b.length
  case neg =>
    have HF : Bx (R = .err 2) := bx (by rw [HR.out]; unfold toldP; rw [tk, if_pos hq1]; show (tk b (p + 5) 5).bind _ = _; rw [tk, if_pos hq2]; show (tk b (p + 5 + 5) 4).bind _ = _; rw [tk, if_neg hq3]; rfl)
    go_wp2_with fail
    refine (rtake_short gr b (p + 5 + 5) 4 w2 hT2.2.1 (by omega) (by omega)).mono ?_
    rintro e w3 ⟨rfl, hb3⟩
    have hG := gb_then hT2.1 hb3
    go_wp2
    go_ret3
    exact rtoPost_err HF.out hG
  case pos =>
  go_wp2_with fail
  refine (rtake_ok gr b (p + 5 + 5) 4 w2 hT2.2.1 (by omega) hq3).mono ?_
  rintro e w3 ⟨rfl, hR3, hg3⟩
  have hT3 := hT2.next hg3 hR3
  obtain ⟨z, hz9⟩ : ∃ z, takeN b (p + 5 + 5) 4 = z := ⟨_, rfl⟩
  have hz : z < 16 := by rw [← hz9]; exact takeN_lt b (p + 5 + 5) 4
  obtain ⟨q, hq9⟩ : ∃ q, p + 5 + 5 + 4 = q := ⟨_, rfl⟩
  have HG : Bx (R = toldG b x y z q) := bx (by
    rw [HR.out]; unfold toldP
    rw [tk, if_pos hq1]; show (tk b (p + 5) 5).bind _ = _
    rw [tk, if_pos hq2]; show (tk b (p + 5 + 5) 4).bind _ = _
    rw [tk, if_pos hq3, HX.out, HY.out, hz9, hq9]; rfl)
  rw [hz9]
  rw [hq9] at hT3
  clear hT2 hg3 hR3 hz9 hq9 HX HY HR hq1 hq2 hq3
  by_cases hbig : 286 < x + 257 ∨ 30 < y + 1
  · have HF : Bx (R = .err 5) := bx (by rw [HG.out, toldG, if_pos hbig])
    rcases Nat.lt_or_ge 286 (x + 257) with hb1 | hb1
    · go_wp2
      go_ret3
      exact rtoPost_err HF.out hT3.1
    · have hb2 : 30 < y + 1 := by omega
      go_wp2
      go_ret3
      exact rtoPost_err HF.out hT3.1
  · have HG2 : Bx (R = (lensF b (ordL.take (z + 4)) (List.replicate 19 0) q).bind (toldC b x y)) := bx (by rw [HG.out, toldG, if_neg hbig])
    have hb1 : x ≤ 29 ∧ y ≤ 29 := by omega
    clear hbig HG
    obtain ⟨go_, hgo_⟩ : ∃ go_, w3.heap.size = go_ := ⟨_, rfl⟩
    have hwz := hT3.size
    have hO3 : Rw ((w3.alloc (.cells #[.int .i64 16, .int .i64 17, .int .i64 18, .int .i64 0, .int .i64 8, .int .i64 7, .int .i64 9, .int .i64 6, .int .i64 10, .int .i64 5, .int .i64 11, .int .i64 4, .int .i64 12, .int .i64 3, .int .i64 13, .int .i64 2, .int .i64 14, .int .i64 1, .int .i64 15] 3)).alloc (.cells cs 3)) go_ 3 19 (fun i => nV (ordL.getD i 0)) := Rw.of ((Bk.newAt _ _ _ hgo_).alloc _) rfl ord_cells2
    have hL3 : Rw ((w3.alloc (.cells #[.int .i64 16, .int .i64 17, .int .i64 18, .int .i64 0, .int .i64 8, .int .i64 7, .int .i64 9, .int .i64 6, .int .i64 10, .int .i64 5, .int .i64 11, .int .i64 4, .int .i64 12, .int .i64 3, .int .i64 13, .int .i64 2, .int .i64 14, .int .i64 1, .int .i64 15] 3)).alloc (.cells cs 3)) (go_ + 1) 3 19 (fun i => nV ((List.replicate 19 0).getD i 0)) := Rw.of (Bk.newAt _ _ _ (by simp [hgo_])) HCS.out (fun i hi => by rw [HCZ.out i hi, rep0]; rfl)
    have hT4 := hT3.step (bl_alloc (bl_alloc (Below.refl w3.heap.size w3) (Nat.le_refl _) (.cells #[.int .i64 16, .int .i64 17, .int .i64 18, .int .i64 0, .int .i64 8, .int .i64 7, .int .i64 9, .int .i64 6, .int .i64 10, .int .i64 5, .int .i64 11, .int .i64 4, .int .i64 12, .int .i64 3, .int .i64 13, .int .i64 2, .int .i64 14, .int .i64 1, .int .i64 15] 3)) (Nat.le_refl _) (.cells cs 3)) hwz
    rw [hgo_] at hwz
    clear hT3
    go_wp2_with fail
    clear hgo_ hm1 HCS HCZ
    generalize ((w3.alloc (.cells #[.int .i64 16, .int .i64 17, .int .i64 18, .int .i64 0, .int .i64 8, .int .i64 7, .int .i64 9, .int .i64 6, .int .i64 10, .int .i64 5, .int .i64 11, .int .i64 4, .int .i64 12, .int .i64 3, .int .i64 13, .int .i64 2, .int .i64 14, .int .i64 1, .int .i64 15] 3)).alloc (.cells cs 3)) = w4 at hO3 hL3 hT4 ⊢
    go_loopg [11] (z + 4) (fun κ jj wr => ∃ (j q1 : Nat) (L : List Nat), κ = z + 4 - j ∧ j ≤ z + 4 ∧ jj = .int .i64 (j : Int) ∧ Bx (L.length = 19) ∧ Bx (∀ x ∈ L, x ≤ 7) ∧ Rw wr (go_ + 1) 3 19 (fun i => nV (L.getD i 0)) ∧
      Rw wr go_ 3 19 (fun i => nV (ordL.getD i 0)) ∧ RTo w wr gr b q1 ∧ Bx (R = (lensF b ((ordL.take (z + 4)).drop j) L q1).bind (toldC b x y)))
    case atStart => exact ⟨0, q, List.replicate 19 0, by omega, by omega, rfl, bx (List.length_replicate ..), bx (fun x hx => by rw [List.eq_of_mem_replicate hx]; omega), hL3, hO3, hT4, bx HG2.out⟩
    case round =>
      clear hL3 hO3 hT4 HG2
      obtain ⟨j, q1, L, hgk, hj, rfl, hLl, hL7, hL, hO, hT, hgo⟩ := hrel
      by_cases hjz : j < z + 4
      · have hjI : (j : Int) < (z : Int) + 4 := by omega
        obtain ⟨k, hk⟩ : ∃ k, ordL.getD j 0 = k := ⟨_, rfl⟩
        obtain ⟨ho1, ho2⟩ := ordL_at hz hjz
        rw [hk] at ho1 ho2
        have hglw : w.heap.size ≤ go_ + 1 := by omega
        have HO1 := bx ho1
        clear ho1
        by_cases hq3 : q1 + 3 ≤ 8 * b.length
        · obtain ⟨v, hv⟩ : ∃ v, takeN b q1 3 = v := ⟨_, rfl⟩
          have hv8 : v < 8 := by rw [← hv]; exact takeN_lt b q1 3
          have HGO : Bx (R = (lensF b ((ordL.take (z + 4)).drop (j + 1)) (L.set k v) (q1 + 3)).bind (toldC b x y)) := bx (by rw [hgo.out, lensF_step HO1.out hq3, hv])
          have HV := bx hv
          have HK := bx hk
          clear hv hk
          go_wp2_with fail
          refine (rtake_ok gr b q1 3 wr hT.2.1 (by omega) hq3).mono ?_
          rintro e w5 ⟨rfl, hR5, hg5⟩
          rw [HV.out]
          have hT5 := hT.next hg5 hR5
          have hgrl : gr < go_ := by have := hT.2.2; omega
          have hL5 := hL.grown hg5 (fun e => by injection e; omega)
          have hO5 := hO.grown hg5 (fun e => by injection e; omega)
          have ho5 : w5.cell? ⟨go_, j, none⟩ = some (.int .i64 (k : Int)) := by rw [hO5.cell (by omega), HK.out]; rfl
          have hl5 : w5.cell? ⟨go_ + 1, k, none⟩ = some (.int .i64 ((L.getD k 0 : Nat) : Int)) := hL5.cell ho2
          have hf5 := hL5.frz k
          have HL6 := bx (hL5.set k (.int .i64 (v : Int)))
          have HO6 := bx (hO5.far (p := ⟨go_ + 1, k, none⟩) (by show go_ ≠ go_ + 1; omega) (.int .i64 (v : Int)))
          have HT6 := bx (hT5.step ((Below.refl (go_ + 1) w5).setCell (p := ⟨go_ + 1, k, none⟩) (Nat.le_refl _) (.int .i64 (v : Int))) hglw)
          clear hL5 hO5 hT5 hg5 hR5 hL hO hT
          go_wp2
          go_roundg (z + 4 - (j + 1))
          case rel =>
            refine ⟨j + 1, q1 + 3, L.set k v, rfl, by omega, by go_num, bx (by rw [List.length_set, hLl.out]), bx ?_, HL6.out.ext fun i hi => ?_, HO6.out, HT6.out, HGO⟩
            · intro x hx
              rcases List.mem_or_eq_of_mem_set hx with h | h
              · exact hL7.out x h
              · omega
            · rw [List.getD_eq_getElem?_getD, List.getElem?_set]
              by_cases e : i = k
              · subst e; rw [if_pos rfl, if_pos rfl, if_pos (by rw [hLl.out]; exact hi)]; rfl
              · rw [if_neg (fun x => e x.symm), if_neg e, List.getD_eq_getElem?_getD]
          case measure => omega
        · have HF : Bx (R = .err 2) := bx (by rw [hgo.out, lensF_short HO1.out (by omega)]; rfl)
          clear hk
          go_wp2_with fail
          refine (rtake_short gr b q1 3 wr hT.2.1 (by omega) (by omega)).mono ?_
          rintro e w5 ⟨rfl, hb5⟩
          have HG6 := bx (gb_then hT.1 hb5)
          clear hb5 hL hO hT
          go_wp2
          go_ret3
          exact rtoPost_err HF.out HG6.out
      · obtain rfl : j = z + 4 := by omega
        have hjI : ¬ ((z + 4 : Nat) : Int) < (z : Int) + 4 := by omega
        have HGO : Bx (R = toldC b x y (L, q1)) := bx (by rw [hgo.out, List.drop_of_length_le (by rw [ordL_len hz]; exact Nat.le_refl _)]; rfl)
        have hLr : RN wr wr.heap.size (some ⟨go_ + 1, 0, none⟩) L := RL.more (Rw.read (l := L) (by rw [hLl.out]; exact hL) (fun i x hx => by rw [List.getD_eq_getElem?_getD, hx]; rfl)) (by have := hL.lt; omega)
        clear hgo hL hO
        go_wp2_with fail
        refine (rnew_any (some ⟨go_ + 1, 0, none⟩) 19 19 L false wr hLl.out (by omega) (fun x hx => by have := hL7.out x hx; omega) hLr).mono ?_
        rintro e w5 ⟨hb5, cc, hccz, hcc1, hp⟩
        have hT5 := hT.step hb5 hT.size
        cases hcb : codeB L false with
        | false =>
          have HF : Bx (R = .err 5) := bx (by rw [HGO.out, toldC, if_pos hcb])
          rw [hcb, if_neg (by simp)] at hp
          obtain rfl := hp
          have HG6 := bx (gb_alloc hT5.1 (.cells cc 62))
          clear hcb
          go_wp2_with (refine wpList_store_row rfl 62 (.tmp 14) (.tmp 83) rfl w5.heap.size cc rfl rfl 62 z32 (Bk.new w5 _ z32) (by rw [hccz]; exact info_code) (by rw [hccz]; rfl) hcc1 ?_; rw [World.setRow_alloc_new])
          go_ret3
          exact rtoPost_err HF.out HG6.out
        | true =>
          rw [hcb, if_pos rfl] at hp
          obtain ⟨lo, hi, rfl, hC, hlo⟩ := hp
          have HGO2 : Bx (R = toldA b x y (L, q1)) := bx (by rw [HGO.out, toldC, if_neg (by rw [hcb]; simp)])
          clear hcb HGO
          have hz6 := hT.size
          have hbA := bl_alloc (Below.refl w5.heap.size w5) (Nat.le_refl _) (.cells cc 62)
          obtain ⟨gc, hgc⟩ : ∃ gc, w5.heap.size = gc := ⟨_, rfl⟩
          have HKZ : Bx (Bk (w5.alloc (.cells z32 62)) gc 62 z32) := bx (Bk.newAt _ _ _ hgc)
          have HSR : Bx ((w5.alloc (.cells z32 62)).setRow gc cc = w5.alloc (.cells cc 62)) := bx (by rw [← hgc, World.setRow_alloc_new])
          have hgw : w.heap.size ≤ gc := by rw [← hgc]; exact hT5.size
          have hgrw : gr < w.heap.size := hT.2.2
          have hhi : hi ≤ gc := by rw [← hgc]; exact hC.2.1.2
          have hgrlo : gr < lo := by omega
          have HT6 := bx (hT5.step hbA hT5.size)
          have HC6 := bx (hC.step hbA)
          have HK6 : Bx (Bk (w5.alloc (.cells cc 62)) gc 62 cc) := bx (Bk.newAt _ _ _ hgc)
          have HSZ : Bx (gc + 1 ≤ (w5.alloc (.cells cc 62)).heap.size) := bx (by simp [hgc])
          obtain ⟨T, hT9⟩ : ∃ T, x + 257 + (y + 1) = T := ⟨_, rfl⟩
          have hTb : T ≤ 316 ∧ 258 ≤ T := by omega
          have HT9 := bx hT9
          have hq1 := hT5.2.1.le.1
          have hxT : x + 257 < T := by omega
          clear hT hT5 hb5 hC hlo hbA hT9
          go_wp2_with (refine wpList_store_row rfl 62 (.tmp 14) (.tmp 83) rfl gc cc rfl rfl 62 z32 HKZ.out (by rw [hccz]; exact info_code) (by rw [hccz]; rfl) hcc1 ?_; change wpList _ _ _ _ _ ((w5.alloc (.cells z32 62)).setRow gc cc); rw [HSR.out])
          have hT6 := HT6.out
          have hC6 := HC6.out
          have hK6 := HK6.out
          have hSZ := HSZ.out
          clear HT6 HC6 HK6 HSZ hgc
          generalize w5.alloc (.cells cc 62) = w6 at hT6 hC6 hK6 hSZ ⊢
          have HGO3 : Bx (R = (allF L b T (8 * b.length + 1) q1 []).bind fun v => if v.1.getD 256 0 = 0 then .err 5 else .ok ((v.1.take (x + 257), v.1.drop (x + 257)), v.2)) := bx (by rw [HGO2.out, toldA, HT9.out]; rfl)
          obtain ⟨B5, hB5⟩ : ∃ B5, gc + 1 = B5 := ⟨_, rfl⟩
          rw [hB5] at hSZ
          clear HGO2 hLr
          go_loopg [15] (8 * b.length + 1) (fun κ v wr => ∃ (q2 : Nat) (all : List Nat), OwL nV wr B5 3 v all ∧ B5 ≤ wr.heap.size ∧ RTo w wr gr b q2 ∧ RCd wr lo hi cc L ∧ Bk wr gc 62 cc ∧ all.length ≤ T ∧ Bx (∀ x ∈ all, x ≤ 15) ∧ 8 * b.length < q2 + κ ∧ q2 ≤ 8 * b.length ∧
            Bx (R = (allF L b T κ q2 all).bind fun v => if v.1.getD 256 0 = 0 then .err 5 else .ok ((v.1.take (x + 257), v.1.drop (x + 257)), v.2)))
          case atStart => exact ⟨q1, [], OwL.nil, hSZ, hT6, hC6, hK6, by simp, bx (by simp), by omega, hq1, HGO3⟩
          case round =>
            clear hT6 hC6 hK6 hSZ HGO3
            obtain ⟨q2, all, hO, hBz, hT, hC, hK, hal, h15, hgk, hq2, hgo⟩ := hrel
            obtain ⟨κ, rfl⟩ : ∃ κ, gk = κ + 1 := ⟨gk - 1, by omega⟩
            obtain ⟨Av, nv, cv, rfl, hnv, hrv⟩ := OwL.sl hO
            have hnvT : nv ≤ T := by rw [hnv.out]; exact hal
            by_cases hfull : T ≤ all.length
            · have hnvt : ¬ (nv : Int) < (x : Int) + 257 + ((y : Int) + 1) := by have := HT9.out; have := hnv.out; omega
              have HGO4 : Bx (R = if all.getD 256 0 = 0 then .err 5 else .ok ((all.take (x + 257), all.drop (x + 257)), q2)) := bx (by rw [hgo.out, allF_full hfull]; rfl)
              have hcap : nv ≤ cv := by
                obtain ⟨A', c', e, _, h, _⟩ := hO.rd
                injection e with e1 e2 e3
                subst e3
                rw [hnv.out]; exact h
              obtain ⟨ad9, e9, rfl, _, hx9, hc9⟩ := RL.atl hrv (k := 256) (by omega)
              have hc9' : wr.cell? ⟨ad9.block, ad9.off + 256, none⟩ = some (.int .i64 (e9 : Int)) := by rw [add_pos] at hc9; exact hc9
              have he9 : all.getD 256 0 = e9 := by rw [List.getD_eq_getElem?_getD, hx9.out]; rfl
              have hnvg : 256 < nv := by have := hnv.out; omega
              rw [he9] at HGO4
              have HG := bx hT.1
              clear hgo hc9 he9
              by_cases h0 : e9 = 0
              · have HF : Bx (R = .err 5) := bx (by rw [HGO4.out, if_pos h0])
                subst h0
                go_wp2
                go_ret3
                exact rtoPost_err HF.out HG.out
              · have HF : Bx (R = .ok ((all.take (x + 257), all.drop (x + 257)), q2)) := bx (by rw [HGO4.out, if_neg h0])
                have hb0 : ((e9 : Int) == 0) = false := by rw [beq_eq_false_iff_ne]; omega
                have hx1 : (x : Int) + 257 ≤ (cv : Int) := by have := hnv.out; omega
                have hx2 : (x : Int) + 257 ≤ (nv : Int) := by have := hnv.out; omega
                have hx3 : ¬ cv = x + 257 := by have := hnv.out; omega
                clear h0 HGO4
                go_wp2_with fail
                go_quiet (fail)
                rename Nat => nq
                go_wp2
                go_ret3
                have hl1 : (all.take (x + 257)).length = x + 257 := by rw [List.length_take]; have := hnv.out; omega
                have hl2 : (all.drop (x + 257)).length = nv - (x + 257) := by rw [List.length_drop, hnv.out]
                exact rtoPost_ok HF.out (gb_drewN HG.out nq) hl1 hl2 ((hrv.take _).drewN nq) (hrv.drop (x + 257)) (hT.drewN nq).2.1 (fun y hy => h15.out y (List.mem_of_mem_take hy)) (fun y hy => h15.out y (List.mem_of_mem_drop hy)) (by omega) (by have := HT9.out; have := hnv.out; omega)
            · have hnvt : nv < T := by rw [hnv.out]; omega
              have hlt9 : (nv : Int) < (x : Int) + 257 + ((y : Int) + 1) := by have := HT9.out; omega
              cases hN : nextP L b q2 with
              | err k =>
                have HF : Bx (R = .err k) := bx (by rw [hgo.out, allF_err (by omega) hN]; rfl)
                have HNX := bx hN
                have hk := nextP_errs hN
                clear hN
                go_wp2_with (refine wpList_load_row rfl 62 (.tmp 14) rfl gc rfl _ cc _ _ hK Try.underlying62 rfl (by rw [hccz]; exact info_code) ?_)
                refine (rnext_any lo hi gr cc L b q2 wr hC hT.2.1 hgrlo).mono ?_
                rintro e w7 ⟨hg7, hp⟩
                rw [HNX.out] at hp
                obtain rfl := hp
                have hG7 := gb_trans hT.1 hg7
                rcases hk with rfl | rfl
                · go_wp2
                  go_ret3
                  exact rtoPost_err HF.out hG7
                · go_wp2
                  go_ret3
                  exact rtoPost_err HF.out hG7
              | ok x7 =>
                obtain ⟨s, p1⟩ := x7
                have HNX := bx hN
                have hs19 : s < 19 := by have := nextP_lt hN; rw [hLl.out] at this; exact this
                have hmore := nextP_more hN
                have hokx := allF_ok (f := κ) (by omega : all.length < T) hN
                have hsm := fun h : s < 16 => allF_small (f := κ) (by omega : all.length < T) hN h hmore.2
                have HSM := bx (fun h : s < 16 => hgo.out.trans (by rw [hsm h]))
                have HGO := bx (hgo.out.trans (by rw [hokx]))
                clear hN hgo hokx hsm
                go_wp2_with (refine wpList_load_row rfl 62 (.tmp 14) rfl gc rfl _ cc _ _ hK Try.underlying62 rfl (by rw [hccz]; exact info_code) ?_)
                refine (rnext_any lo hi gr cc L b q2 wr hC hT.2.1 hgrlo).mono ?_
                rintro e w7 ⟨hg7, hp⟩
                rw [HNX.out] at hp
                obtain ⟨rfl, hR7⟩ := hp
                have hT7 := hT.next hg7 hR7
                have hC7 := hC.grown hg7 (fun k hk => by injection hk; omega)
                have hK7 := hK.grown hg7 (fun e => by injection e; omega)
                have hO7 := hO.keptAt hg7 (by omega)
                have hB7 : B5 ≤ w7.heap.size := Nat.le_trans hBz hg7.size
                have hrv7 : RN w7 w7.heap.size Av all := hO7.rl
                clear hT hC hO hBz hg7 hR7 hrv hK
                by_cases hs16 : s < 16
                · have HGO5 : Bx (R = (allF L b T κ p1 (all ++ [s])).bind fun v => if v.1.getD 256 0 = 0 then .err 5 else .ok ((v.1.take (x + 257), v.1.drop (x + 257)), v.2)) := bx (HSM.out hs16)
                  have hsI : (s : Int) < 16 := by omega
                  have HL : Bx ((all.length + [s].length) * 8 ≤ 140737488355328) := bx (by simp; omega)
                  have H15 : Bx (∀ x ∈ all ++ [s], x ≤ 15) := bx (fun x hx => by
                    rcases List.mem_append.1 hx with h | h
                    · exact h15.out x h
                    · simp at h; omega)
                  clear HSM HGO
                  go_wp2_with (at_builtin; refine wpList_appL _ nV_one rfl (.tmp 105) (.tmp 107) rfl intTy (by decide) B5 _ all rfl (hO7.alloc _) _ _ 1 1 [s] rfl rfl (RL.freshe _ s rfl _) HL.out (le_alloc0 hB7 _) ?_; intro v5 w9 hO5 hg5 _ hb5)
                  have hb9 : Below B5 w7 w9 := (bl_alloc (Below.refl B5 w7) hB7 _).trans hb5
                  have hB9 : B5 ≤ w9.heap.size := Nat.le_trans hB7 hb9.size
                  have hT9 := hT7.step hb9 (by omega)
                  have hC9 := hC7.below hb9 (by omega)
                  have hK9 := hK7.below hb9 (by omega)
                  go_roundg κ
                  case rel => exact ⟨p1, all ++ [s], hO5, hB9, hT9, hC9, hK9, by rw [List.length_append]; simp; omega, H15, by omega, by omega, HGO5⟩
                  case measure => omega
                · have hsI : ¬ (s : Int) < 16 := by omega
                  have hT7 : RTo w w7 gr b p1 := hT7
                  clear HSM
                  by_cases hbad : s = 16 ∧ all = []
                  · have HF : Bx (R = .err 6) := bx (by rw [HGO.out, if_pos hbad]; rfl)
                    have hnv0 : nv = 0 := by rw [hnv.out, hbad.2]; rfl
                    obtain ⟨rfl, _⟩ := hbad
                    subst hnv0
                    have HG7 := bx hT7.1
                    clear hsI hs16
                    go_wp2
                    go_ret3
                    exact rtoPost_err HF.out HG7.out
                  · have HGO := bx (HGO.out.trans (by rw [if_neg hbad]))
                    have hbd := runP_bd hs19 h15.out hbad
                    obtain ⟨vv, hvv⟩ : ∃ vv, (runP s all).1 = vv := ⟨_, rfl⟩
                    obtain ⟨nn, hnn⟩ : ∃ nn, (runP s all).2.1 = nn := ⟨_, rfl⟩
                    obtain ⟨ww, hww⟩ : ∃ ww, (runP s all).2.2 = ww := ⟨_, rfl⟩
                    rw [hvv, hnn, hww] at hbd HGO
                    have hrun : (s = 16 ∧ all ≠ [] ∧ vv = all.getLastD 0 ∧ nn = 3 ∧ ww = 2) ∨ (s = 17 ∧ vv = 0 ∧ nn = 3 ∧ ww = 3) ∨ (s = 18 ∧ vv = 0 ∧ nn = 11 ∧ ww = 7) := by
                      unfold runP at hvv hnn hww
                      by_cases e16 : s = 16
                      · rw [if_pos e16] at hvv hnn hww
                        exact .inl ⟨e16, fun e => hbad ⟨e16, e⟩, hvv.symm, hnn.symm, hww.symm⟩
                      · rw [if_neg e16] at hvv hnn hww
                        by_cases e17 : s = 17
                        · rw [if_pos e17] at hvv hnn hww
                          exact .inr (.inl ⟨e17, hvv.symm, hnn.symm, hww.symm⟩)
                        · rw [if_neg e17] at hvv hnn hww
                          have e18 : s = 18 := by omega
                          rw [if_pos e18] at hvv hnn hww
                          exact .inr (.inr ⟨e18, hvv.symm, hnn.symm, hww.symm⟩)
                    have HBAD := bx hbad
                    have HRUN := bx hrun
                    clear hvv hnn hww hbad hrun
                    go_upto_if 110 with (fail)
                    go_cut [18, 20] (fun a c wx => a = .int .i64 (vv : Int) ∧ c = .int .i64 (if s = 16 then 2 else 3) ∧ w7 = wx)
                    case first =>
                      rcases HRUN.out with ⟨hs, hne, hv9, _, _⟩ | ⟨hs, hv, _, _⟩ | ⟨hs, hv, _, _⟩
                      · have hsb : ((s : Int) == 16) = true := by rw [hs]; rfl
                        have hnv0 : 0 < nv := by rw [hnv.out]; exact List.length_pos_iff.2 hne
                        have hnvb : ((nv : Int) == 0) = false := by rw [beq_eq_false_iff_ne]; omega
                        obtain ⟨ad9, x9, rfl, _, hx9, hc9⟩ := RL.atl hrv7 (k := nv - 1) (by rw [← hnv.out]; omega)
                        have hxv : x9 = vv := by
                          rw [hv9, List.getLastD_eq_getLast?, List.getLast?_eq_getElem?, ← hnv.out, hx9.out]; rfl
                        have hc9' : w7.cell? (ad9.add (nv - 1)) = some (.int .i64 (vv : Int)) := by rw [hc9, hxv]; rfl
                        have hn1 : (1 : Int) ≤ (nv : Int) := by omega
                        have HS := bx hs
                        clear hc9 hxv hv9 hne hs
                        go_wp2
                        go_meet
                        case rel => exact ⟨rfl, by rw [if_pos HS.out], rfl⟩
                      · have hsb : ((s : Int) == 16) = false := by rw [hs]; rfl
                        have HS := bx hs
                        subst hv
                        clear hs
                        go_wp2
                        go_meet
                        case rel => exact ⟨rfl, by rw [if_neg (by rw [HS.out]; decide)], rfl⟩
                      · have hsb : ((s : Int) == 16) = false := by rw [hs]; rfl
                        have HS := bx hs
                        subst hv
                        clear hs
                        go_wp2
                        go_meet
                        case rel => exact ⟨rfl, by rw [if_neg (by rw [HS.out]; decide)], rfl⟩
                    case rest =>
                    obtain ⟨rfl, rfl, rfl⟩ := hcut
                    obtain ⟨W3, hW3⟩ : ∃ W3 : Int, (if s = 16 then 2 else 3) = W3 := ⟨_, rfl⟩
                    rw [hW3]
                    have HW3 := bx hW3
                    clear hW3
                    go_upto_if 121 with (fail)
                    go_cut [19, 20] (fun a c wx => a = .int .i64 (nn : Int) ∧ c = .int .i64 (ww : Int) ∧ w7 = wx)
                    case first =>
                      rcases HRUN.out with ⟨hs, hne, hv9, hn, hw⟩ | ⟨hs, hv, hn, hw⟩ | ⟨hs, hv, hn, hw⟩
                      · have hsb : ((s : Int) == 18) = false := by rw [hs]; rfl
                        have hW : W3 = 2 := by rw [← HW3.out, if_pos hs]
                        subst hn hw hW
                        clear hs hv9 hne
                        go_wp2
                        go_meet
                        case rel => exact ⟨rfl, rfl, rfl⟩
                      · have hsb : ((s : Int) == 18) = false := by rw [hs]; rfl
                        have hW : W3 = 3 := by rw [← HW3.out, if_neg (by omega)]
                        subst hn hw hW
                        clear hs hv
                        go_wp2
                        go_meet
                        case rel => exact ⟨rfl, rfl, rfl⟩
                      · have hsb : ((s : Int) == 18) = true := by rw [hs]; rfl
                        subst hn hw
                        clear hs hv
                        go_wp2
                        go_meet
                        case rel => exact ⟨rfl, rfl, rfl⟩
                    case rest =>
                    obtain ⟨rfl, rfl, rfl⟩ := hcut
                    by_cases hq4 : p1 + ww ≤ 8 * b.length
                    · obtain ⟨m, hm⟩ : ∃ m, takeN b p1 ww = m := ⟨_, rfl⟩
                      have hm8 : m < 128 := by
                        rw [← hm]
                        have h1 := takeN_lt b p1 ww
                        have h2 : 2 ^ ww ≤ 2 ^ 7 := Nat.pow_le_pow_right (by decide) hbd.2.2.2
                        omega
                      have HGO2 : Bx (R = (if T < all.length + (nn + m) then .err 6 else allF L b T κ (p1 + ww) (all ++ List.replicate (nn + m) vv)).bind fun v => if v.1.getD 256 0 = 0 then .err 5 else .ok ((v.1.take (x + 257), v.1.drop (x + 257)), v.2)) := bx (by
                        rw [HGO.out, tk, if_pos hq4, hm]; rfl)
                      have HM := bx hm
                      clear hm HGO
                      go_wp2_with fail
                      refine (rtake_ok gr b p1 ww w7 hT7.2.1 (by omega) hq4).mono ?_
                      rintro e w8 ⟨rfl, hR8, hg8⟩
                      rw [HM.out]
                      have hT8 := hT7.next hg8 hR8
                      have hC8 := hC7.grown hg8 (fun k hk => by injection hk; omega)
                      have hK8 := hK7.grown hg8 (fun e => by injection e; omega)
                      have hO8 := hO7.keptAt hg8 (by omega)
                      have hB8 : B5 ≤ w8.heap.size := Nat.le_trans hB7 hg8.size
                      clear hT7 hC7 hO7 hB7 hg8 hR8 hrv7 hK7
                      obtain ⟨N, hN9⟩ : ∃ N, nn + m = N := ⟨_, rfl⟩
                      have hNI : ((m : Int) + (nn : Int)) = (N : Int) := by omega
                      have hNb : N ≤ 200 ∧ 1 ≤ N := by omega
                      rw [hN9] at HGO2
                      have HNI := bx hNI
                      clear hNI hN9
                      go_wp2_with fail
                      rw [HNI.out]
                      obtain ⟨wo2, rfl⟩ : ∃ wo2 : World, wo2 = wr := ⟨_, rfl⟩
                      have hO8' : OwL nV w8 B5 3 (.slice Av nv cv) (all ++ List.replicate 0 vv) := by rw [List.replicate_zero, List.append_nil]; exact hO8
                      clear hO8
                      go_loopg [15, 21] N (fun κ2 v nnn wr => ∃ j : Nat, κ2 = N - j ∧ j ≤ N ∧ nnn = .int .i64 ((N : Int) - (j : Int)) ∧ OwL nV wr B5 3 v (all ++ List.replicate j vv) ∧ B5 ≤ wr.heap.size ∧ RTo w wr gr b (p1 + ww) ∧ RCd wr lo hi cc L ∧ Bk wr gc 62 cc)
                      case atStart => exact ⟨0, by omega, by omega, by go_num, hO8', hB8, hT8, hC8, hK8⟩
                      case round =>
                        clear hO8' hB8 hT8 hC8 hK8
                        obtain ⟨j, hgk2, hj, rfl, hO, hBz, hT, hC, hK⟩ := hrel
                        by_cases hjN : j < N
                        · have HL : Bx (((all ++ List.replicate j vv).length + [vv].length) * 8 ≤ 140737488355328) := bx (by simp; omega)
                          have hjI : (0 : Int) < (N : Int) - (j : Int) := by omega
                          go_wp2_with (at_builtin; refine wpList_appL _ nV_one rfl (.tmp 138) (.tmp 140) rfl intTy (by decide) B5 _ _ rfl (hO.alloc _) _ _ 1 1 [vv] rfl rfl (RL.freshe _ _ rfl _) HL.out (le_alloc0 hBz _) ?_; intro v5 w9 hO5 hg5 _ hb5)
                          have hb9 : Below B5 wr w9 := (bl_alloc (Below.refl B5 wr) hBz _).trans hb5
                          have hO9 : OwL nV w9 B5 3 v5 (all ++ List.replicate (j + 1) vv) := by rw [List.replicate_succ', ← List.append_assoc]; exact hO5
                          have hB9 : B5 ≤ w9.heap.size := Nat.le_trans hBz hb9.size
                          have hT9 := hT.step hb9 (by omega)
                          have hC9 := hC.below hb9 (by omega)
                          have hK9 := hK.below hb9 (by omega)
                          go_roundg (N - (j + 1))
                          case rel => exact ⟨j + 1, rfl, by omega, by go_num, hO9, hB9, hT9, hC9, hK9⟩
                          case measure => omega
                        · obtain rfl : j = N := by omega
                          have hjI : ¬ (0 : Int) < (j : Int) - (j : Int) := by omega
                          have HALL : Bx (∀ x ∈ all ++ List.replicate j vv, x ≤ 15) := bx (fun x hx => by
                            rcases List.mem_append.1 hx with h | h
                            · exact h15.out x h
                            · rw [List.eq_of_mem_replicate h]; exact hbd.1)
                          obtain ⟨A5, n5, c5, rfl, hn5, _⟩ := OwL.sl hO
                          have hn5' : n5 = all.length + j := by rw [hn5.out]; simp
                          have HT10 := HT9.out
                          by_cases hmany : T < all.length + j
                          · have HF : Bx (R = .err 6) := bx (by rw [HGO2.out, if_pos hmany]; rfl)
                            have hgt : (x : Int) + 257 + ((y : Int) + 1) < (n5 : Int) := by omega
                            have HG8 := bx hT.1
                            clear HT10 hn5'
                            go_wp2
                            go_ret3
                            exact rtoPost_err HF.out HG8.out
                          · have HGO3 := bx (HGO2.out.trans (by rw [if_neg hmany]))
                            have hgt : ¬ (x : Int) + 257 + ((y : Int) + 1) < (n5 : Int) := by omega
                            clear HT10 hn5' HGO2
                            go_wp2_with fail
                            go_roundg κ
                            case rel => exact ⟨p1 + ww, all ++ List.replicate j vv, hO, hBz, hT, hC, hK, by rw [List.length_append, List.length_replicate]; omega, HALL, by omega, by omega, HGO3⟩
                            case measure => omega
                    · have HF : Bx (R = .err 2) := bx (by rw [HGO.out, tk, if_neg hq4]; rfl)
                      go_wp2_with fail
                      refine (rtake_short gr b p1 ww w7 hT7.2.1 (by omega) (by omega)).mono ?_
                      rintro e w8 ⟨rfl, hb8⟩
                      have HG8 := bx (gb_then hT7.1 hb8)
                      clear hb8
                      go_wp2
                      go_ret3
                      exact rtoPost_err HF.out HG8.out
end Go.Proofs.Ytbhljigppljjbaa
