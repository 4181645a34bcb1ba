/- Contracts: samovarref05.longest, Next. -/
import Derived.Test.YtbhljigppljjbaaRfA
import Derived.Test.YtbhljigppljjbaaRfP
import Derived.Test.YtbhljigppljjbaaInfA
import Derived.Test.YtbhljigppljjbaaPfxB
import Derived.Laws.Tables
import Derived.Laws.Rows
namespace Go.Proofs.Ytbhljigppljjbaa
open Go.RowKit

/-- The document's code, as the cells cs: its rows lie in the blocks from lo to hi. -/
def RCd (w : World) (lo hi : Nat) (cs : Array Value) (l : List Nat) : Prop :=
  cs.size = 32 ∧ (lo ≤ hi ∧ hi ≤ w.heap.size) ∧ (∀ i, i < 16 → cs[i]? = some (.int .i64 (firstP l i : Int))) ∧
    (∀ i, i < 16 → ∃ A c, cs[16 + i]? = some (.slice A (synV l i).length c) ∧ RN w hi A (synV l i) ∧ (∀ ad, A = some ad → lo ≤ ad.block)) ∧ mostP l ≤ 15 ∧ kraftTo l 15 ≤ 32768 ∧ (∀ x ∈ l, x ≤ 15) ∧ l.length ≤ 288
section
variable {w w' : World} {lo hi : Nat} {cs : Array Value} {l : List Nat}
theorem RCd.keep (h : RCd w lo hi cs l) (hk : ∀ i, lo ≤ i → i < hi → w'.heap[i]? = w.heap[i]?) (hs : w.heap.size ≤ w'.heap.size) : RCd w' lo hi cs l := by
  obtain ⟨h1, h2, h3, h4, h5⟩ := h
  refine ⟨h1, ⟨h2.1, by omega⟩, h3, fun i hi' => ?_, h5⟩
  obtain ⟨A, c, a1, a2, a3⟩ := h4 i hi'
  refine ⟨A, c, a1, fun hn => ?_, a3⟩
  obtain ⟨ad, e, hb, hc⟩ := a2 hn
  exact ⟨ad, e, hb, fun j u hu => (World.cell?_of_block (by rw [blk_add]; exact hk _ (a3 ad e) hb)).trans (hc j u hu)⟩
theorem RCd.below {B : Nat} (h : RCd w lo hi cs l) (hb : Below B w w') (hB : hi ≤ B) : RCd w' lo hi cs l := h.keep (fun i _ h2 => hb.block i (by omega)) hb.size
theorem RCd.step (h : RCd w lo hi cs l) (hb : Below w.heap.size w w') : RCd w' lo hi cs l := h.below hb h.2.1.2
theorem RCd.grown {row : Option Nat} (h : RCd w lo hi cs l) (hb : w.grownBy w' row) (hr : ∀ k, row = some k → k < lo ∨ hi ≤ k) : RCd w' lo hi cs l :=
  h.keep (fun i h1 h2 => hb.block i (by have := h.2.1; omega) (fun e => by have := hr i e.symm; omega)) hb.size
theorem RCd.drewN (h : RCd w lo hi cs l) (n : Nat) : RCd (w.drewN n) lo hi cs l := h
end
set_option maxRecDepth 100000 in
set_option maxHeartbeats 1000000 in
theorem rlongest_any (lo hi : Nat) (cs : Array Value) (l : List Nat) (w : World) (hC : RCd w lo hi cs l) :
    Calls Try.prog 48 #[.agg cs] w fun e w' => e = .returned (.int .i64 (mostP l : Int)) ∧ Below w.heap.size w w' := by
  obtain ⟨h1, h2, h3, h4, h5, h6, h7, h8⟩ := hC
  obtain ⟨M, hM⟩ : ∃ M, mostP l = M := ⟨_, rfl⟩
  have HMOST := fun (k : Nat) (a : ∀ j, k < j → j ≤ 15 → (synV l j).length = 0) (b : k = 0 ∨ (synV l k).length ≠ 0) => (most_is h7 a b).symm.trans hM
  rw [hM]
  have HM := bx HMOST
  have H4 := bx h4
  obtain ⟨g, hg⟩ : ∃ g, w.heap.size = g := ⟨_, rfl⟩
  have hK : Bk (w.alloc (.cells cs 62)) g 62 cs := Bk.newAt _ _ _ hg
  have hB : Below w.heap.size w (w.alloc (.cells cs 62)) := bl_alloc (Below.refl _ _) (Nat.le_refl _) _
  clear h3 h4 h5 h6 h7 h8 HMOST hM
  go_enter Try.func48, Try.ntmps48
  go_wp2_with fail
  clear hg
  generalize w.alloc (.cells cs 62) = w1 at hK hB ⊢
  go_loopg [3] 15 (fun κ v3 wr => ∃ k : Nat, κ = k ∧ k ≤ 15 ∧ v3 = .int .i64 (k : Int) ∧ Bx (∀ j, k < j → j ≤ 15 → (synV l j).length = 0) ∧ w1 = wr)
  case atStart => exact ⟨15, by omega, by omega, rfl, ⟨fun j a b => by omega⟩, rfl⟩
  case round =>
    obtain ⟨k, hgk, hk, rfl, HZ, rfl⟩ := hrel
    by_cases h0 : k = 0
    · subst h0
      have HF : Bx (M = 0) := bx (HM.out 0 HZ.out (.inl rfl)).symm
      go_wp2
      go_ret
      exact ⟨by rw [HF.out]; rfl, hB⟩
    · obtain ⟨A, c, hcs, _, _⟩ := H4.out k (by omega)
      have c0 : w1.cell? ⟨g, 16 + k, none⟩ = some (.slice A (synV l k).length c) := (hK.cell (16 + k)).trans hcs
      have hk0 : (0 : Int) < (k : Int) := by omega
      clear hcs
      obtain ⟨L, hL⟩ : ∃ L, (synV l k).length = L := ⟨_, rfl⟩
      rw [hL] at c0
      by_cases hz : L = 0
      · have hzb : ((L : Int) == 0) = true := by rw [hz]; rfl
        have HZ2 : Bx (∀ j, k - 1 < j → j ≤ 15 → (synV l j).length = 0) := bx (fun j a b => by
          rcases Nat.lt_or_ge k j with h | h
          · exact HZ.out j h b
          · obtain rfl : j = k := by omega
            rw [hL, hz])
        clear hz hL HZ
        go_wp2
        go_roundg (k - 1)
        case rel => exact ⟨k - 1, rfl, by omega, by go_num, HZ2, rfl⟩
        case measure => omega
      · have hzb : ((L : Int) == 0) = false := by rw [beq_eq_false_iff_ne]; omega
        have HF : Bx (M = k) := bx (HM.out k HZ.out (.inr (by rw [hL]; exact hz))).symm
        clear hL HZ
        go_wp2
        go_ret
        exact ⟨by rw [HF.out]; rfl, hB⟩
theorem info_code : (Try.prog.info? 62).map (·.size) = some 32 := by kernel_rfl
/-- What Next answers. -/
def RNxPost (R : Rz (Nat × Nat)) (w : World) (gr : Nat) (b : List UInt8) (e : Ending) (w' : World) : Prop :=
  w.grownBy w' (some gr) ∧ match R with
    | .ok x => e = .returned (.tuple #[.int .i64 (x.1 : Int), .int .i64 0]) ∧ RRd w' gr b x.2
    | .err k => e = .returned (.tuple #[.int .i64 0, .int .i64 k])
theorem rnxPost_ok {R : Rz (Nat × Nat)} {w w' : World} {gr : Nat} {b : List UInt8} {s p : Nat} (h : R = .ok (s, p)) (hg : w.grownBy w' (some gr)) (hB : RRd w' gr b p) : RNxPost R w gr b (.returned (.tuple #[.int .i64 (s : Int), .int .i64 0])) w' := by
  subst h; exact ⟨hg, rfl, hB⟩
theorem rnxPost_err {R : Rz (Nat × Nat)} {w w' : World} {gr : Nat} {b : List UInt8} {k : Int} (h : R = .err k) (hg : w.grownBy w' (some gr)) : RNxPost R w gr b (.returned (.tuple #[.int .i64 0, .int .i64 k])) w' := by
  subst h; exact ⟨hg, rfl⟩
set_option maxRecDepth 100000 in
set_option maxHeartbeats 4000000 in
theorem rnext_any (lo hi gr : Nat) (cs : Array Value) (l : List Nat) (b : List UInt8) (p : Nat) (w : World) (hC : RCd w lo hi cs l) (hR : RRd w gr b p) (hlo : gr < lo) :
    Calls Try.prog 39 #[.agg cs, .pointer (some ⟨gr, 0, none⟩)] w (RNxPost (nextP l b p) w gr b) := by
  obtain ⟨R, hRR⟩ : ∃ R, nextP l b p = R := ⟨_, rfl⟩
  rw [hRR]
  have HR : Bx (R = nextF l b (mostP l - 0) 0 0 p) := bx (by rw [← hRR]; rfl)
  obtain ⟨g, hg⟩ : ∃ g, w.heap.size = g := ⟨_, rfl⟩
  have hcz := hC.1
  have hK : Bk (w.alloc (.cells cs 62)) g 62 cs := Bk.newAt _ _ _ hg
  have hB := bl_alloc (Below.refl w.heap.size w) (Nat.le_refl _) (.cells cs 62)
  have hC1 := hC.step hB
  have hR1 := hR.step hB
  have hG1 := gb_alloc (World.grownBy.refl w (some gr)) (.cells cs 62)
  have hgg : gr < g := by rw [← hg]; exact hR.lt
  clear hRR hC hR hB
  go_enter Try.func39, Try.ntmps39
  go_wp2_with (refine wpList_load_row rfl 62 (.tmp 2) rfl g rfl _ cs _ _ hK Try.underlying62 rfl (by rw [hcz]; exact info_code) ?_)
  refine (rlongest_any lo hi cs l _ hC1).mono ?_
  rintro e w2 ⟨rfl, hB2⟩
  obtain ⟨M, hM⟩ : ∃ M, mostP l = M := ⟨_, rfl⟩
  obtain ⟨q1, q2, q3, q4, q5, q6, q7, q8⟩ := id hC1
  rw [hM] at q5
  have HM := bx hM
  have H3 := bx q3
  have H6 := bx q6
  have HR2 : Bx (R = nextF l b (M - 0) 0 0 p) := bx (by rw [← HM.out]; exact HR.out)
  have hC2 := hC1.step hB2
  have hR2 := hR1.step hB2
  have hK2 := hK.below hB2 hK.lt
  have hG2 := gb_then hG1 hB2
  rw [hM]
  clear q1 q2 q3 q4 q6 q7 q8 hC1 hR1 hK hG1 hB2 hg hM HR
  go_wp2_with fail
  go_loopg [7, 8, 9, 10] M (fun κ v7 v8 _ _ wr => ∃ n c q : Nat, κ = M - n ∧ n ≤ M ∧ c < 2 ^ n ∧ v7 = .int .i64 (c : Int) ∧ v8 = .int .i64 (n : Int) ∧ Bk wr g 62 cs ∧ RRd wr gr b q ∧ RCd wr lo hi cs l ∧ w.grownBy wr (some gr) ∧ Bx (R = nextF l b (M - n) n c q))
  case atStart => exact ⟨0, 0, p, by omega, by omega, by decide, rfl, rfl, hK2, hR2, hC2, hG2, HR2⟩
  case round =>
    clear hK2 hR2 hC2 hG2 HR2
    obtain ⟨n, c, q, hgk, hn, hc, rfl, rfl, hK, hR, hC, hG, hgo⟩ := hrel
    by_cases hnm : n < M
    · have hf : M - n = (M - (n + 1)) + 1 := by omega
      have HGO : Bx (R = nextF l b ((M - (n + 1)) + 1) n c q) := bx (hf ▸ hgo.out)
      clear hf hgo
      have hnI : (n : Int) < (M : Int) := by omega
      by_cases hq : q + 1 ≤ 8 * b.length
      · have hp15 : (2 : Nat) ^ n ≤ 2 ^ 15 := Nat.pow_le_pow_right (by decide) (by omega)
        go_wp2_with fail
        refine (rtake_ok gr b q 1 wr hR (by omega) hq).mono ?_
        rintro e w3 ⟨rfl, hR3, hg3⟩
        have hK3 := hK.grown hg3 (fun e => by injection e; omega)
        have hC3 := hC.grown hg3 (fun k hk => by injection hk; omega)
        have hG3 := gb_trans hG hg3
        obtain ⟨d, hd⟩ : ∃ d, bitAt b q = d := ⟨_, rfl⟩
        have ht1 : takeN b q 1 = d := by rw [takeN, takeN, Nat.add_zero, hd]; omega
        have hd2 : d < 2 := by rw [← hd]; exact bitAt_lt _ _
        rw [ht1]
        obtain ⟨W, hW⟩ : ∃ W, 2 * c + d = W := ⟨_, rfl⟩
        obtain ⟨N, hN⟩ : ∃ N, n + 1 = N := ⟨_, rfl⟩
        have hN16 : N < 16 := by omega
        obtain ⟨F, hF⟩ : ∃ F, firstP l N = F := ⟨_, rfl⟩
        have hFb := first_fits H6.out (n := N) (by omega)
        rw [hF] at hFb
        obtain ⟨_, _, q3, q4, _⟩ := id hC3
        obtain ⟨A, cc, hcs, hrow, _⟩ := q4 N hN16
        have c0 : w3.cell? ⟨g, N, none⟩ = some (.int .i64 (F : Int)) := by rw [hK3.cell N, q3 N hN16, hF]
        have c1 : w3.cell? ⟨g, 16 + N, none⟩ = some (.slice A (synV l N).length cc) := (hK3.cell (16 + N)).trans hcs
        obtain ⟨L, hL⟩ : ∃ L, (synV l N).length = L := ⟨_, rfl⟩
        rw [hL] at c1
        have hWI : 2 * (c : Int) + (d : Int) = (W : Int) := by omega
        have hNI : (n : Int) + 1 = (N : Int) := by omega
        have HWI := bx hWI
        have HNI := bx hNI
        have HWc := bx hW
        have HNc := bx hN
        have hWb : W < 65536 := by omega
        have hsym : symAt l (n + 1) (2 * c + bitAt b q) = if F ≤ W then (synV l N)[W - F]? else none := by rw [hN, hd, hW, syn_at, hF]
        clear q3 q4 hcs hK hR hC hG hg3 ht1 hF hWI hNI hW hN
        go_upto_region 8 with (fail)
        rw [HWI.out, HNI.out]
        by_cases hFW : F ≤ W
        · rw [if_pos hFW] at hsym
          have hFI : (F : Int) ≤ (W : Int) := by omega
          obtain ⟨X, hX⟩ : ∃ X, W - F = X := ⟨_, rfl⟩
          rw [hX] at hsym
          have iX : IntKind.i64.wrap ((W : Int) - (F : Int)) = (X : Int) := by rw [show (W : Int) - (F : Int) = (X : Int) by omega]; exact IntWalk.i64_in _ (by omega)
          by_cases hXL : X < L
          · obtain ⟨ad, s, rfl, _, hs, hcs⟩ := RL.atl hrow (k := X) (by rw [hL]; exact hXL)
            have hcs' : w3.cell? (ad.add X) = some (.int .i64 (s : Int)) := hcs
            rw [hs.out] at hsym
            have HF : Bx (R = .ok (s, q + 1)) := bx (by rw [HGO.out, nextF_hit hq hsym])
            have hXI : (X : Int) < (L : Int) := by omega
            have hX0 : (0 : Int) ≤ (X : Int) := by omega
            clear hsym HGO hcs hL hX hs
            go_quiet (fail)
            rename Nat => nq
            have c0' : (w3.drewN nq).cell? ⟨g, N, none⟩ = some (.int .i64 (F : Int)) := c0
            have c1' : (w3.drewN nq).cell? ⟨g, 16 + N, none⟩ = some (.slice (some ad) L cc) := c1
            have hcs2 : (w3.drewN nq).cell? (ad.add X) = some (.int .i64 (s : Int)) := hcs'
            have hR4 : RRd (w3.drewN nq) gr b (q + 1) := hR3
            have hG4 := gb_drewN hG3 nq
            clear c0 c1 hcs' hR3 hG3 hK3 hC3 hrow
            generalize w3.drewN nq = w4 at c0' c1' hcs2 hR4 hG4 ⊢
            go_upto_region 9 with (fail)
            go_quiet (fail)
            rename Nat => nq2
            have hR5 : RRd (w4.drewN nq2) gr b (q + 1) := hR4
            have hG5 := gb_drewN hG4 nq2
            clear c0' c1' hcs2 hR4 hG4
            go_wp2
            go_ret2
            exact rnxPost_ok HF.out hG5 hR5
          · have hXI : ¬ (X : Int) < (L : Int) := by omega
            have hnone : (synV l N)[X]? = none := List.getElem?_eq_none (by rw [hL]; omega)
            rw [hnone] at hsym
            have HF : Bx (R = nextF l b (M - (n + 1)) (n + 1) (2 * c + bitAt b q) (q + 1)) := bx (by rw [HGO.out, nextF_miss hq hsym])
            clear hsym HGO hL hX hnone
            go_quiet (fail)
            rename Nat => nq
            have hR4 : RRd (w3.drewN nq) gr b (q + 1) := hR3
            have hG4 := gb_drewN hG3 nq
            have hK4 := hK3.drewN nq
            have hC4 := hC3.drewN nq
            clear c0 c1 hR3 hG3 hK3 hC3 hrow iX
            generalize w3.drewN nq = w4 at hR4 hG4 hK4 hC4 ⊢
            go_wp2
            go_roundg (M - (n + 1))
            case rel => exact ⟨n + 1, 2 * c + bitAt b q, q + 1, rfl, by omega, by rw [hd, HWc.out]; have := HWc.out; rw [Nat.pow_succ]; omega, by rw [hd, HWc.out], by rw [HNc.out], hK4, hR4, hC4, hG4, HF⟩
            case measure => omega
        · rw [if_neg hFW] at hsym
          have hFI : ¬ (F : Int) ≤ (W : Int) := by omega
          have HF : Bx (R = nextF l b (M - (n + 1)) (n + 1) (2 * c + bitAt b q) (q + 1)) := bx (by rw [HGO.out, nextF_miss hq hsym])
          clear hsym HGO hL
          go_quiet (fail)
          rename Nat => nq
          have hR4 : RRd (w3.drewN nq) gr b (q + 1) := hR3
          have hG4 := gb_drewN hG3 nq
          have hK4 := hK3.drewN nq
          have hC4 := hC3.drewN nq
          clear c0 c1 hR3 hG3 hK3 hC3 hrow
          generalize w3.drewN nq = w4 at hR4 hG4 hK4 hC4 ⊢
          go_wp2
          go_roundg (M - (n + 1))
          case rel => exact ⟨n + 1, 2 * c + bitAt b q, q + 1, rfl, by omega, by rw [hd, HWc.out]; have := HWc.out; rw [Nat.pow_succ]; omega, by rw [hd, HWc.out], by rw [HNc.out], hK4, hR4, hC4, hG4, HF⟩
          case measure => omega
      · have HF : Bx (R = .err 2) := bx (by rw [HGO.out, nextF_short (by omega)])
        go_wp2_with fail
        refine (rtake_short gr b q 1 wr hR (by omega) (by omega)).mono ?_
        rintro e w3 ⟨rfl, hb3⟩
        have hG3 := gb_then hG hb3
        go_wp2
        go_ret2
        exact rnxPost_err HF.out hG3
    · obtain rfl : n = M := by omega
      have HF : Bx (R = .err 6) := bx (by rw [hgo.out, Nat.sub_self]; rfl)
      go_wp2
      go_ret2
      exact rnxPost_err HF.out hG
end Go.Proofs.Ytbhljigppljjbaa
