/- Contract: samovarref06.symbols. -/
import Derived.Test.YtbhljigppljjbaaRfE
import Derived.Test.YtbhljigppljjbaaInfE
namespace Go.Proofs.Ytbhljigppljjbaa
open Go.RowKit

def RSPost (R : Rz (List UInt8 × Nat)) (w : World) (gr : Nat) (b : List UInt8) (lim : Nat) (e : Ending) (w' : World) : Prop :=
  Below gr w w' ∧ match R with
    | .ok x => ∃ v, e = .returned (.tuple #[v, .int .i64 0]) ∧ RRd w' gr b x.2 ∧ OwB w' (gr + 1) 5 v x.1 ∧ x.1.length ≤ lim
    | .err k => e = .returned (.tuple #[.slice none 0 0, .int .i64 k]) ∧ k ≠ 0
theorem rsPost_err {R : Rz (List UInt8 × Nat)} {w w' : World} {gr : Nat} {b : List UInt8} {lim : Nat} {k : Int} (h : R = .err k) (hb : Below gr w w') (hk : k ≠ 0 := by decide) : RSPost R w gr b lim (.returned (.tuple #[.slice none 0 0, .int .i64 k])) w' := by
  subst h; exact ⟨hb, rfl, hk⟩
theorem rsPost_ok {R : Rz (List UInt8 × Nat)} {w w' : World} {gr : Nat} {b : List UInt8} {lim q : Nat} {v : Value} {o : List UInt8} (h : R = .ok (o, q)) (hb : Below gr w w') (h1 : RRd w' gr b q) (h2 : OwB w' (gr + 1) 5 v o) (h3 : o.length ≤ lim) : RSPost R w gr b lim (.returned (.tuple #[v, .int .i64 0])) w' := by
  subst h; exact ⟨hb, v, rfl, h1, h2, h3⟩
/-- While symbols are read. -/
structure RSy (w0 w : World) (gr g1 g2 lo1 hi1 lo2 hi2 : Nat) (cl cd : Array Value) (b : List UInt8) (lit dist : List Nat) (v : Value) (p : Nat) (out : List UInt8) : Prop where
  bl : Below gr w0 w
  rd : RRd w gr b p
  ow : OwB w (gr + 1) 5 v out
  k1 : Bk w g1 62 cl
  k2 : Bk w g2 62 cd
  c1 : RCd w lo1 hi1 cl lit
  c2 : RCd w lo2 hi2 cd dist
  far : ∀ k, v.ownBlock = some k → k ≠ g1 ∧ k ≠ g2 ∧ ¬ (lo1 ≤ k ∧ k < hi1) ∧ ¬ (lo2 ≤ k ∧ k < hi2)
  low : gr < lo1 ∧ gr < lo2 ∧ gr < g1 ∧ gr < g2
section
variable {w0 w w' : World} {gr g1 g2 lo1 hi1 lo2 hi2 : Nat} {cl cd : Array Value} {b : List UInt8} {lit dist : List Nat} {v : Value} {p q : Nat} {out : List UInt8}
theorem RSy.next (h : RSy w0 w gr g1 g2 lo1 hi1 lo2 hi2 cl cd b lit dist v p out) (hg : w.grownBy w' (some gr)) (hR : RRd w' gr b q) : RSy w0 w' gr g1 g2 lo1 hi1 lo2 hi2 cl cd b lit dist v q out := by
  obtain ⟨l1, l2, l3, l4⟩ := h.low
  exact ⟨h.bl.trans (gb_low hg (Nat.le_refl _) h.rd.lt), hR, h.ow.keptAt hg (by omega), h.k1.grown hg (fun e => by injection e; omega), h.k2.grown hg (fun e => by injection e; omega), h.c1.grown hg (fun k hk => by injection hk; omega), h.c2.grown hg (fun k hk => by injection hk; omega), h.far, h.low⟩
/-- One new cell was laid, and the row has grown. -/
theorem RSy.push (h : RSy w0 w gr g1 g2 lo1 hi1 lo2 hi2 cl cd b lit dist v p out) {v' : Value} {out' : List UInt8} {o : Obj} (hO : OwB w' (gr + 1) 5 v' out') (hg : (w.alloc o).grownBy w' v.ownBlock) (hv : v'.ownBlock = v.ownBlock ∨ v'.ownBlock = some (w.alloc o).heap.size) :
    RSy w0 w' gr g1 g2 lo1 hi1 lo2 hi2 cl cd b lit dist v' p out' := by
  obtain ⟨l1, l2, l3, l4⟩ := h.low
  have hsz : (w.alloc o).heap.size = w.heap.size + 1 := by simp
  have same : ∀ i, i < w.heap.size → v.ownBlock ≠ some i → w'.heap[i]? = w.heap[i]? := fun i hi hne => by
    rw [hg.block i (by omega) (fun e => hne e.symm), Below.heap_alloc w o i hi]
  have hvb : ∀ k, v.ownBlock = some k → gr + 1 ≤ k ∧ k < w.heap.size := fun k hk => World.ownsRow.lt h.ow k hk
  have hrd := h.rd.lt
  have hz1 := h.k1.lt
  have hz2 := h.k2.lt
  have hz3 := h.c1.2.1
  have hz4 := h.c2.2.1
  have hw := hg.size
  refine ⟨⟨hg.os.trans h.bl.os, hg.tape.trans h.bl.tape, hg.output.trans h.bl.output, by have := h.bl.size; omega, fun i hi => ?_⟩, ?_, hO, ?_, ?_, ?_, ?_, fun k hk => ?_, h.low⟩
  · rw [same i (by omega) (fun e => by have := hvb i e; omega)]; exact h.bl.block i hi
  · exact h.rd.keep fun i hi => same i (by omega) (fun e => by have := hvb i e; omega)
  · exact (same g1 hz1 (fun e => (h.far g1 e).1 rfl)).trans h.k1
  · exact (same g2 hz2 (fun e => (h.far g2 e).2.1 rfl)).trans h.k2
  · exact h.c1.keep (fun i a1 a2 => same i (by omega) (fun e => (h.far i e).2.2.1 ⟨a1, a2⟩)) (by omega)
  · exact h.c2.keep (fun i a1 a2 => same i (by omega) (fun e => (h.far i e).2.2.2 ⟨a1, a2⟩)) (by omega)
  · rcases hv with e | e
    · exact h.far k (e ▸ hk)
    · rw [e] at hk
      injection hk with hk
      omega
end
set_option maxRecDepth 100000 in
set_option maxHeartbeats 8000000 in
theorem rsymbols_any (gr lo1 hi1 lo2 hi2 : Nat) (cl cd : Array Value) (b : List UInt8) (lit dist : List Nat) (p lim : Nat) (v : Value) (out : List UInt8) (w : World) (hR : RRd w gr b p) (hO : OwB w (gr + 1) 5 v out) (hC1 : RCd w lo1 hi1 cl lit) (hC2 : RCd w lo2 hi2 cd dist)
    (hf : ∀ k, v.ownBlock = some k → ¬ (lo1 ≤ k ∧ k < hi1) ∧ ¬ (lo2 ≤ k ∧ k < hi2)) (hl1 : gr < lo1) (hl2 : gr < lo2) (hol : out.length ≤ lim) (hlim : lim ≤ 32768) :
    Calls Try.prog 27 #[.pointer (some ⟨gr, 0, none⟩), .agg cl, .agg cd, v, .int .i64 (lim : Int)] w (RSPost (symP lit dist lim out b p) w gr b lim) := by
  obtain ⟨R, hRR⟩ : ∃ R, symP lit dist lim out b p = R := ⟨_, rfl⟩
  rw [hRR]
  have HR := bx hRR
  clear hRR
  have hble := hR.le
  have hcz1 := hC1.1
  have hcz2 := hC2.1
  have hgr := hR.lt
  obtain ⟨g1, hg1⟩ : ∃ g1, w.heap.size = g1 := ⟨_, rfl⟩
  have hbA := bl_alloc (bl_alloc (Below.refl w.heap.size w) (Nat.le_refl _) (.cells cl 62)) (Nat.le_refl _) (.cells cd 62)
  have hV0 : RSy w ((w.alloc (.cells cl 62)).alloc (.cells cd 62)) gr g1 (g1 + 1) lo1 hi1 lo2 hi2 cl cd b lit dist v p out :=
    ⟨hbA.mono (by omega), hR.step hbA, hO.below hbA, (Bk.newAt _ _ _ hg1).alloc _, Bk.newAt _ _ _ (by simp [hg1]), hC1.step hbA, hC2.step hbA, fun k hk => by
      have h1 := hf k hk
      have h2 := (World.ownsRow.lt hO k hk).2
      exact ⟨by omega, by omega, h1.1, h1.2⟩, ⟨hl1, hl2, by omega, by omega⟩⟩
  clear hR hO hC1 hC2 hbA hf
  go_enter Try.func27, Try.ntmps27
  go_wp2_with fail
  clear hg1
  generalize ((w.alloc (.cells cl 62)).alloc (.cells cd 62)) = w1 at hV0 ⊢
  go_loopg [3] (8 * b.length + 1) (fun κ v wr => ∃ (q : Nat) (o : List UInt8), RSy w wr gr g1 (g1 + 1) lo1 hi1 lo2 hi2 cl cd b lit dist v q o ∧ o.length ≤ lim ∧ 8 * b.length < q + κ ∧ q ≤ 8 * b.length ∧ Bx (R = symF lit dist b lim κ q o))
  case atStart => exact ⟨p, out, hV0, hol, by omega, by omega, bx HR.out.symm⟩
  case round =>
    clear hV0 hol
    obtain ⟨q, o, hV, hol, hgk, hq, hgo⟩ := hrel
    obtain ⟨κ, rfl⟩ : ∃ κ, gk = κ + 1 := ⟨gk - 1, by omega⟩
    have hK1 := hV.k1
    cases hN : nextP lit b q with
    | err k =>
      have HF : Bx (R = .err k) := bx (hgo.out.trans (symF_err hN))
      have HNX := bx hN
      have hk := nextP_errs hN
      clear hN
      go_wp2_with (refine wpList_load_row rfl 62 (.tmp 6) rfl g1 rfl _ cl _ _ hK1 Try.underlying62 rfl (by rw [hcz1]; exact info_code) ?_)
      refine (rnext_any lo1 hi1 gr cl lit b q wr hV.c1 hV.rd hl1).mono ?_
      rintro e w2 ⟨hg3, hp⟩
      rw [HNX.out] at hp
      obtain rfl := hp
      have hB1 := hV.bl.trans (gb_low (B := gr) hg3 (Nat.le_refl _) hV.rd.lt)
      rcases hk with rfl | rfl
      · go_wp2
        go_ret2
        exact rsPost_err HF.out hB1
      · go_wp2
        go_ret2
        exact rsPost_err HF.out hB1
    | ok x =>
      obtain ⟨s, p1⟩ := x
      have HGO := bx (hgo.out.trans (symF_ok hN))
      have hmore := nextP_more hN
      have HNX := bx hN
      clear hN hgo
      go_wp2_with (refine wpList_load_row rfl 62 (.tmp 6) rfl g1 rfl _ cl _ _ hK1 Try.underlying62 rfl (by rw [hcz1]; exact info_code) ?_)
      refine (rnext_any lo1 hi1 gr cl lit b q wr hV.c1 hV.rd hl1).mono ?_
      rintro e w2 ⟨hg3, hp⟩
      rw [HNX.out] at hp
      obtain ⟨rfl, hR1⟩ := hp
      have hV1 : RSy w w2 gr g1 (g1 + 1) lo1 hi1 lo2 hi2 cl cd b lit dist _ p1 o := hV.next hg3 hR1
      clear hV hg3 hR1 hK1
      obtain ⟨Av, nv, cv, rfl, hnv, hrv⟩ := OwL.sl hV1.ow
      have hol2 : nv ≤ lim := by rw [hnv.out]; exact hol
      by_cases hs : s = 256
      · subst hs
        have HF : Bx (R = .ok (o, p1)) := bx (by rw [HGO.out, if_pos rfl])
        go_wp2
        go_ret2
        exact rsPost_ok HF.out hV1.bl hV1.rd hV1.ow hol
      · have HGO := bx (HGO.out.trans (by rw [if_neg hs]))
        have hse : ((s : Int) == 256) = false := by rw [beq_eq_false_iff_ne]; omega
        by_cases hs2 : s < 256
        · have HGO := bx (HGO.out.trans (by rw [if_pos hs2]))
          by_cases hfull : lim ≤ o.length
          · have HF : Bx (R = .err 8) := bx (by rw [HGO.out, if_pos hfull])
            have hnl : (lim : Int) ≤ (nv : Int) := by rw [hnv.out]; omega
            clear hs HGO
            go_wp2
            go_ret2
            exact rsPost_err HF.out hV1.bl
          · have HGO := bx (HGO.out.trans (by rw [if_neg hfull]))
            have hnl : ¬ (lim : Int) ≤ (nv : Int) := by rw [hnv.out]; omega
            have HL : Bx ((o.length + [UInt8.ofNat s].length) * 1 ≤ 140737488355328) := bx (by simp; omega)
            have HU : Bx (Value.int .u8 (s : Int) = bV (UInt8.ofNat s)) := bx (by unfold bV; rw [UInt8.toNat_ofNat']; congr 1; omega)
            have hgz : gr + 1 ≤ w2.heap.size := by have := hV1.rd.lt; omega
            have hO2 := hV1.ow
            clear hs hrv
            go_wp2_with (at_builtin; refine wpList_appL _ bV_one rfl (.tmp 38) (.tmp 41) rfl byteTy (by decide) (gr + 1) _ o rfl (hO2.alloc _) _ _ 1 1 [UInt8.ofNat s] rfl rfl (RL.freshe _ _ HU.out _) HL.out (le_alloc0 hgz _) ?_; intro v5 w5 hO5 hg5 hv5 hb5)
            have hP := hV1.push hO5 hg5 hv5
            go_roundg κ
            case rel => exact ⟨p1, o ++ [UInt8.ofNat s], hP, by rw [List.length_append]; simp; omega, by omega, by omega, HGO⟩
            case measure => omega
        · have HGO := bx (HGO.out.trans (by rw [if_neg hs2]))
          by_cases hs3 : 285 < s
          · have HF : Bx (R = .err 6) := bx (by rw [HGO.out, if_pos hs3])
            clear hs HGO
            go_wp2
            go_ret2
            exact rsPost_err HF.out hV1.bl
          · have HGO := bx (HGO.out.trans (by rw [if_neg hs3]))
            have h257 : 257 ≤ s := by omega
            have hLb := len_bd s h257 (by omega)
            obtain ⟨L, hL⟩ : ∃ L, (lenP s).1 = L := ⟨_, rfl⟩
            obtain ⟨M, hM⟩ : ∃ M, (lenP s).2 = M := ⟨_, rfl⟩
            rw [hL, hM] at HGO hLb
            have HLx := bx hL
            have HMx := bx hM
            clear hL hM hs
            go_wp2_with fail
            refine (rlen_any s w2 h257 (by omega)).mono ?_
            rintro e w3 ⟨rfl, rfl⟩
            rw [HLx.out, HMx.out]
            by_cases hq1 : p1 + M ≤ 8 * b.length
            · obtain ⟨k1, hk1⟩ : ∃ k1, takeN b p1 M = k1 := ⟨_, rfl⟩
              have hk1b : k1 < 65536 := by
                rw [← hk1]
                have h1 := takeN_lt b p1 M
                have h2 : 2 ^ M ≤ 2 ^ 14 := Nat.pow_le_pow_right (by decide) (by omega)
                omega
              have HK1 := bx hk1
              have HGO2 : Bx (R = (nextP dist b (p1 + M)).bind fun z => if 29 < z.1 then .err 6 else (tk b z.2 (dstP z.1).2).bind fun u => if o.length < (dstP z.1).1 + u.1 then .err 7 else if lim < o.length + (L + k1) then .err 8 else symF lit dist b lim κ u.2 (copyN ((dstP z.1).1 + u.1) (L + k1) o)) := bx (by rw [HGO.out, tk, if_pos hq1, hk1]; rfl)
              clear hk1 HGO
              go_wp2_with fail
              refine (rtake_ok gr b p1 M w2 hV1.rd (by omega) hq1).mono ?_
              rintro e w3 ⟨rfl, hR2, hg2'⟩
              rw [HK1.out]
              have hV2 := hV1.next hg2' hR2
              have hK2 := hV2.k2
              clear hV1 hrv hg2' hR2
              cases hN : nextP dist b (p1 + M) with
              | err k =>
                have HF : Bx (R = .err k) := bx (by rw [HGO2.out, hN]; rfl)
                have HNX2 := bx hN
                have hk := nextP_errs hN
                clear hN HGO2
                go_wp2_with (refine wpList_load_row rfl 62 (.tmp 7) rfl (g1 + 1) rfl _ cd _ _ hK2 Try.underlying62 rfl (by rw [hcz2]; exact info_code) ?_)
                refine (rnext_any lo2 hi2 gr cd dist b (p1 + M) w3 hV2.c2 hV2.rd hl2).mono ?_
                rintro e w4 ⟨hg3, hp⟩
                rw [HNX2.out] at hp
                obtain rfl := hp
                have hB1 := hV2.bl.trans (gb_low (B := gr) hg3 (Nat.le_refl _) hV2.rd.lt)
                rcases hk with rfl | rfl
                · go_wp2
                  go_ret2
                  exact rsPost_err HF.out hB1
                · go_wp2
                  go_ret2
                  exact rsPost_err HF.out hB1
              | ok x =>
                obtain ⟨t, p2⟩ := x
                have hmore2 := nextP_more hN
                have HNX2 := bx hN
                have HGO3 : Bx (R = if 29 < t then .err 6 else (tk b p2 (dstP t).2).bind fun u => if o.length < (dstP t).1 + u.1 then .err 7 else if lim < o.length + (L + k1) then .err 8 else symF lit dist b lim κ u.2 (copyN ((dstP t).1 + u.1) (L + k1) o)) := bx (by rw [HGO2.out, hN]; rfl)
                clear hN HGO2
                go_wp2_with (refine wpList_load_row rfl 62 (.tmp 7) rfl (g1 + 1) rfl _ cd _ _ hK2 Try.underlying62 rfl (by rw [hcz2]; exact info_code) ?_)
                refine (rnext_any lo2 hi2 gr cd dist b (p1 + M) w3 hV2.c2 hV2.rd hl2).mono ?_
                rintro e w4 ⟨hg3, hp⟩
                rw [HNX2.out] at hp
                obtain ⟨rfl, hR3⟩ := hp
                have hV3 : RSy w w4 gr g1 (g1 + 1) lo1 hi1 lo2 hi2 cl cd b lit dist _ p2 o := hV2.next hg3 hR3
                clear hV2 hg3 hR3 hK2
                by_cases ht : 29 < t
                · have HF : Bx (R = .err 6) := bx (by rw [HGO3.out, if_pos ht])
                  clear HGO3
                  go_wp2
                  go_ret2
                  exact rsPost_err HF.out hV3.bl
                · have HGO3 := bx (HGO3.out.trans (by rw [if_neg ht]))
                  have hDb := dst_bd t (by omega)
                  obtain ⟨D, hD⟩ : ∃ D, (dstP t).1 = D := ⟨_, rfl⟩
                  obtain ⟨dm, hdm⟩ : ∃ dm, (dstP t).2 = dm := ⟨_, rfl⟩
                  rw [hD, hdm] at HGO3 hDb
                  have HD := bx hD
                  have HDM := bx hdm
                  clear hD hdm
                  go_wp2_with fail
                  refine (rdist_any t w4 (by omega)).mono ?_
                  rintro e w5 ⟨rfl, rfl⟩
                  rw [HD.out, HDM.out]
                  by_cases hq2 : p2 + dm ≤ 8 * b.length
                  · obtain ⟨k2, hk2⟩ : ∃ k2, takeN b p2 dm = k2 := ⟨_, rfl⟩
                    have hk2b : k2 < 65536 := by
                      rw [← hk2]
                      have h1 := takeN_lt b p2 dm
                      have h2 : 2 ^ dm ≤ 2 ^ 14 := Nat.pow_le_pow_right (by decide) (by omega)
                      omega
                    have HK2 := bx hk2
                    have HGO4 : Bx (R = if o.length < D + k2 then .err 7 else if lim < o.length + (L + k1) then .err 8 else symF lit dist b lim κ (p2 + dm) (copyN (D + k2) (L + k1) o)) := bx (by rw [HGO3.out, tk, if_pos hq2, hk2]; rfl)
                    clear hk2 HGO3
                    go_wp2_with fail
                    refine (rtake_ok gr b p2 dm w4 hV3.rd (by omega) hq2).mono ?_
                    rintro e w5 ⟨rfl, hR4, hg4⟩
                    rw [HK2.out]
                    have hV4 := hV3.next hg4 hR4
                    clear hV3 hg4 hR4
                    by_cases hfar : o.length < D + k2
                    · have HF : Bx (R = .err 7) := bx (by rw [HGO4.out, if_pos hfar])
                      have hfi : (nv : Int) < (D : Int) + (k2 : Int) := by rw [hnv.out]; omega
                      clear HGO4
                      go_wp2
                      go_ret2
                      exact rsPost_err HF.out hV4.bl
                    · have hfi : ¬ (nv : Int) < (D : Int) + (k2 : Int) := by rw [hnv.out]; omega
                      have HGO4 := bx (HGO4.out.trans (by rw [if_neg hfar]))
                      by_cases hlong : lim < o.length + (L + k1)
                      · have HF : Bx (R = .err 8) := bx (by rw [HGO4.out, if_pos hlong])
                        have hli : (lim : Int) - (nv : Int) < (L : Int) + (k1 : Int) := by rw [hnv.out]; omega
                        clear HGO4
                        go_wp2
                        go_ret2
                        exact rsPost_err HF.out hV4.bl
                      · have hli : ¬ (lim : Int) - (nv : Int) < (L : Int) + (k1 : Int) := by rw [hnv.out]; omega
                        have HGO4 := bx (HGO4.out.trans (by rw [if_neg hlong]))
                        go_wp2_with fail
                        obtain ⟨N, hN⟩ : ∃ N, L + k1 = N := ⟨_, rfl⟩
                        obtain ⟨F, hF⟩ : ∃ F, D + k2 = F := ⟨_, rfl⟩
                        have hNb : N < 2000000 := by omega
                        have hFb : F ≤ o.length ∧ 1 ≤ F := by omega
                        have hsum : ((L : Int) + (k1 : Int)) = (N : Int) := by omega
                        have hFI : ((D : Int) + (k2 : Int)) = (F : Int) := by omega
                        rw [hN, hF] at HGO4
                        have hlongN : ¬ lim < o.length + N := by omega
                        rw [hsum, hFI]
                        have HGO5 : Bx (R = symF lit dist b lim κ (p2 + dm) (copyN F N o)) := bx HGO4.out
                        clear hN hF hsum hFI HK1 HK2 HD HDM HGO4 hLb hDb hk1b hk2b hfi hli hfar hlong HNX HNX2 HLx HMx hse
                        obtain ⟨wo, rfl⟩ : ∃ wo : World, wo = wr := ⟨_, rfl⟩
                        generalize decide ((s : Int) < 256) = b1
                        generalize decide (285 < (s : Int)) = b2
                        generalize decide (29 < (t : Int)) = b3
                        generalize decide ((nv : Int) < (F : Int)) = b4
                        generalize decide ((lim : Int) - (nv : Int) < (N : Int)) = b5
                        generalize (lim : Int) - (nv : Int) = b6
                        go_loopg [3, 19] N (fun κ2 v jj wr2 => ∃ (j : Nat) (o2 : List UInt8), κ2 = N - j ∧ j ≤ N ∧ jj = .int .i64 (j : Int) ∧ RSy w wr2 gr g1 (g1 + 1) lo1 hi1 lo2 hi2 cl cd b lit dist v (p2 + dm) o2 ∧ Bx (o2.length = o.length + j) ∧ Bx (copyN F N o = copyN F (N - j) o2))
                        case atStart => exact ⟨0, o, by omega, by omega, rfl, hV4, bx rfl, bx rfl⟩
                        case round =>
                          clear hV4
                          obtain ⟨j, o2, hgk2, hj, rfl, hV6, hol6, hcp⟩ := hrel
                          obtain ⟨A2, n2, cc2, rfl, hn2, hr2⟩ := OwL.sl hV6.ow
                          have hO6 := hV6.ow
                          have hgz : gr + 1 ≤ wr.heap.size := by have := hV6.rd.lt; omega
                          have hn2o : n2 = o.length + j := by rw [hn2.out, hol6.out]
                          by_cases hjN : j < N
                          · obtain ⟨kx, hkx⟩ : ∃ kx, n2 - F = kx := ⟨_, rfl⟩
                            have hkl : kx < o2.length := by rw [hol6.out]; omega
                            obtain ⟨ad, x, rfl, _, hx, hcx⟩ := RL.byte hr2 (k := kx) hkl
                            have hx8 := x.toNat_lt
                            have i2 : (n2 : Int) - (F : Int) = (kx : Int) := by omega
                            have hkn : (kx : Int) < (n2 : Int) := by omega
                            have hk9 : kx ≤ 3000000 := by omega
                            have HX : Bx (o2.getD (o2.length - F) 0 = x) := bx (by
                              rw [← hn2.out, hkx, List.getD_eq_getElem?_getD, hx.out]; rfl)
                            have HL : Bx ((o2.length + [x].length) * 1 ≤ 140737488355328) := bx (by rw [hol6.out]; simp; omega)
                            have hjI : (j : Int) < (N : Int) := by omega
                            clear hn2o hkx hr2
                            go_wp2_with (at_builtin; refine wpList_appL _ bV_one rfl (.tmp 105) (.tmp 113) rfl byteTy (by decide) (gr + 1) _ o2 rfl (hO6.alloc _) _ _ 1 1 [x] rfl rfl (RL.freshe _ _ rfl _) HL.out (le_alloc0 hgz _) ?_; intro v5 w6 hO5 hg5 hv5 hb5)
                            have hP := hV6.push hO5 hg5 hv5
                            have hcp2 : Bx (copyN F N o = copyN F (N - (j + 1)) (o2 ++ [x])) := bx (by
                              rw [hcp.out, show N - j = (N - (j + 1)) + 1 by omega, copyN_step _ _ _ _ HX.out])
                            have hol7 : Bx ((o2 ++ [x]).length = o.length + (j + 1)) := bx (by rw [List.length_append, hol6.out]; rfl)
                            go_roundg (N - (j + 1))
                            case rel => exact ⟨j + 1, o2 ++ [x], rfl, by omega, by go_num, hP, hol7, hcp2⟩
                            case measure => omega
                          · obtain rfl : j = N := by omega
                            have hjI : ¬ (j : Int) < (j : Int) := by omega
                            clear hn2o
                            have HF : Bx (R = symF lit dist b lim κ (p2 + dm) o2) := bx (by rw [HGO5.out, hcp.out, Nat.sub_self]; rfl)
                            go_wp2_with fail
                            go_roundg κ
                            case rel => exact ⟨p2 + dm, o2, hV6, by rw [hol6.out]; omega, by omega, by omega, HF⟩
                            case measure => omega
                  · have HF : Bx (R = .err 2) := bx (by rw [HGO3.out, tk, if_neg hq2]; rfl)
                    clear HGO3
                    go_wp2_with fail
                    refine (rtake_short gr b p2 dm w4 hV3.rd (by omega) (by omega)).mono ?_
                    rintro e w5 ⟨rfl, hb4⟩
                    have hB1 := hV3.bl.trans (hb4.mono (by have := hV3.rd.lt; omega))
                    go_wp2
                    go_ret2
                    exact rsPost_err HF.out hB1
            · have HF : Bx (R = .err 2) := bx (by rw [HGO.out, tk, if_neg hq1]; rfl)
              clear HGO
              go_wp2_with fail
              refine (rtake_short gr b p1 M w2 hV1.rd (by omega) (by omega)).mono ?_
              rintro e w3 ⟨rfl, hb2⟩
              have hB1 := hV1.bl.trans (hb2.mono (by have := hV1.rd.lt; omega))
              go_wp2
              go_ret2
              exact rsPost_err HF.out hB1
end Go.Proofs.Ytbhljigppljjbaa
