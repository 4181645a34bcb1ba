/- Contract: (*inflate.state).symbols. -/
import Derived.Test.YtbhljigppljjbaaInfT
import Derived.Outline
import Derived.Deep.DeepCutAuto
import Derived.Deep.RegionLaw
namespace Go.Proofs.Ytbhljigppljjbaa
open Go.RowKit

/-- While symbols are read: the state's own slice is v; the two codes. -/
def SyV (w0 w : World) (gs gr lim lo1 g1 lo2 g2 : Nat) (b : List UInt8) (lit dist : List Nat) (v : Value) (p : Nat) (out : List UInt8) : Prop :=
  Below gr w0 w ∧ Bk w gs 44 #[.pointer (some ⟨gr, 0, none⟩), v, .int .i64 (lim : Int)] ∧ BRd w gr b p ∧ OwB w (gs + 1) 5 v out ∧ PCd w lo1 g1 lit ∧ PCd w lo2 g2 dist ∧
    (∀ k, v.ownBlock = some k → ¬ (lo1 ≤ k ∧ k ≤ g1) ∧ ¬ (lo2 ≤ k ∧ k ≤ g2))
section
variable {w0 w w' : World} {gs gr lim lo1 g1 lo2 g2 : Nat} {b : List UInt8} {lit dist : List Nat} {v : Value} {p q : Nat} {out : List UInt8}
theorem SyV.next (h : SyV w0 w gs gr lim lo1 g1 lo2 g2 b lit dist v p out) (hg : w.grownBy w' (some gr)) (hR : BRd w' gr b q) (h1 : gr < gs) (h2 : gs < lo1) (h3 : gs < lo2) : SyV w0 w' gs gr lim lo1 g1 lo2 g2 b lit dist v q out := by
  obtain ⟨a1, a2, a3, a4, a5, a6, a7⟩ := h
  refine ⟨a1.trans (gb_low hg (Nat.le_refl _) a3.lt), a2.grown hg (fun e => by injection e; omega), hR, a4.keptAt hg (by omega), a5.grown hg (fun k hk => by injection hk; omega), a6.grown hg (fun k hk => by injection hk; omega), a7⟩
theorem SyV.drewN (h : SyV w0 w gs gr lim lo1 g1 lo2 g2 b lit dist v p out) (n : Nat) : SyV w0 (w.drewN n) gs gr lim lo1 g1 lo2 g2 b lit dist v p out := by
  obtain ⟨a1, a2, a3, a4, a5, a6, a7⟩ := h
  exact ⟨below_drewN a1 n, a2, a3, a4.drewN n, a5.keep (fun _ _ _ => rfl), a6.keep (fun _ _ _ => rfl), a7⟩
/-- One new cell was laid, v has grown, and was put back. -/
theorem SyV.push (h : SyV w0 w gs gr lim lo1 g1 lo2 g2 b lit dist v p out) {v' : Value} {out' : List UInt8} (hO : OwB w' (gs + 1) 5 v' out') (o : Obj) {wm : World} (hm : wm.heap = (w.alloc o).heap) (hmo : wm.os = w.os ∧ wm.tape = w.tape ∧ wm.output = w.output)
    (hg : wm.grownBy w' v.ownBlock) (hv : v'.ownBlock = v.ownBlock ∨ v'.ownBlock = some wm.heap.size) (h1 : gr < gs) (h2 : gs < lo1) (h3 : gs < lo2) :
    SyV w0 (w'.setCell ⟨gs, 1, none⟩ v') gs gr lim lo1 g1 lo2 g2 b lit dist v' p out' := by
  obtain ⟨a1, a2, a3, a4, a5, a6, a7⟩ := h
  have hsz : wm.heap.size = w.heap.size + 1 := by rw [hm]; simp
  have hgs := a2.lt
  have hl1 := a5.lt
  have hl2 := a6.lt
  have same : ∀ i, i < w.heap.size → v.ownBlock ≠ some i → w'.heap[i]? = w.heap[i]? := fun i hi hne => by
    rw [hg.block i (by omega) (fun e => hne e.symm), hm, Below.heap_alloc w o i hi]
  have same2 : ∀ i, i < w.heap.size → v.ownBlock ≠ some i → i ≠ gs → (w'.setCell ⟨gs, 1, none⟩ v').heap[i]? = w.heap[i]? := fun i hi hne hi2 => by
    rw [Below.heap_setCell w' ⟨gs, 1, none⟩ v' i hi2, same i hi hne]
  have hvb : ∀ k, v.ownBlock = some k → gs + 1 ≤ k ∧ k < w.heap.size := fun k hk => World.ownsRow.lt a4 k hk
  have hvg : ∀ i, i ≤ gs → v.ownBlock ≠ some i := fun i hi e => by have := hvb i e; omega
  refine ⟨⟨?_, ?_, ?_, ?_, fun i hi => ?_⟩, ?_, ?_, ?_, ?_, ?_, ?_⟩
  · exact (hg.os.trans hmo.1).trans a1.os
  · exact (hg.tape.trans hmo.2.1).trans a1.tape
  · exact (hg.output.trans hmo.2.2).trans a1.output
  · have := hg.size; have := a1.size; simp [World.setCell]; omega
  · rw [same2 i (by omega) (hvg i (by omega)) (by omega)]; exact a1.block i hi
  · have hb : Bk w' gs 44 #[.pointer (some ⟨gr, 0, none⟩), v, .int .i64 (lim : Int)] := (same gs hgs (hvg gs (Nat.le_refl _))).trans a2
    have := hb.set 1 v'
    simpa using this
  · exact a3.keep fun i hi => same2 i (by omega) (hvg i (by omega)) (by omega)
  · refine hO.agree fun k hk1 hk2 => ?_
    exact Below.heap_setCell w' ⟨gs, 1, none⟩ v' k (by show k ≠ gs; omega)
  · exact a5.keep fun i hi1 hi2 => same2 i (by omega) (fun e => (a7 i e).1 ⟨hi1, hi2⟩) (by omega)
  · exact a6.keep fun i hi1 hi2 => same2 i (by omega) (fun e => (a7 i e).2 ⟨hi1, hi2⟩) (by omega)
  · intro k hk
    rcases hv with e | e
    · exact a7 k (e ▸ hk)
    · rw [e] at hk
      injection hk with hk
      omega
theorem SyV.cells (h : SyV w0 w gs gr lim lo1 g1 lo2 g2 b lit dist v p out) : w.cell? ⟨gs, 0, none⟩ = some (.pointer (some ⟨gr, 0, none⟩)) ∧ w.cell? ⟨gs, 1, none⟩ = some v ∧ w.cell? ⟨gs, 2, none⟩ = some (.int .i64 (lim : Int)) ∧ w.frozen? ⟨gs, 1, none⟩ = false := by
  obtain ⟨_, a2, _⟩ := h
  exact ⟨(a2.cell 0).trans rfl, (a2.cell 1).trans rfl, (a2.cell 2).trans rfl, a2.frz 1⟩
theorem SyV.ist (h : SyV w0 w gs gr lim lo1 g1 lo2 g2 b lit dist v p out) (h1 : gr < gs) (hl : out.length ≤ lim) (hlim : lim ≤ 32768) : ISt w gs gr w.heap.size b p lim out := by
  obtain ⟨_, a2, a3, a4, _⟩ := h
  exact ⟨v, a2, a3, a4, fun k hk => (World.ownsRow.lt a4 k hk).2, h1, hl, hlim⟩
end
theorem symF_err {lit dist : List Nat} {b : List UInt8} {lim f p : Nat} {out : List UInt8} {k : Int} (h : nextP lit b p = .err k) : symF lit dist b lim (f + 1) p out = .err k := by rw [symF, h]; rfl
theorem symF_ok {lit dist : List Nat} {b : List UInt8} {lim f p s p1 : Nat} {out : List UInt8} (h : nextP lit b p = .ok (s, p1)) : symF lit dist b lim (f + 1) p out = if s = 256 then .ok (out, p1)
      else if s < 256 then (if lim ≤ out.length then .err 8 else symF lit dist b lim f p1 (out ++ [UInt8.ofNat s]))
      else if 285 < s then .err 6
      else (tk b p1 (lenP s).2).bind fun y => (nextP dist b y.2).bind fun z =>
        if 29 < z.1 then .err 6
        else (tk b z.2 (dstP z.1).2).bind fun u =>
          if out.length < (dstP z.1).1 + u.1 then .err 7
          else if lim < out.length + ((lenP s).1 + y.1) then .err 8
          else symF lit dist b lim f u.2 (copyN ((dstP z.1).1 + u.1) ((lenP s).1 + y.1) out) := by rw [symF, h]; rfl
theorem spread_bd2 : ∀ c, c < 31 → (spreadP c 2).1 ≤ 1000000 ∧ (spreadP c 2).2 ≤ 14 := by decide +kernel
theorem spread_bd4 : ∀ c, c < 31 → (spreadP c 4).1 ≤ 1000000 ∧ (spreadP c 4).2 ≤ 14 := by decide +kernel
theorem copyN_step (far n : Nat) (o : List UInt8) (x : UInt8) (h : o.getD (o.length - far) 0 = x) : copyN far (n + 1) o = copyN far n (o ++ [x]) := by subst h; rfl
set_option maxRecDepth 100000 in
set_option maxHeartbeats 2000000 in
theorem isymbols_any (gs gr B lo1 g1 lo2 g2 : Nat) (b : List UInt8) (lit dist : List Nat) (p lim : Nat) (out : List UInt8) (w : World) (h : ISt w gs gr B b p lim out) (hC1 : PCd w lo1 g1 lit) (hC2 : PCd w lo2 g2 dist) (hB1 : B ≤ lo1) (hB2 : B ≤ lo2) (hg1 : gs < lo1) (hg2 : gs < lo2) :
    Calls Try.prog 37 #[.pointer (some ⟨gs, 0, none⟩), .pointer (some ⟨g1, 0, none⟩), .pointer (some ⟨g2, 0, none⟩)] w (IPost (symP lit dist lim out b p) w gs gr b lim) := by
  obtain ⟨R, hRR⟩ : ∃ R, symP lit dist lim out b p = R := ⟨_, rfl⟩
  rw [hRR]
  have HR := bx hRR
  clear hRR
  have hlt := h.lt
  obtain ⟨v0, hK, hR, hO, hv, hgs, hol, hlim⟩ := h
  have hble := hR.le
  have hV0 : SyV w w gs gr lim lo1 g1 lo2 g2 b lit dist v0 p out := ⟨Below.refl _ _, hK, hR, hO, hC1, hC2, fun k hk => by have := hv k hk; omega⟩
  clear hK hR hO hv hC1 hC2
  go_enter Try.func37, Try.ntmps37
  go_wp2_with fail
  go_loopg [7] (8 * b.length + 1) (fun κ _ wr => ∃ (v : Value) (q : Nat) (o : List UInt8), SyV w wr gs gr lim lo1 g1 lo2 g2 b lit dist v q o ∧ o.length ≤ lim ∧ 8 * b.length < q + κ ∧ q ≤ 8 * b.length ∧ Bx (R = symF lit dist b lim κ q o))
  case atStart => exact ⟨v0, p, out, hV0, hol, by omega, by omega, bx HR.out.symm⟩
  case round =>
    clear hV0 hol
    obtain ⟨v, q, o, hV, hol, hgk, hq, hgo⟩ := hrel
    obtain ⟨κ, rfl⟩ : ∃ κ, gk = κ + 1 := ⟨gk - 1, by omega⟩
    obtain ⟨c0, c1, c2, f1⟩ := hV.cells
    cases hN : nextP lit b q with
    | err k =>
      have HF : Bx (R = .err k) := bx (hgo.out.trans (symF_err hN))
      have HNX := bx hN
      have hk := nextP_errs hN
      clear hN
      go_wp2_with fail
      refine (pnext_any g1 lo1 gr lit b q wr hV.2.2.2.2.1 hV.2.2.1 (by omega)).mono ?_
      rintro e w1 ⟨hg3, hp⟩
      rw [HNX.out] at hp
      obtain rfl := hp
      have hB1 := hV.1.trans (gb_low (B := gr) hg3 (Nat.le_refl _) (by have := hV.2.2.1.lt; omega))
      rcases hk with rfl | rfl
      · go_wp2
        go_ret
        exact iPost_err HF.out hB1
      · go_wp2
        go_ret
        exact iPost_err HF.out hB1
    | ok x =>
      obtain ⟨s, p1⟩ := x
      have HGO := bx (hgo.out.trans (symF_ok hN))
      have hmore := nextP_more hN
      have HNX := bx hN
      clear hN hgo
      go_wp2_with fail
      refine (pnext_any g1 lo1 gr lit b q wr hV.2.2.2.2.1 hV.2.2.1 (by omega)).mono ?_
      rintro e w1 ⟨hg3, hp⟩
      rw [HNX.out] at hp
      obtain ⟨rfl, hR1⟩ := hp
      have hV1 := hV.next hg3 hR1 hgs hg1 hg2
      clear hV c0 c1 c2 f1 hg3 hR1
      obtain ⟨c0, c1, c2, f1⟩ := hV1.cells
      by_cases hs : s = 256
      · subst hs
        have HF : Bx (R = .ok (o, p1)) := bx (by rw [HGO.out, if_pos rfl])
        go_wp2
        go_ret
        exact iPost_ok HF.out hV1.1 (hV1.ist hgs hol hlim)
      · obtain ⟨Av, nv, cv, rfl, hnv, hrv⟩ := OwL.sl hV1.2.2.2.1
        have hO1 := hV1.2.2.2.1
        have hgz := hV1.2.1.lt
        rw [if_neg hs] at HGO
        have hol2 : nv ≤ lim := by rw [hnv.out]; exact hol
        by_cases hs2 : s < 256
        · rw [if_pos hs2] at HGO
          have hse : ((s : Int) == 256) = false := by rw [beq_eq_false_iff_ne]; omega
          by_cases hfull : lim ≤ o.length
          · have HF : Bx (R = .err 8) := bx (by rw [HGO.out, if_pos hfull])
            have hnl : (lim : Int) ≤ (nv : Int) := by rw [hnv.out]; omega
            clear hs HGO
            go_wp2_with fail
            go_quiet (fail)
            rename Nat => nq
            go_wp2
            go_ret
            exact iPost_err HF.out (below_drewN hV1.1 nq)
          · rw [if_neg hfull] at HGO
            have hnl : ¬ (lim : Int) ≤ (nv : Int) := by rw [hnv.out]; omega
            clear hs
            go_wp2_with fail
            go_quiet (fail)
            rename Nat => nq
            have hV2 := hV1.drewN nq
            have hO2 := hO1.drewN nq
            have c0' : (w1.drewN nq).cell? ⟨gs, 0, none⟩ = some (.pointer (some ⟨gr, 0, none⟩)) := c0
            have c1' : (w1.drewN nq).cell? ⟨gs, 1, none⟩ = some (.slice Av nv cv) := c1
            have f1' : (w1.drewN nq).frozen? ⟨gs, 1, none⟩ = false := f1
            have hgz2 : gs < (w1.drewN nq).heap.size := hgz
            clear c0 c1 c2 f1 hV1 hO1 hrv hgz
            generalize w1.drewN nq = w2 at hV2 hO2 c0' c1' f1' hgz2 ⊢
            have HL : Bx ((o.length + [UInt8.ofNat s].length) * 1 ≤ 140737488355328) := bx (by simp; omega)
            have HU : Bx (Value.int .u8 (s : Int) = bV (UInt8.ofNat s)) := bx (by unfold bV; rw [UInt8.toNat_ofNat']; congr 1; omega)
            have c1a : (w2.alloc (.cells #[.int .u8 (s : Int)] 5)).cell? ⟨gs, 1, none⟩ = some (.slice Av nv cv) := (World.cell?_alloc_lt _ _ _ hgz2).trans c1'
            have f1a : (w2.alloc (.cells #[.int .u8 (s : Int)] 5)).frozen? ⟨gs, 1, none⟩ = false := (Below.frozen (bl_alloc (Below.refl w2.heap.size w2) (Nat.le_refl _) _) hgz2).trans f1'
            go_wp2_with (at_builtin; refine wpList_appL _ bV_one rfl (.tmp 46) (.tmp 49) rfl byteTy (by decide) (gs + 1) _ o rfl (hO2.alloc _) _ _ 1 1 [UInt8.ofNat s] rfl rfl (RL.freshe _ _ HU.out _) HL.out (le_alloc0 hgz2 _) ?_; intro v5 w5 hO5 hg5 hv5 hb5; obtain ⟨A5, n5, c5, rfl, _, _⟩ := OwL.sl hO5; have e1 := (hb5.cell (p := ⟨gs, 1, none⟩) (Nat.lt_succ_self gs)).trans c1a; have e2 := (hb5.frozen (p := ⟨gs, 1, none⟩) (Nat.lt_succ_self gs)).trans f1a)
            have hP := hV2.push hO5 (.cells #[.int .u8 (s : Int)] 5) rfl ⟨rfl, rfl, rfl⟩ hg5 hv5 hgs hg1 hg2
            go_roundg κ
            case rel => exact ⟨_, p1, o ++ [UInt8.ofNat s], hP, by rw [List.length_append]; simp; omega, by omega, by omega, HGO⟩
            case measure => omega
        · rw [if_neg hs2] at HGO
          have hse : ((s : Int) == 256) = false := by rw [beq_eq_false_iff_ne]; omega
          by_cases hs3 : 285 < s
          · have HF : Bx (R = .err 6) := bx (by rw [HGO.out, if_pos hs3])
            clear hs HGO
            go_wp2_with fail
            go_ret
            exact iPost_err HF.out hV1.1
          · rw [if_neg hs3] at HGO
            have h257 : 257 ≤ s := by omega
            have hsp := spread_bd4 (s - 257) (by omega)
            obtain ⟨n0, hn0⟩ : ∃ n0, (spreadP (s - 257) 4).1 = n0 := ⟨_, rfl⟩
            obtain ⟨m0, hm0⟩ : ∃ m0, (spreadP (s - 257) 4).2 = m0 := ⟨_, rfl⟩
            obtain ⟨L, hL⟩ : ∃ L, (lenP s).1 = L := ⟨_, rfl⟩
            obtain ⟨M, hM⟩ : ∃ M, (lenP s).2 = M := ⟨_, rfl⟩
            have hLM : (s = 285 ∧ L = 258 ∧ M = 0) ∨ (s ≠ 285 ∧ L = n0 + 3 ∧ M = m0) := by
              by_cases e : s = 285
              · left; refine ⟨e, ?_, ?_⟩
                · rw [← hL, lenP, if_pos e]
                · rw [← hM, lenP, if_pos e]
              · right; refine ⟨e, ?_, ?_⟩
                · rw [← hL, lenP, if_neg e, ← hn0]
                · rw [← hM, lenP, if_neg e, ← hm0]
            rw [hn0, hm0] at hsp
            rw [hL, hM] at HGO
            have HN0 := bx hn0
            have HM0 := bx hm0
            have hLb : L ≤ 1000003 ∧ M ≤ 14 := by omega
            clear hn0 hm0 hL hM hs
            go_wp2_with fail
            refine (spread_any ((s : Int) - 257) (s - 257) 4 w1 (by omega) (by omega) (.inr rfl)).mono ?_
            rintro e w2 ⟨rfl, rfl⟩
            rw [HN0.out, HM0.out]
            go_upto_if 65 with (fail)
            go_cut [9, 10] (fun a c wx => a = .int .i64 (L : Int) ∧ c = .int .i64 (M : Int) ∧ w1 = wx)
            case first =>
              rcases hLM with ⟨rfl, rfl, rfl⟩ | ⟨hs5, rfl, rfl⟩
              · go_wp2
                go_meet
                case rel => exact ⟨rfl, rfl, rfl⟩
              · have hse5 : ((s : Int) == 285) = false := by rw [beq_eq_false_iff_ne]; omega
                go_wp2
                go_meet
                case rel => exact ⟨by go_num, rfl, rfl⟩
            case rest =>
              obtain ⟨rfl, rfl, rfl⟩ := hcut
              have HLM := bx hLM
              clear hLM HN0 HM0 hsp hse
              by_cases hq1 : p1 + M ≤ 8 * b.length
              · obtain ⟨k1, hk1⟩ : ∃ k1, takeN b p1 M = k1 := ⟨_, rfl⟩
                have hk1b : k1 < 65536 := by
                  rw [← hk1]
                  have h1 := takeN_lt b p1 M
                  have h2 : 2 ^ M ≤ 2 ^ 14 := Nat.pow_le_pow_right (by decide) hLb.2
                  omega
                have HT1 : Bx (tk b p1 M = .ok (k1, p1 + M)) := bx (by rw [tk, if_pos hq1, hk1])
                have HK1 := bx hk1
                have HGO2 : Bx (R = (nextP dist b (p1 + M)).bind fun z => if 29 < z.1 then .err 6 else (tk b z.2 (dstP z.1).2).bind fun u => if o.length < (dstP z.1).1 + u.1 then .err 7 else if lim < o.length + (L + k1) then .err 8 else symF lit dist b lim κ u.2 (copyN ((dstP z.1).1 + u.1) (L + k1) o)) := bx (by rw [HGO.out, HT1.out]; rfl)
                clear hk1 HGO
                go_wp2_with fail
                refine (btake_ok gr b p1 M w1 hV1.2.2.1 (by omega) hq1).mono ?_
                rintro e w2 ⟨rfl, hR2, hg2'⟩
                rw [HK1.out]
                have hV2 := hV1.next hg2' hR2 hgs hg1 hg2
                clear hV1 hO1 hrv c0 c1 c2 f1 hg2' hR2
                obtain ⟨c0, c1, c2, f1⟩ := hV2.cells
                cases hN : nextP dist b (p1 + M) with
                | err k =>
                  have HF : Bx (R = .err k) := bx (by rw [HGO2.out, hN]; rfl)
                  have HNX2 := bx hN
                  have hk := nextP_errs hN
                  clear hN HGO2
                  go_wp2_with fail
                  refine (pnext_any g2 lo2 gr dist b (p1 + M) w2 hV2.2.2.2.2.2.1 hV2.2.2.1 (by omega)).mono ?_
                  rintro e w3 ⟨hg3, hp⟩
                  rw [HNX2.out] at hp
                  obtain rfl := hp
                  have hB1 := hV2.1.trans (gb_low (B := gr) hg3 (Nat.le_refl _) (by have := hV2.2.2.1.lt; omega))
                  rcases hk with rfl | rfl
                  · go_wp2
                    go_ret
                    exact iPost_err HF.out hB1
                  · go_wp2
                    go_ret
                    exact iPost_err HF.out hB1
                | ok x =>
                  obtain ⟨t, p2⟩ := x
                  have hmore2 := nextP_more hN
                  have HNX2 := bx hN
                  have HGO3 : Bx (R = if 29 < t then .err 6 else (tk b p2 (dstP t).2).bind fun u => if o.length < (dstP t).1 + u.1 then .err 7 else if lim < o.length + (L + k1) then .err 8 else symF lit dist b lim κ u.2 (copyN ((dstP t).1 + u.1) (L + k1) o)) := bx (by rw [HGO2.out, hN]; rfl)
                  clear hN HGO2
                  go_wp2_with fail
                  refine (pnext_any g2 lo2 gr dist b (p1 + M) w2 hV2.2.2.2.2.2.1 hV2.2.2.1 (by omega)).mono ?_
                  rintro e w3 ⟨hg3, hp⟩
                  rw [HNX2.out] at hp
                  obtain ⟨rfl, hR3⟩ := hp
                  have hV3 := hV2.next hg3 hR3 hgs hg1 hg2
                  clear hV2 c0 c1 c2 f1 hg3 hR3
                  obtain ⟨c0, c1, c2, f1⟩ := hV3.cells
                  by_cases ht : 29 < t
                  · have HF : Bx (R = .err 6) := bx (by rw [HGO3.out, if_pos ht])
                    clear HGO3
                    go_wp2_with fail
                    go_ret
                    exact iPost_err HF.out hV3.1
                  · rw [if_neg ht] at HGO3
                    have hsp := spread_bd2 t (by omega)
                    obtain ⟨d0, hd0⟩ : ∃ d0, (spreadP t 2).1 = d0 := ⟨_, rfl⟩
                    obtain ⟨dm, hdm⟩ : ∃ dm, (spreadP t 2).2 = dm := ⟨_, rfl⟩
                    have hds : (dstP t).1 = d0 + 1 ∧ (dstP t).2 = dm := ⟨by rw [← hd0]; rfl, by rw [← hdm]; rfl⟩
                    rw [hds.1, hds.2] at HGO3
                    rw [hd0, hdm] at hsp
                    have HD0 := bx hd0
                    have HDM := bx hdm
                    clear hd0 hdm hds
                    go_wp2_with fail
                    refine (spread_any (t : Int) t 2 w3 rfl (by omega) (.inl rfl)).mono ?_
                    rintro e w4 ⟨rfl, rfl⟩
                    rw [HD0.out, HDM.out]
                    by_cases hq2 : p2 + dm ≤ 8 * b.length
                    · obtain ⟨k2, hk2⟩ : ∃ k2, takeN b p2 dm = k2 := ⟨_, rfl⟩
                      have hk2b : k2 < 65536 := by
                        rw [← hk2]
                        have h1 := takeN_lt b p2 dm
                        have h2 : 2 ^ dm ≤ 2 ^ 14 := Nat.pow_le_pow_right (by decide) hsp.2
                        omega
                      have HT2 : Bx (tk b p2 dm = .ok (k2, p2 + dm)) := bx (by rw [tk, if_pos hq2, hk2])
                      have HK2 := bx hk2
                      have HGO4 : Bx (R = if o.length < d0 + 1 + k2 then .err 7 else if lim < o.length + (L + k1) then .err 8 else symF lit dist b lim κ (p2 + dm) (copyN (d0 + 1 + k2) (L + k1) o)) := bx (by rw [HGO3.out, HT2.out]; rfl)
                      clear hk2 HGO3
                      go_wp2_with fail
                      refine (btake_ok gr b p2 dm w3 hV3.2.2.1 (by omega) hq2).mono ?_
                      rintro e w4 ⟨rfl, hR4, hg4⟩
                      rw [HK2.out]
                      have hV4 := hV3.next hg4 hR4 hgs hg1 hg2
                      clear hV3 c0 c1 c2 f1 hg4 hR4
                      obtain ⟨c0, c1, c2, f1⟩ := hV4.cells
                      by_cases hfar : o.length < d0 + 1 + k2
                      · have HF : Bx (R = .err 7) := bx (by rw [HGO4.out, if_pos hfar])
                        have hfi : (nv : Int) < (d0 : Int) + (1 + (k2 : Int)) := by rw [hnv.out]; omega
                        clear HGO4
                        go_wp2_with fail
                        go_ret
                        exact iPost_err HF.out hV4.1
                      · have hfi : ¬ (nv : Int) < (d0 : Int) + (1 + (k2 : Int)) := by rw [hnv.out]; omega
                        rw [if_neg hfar] at HGO4
                        have i1 : IntKind.i64.wrap ((lim : Int) - (nv : Int)) = (lim : Int) - (nv : Int) := IntWalk.i64_in _ (by omega)
                        by_cases hlong : lim < o.length + (L + k1)
                        · have HF : Bx (R = .err 8) := bx (by rw [HGO4.out, if_pos hlong])
                          have hli : (lim : Int) - (nv : Int) < (L : Int) + (k1 : Int) := by rw [hnv.out]; omega
                          clear HGO4
                          go_wp2_with fail
                          go_quiet (fail)
                          rename Nat => nq
                          go_wp2
                          go_ret
                          exact iPost_err HF.out (below_drewN hV4.1 nq)
                        · have hli : ¬ (lim : Int) - (nv : Int) < (L : Int) + (k1 : Int) := by rw [hnv.out]; omega
                          rw [if_neg hlong] at HGO4
                          go_wp2_with fail
                          go_quiet (fail)
                          rename Nat => nq
                          have hV5 := hV4.drewN nq
                          clear hV4 c0 c1 c2 f1 i1
                          generalize w4.drewN nq = w5 at hV5 ⊢
                          go_wp2_with fail
                          obtain ⟨N, hN⟩ : ∃ N, L + k1 = N := ⟨_, rfl⟩
                          obtain ⟨F, hF⟩ : ∃ F, d0 + 1 + k2 = F := ⟨_, rfl⟩
                          have hNb : N < 2000000 := by omega
                          have hFb : F ≤ o.length ∧ 1 ≤ F := by omega
                          have hsum : ((L : Int) + (k1 : Int)) = (N : Int) := by omega
                          have hFI : ((d0 : Int) + (1 + (k2 : Int))) = (F : Int) := by omega
                          rw [hN, hF] at HGO4
                          have hlongN : ¬ lim < o.length + N := by omega
                          rw [hsum, hFI]
                          have HGO5 : Bx (R = symF lit dist b lim κ (p2 + dm) (copyN F N o)) := bx HGO4.out
                          clear hN hF hsum hFI HLM HK1 HK2 HD0 HDM HT1 HT2 HGO4 hLb hk1b hk2b hsp hfi hli hfar hlong HNX HNX2
                          obtain ⟨wo, rfl⟩ : ∃ wo : World, wo = wr := ⟨_, rfl⟩
                          generalize decide ((s : Int) < 256) = q1
                          generalize decide (285 < (s : Int)) = q2
                          generalize decide (29 < (t : Int)) = q3
                          generalize decide ((nv : Int) < (F : Int)) = q4
                          generalize decide ((lim : Int) - (nv : Int) < (N : Int)) = q5
                          generalize (lim : Int) - (nv : Int) = q6
                          go_loopg [136] N (fun κ2 jj wr2 => ∃ (j : Nat) (v : Value) (o2 : List UInt8), κ2 = N - j ∧ j ≤ N ∧ jj = .int .i64 (j : Int) ∧ SyV w wr2 gs gr lim lo1 g1 lo2 g2 b lit dist v (p2 + dm) o2 ∧ Bx (o2.length = o.length + j) ∧ Bx (copyN F N o = copyN F (N - j) o2))
                          case atStart => exact ⟨0, _, o, by omega, by omega, rfl, hV5, bx rfl, bx rfl⟩
                          case round =>
                            clear hV5
                            obtain ⟨j, v2, o2, hgk2, hj, rfl, hV6, hol6, hcp⟩ := hrel
                            obtain ⟨A2, n2, cc2, rfl, hn2, hr2⟩ := OwL.sl hV6.2.2.2.1
                            obtain ⟨c0, c1, c2, f1⟩ := hV6.cells
                            have hO6 := hV6.2.2.2.1
                            have hgz6 := hV6.2.1.lt
                            have hn2o : n2 = o.length + j := by rw [hn2.out, hol6.out]
                            by_cases hjN : j < N
                            · obtain ⟨kx, hkx⟩ : ∃ kx, n2 - F = kx := ⟨_, rfl⟩
                              have hkl : kx < o2.length := by rw [hol6.out]; omega
                              obtain ⟨ad, x, rfl, _, hx, hcx⟩ := RL.byte hr2 (k := kx) hkl
                              have hx8 := x.toNat_lt
                              have i2 : IntKind.i64.wrap ((n2 : Int) - (F : Int)) = (kx : Int) := by rw [show (n2 : Int) - (F : Int) = (kx : Int) by omega]; exact IntWalk.i64_in _ (by omega)
                              have hkn : (kx : Int) < (n2 : Int) := by omega
                              have hk0 : (0 : Int) ≤ (kx : Int) := by omega
                              have HX : Bx (o2.getD (o2.length - F) 0 = x) := bx (by
                                rw [← hn2.out, hkx, List.getD_eq_getElem?_getD, hx.out]; rfl)
                              have HL : Bx ((o2.length + [x].length) * 1 ≤ 140737488355328) := bx (by rw [hol6.out]; simp; omega)
                              have HN2 := bx hn2o
                              have c1a : ((wr.alloc (.cells #[.int .u8 (x.toNat : Int)] 5)).drew).cell? ⟨gs, 1, none⟩ = some (.slice (some ad) n2 cc2) := (World.cell?_alloc_lt _ _ _ hgz6).trans c1
                              have f1a : ((wr.alloc (.cells #[.int .u8 (x.toNat : Int)] 5)).drew).frozen? ⟨gs, 1, none⟩ = false := (Below.frozen (bl_alloc (Below.refl wr.heap.size wr) (Nat.le_refl _) _) hgz6).trans f1
                              clear hn2o hkx hr2
                              go_wp2_with fail
                              go_region_law ((refine step_appL _ bV_one rfl (.tmp 142) (.tmp 156) rfl byteTy (by decide) (gs + 1) _ o2 rfl (OwL.drew (OwL.alloc hO6 _)) _ _ 1 1 [x] rfl rfl (RL.drew (RL.freshe _ _ rfl _)) HL.out (le_alloc hgz6 _) ?_; intro v5 w5 hO5 hg5 hv5 hb5; obtain ⟨A5, n5, c5, rfl, _, _⟩ := OwL.sl hO5; have e1 := (hb5.cell (p := ⟨gs, 1, none⟩) (Nat.lt_succ_self gs)).trans c1a; have e2 := (hb5.frozen (p := ⟨gs, 1, none⟩) (Nat.lt_succ_self gs)).trans f1a))
                              all_goals
                                have hP := hV6.push hO5 (.cells #[.int .u8 (x.toNat : Int)] 5) (wm := (wr.alloc (.cells #[.int .u8 (x.toNat : Int)] 5)).drew) rfl ⟨rfl, rfl, rfl⟩ hg5 hv5 hgs hg1 hg2
                                have hcp2 : Bx (copyN F N o = copyN F (N - (j + 1)) (o2 ++ [x])) := bx (by
                                  rw [hcp.out, show N - j = (N - (j + 1)) + 1 by omega, copyN_step _ _ _ _ HX.out])
                                have hol7 : Bx ((o2 ++ [x]).length = o.length + (j + 1)) := bx (by rw [List.length_append, hol6.out]; rfl)
                                clear c1a f1a e1 e2 hg5 hv5 hb5 hO5 c0 c1 c2 f1 hO6 hcx i2
                                go_wp2
                                go_roundg (N - (j + 1))
                                case rel => exact ⟨j + 1, _, o2 ++ [x], rfl, by omega, by go_num, hP, hol7, hcp2⟩
                                case measure => omega
                            · obtain rfl : j = N := by omega
                              have HF : Bx (R = symF lit dist b lim κ (p2 + dm) o2) := bx (by rw [HGO5.out, hcp.out, Nat.sub_self]; rfl)
                              go_wp2_with fail
                              go_roundg κ
                              case rel => exact ⟨_, p2 + dm, o2, hV6, by rw [hol6.out]; omega, by omega, by omega, HF⟩
                              case measure => omega
                    · have HF : Bx (R = .err 2) := bx (by rw [HGO3.out, tk, if_neg hq2]; rfl)
                      clear HGO3
                      go_wp2_with fail
                      refine (btake_short gr b p2 dm w3 hV3.2.2.1 (by omega) (by omega)).mono ?_
                      rintro e w4 ⟨rfl, hb4⟩
                      have hB1 := hV3.1.trans (hb4.mono (by have := hV3.2.2.1.lt; omega))
                      go_wp2_with fail
                      go_ret
                      exact iPost_err HF.out hB1
              · have HF : Bx (R = .err 2) := bx (by rw [HGO.out, tk, if_neg hq1]; rfl)
                clear HGO
                go_wp2_with fail
                refine (btake_short gr b p1 M w1 hV1.2.2.1 (by omega) (by omega)).mono ?_
                rintro e w2 ⟨rfl, hb2⟩
                have hB1 := hV1.1.trans (hb2.mono (by have := hV1.2.2.1.lt; omega))
                go_wp2_with fail
                go_ret
                exact iPost_err HF.out hB1
end Go.Proofs.Ytbhljigppljjbaa
