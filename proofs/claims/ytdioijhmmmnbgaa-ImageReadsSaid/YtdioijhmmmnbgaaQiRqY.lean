/- Contract: the document's Parse. -/
import Derived.Test.YtdioijhmmmnbgaaQiRqV
import Derived.Test.YtdioijhmmmnbgaaQiImY
import Derived.Test.YtdioijhmmmnbgaaQiRiH
import Derived.Deep.RegionHeld3
import Derived.Deep.RegionWith
import Derived.BigRegion
namespace Go.Proofs.Ytdioijhmmmnbgaa
open Go.RowKit
theorem results_img14 (tmps : Array Value) (w : World) (g : Nat) (cs : Array Value) (h2 : tmps.getD 2 undef = .pointer (some ⟨g, 0, none⟩)) (hk : Bk w g 29 cs) (hs : cs.size = 10) :
    (results Try.f11 tmps).run Try.prog w = .ok (.tuple #[.agg cs, tmps.getD 3 undef]) w := by
  rw [results_cell_tmp (p := 2) (u := 3) (ty := 29) Try.results11]
  have h2' : tmps[2]?.getD undef = .pointer (some ⟨g, 0, none⟩) := by simpa using h2
  have hl := run_loadVar_row (P := Try.prog) w g 29 29 cs (0, 0) _ hk Try.underlying29 rfl (by rw [hs]; exact info_image)
  simp [h2', asAddr, hl, Result.andThen]
/-- The texts are short. -/
def TxS (L : List Cst) : Prop := ∀ c ∈ L, c.text.length ≤ 2000000
theorem TxS.nil : TxS [] := fun c hc => by cases hc
theorem TxS.add {L : List Cst} {c : Cst} (h : TxS L) (hc : c.text.length ≤ 2000000) : TxS (L ++ [c]) := fun x hx => by
  rcases List.mem_append.1 hx with e | e
  · exact h x e
  · rcases List.mem_cons.1 e with e | e
    · rw [e]; exact hc
    · cases e
theorem TxS.cons {L : List Cst} (h : TxS L) : ∀ c ∈ cst0 :: L, c.text.length ≤ 2000000 := fun x hx => by
  rcases List.mem_cons.1 hx with e | e
  · rw [e]; decide
  · exact h x e
set_option maxRecDepth 100000 in
set_option maxHeartbeats 16000000 in
theorem rparse_any (A : Option Addr) (n c : Nat) (b : List UInt8) (w : World) (hn : b.length = n) (hnc : n ≤ c) (hcm : (c : Int) ≤ 9223372036854775807) (hz : (n : Int) ≤ 140737488355328) (hr : RB w w.heap.size A b) :
    Calls Try.prog 11 #[.slice A n c] w (ParsePost (parseP b) w) := by
  have HL := bx hn
  have HR := bx hr
  have HNC := bx (And.intro hnc (And.intro hcm hz))
  obtain ⟨W, hW⟩ : ∃ W, parseP b = W := ⟨_, rfl⟩
  rw [hW]
  have HW := bx hW
  obtain ⟨gq, hq⟩ : ∃ gq, w.heap.size = gq := ⟨_, rfl⟩
  have HKQ := bx (Bk.newAt w 29 imZ hq)
  have HB0 := bx (bl_alloc (Below.refl w.heap.size w) (Nat.le_refl _) (.cells imZ 29))
  have HGQ := bx hq
  clear hn hr hW hq hnc hcm hz
  go_enter Try.func11, Try.ntmps11
  go_upto_region 1 with (fail)
  rw [HGQ.out]
  change Code.wp _ _ _ _ (w.alloc (.cells imZ 29))
  generalize w.alloc (.cells imZ 29) = w0 at HKQ HB0 ⊢
  by_cases hbig : 32768 < n
  · have hbI : (32768 : Int) < (n : Int) := by omega
    have HN : Bx (W = .err 8) := bx (by rw [← HW.out]; unfold parseP; rw [if_pos (by rw [HL.out]; exact hbig)])
    go_wp2_with (refine wpList_store_row rfl 29 (.tmp 2) (.tmp 12) rfl gq imZ rfl rfl 29 imZ HKQ.out info_image rfl imZ_one ?_)
    exact bodyPost_ret (v := .tuple #[.agg imZ, .int .i64 8]) (results_img14 _ _ gq imZ rfl (HKQ.out.setRow imZ) rfl) rfl (pp_err HN.out (bl_setRow HB0.out (by rw [HGQ.out]; exact Nat.le_refl _) imZ) (by decide))
  · have hbI : ¬ (32768 : Int) < (n : Int) := by omega
    have HBL : Bx (b.length ≤ 32768) := bx (by rw [HL.out]; omega)
    obtain ⟨g, hg⟩ : ∃ g, w0.heap.size = g := ⟨_, rfl⟩
    have HG := bx hg
    have hgq : gq < g := by rw [← hg]; exact HKQ.out.lt
    have HR0 : Bx (RB w0 g A b) := bx (by rw [← hg]; exact HR.out.step HB0.out)
    have HKG := bx (Bk.newAt w0 62 #[.slice A n c, .int .i64 0, .bool false, .int .i64 0] hg)
    have HB1 : Bx (Below w.heap.size w (w0.alloc (.cells #[.slice A n c, .int .i64 0, .bool false, .int .i64 0] 62))) := bx (bl_alloc HB0.out (by rw [HGQ.out]; omega) _)
    have HKQ1 := bx (HKQ.out.alloc (.cells #[.slice A n c, .int .i64 0, .bool false, .int .i64 0] 62))
    have HR1 : Bx (RB (w0.alloc (.cells #[.slice A n c, .int .i64 0, .bool false, .int .i64 0] 62)) g A b) := bx (HR0.out.alloc (by rw [HG.out]; exact Nat.le_refl _) _)
    clear hg HKQ HB0 HR HR0
    go_upto_region 4 with (fail)
    rw [HG.out]
    generalize w0.alloc (.cells #[.slice A n c, .int .i64 0, .bool false, .int .i64 0] 62) = w1 at HKG HB1 HKQ1 HR1 ⊢
    obtain ⟨gm, hgm⟩ : ∃ g, w1.heap.size = g := ⟨_, rfl⟩
    have HGM := bx hgm
    have hggm : g < gm := by rw [← hgm]; exact HKG.out.lt
    have HP2 : Bx (PqR w (w1.alloc (.cells imZ 29)) b gq g gm imZ (.ok 0)) := bx (by
      have h0 := HGQ.out
      have hb2 : Below w1.heap.size w1 (w1.alloc (.cells imZ 29)) := bl_alloc (Below.refl _ _) (Nat.le_refl _) _
      have hq : Rdq 0 w1 g b 0 false := ⟨A, c, by rw [HL.out]; exact HKG.out, HR1.out, by rw [HL.out]; exact HNC.out.1, HNC.out.2.1, by rw [HL.out]; exact HNC.out.2.2, Nat.zero_le _⟩
      exact ⟨HB1.out.trans (hb2.mono HB1.out.size), HKQ1.out.alloc _, Bk.newAt _ _ _ hgm, (Rg.of_ok hq).below hb2, ⟨by omega, by omega, by omega⟩, ⟨hgq, hggm⟩⟩)
    clear hgm HKG HB1 HKQ1 HR1 hgq hggm
    go_upto_region 5 with (fail)
    rw [HGM.out]
    change Code.wp _ _ _ _ (w1.alloc (.cells imZ 29))
    generalize w1.alloc (.cells imZ 29) = w2 at HP2 ⊢
    clear HGM HG
    obtain ⟨r0, hr0⟩ : ∃ r, onR (.ok 0) (rdN 4) b = r := ⟨_, rfl⟩
    have HN0 := bx (rnum_any g 4 4294967296 b (.ok 0) w2 HP2.out.src (by decide) (by decide) (by decide))
    rw [hr0] at HN0
    have HRD0 := bx hr0
    clear hr0
    go_wp2_with fail
    refine HN0.out.mono ?_
    rintro e w3 ⟨x0, rfl, -, -, hx0, hs3, hc3⟩
    have HX0 := bx hx0
    have HP3 := bx (HP2.out.next hs3 hc3)
    obtain ⟨q0, hq0⟩ : ∃ q, (x0 != 3405691582) = q := ⟨_, rfl⟩
    have HQ0 := bx hq0
    obtain ⟨s1, hs1⟩ : ∃ s, (if q0 = true then failR (stR r0) 24 else stR r0) = s := ⟨_, rfl⟩
    have HF := bx (rsay_any g b (stR r0) q0 24 w3 HP3.out.src (by decide))
    rw [hs1] at HF
    have HS1 := bx hs1
    clear hs3 hc3 hx0 hq0 hs1 HN0 HP2
    go_wp2_with fail
    rw [HQ0.out]
    refine HF.out.mono ?_
    rintro e w4 ⟨⟨q, rfl⟩, hs4, hc4⟩
    have HP4 := bx (HP3.out.next hs4 hc4)
    clear hs4 hc4 HF HP3
    obtain ⟨r2, hr2⟩ : ∃ r, onR (s1) (rdN 2) b = r := ⟨_, rfl⟩
    have HN := bx (rnum_any g 2 65536 b (s1) w4 HP4.out.src (by decide) (by decide) (by decide))
    rw [hr2] at HN
    have HRD2 := bx hr2
    clear hr2
    go_wp2_with fail
    refine HN.out.mono ?_
    rintro e w5a ⟨x2, rfl, hx20, hx21, hx2, hs9, hc9⟩
    have HX2 := bx hx2
    have HV2 := bx (And.intro hx20 hx21)
    have HPt := bx (HP4.out.next hs9 hc9)
    have m0 : w5a.cell? ⟨gm, 0, none⟩ = some (.int .i64 0) := (HPt.out.im.cell 0).trans rfl
    have z0 : w5a.frozen? ⟨gm, 0, none⟩ = false := HPt.out.im.frz 0
    have HP5 := bx (HPt.out.set 0 (.int .i64 x2))
    clear hs9 hc9 hx2 hx20 hx21 HN HP4 HPt
    go_upto_region 7 with (fail)
    clear m0 z0
    generalize w5a.setCell ⟨gm, 0, none⟩ (.int .i64 x2) = w5 at HP5 ⊢
    obtain ⟨r3, hr3⟩ : ∃ r, onR (stR r2) (rdN 2) b = r := ⟨_, rfl⟩
    have HN := bx (rnum_any g 2 65536 b (stR r2) w5 HP5.out.src (by decide) (by decide) (by decide))
    rw [hr3] at HN
    have HRD3 := bx hr3
    clear hr3
    go_wp2_with fail
    refine HN.out.mono ?_
    rintro e w6a ⟨x3, rfl, hx30, hx31, hx3, hs9, hc9⟩
    have HX3 := bx hx3
    have HV3 := bx (And.intro hx30 hx31)
    have HPt := bx (HP5.out.next hs9 hc9)
    have m1 : w6a.cell? ⟨gm, 1, none⟩ = some (.int .i64 0) := (HPt.out.im.cell 1).trans rfl
    have z1 : w6a.frozen? ⟨gm, 1, none⟩ = false := HPt.out.im.frz 1
    have HP6 := bx (HPt.out.set 1 (.int .i64 x3))
    clear hs9 hc9 hx3 hx30 hx31 HN HP5 HPt
    go_upto_region 8 with (fail)
    clear m1 z1
    generalize w6a.setCell ⟨gm, 1, none⟩ (.int .i64 x3) = w6 at HP6 ⊢
    have m1 : w6.cell? ⟨gm, 1, none⟩ = some (.int .i64 x3) := (HP6.out.im.cell 1).trans rfl
    obtain ⟨cs1, hcs1⟩ : ∃ cs : Array Value, #[.int .i64 x2, .int .i64 x3, .slice none 0 0, .int .i64 0, .int .i64 0, .int .i64 0, .slice none 0 0, .slice none 0 0, .slice none 0 0, .slice none 0 0] = cs := ⟨_, rfl⟩
    have HP7 : Bx (PqR w w6 b gq g gm cs1 (stR r3)) := bx (by rw [← hcs1]; exact HP6.out)
    have HCS1 := bx hcs1
    clear HP6 hcs1
    obtain ⟨qb, hqb⟩ : ∃ q, decide (x3 < 45 ∨ 52 < x3) = q := ⟨_, rfl⟩
    obtain ⟨s4, hsb⟩ : ∃ s, (if qb = true then failR (stR r3) 24 else stR r3) = s := ⟨_, rfl⟩
    have HF := bx (rsay_any g b (stR r3) qb 24 w6 HP7.out.src (by decide))
    rw [hsb] at HF
    have HQ4 := bx hqb
    have HS4 := bx hsb
    clear hqb hsb
    go_cut [4, 5] (fun v v5 wx => v = .pointer (some ⟨g, 0, none⟩) ∧ v5 = .pointer (some ⟨gm, 0, none⟩) ∧ Bx (PqR w wx b gq g gm cs1 s4))
    case first =>
      -- DEV{
      by_cases ha : x3 < 45
      · have hq : qb = true := by rw [← HQ4.out]; exact decide_eq_true (.inl ha)
        rw [hq] at HF
        go_wp2_with fail
        refine HF.out.mono ?_
        rintro e w9 ⟨⟨q, rfl⟩, hs9, hc9⟩
        have HPz := bx (HP7.out.next hs9 hc9)
        clear hs9 hc9 HF
        go_wp2
        go_meet
        case rel => exact ⟨rfl, rfl, HPz⟩
      · by_cases hb : 52 < x3
        · have hq : qb = true := by rw [← HQ4.out]; exact decide_eq_true (.inr hb)
          rw [hq] at HF
          go_wp2_with fail
          refine HF.out.mono ?_
          rintro e w9 ⟨⟨q, rfl⟩, hs9, hc9⟩
          have HPz := bx (HP7.out.next hs9 hc9)
          clear hs9 hc9 HF
          go_wp2
          go_meet
          case rel => exact ⟨rfl, rfl, HPz⟩
        · have hq : qb = false := by rw [← HQ4.out]; exact decide_eq_false (by omega)
          rw [hq] at HF
          go_wp2_with fail
          refine HF.out.mono ?_
          rintro e w9 ⟨⟨q, rfl⟩, hs9, hc9⟩
          have HPz := bx (HP7.out.next hs9 hc9)
          clear hs9 hc9 HF
          go_wp2
          go_meet
          case rel => exact ⟨rfl, rfl, HPz⟩
      -- DEV}
    case rest =>
    obtain ⟨rfl, rfl, HPA⟩ := hcut
    clear HP7 m1 HF
    obtain ⟨r5, hr5⟩ : ∃ r, onR s4 (rdN 2) b = r := ⟨_, rfl⟩
    have HN5 := bx (rnum_any g 2 65536 b s4 wc HPA.out.src (by decide) (by decide) (by decide))
    rw [hr5] at HN5
    have HRD5 := bx hr5
    clear hr5
    go_step
    go_wp2_with fail
    refine HN5.out.mono ?_
    rintro e w10 ⟨v5, rfl, hv50, hv51, hx5, hs9, hc9⟩
    obtain ⟨k, rfl⟩ : ∃ k : Nat, v5 = (k : Int) := ⟨v5.toNat, by omega⟩
    have HX5 := bx hx5
    have HK5 : Bx (k < 65536) := bx (by omega)
    have HP11 := bx (HPA.out.next hs9 hc9)
    clear hs9 hc9 hx5 hv50 hv51 HN5 HPA
    go_upto_region 10 with (fail)
    obtain ⟨qc, hqb⟩ : ∃ q, decide ((k : Int) < 1 ∨ 1024 < (k : Int)) = q := ⟨_, rfl⟩
    obtain ⟨s6, hsb⟩ : ∃ s, (if qc = true then failR (stR r5) 24 else stR r5) = s := ⟨_, rfl⟩
    have HF := bx (rsay_any g b (stR r5) qc 24 w10 HP11.out.src (by decide))
    rw [hsb] at HF
    have HQ6 := bx hqb
    have HS6 := bx hsb
    clear hqb hsb
    go_cut [4, 5, 6] (fun v v5 v6 wx => v = .pointer (some ⟨g, 0, none⟩) ∧ v5 = .pointer (some ⟨gm, 0, none⟩) ∧ v6 = .int .i64 (k : Int) ∧ Bx (PqR w wx b gq g gm cs1 s6))
    case first =>
      -- DEV{
      by_cases ha : (k : Int) < 1
      · have hq : qc = true := by rw [← HQ6.out]; exact decide_eq_true (.inl ha)
        rw [hq] at HF
        go_wp2_with fail
        refine HF.out.mono ?_
        rintro e w9 ⟨⟨q, rfl⟩, hs9, hc9⟩
        have HPz := bx (HP11.out.next hs9 hc9)
        clear hs9 hc9 HF
        go_wp2
        go_meet
        case rel => exact ⟨rfl, rfl, rfl, HPz⟩
      · by_cases hb : 1024 < (k : Int)
        · have hq : qc = true := by rw [← HQ6.out]; exact decide_eq_true (.inr hb)
          rw [hq] at HF
          go_wp2_with fail
          refine HF.out.mono ?_
          rintro e w9 ⟨⟨q, rfl⟩, hs9, hc9⟩
          have HPz := bx (HP11.out.next hs9 hc9)
          clear hs9 hc9 HF
          go_wp2
          go_meet
          case rel => exact ⟨rfl, rfl, rfl, HPz⟩
        · have hq : qc = false := by rw [← HQ6.out]; exact decide_eq_false (by omega)
          rw [hq] at HF
          go_wp2_with fail
          refine HF.out.mono ?_
          rintro e w9 ⟨⟨q, rfl⟩, hs9, hc9⟩
          have HPz := bx (HP11.out.next hs9 hc9)
          clear hs9 hc9 HF
          go_wp2
          go_meet
          case rel => exact ⟨rfl, rfl, rfl, HPz⟩
      -- DEV}
    case rest =>
    obtain ⟨rfl, rfl, rfl, HPB⟩ := hcut
    clear HP11 HF
    have HNW := bx (RS.new (fC := cstC) wc cst0 #[.int .i64 0, .int .i64 0, .int .i64 0, .int .i64 0, .string ⟨#[]⟩] rfl 53 (0, 0))
    have HBA := bx (bl_alloc (Below.refl wc.heap.size wc) (Nat.le_refl _) (.cells #[.int .i64 0, .int .i64 0, .int .i64 0, .int .i64 0, .string ⟨#[]⟩] 53))
    have m2 : wc.cell? ⟨gm, 2, none⟩ = some (.slice none 0 0) := (HPB.out.im.cell 2).trans (by rw [← HCS1.out]; rfl)
    have hz6 : wc.heap.size ≤ (wc.alloc (.cells #[.int .i64 0, .int .i64 0, .int .i64 0, .int .i64 0, .string ⟨#[]⟩] 53)).heap.size := HBA.out.size
    go_step
    go_wp2_with (at_builtin; refine wpList_appS _ cstCels rfl (.tmp 49) (.tmp 51) rfl cstTy (by decide) wc.heap.size (.slice none 0 0) [] rfl OwS.nil (wc.heap.size + 1) (some ⟨wc.heap.size, 0, none⟩) 1 1 [cst0] rfl rfl HNW.out (by decide) hz6 ?_; intro V7 w7 hO7 hg7 hv7 hb7; obtain ⟨A7, c7, e7, -, -⟩ := OwS.rd hO7; replace e7 : V7 = .slice A7 1 c7 := e7; subst e7; have HO7 := bx hO7; have HP7 := bx (HPB.out.below (HBA.out.trans hb7)); have m27 : w7.cell? ⟨gm, 2, none⟩ = some (.slice none 0 0) := (HP7.out.im.cell 2).trans (by rw [← HCS1.out]; rfl); have z27 : w7.frozen? ⟨gm, 2, none⟩ = false := HP7.out.im.frz 2; clear hO7 hg7 hv7 hb7)
    have hgm : gm + 1 ≤ wc.heap.size := HPB.out.im.lt
    have HPP : Bx (PqP w (w7.setCell ⟨gm, 2, none⟩ (.slice A7 1 c7)) b gq g gm cs1 (.slice A7 1 c7) [cst0] s6) := bx ⟨HP7.out.set 2 _, (HO7.out.low hgm).set_other (fun e => by have := (HO7.out.blk e).1; simp only at this; omega) _⟩
    obtain ⟨R7, hR7⟩ : ∃ R, poolR b [cst0] s6 k (k - 1) = R := ⟨_, rfl⟩
    have HR7 := bx hR7
    have HK0 := bx (PoolAt.startQ HQ6.out HS6.out)
    have HT0 := bx TxS.nil
    clear m27 z27 hgm hR7 HP7 HO7 HPB HBA HNW m2 hz6
    generalize w7.setCell ⟨gm, 2, none⟩ (.slice A7 1 c7) = w8 at HPP ⊢
    go_loopw [] (fun wx => ∃ (A : Option Addr) (c : Nat) (L : List Cst) (s' : Rz Nat) (f m : Nat), Bx (PqP w wx b gq g gm cs1 (.slice A (L.length + 1) c) (cst0 :: L) s') ∧ Bx (poolR b (cst0 :: L) s' f m = R7) ∧ Bx (PoolAt L s' f m k) ∧ Bx (TxS L)) (fun wx => poolM gm k wx)
    case atStart => exact ⟨A7, c7, [], s6, k, k - 1, HPP, HR7, HK0, HT0⟩
    case round =>
      clear HPP HK0 HT0
      obtain ⟨A, c, L, s', f, m, HP, HRR, HKK, HTX⟩ := hrel
      obtain ⟨nV, hnV⟩ : ∃ nV, L.length + 1 = nV := ⟨_, rfl⟩
      have HNV := bx hnV
      rw [hnV] at HP
      clear hnV
      have m2 : wr.cell? ⟨gm, 2, none⟩ = some (.slice A nV c) := (HP.out.par.im.cell 2).trans (by rw [← HCS1.out]; rfl)
      obtain ⟨qd, hqd⟩ : ∃ q : Bool, (q = true ↔ nV < k ∧ ∃ p, s' = .ok p) := bool_of _
      have HQD := bx hqd
      clear hqd
      go_upto_region 12 with (fail)
      go_cut [65] from 54 to 89 (fun v wx => v = .bool qd ∧ wr = wx)
      case first =>
        -- DEV{
        cases s' with
        | err e =>
          have HE : Bx (qd = false) := bx (Bool.eq_false_iff.2 fun h => by obtain ⟨_, p, hp⟩ := HQD.out.1 h; cases hp)
          obtain ⟨⟨ae, be, hB1⟩, hk0⟩ := HP.out.par.src.err_
          obtain ⟨_, _, c3, _, _⟩ := hB1.cells
          have hkI : (e == 0) = false := by rw [beq_eq_false_iff_ne]; exact hk0
          clear hB1 hk0
          by_cases hl : nV < k
          · have hlI : (nV : Int) < (k : Int) := by omega
            clear hl
            go_wp2
            go_meet
            case rel => exact ⟨by rw [HE.out]; try rfl, rfl⟩
          · have hlI : ¬ (nV : Int) < (k : Int) := by omega
            clear hl
            go_wp2
            go_meet
            case rel => exact ⟨by rw [HE.out]; try rfl, rfl⟩
        | ok p =>
          obtain ⟨_, _, c3, _, _⟩ := HP.out.par.src.ok_.cells
          by_cases hl : nV < k
          · have HE : Bx (qd = true) := bx (HQD.out.2 ⟨hl, p, rfl⟩)
            have hlI : (nV : Int) < (k : Int) := by omega
            clear hl
            go_wp2
            go_meet
            case rel => exact ⟨by rw [HE.out]; try rfl, rfl⟩
          · have HE : Bx (qd = false) := bx (Bool.eq_false_iff.2 fun h => hl (HQD.out.1 h).1)
            have hlI : ¬ (nV : Int) < (k : Int) := by omega
            clear hl
            go_wp2
            go_meet
            case rel => exact ⟨by rw [HE.out]; try rfl, rfl⟩
        -- DEV}
      case rest =>
      obtain ⟨rfl, rfl⟩ := hcut
      cases qd with
      | false =>
        have he := HKK.out.done (fun h => by
          have := HQD.out.2 ⟨by rw [← HNV.out]; exact h.1, h.2⟩
          cases this)
        have HE7 := bx (pool_end HRR.out he)
        obtain ⟨y0, hy0⟩ : ∃ x : ImE, x = ⟨x2, x3, A, nV, c, cst0 :: L, 0, 0, 0, none, 0, 0, [], none, 0, 0, [], none, 0, 0, [], none, 0, 0, []⟩ := ⟨_, rfl⟩
        have HX : Bx (PqX w wr b gq g gm wr.heap.size y0 s') := bx (by
          have h := HP.out
          rw [← HCS1.out] at h
          rw [hy0]; exact h.fin)
        have HY0 := bx hy0
        obtain ⟨he1, HL7⟩ : stR R7 = s' ∧ Bx (∀ x, R7 = .ok x → (cst0 :: L) = x.1) := ⟨HE7.out.1, bx HE7.out.2⟩
        clear HE7
        subst he1
        clear he hy0 HP HRR HKK HQD m2
        go_step
        obtain ⟨r8, hr8⟩ : ∃ r, onR (stR R7) (rdN 2) b = r := ⟨_, rfl⟩
        have HN := bx (rnum_any g 2 65536 b (stR R7) wr HX.out.par.src (by decide) (by decide) (by decide))
        rw [hr8] at HN
        have HRD8 := bx hr8
        clear hr8
        go_wp2_with fail
        refine HN.out.mono ?_
        rintro e w12a ⟨x8, rfl, -, -, hx8, hs9, hc9⟩
        have HX8 := bx hx8
        have HXt := bx (HX.out.next hs9 hc9)
        have m3 : w12a.cell? ⟨gm, 3, none⟩ = some (.int .i64 y0.access) := HXt.out.par.im.im3 rfl
        have z3 : w12a.frozen? ⟨gm, 3, none⟩ = false := HXt.out.par.im.frz 3
        obtain ⟨y1, hy1⟩ : ∃ x : ImE, x = { y0 with access := x8 } := ⟨_, rfl⟩
        have HXb := bx (HXt.out.num3 x8)
        rw [← hy1] at HXb
        have HY1 := bx hy1
        clear hs9 hc9 hx8 hy1 HN HX HXt
        go_upto_region 19 with (fail)
        clear m3 z3
        generalize w12a.setCell ⟨gm, 3, none⟩ (.int .i64 x8) = w12 at HXb ⊢
        obtain ⟨r9, hr9⟩ : ∃ r, onR (stR r8) (rdN 2) b = r := ⟨_, rfl⟩
        have HN := bx (rnum_any g 2 65536 b (stR r8) w12 HXb.out.par.src (by decide) (by decide) (by decide))
        rw [hr9] at HN
        have HRD9 := bx hr9
        clear hr9
        go_wp2_with fail
        refine HN.out.mono ?_
        rintro e w14a ⟨x9, rfl, -, -, hx9, hs9, hc9⟩
        have HX9 := bx hx9
        have HXt := bx (HXb.out.next hs9 hc9)
        have m4 : w14a.cell? ⟨gm, 4, none⟩ = some (.int .i64 y1.this) := HXt.out.par.im.im4 rfl
        have z4 : w14a.frozen? ⟨gm, 4, none⟩ = false := HXt.out.par.im.frz 4
        obtain ⟨y4, hy4⟩ : ∃ x : ImE, x = { y1 with this := x9 } := ⟨_, rfl⟩
        have HXc := bx (HXt.out.num4 x9)
        rw [← hy4] at HXc
        have HY4 := bx hy4
        clear hs9 hc9 hx9 hy4 HN HXb HXt
        go_upto_region 20 with (fail)
        clear m4 z4
        generalize w14a.setCell ⟨gm, 4, none⟩ (.int .i64 x9) = w14 at HXc ⊢
        obtain ⟨r10, hr10⟩ : ∃ r, onR (stR r9) (rdN 2) b = r := ⟨_, rfl⟩
        have HN := bx (rnum_any g 2 65536 b (stR r9) w14 HXc.out.par.src (by decide) (by decide) (by decide))
        rw [hr10] at HN
        have HRD10 := bx hr10
        clear hr10
        go_wp2_with fail
        refine HN.out.mono ?_
        rintro e w16a ⟨x10, rfl, -, -, hx10, hs9, hc9⟩
        have HX10 := bx hx10
        have HXt := bx (HXc.out.next hs9 hc9)
        have m5 : w16a.cell? ⟨gm, 5, none⟩ = some (.int .i64 y4.super) := HXt.out.par.im.im5 rfl
        have z5 : w16a.frozen? ⟨gm, 5, none⟩ = false := HXt.out.par.im.frz 5
        obtain ⟨y5, hy5⟩ : ∃ x : ImE, x = { y4 with super := x10 } := ⟨_, rfl⟩
        have HXd := bx (HXt.out.num5 x10)
        rw [← hy5] at HXd
        have HY5 := bx hy5
        clear hs9 hc9 hx10 hy5 HN HXc HXt
        go_upto_region 21 with (fail)
        clear m5 z5
        generalize w16a.setCell ⟨gm, 5, none⟩ (.int .i64 x10) = w16 at HXd ⊢
        have HMY := bx (rcount_any g b (stR r10) w16 HXd.out.par.src)
        obtain ⟨rc, hrc⟩ : ∃ r, onR (stR r10) cntI b = r := ⟨_, rfl⟩
        have hvc := cnt_le (s := stR r10) (b := b)
        rw [hrc] at HMY hvc
        obtain ⟨ni, hni⟩ : ∃ ni : Nat, valN rc = (ni : Int) := ⟨(valN rc).toNat, by omega⟩
        rw [hni] at HMY hvc
        obtain ⟨RR, hRR⟩ : ∃ R, repR (rdN 2) b [] (stR rc) ni = R := ⟨_, rfl⟩
        obtain ⟨r11, hr11⟩ : ∃ r : Rz (List Int × Nat), (RR.bind fun z => .ok (z.1.map (fun x : Nat => (x : Int)), z.2)) = r := ⟨_, rfl⟩
        have HRD11 : Bx (onR (stR r10) ifP b = r11) := bx (by rw [if_chain hrc hni, hRR]; exact hr11)
        have HRB := bx hr11
        have HRR := bx hRR
        have hn64 : ni ≤ 64 := by omega
        have HN64 : Bx (([] : List Nat).length + ni ≤ 64) := bx (by simpa using hn64)
        clear hrc hvc hni hRR hr11 hn64
        go_wp2_with fail
        refine HMY.out.mono ?_
        rintro e w17 ⟨rfl, hs11, hc11⟩
        have HXe := bx (HXd.out.next hs11 hc11)
        have HPI := bx (HXe.out.start (V := .slice none 0 0) (by rw [HY5.out, HY4.out, HY1.out, HY0.out]) rfl)
        clear hs11 hc11 HMY HXd HXe
        obtain ⟨n17, hn17⟩ : ∃ n, w17.heap.size = n := ⟨_, rfl⟩
        rw [hn17] at HPI
        clear hn17
        obtain ⟨wb, hwb⟩ : ∃ wb, wb = wr := ⟨_, rfl⟩
        subst hwb
        go_wp2_with fail
        go_loopw [8] (fun nv wx => ∃ (A : Option Addr) (c m : Nat) (LN : List Nat) (s' : Rz Nat), nv = .int .i64 (m : Int) ∧ Bx (LN.length + m ≤ 64) ∧ Bx (PqI w wx b gq g gm n17 y5 (.slice A LN.length c) (LN.map (fun x : Nat => (x : Int))) s') ∧ Bx (repR (rdN 2) b LN s' m = RR)) (fun nv _ => (intOf nv).toNat)
        case atStart => exact ⟨none, 0, ni, [], stR rc, rfl, HN64, HPI, HRR⟩
        case round =>
          clear HPI HRR HN64
          obtain ⟨Ai, ci, m, LN, s', rfl, HLM, HP, HRX⟩ := hrel
          obtain ⟨nI, hnI⟩ : ∃ nI, LN.length = nI := ⟨_, rfl⟩
          have HNI := bx hnI
          rw [hnI] at HP
          clear hnI
          obtain ⟨qd, hqd⟩ : ∃ q : Bool, (q = true ↔ 0 < m ∧ ∃ p, s' = .ok p) := bool_of _
          have HQD := bx hqd
          clear hqd
          go_upto_region 22 with (fail)
          go_cut [109] from 101 to 118 (fun v wx => v = .bool qd ∧ wr = wx)
          case first =>
            -- DEV{
            cases s' with
            | err e =>
              have HE : Bx (qd = false) := bx (Bool.eq_false_iff.2 fun h => by obtain ⟨_, p, hp⟩ := HQD.out.1 h; cases hp)
              obtain ⟨⟨ae, be, hB1⟩, hk0⟩ := HP.out.par.src.err_
              obtain ⟨_, _, c3, _, _⟩ := hB1.cells
              have hkI : (e == 0) = false := by rw [beq_eq_false_iff_ne]; exact hk0
              clear hB1 hk0
              by_cases hl : 0 < m
              · have hlI : (0 : Int) < (m : Int) := by omega
                clear hl
                go_wp2
                go_meet
                case rel => exact ⟨by rw [HE.out]; try rfl, rfl⟩
              · have hlI : ¬ (0 : Int) < (m : Int) := by omega
                clear hl
                go_wp2
                go_meet
                case rel => exact ⟨by rw [HE.out]; try rfl, rfl⟩
            | ok p =>
              obtain ⟨_, _, c3, _, _⟩ := HP.out.par.src.ok_.cells
              by_cases hl : 0 < m
              · have HE : Bx (qd = true) := bx (HQD.out.2 ⟨hl, p, rfl⟩)
                have hlI : (0 : Int) < (m : Int) := by omega
                clear hl
                go_wp2
                go_meet
                case rel => exact ⟨by rw [HE.out]; try rfl, rfl⟩
              · have HE : Bx (qd = false) := bx (Bool.eq_false_iff.2 fun h => hl (HQD.out.1 h).1)
                have hlI : ¬ (0 : Int) < (m : Int) := by omega
                clear hl
                go_wp2
                go_meet
                case rel => exact ⟨by rw [HE.out]; try rfl, rfl⟩
            -- DEV}
          case rest =>
          obtain ⟨rfl, rfl⟩ := hcut
          cases qd with
          | false =>
            have he : m = 0 ∨ ∃ e, s' = .err e := by
              cases s' with
              | err e => exact .inr ⟨e, rfl⟩
              | ok p =>
                left
                by_cases hm : m = 0
                · exact hm
                · have := HQD.out.2 ⟨by omega, p, rfl⟩
                  cases this
            have HE11 := bx (if_endQ HRX.out HRB.out he)
            have HX := bx HP.out.fin
            obtain ⟨he11, HL11⟩ : stR r11 = s' ∧ Bx (∀ x, r11 = .ok x → LN.map (fun x : Nat => (x : Int)) = x.1) := ⟨HE11.out.1, bx HE11.out.2⟩
            clear HP HRX HLM HE11 he HQD
            subst he11
            obtain ⟨y6, hy6⟩ : ∃ x : ImE, x = { y5 with iA := Ai, i_n := nI, ic := ci, ifs := LN.map (fun x : Nat => (x : Int)) } := ⟨_, rfl⟩
            rw [← hy6] at HX
            have HY6 := bx hy6
            clear hy6
            go_step
            obtain ⟨r12, hr12⟩ : ∃ r, onR (stR r11) memsP b = r := ⟨_, rfl⟩
            have HM := bx (rmembers14_any g b (stR r11) wr HX.out.par.src)
            rw [hr12] at HM
            have HRD12 := bx hr12
            clear hr12
            go_wp2_with fail
            refine HM.out.mono ?_
            rintro e w20a ⟨V1, L1, rfl, hmm, -, hxl⟩
            have HL12 := bx hxl
            have HXt := bx (HX.out.next hmm.src hmm.ch)
            have hgo : gm < wr.heap.size := Nat.lt_of_lt_of_le HX.out.gn HX.out.le
            obtain ⟨A1, c1, e1, -, -⟩ := OwS.rd hmm.own
            obtain ⟨n1, hn1⟩ : ∃ n, L1.length = n := ⟨_, rfl⟩
            rw [hn1] at e1
            subst e1
            have HF1 := bx (mems_x hmm.own hmm.sub hgo)
            have HXf := bx (HXt.out.top.fld HF1.out)
            have m7 : w20a.cell? ⟨gm, 7, none⟩ = some (.slice y6.fA y6.fn y6.fc) := HXt.out.par.im.im7 rfl
            have z7 : w20a.frozen? ⟨gm, 7, none⟩ = false := HXt.out.par.im.frz 7
            obtain ⟨y7, hy7⟩ : ∃ x : ImE, x = { y6 with fA := A1, fn := n1, fc := c1, fs := L1 } := ⟨_, rfl⟩
            rw [← hy7] at HXf
            have HY7 := bx hy7
            obtain ⟨nh12, hnh⟩ : ∃ n, w20a.heap.size = n := ⟨_, rfl⟩
            rw [hnh] at HXf
            clear hnh hy7 hmm hxl HM HXt HX hgo hn1 HF1
            go_upto_region 26 with (fail)
            clear m7 z7
            generalize w20a.setCell ⟨gm, 7, none⟩ (.slice A1 n1 c1) = w20 at HXf ⊢
            obtain ⟨r13, hr13⟩ : ∃ r, onR (stR r12) memsP b = r := ⟨_, rfl⟩
            have HM := bx (rmembers14_any g b (stR r12) w20 HXf.out.par.src)
            rw [hr13] at HM
            have HRD13 := bx hr13
            clear hr13
            go_wp2_with fail
            refine HM.out.mono ?_
            rintro e w21a ⟨V1, L2, rfl, hmm, -, hxl⟩
            have HL13 := bx hxl
            have HXt := bx (HXf.out.next hmm.src hmm.ch)
            have hgo : gm < w20.heap.size := Nat.lt_of_lt_of_le HXf.out.gn HXf.out.le
            obtain ⟨A2, c2, e1, -, -⟩ := OwS.rd hmm.own
            obtain ⟨n2, hn1⟩ : ∃ n, L2.length = n := ⟨_, rfl⟩
            rw [hn1] at e1
            subst e1
            have HF1 := bx (mems_x hmm.own hmm.sub hgo)
            have HXg := bx (HXt.out.top.mth HF1.out)
            have m8 : w21a.cell? ⟨gm, 8, none⟩ = some (.slice y7.mA y7.mn y7.mc) := HXt.out.par.im.im8 rfl
            have z8 : w21a.frozen? ⟨gm, 8, none⟩ = false := HXt.out.par.im.frz 8
            obtain ⟨y8, hy8⟩ : ∃ x : ImE, x = { y7 with mA := A2, mn := n2, mc := c2, ms := L2 } := ⟨_, rfl⟩
            rw [← hy8] at HXg
            have HY8 := bx hy8
            obtain ⟨nh13, hnh⟩ : ∃ n, w21a.heap.size = n := ⟨_, rfl⟩
            rw [hnh] at HXg
            clear hnh hy8 hmm hxl HM HXt HXf hgo hn1 HF1
            go_upto_region 27 with (fail)
            clear m8 z8
            generalize w21a.setCell ⟨gm, 8, none⟩ (.slice A2 n2 c2) = w21 at HXg ⊢
            obtain ⟨r14, hr14⟩ : ∃ r, onR (stR r13) attsP b = r := ⟨_, rfl⟩
            have HM := bx (rattrs14_any g b (stR r13) w21 HXg.out.par.src)
            rw [hr14] at HM
            have HRD14 := bx hr14
            clear hr14
            go_wp2_with fail
            refine HM.out.mono ?_
            rintro e w22a ⟨V1, L3, rfl, hmm, -, hxl⟩
            have HL14 := bx hxl
            have HXt := bx (HXg.out.next hmm.src hmm.ch)
            have hgo : gm < w21.heap.size := Nat.lt_of_lt_of_le HXg.out.gn HXg.out.le
            obtain ⟨A3, c3, e1, -, -⟩ := OwS.rd hmm.own
            obtain ⟨n3, hn1⟩ : ∃ n, L3.length = n := ⟨_, rfl⟩
            rw [hn1] at e1
            subst e1
            have HF1 := bx (atts_x hmm.own hmm.sub hgo)
            have HXh := bx (HXt.out.top.att1 HF1.out)
            have m9 : w22a.cell? ⟨gm, 9, none⟩ = some (.slice y8.aA y8.an y8.ac) := HXt.out.par.im.im9 rfl
            have z9 : w22a.frozen? ⟨gm, 9, none⟩ = false := HXt.out.par.im.frz 9
            obtain ⟨y9, hy9⟩ : ∃ x : ImE, x = { y8 with aA := A3, an := n3, ac := c3, as_ := L3 } := ⟨_, rfl⟩
            rw [← hy9] at HXh
            have HY9 := bx hy9
            obtain ⟨nh14, hnh⟩ : ∃ n, w22a.heap.size = n := ⟨_, rfl⟩
            rw [hnh] at HXh
            clear hnh hy9 hmm hxl HM HXt HXg hgo hn1 HF1
            go_upto_region 28 with (fail)
            clear m9 z9
            generalize w22a.setCell ⟨gm, 9, none⟩ (.slice A3 n3 c3) = w22 at HXh ⊢
            have HP0 : Bx ((y9.p = ⟨x2, x3, cst0 :: L, x8, x9, x10, LN.map (fun x : Nat => (x : Int)), L1.map MmE.p, L2.map MmE.p, L3.map AtE.p⟩)) := bx (by
              rw [HY9.out, HY8.out, HY7.out, HY6.out, HY5.out, HY4.out, HY1.out, HY0.out]; rfl)
            have HTY : Bx (∀ c ∈ y9.pool, c.text.length ≤ 2000000) := bx (by
              have e : y9.pool = cst0 :: L := by rw [HY9.out, HY8.out, HY7.out, HY6.out, HY5.out, HY4.out, HY1.out, HY0.out]
              rw [e]; exact HTX.out.cons)
            have HFIN : Bx (W = (fin15 r14 b y9.p).bind (fun _ => .ok y9.p)) := bx (by
              have hc1 := img_chainQ HRD0.out HX0.out HQ0.out HS1.out
              have hc2 := im2_chainQ HRD2.out HRD3.out HX2.out HX3.out HQ4.out HS4.out
              have hc5 := im5_chainQ (mi := x2.toNat) (ma := x3.toNat) HRD5.out HX5.out HQ6.out HS6.out
              rw [← HW.out]
              refine parse_finQ HBL.out (hc1.trans (hc2.trans hc5)) HR7.out HRD8.out HRD9.out HRD10.out HRD11.out HRD12.out HRD13.out HRD14.out HL7.out HL11.out HL12.out HL13.out HL14.out HX8.out HX9.out HX10.out ?_
              rw [HP0.out, Int.toNat_of_nonneg HV2.out.1, Int.toNat_of_nonneg HV3.out.1])
            clear HTX HY0 HY1 HY4 HY5 HY6 HY7 HY8 HY9 HP0 HL7 HL11 HL12 HL13 HL14 HX8 HX9 HX10 HRD8 HRD9 HRD10 HRD11 HRD12 HRD13 HR7 HRB HW
            -- the place
            have hsr := HXh.out.par.src
            obtain ⟨E9, a9, bd9, hrd, hmat⟩ := hsr
            have HMAT : Bx (∀ z, r14 = .ok z → a9 = z.2) := bx (fun z hz => by subst hz; exact hmat.2.1)
            obtain ⟨y1c, _, _, _, hgl⟩ := hrd.cells
            obtain ⟨q1, hq1⟩ : ∃ q, ((a9 : Int) != (n : Int)) = q := ⟨_, rfl⟩
            obtain ⟨sA, hsA⟩ : ∃ s, (if q1 = true then failR (stR r14) 24 else stR r14) = s := ⟨_, rfl⟩
            have HF := bx (rsay_any g b (stR r14) q1 24 w22 HXh.out.par.src (by decide))
            rw [hsA] at HF
            have HSA := bx hsA
            have HQ1 := bx hq1
            clear hrd hmat hsA hq1
            go_wp2_with fail
            rw [HQ1.out]
            refine HF.out.mono ?_
            rintro e w23 ⟨⟨q, rfl⟩, hs9, hc9⟩
            have HXi := bx (HXh.out.next hs9 hc9)
            clear hs9 hc9 HF HXh y1c hgl
            have HH := bx (rholds_any y9 w23 HXi.out.rim HTY.out)
            obtain ⟨hb9, hhb⟩ : ∃ h, holdsP y9.p = h := ⟨_, rfl⟩
            rw [hhb] at HH
            have HHB := bx hhb
            have f0 := HXi.out.par.im.im0 rfl
            have f1 := HXi.out.par.im.im1 rfl
            have f2 := HXi.out.par.im.im2 rfl
            have f3 := HXi.out.par.im.im3 rfl
            have f4 := HXi.out.par.im.im4 rfl
            have f5 := HXi.out.par.im.im5 rfl
            have f6 := HXi.out.par.im.im6 rfl
            have f7 := HXi.out.par.im.im7 rfl
            have f8 := HXi.out.par.im.im8 rfl
            have f9 := HXi.out.par.im.im9 rfl
            clear hhb
            go_wp2_with fail
            refine HH.out.mono ?_
            rintro e w24 ⟨rfl, hb24⟩
            have HXj := bx (HXi.out.below hb24)
            clear hb24 HH f0 f1 f2 f3 f4 f5 f6 f7 f8 f9 HXi
            obtain ⟨q2, hq2⟩ : ∃ q, (!hb9) = q := ⟨_, rfl⟩
            obtain ⟨sB, hsB⟩ : ∃ s, (if q2 = true then failR sA 24 else sA) = s := ⟨_, rfl⟩
            have HF := bx (rsay_any g b sA q2 24 w24 HXj.out.par.src (by decide))
            rw [hsB] at HF
            have HQ2 := bx hq2
            have HFS : Bx (fin15 r14 b y9.p = sB) := bx (fin15Q HSA.out hsB (fun z hz => by
              rw [← HQ1.out, HMAT.out z hz, HL.out]
              simp only [bne_iff_ne, ne_eq, Int.natCast_inj]) (by rw [HHB.out]; exact hq2))
            clear hq2 hsB
            go_wp2_with fail
            rw [HQ2.out]
            refine HF.out.mono ?_
            rintro e wd ⟨⟨q, rfl⟩, hs9, hc9⟩
            have hcut := bx (HXj.out.next hs9 hc9)
            clear hs9 hc9 HF HXj
            have HWE : Bx (W = sB.bind (fun _ => .ok y9.p)) := bx (by rw [HFIN.out, HFS.out])
            clear HFIN HFS HQ1 HQ2 HMAT HSA HHB
            cases sB with
            | err k9 =>
              have HWE2 : Bx (W = .err k9) := bx HWE.out
              obtain ⟨⟨ae, be, hB1⟩, hk0⟩ := hcut.out.par.src.err_
              have HK0 := bx hk0
              obtain ⟨_, _, c1, _, hgl⟩ := hB1.cells
              have hkI : (k9 != 0) = true := by rw [bne_iff_ne]; exact hk0
              have hqg : g ≠ gq := by have := hcut.out.par.hi; omega
              clear hB1 hk0
              have HKQ := bx hcut.out.par.zr
              have hS0 : wd.drew.cell? ⟨g, 3, none⟩ = some (.int .i64 k9) := c1
              have hS1 : (wd.drew.setRow gq imZ).cell? ⟨g, 3, none⟩ = some (.int .i64 k9) := (cell_same (p := ⟨g, 3, none⟩) (heap_setRow wd.drew gq imZ g hqg)).trans c1
              go_upto_region 31 with (fail)
              obtain ⟨F, hF⟩ : ∃ F, setF wd.drew gq imZ = F := ⟨_, rfl⟩
              have hF0 : wd.drew = F 0 := by rw [← hF]; rfl
              have hF1 : (F 0).setRow gq imZ = F 1 := by rw [← hF]; rfl
              have hFc : ∀ n, (F n).cell? ⟨g, 3, none⟩ = some (.int .i64 k9) := fun n => by
                rw [← hF]
                cases n with
                | zero => exact hS0
                | succ n => exact hS1
              have HF0 := bx hF0
              have HF1 := bx hF1
              have HFK : Bx (Bk (F 0) gq 29 imZ) := bx (by rw [← hF0]; exact HKQ.out.drewN 1)
              have HFB : Bx (Below w.heap.size w (F 0)) := bx (by rw [← hF0]; exact below_drewN hcut.out.par.bel 1)
              clear hF hF0 hF1 hS0 hS1 c1
              refine wp_region_same 5 F (by kernel_rfl) (by kernel_rfl) (by kernel_rfl) (by kernel_rfl) (by decide) HF0.out (fun _ _ _ d _ h => by cases d <;> exact h) ?_
              simp only [List.take_succ_cons, List.take_zero, List.drop_succ_cons, List.drop_zero]
              repeat (
                refine wpSame_step (fun K hK => ?_)
                simp only [SameAt]
                go_simp
                refine hK _ ?_
                clear hK K)
              refine wpSame_nil ?_
              refine wpChain_step rfl (fun K hK => ?_)
              refine wp_store_row 29 (.tmp 2) (.tmp 148) rfl gq imZ rfl rfl 29 imZ HFK.out info_image rfl imZ_one ?_
              rw [HF1.out]
              refine hK _ _ ⟨1, rfl⟩ ?_
              clear hK K
              refine wpChain_step rfl (fun K hK => ?_)
              go_simp
              refine hK _ _ ⟨1, rfl⟩ ?_
              clear hK K
              refine wpChain_nil ?_
              clear hFc
              go_wp2
              exact bodyPost_ret (v := .tuple #[.agg imZ, .int .i64 k9]) (results_img14 _ _ gq imZ rfl (by rw [← HF1.out]; exact HFK.out.setRow imZ) rfl) rfl (pp_err HWE2.out (by rw [← HF1.out]; exact bl_setRow HFB.out hcut.out.par.lo.1 imZ) HK0.out)
            | ok p9 =>
              have HWE2 : Bx (W = .ok y9.p) := bx HWE.out
              obtain ⟨_, _, c1, _, hgl⟩ := hcut.out.par.src.ok_.cells
              have HKQ := bx hcut.out.par.zr
              have f0 := hcut.out.par.im.im0 rfl
              have f1 := hcut.out.par.im.im1 rfl
              have f2 := hcut.out.par.im.im2 rfl
              have f3 := hcut.out.par.im.im3 rfl
              have f4 := hcut.out.par.im.im4 rfl
              have f5 := hcut.out.par.im.im5 rfl
              have f6 := hcut.out.par.im.im6 rfl
              have f7 := hcut.out.par.im.im7 rfl
              have f8 := hcut.out.par.im.im8 rfl
              have f9 := hcut.out.par.im.im9 rfl
              go_wp2_with (refine wpList_store_row rfl 29 (.tmp 2) (.tmp 153) rfl gq (imC y9) rfl rfl 29 imZ HKQ.out info_image rfl (imC_one y9) ?_)
              exact bodyPost_ret (v := .tuple #[.agg (imC y9), .int .i64 0]) (results_img14 _ _ gq (imC y9) rfl (HKQ.out.setRow (imC y9)) rfl) rfl (pp_ok HWE2.out (bl_setRow hcut.out.par.bel hcut.out.par.lo.1 (imC y9)) (by
                have hr := hcut.out.rows.step (w' := wd.setRow gq (imC y9)) (fun k hk => heap_setRow wd gq (imC y9) k (fun e => by have := hcut.out.par.hi; have := hk.1; omega)) (fun _ h => h)
                exact hr.rim (fun k hk => by have := hk.2; have := hcut.out.le; simpa [World.setRow] using (by omega : k < wd.heap.size))))
          | true =>
            -- DEV{
            obtain ⟨hm0, p, hp⟩ := HQD.out.1 rfl
            subst hp
            obtain ⟨m, rfl⟩ : ∃ m', m = m' + 1 := ⟨m - 1, by omega⟩
            have m6 : wr.cell? ⟨gm, 6, none⟩ = some (.slice Ai nI ci) := (HP.out.par.im.cell 6).trans rfl
            have HPd := bx (HP.out.below (below_drewN (Below.refl wr.heap.size wr) 1))
            obtain ⟨r, hr⟩ : ∃ r, onR (.ok p) (rdN 2) b = r := ⟨_, rfl⟩
            have HN := bx (rnum_any g 2 65536 b (.ok p) wr.drew HPd.out.par.src (by decide) (by decide) (by decide))
            rw [hr] at HN
            have HRI := bx hr
            have hS0 : wr.drew.cell? ⟨gm, 6, none⟩ = some (.slice Ai nI ci) := m6
            have hm64 : m + 1 ≤ 64 := by have := HLM.out; omega
            have HLA : Bx (LN.length + (m + 1) ≤ 64) := HLM
            clear hr m6 hm0 HQD
            go_upto_region 24 with (fail)
            go_region_law ((first
              | (go_simp; go_at_call 33; refine HN.out.mono ?_; rintro e w2 ⟨vy, rfl, hvy0, -, hvyx, hs2, hc2⟩; obtain ⟨y, rfl⟩ : ∃ y : Nat, vy = (y : Int) := ⟨vy.toNat, by omega⟩; have HP1 := bx (HPd.out.next hs2 hc2); have HVY := bx hvyx; have hS1 : w2.cell? ⟨gm, 6, none⟩ = some (.slice Ai nI ci) := (HP1.out.par.im.cell 6).trans rfl; have HP2 := bx (HP1.out.below (bl_alloc (Below.refl w2.heap.size w2) (Nat.le_refl _) (.cells #[.int .i64 (y : Int)] 3))); have hS2 : (w2.alloc (.cells #[.int .i64 (y : Int)] 3)).cell? ⟨gm, 6, none⟩ = some (.slice Ai nI ci) := (HP2.out.par.im.cell 6).trans rfl; have hz2 := HP2.out.le; have HB2 : Bx (((LN.map (fun x : Nat => (x : Int))).length + [(y : Int)].length) * 8 ≤ 140737488355328) := bx (by have := HLA.out; simp only [List.length_map, List.length_cons, List.length_nil]; omega); clear hs2 hc2 HP1 hvyx hvy0)
              | (refine step_appL (w2.alloc (.cells #[.int .i64 (y : Int)] 3)) iV_one rfl (.tmp 113) (.tmp 116) rfl ifTy (by decide) n17 (.slice Ai nI ci) (LN.map (fun x : Nat => (x : Int))) rfl HP2.out.own (w2.heap.size + 1) (some ⟨w2.heap.size, 0, none⟩) 1 1 [(y : Int)] rfl rfl (RL.freshe w2 _ rfl _) HB2.out hz2 ?_; intro V7 w7 hO7 hg7 hv7 hb7; obtain ⟨A7, n7, c7, rfl, hn7, -⟩ := OwL.sl hO7; have HN7 : Bx (n7 = (LN ++ [y]).length) := bx (by rw [hn7.out]; simp); have HP7 := bx (HP2.out.app hO7 hb7); have hi7 := HP2.out.par.over hb7 HP2.out.gn; have hS3 : w7.cell? ⟨gm, 6, none⟩ = some (.slice Ai nI ci) := (hi7.im.cell 6).trans rfl; have z7 : w7.frozen? ⟨gm, 6, none⟩ = false := hi7.im.frz 6; clear hO7 hg7 hv7 hb7 hi7 hn7)))
            all_goals (
              have HP9 : Bx (PqI w (w7.setCell ⟨gm, 6, none⟩ (.slice A7 n7 c7)) b gq g gm n17 y5 (.slice A7 (LN ++ [y]).length c7) ((LN ++ [y]).map (fun x : Nat => (x : Int))) (stR r)) := bx (by
                rw [List.map_append, ← HN7.out]; exact HP7.out)
              have HLN : Bx ((LN ++ [y]).length + m ≤ 64) := bx (by
                have := HLA.out
                rw [List.length_append, List.length_singleton]; omega)
              have HRM := bx (if_roundQ HRX.out HRI.out HVY.out)
              clear HP7 HP2 hz2 hS1 hS2 hS3 z7 hS0
              go_wp2
              go_roundw
              case rel => exact ⟨A7, c7, m, LN ++ [y], stR r, by go_num, HLN, HP9, HRM⟩
              case measure => simp [intOf])
            -- DEV}
      | true =>
        -- DEV{
        have h9 := HQD.out.1 rfl
        obtain ⟨hl, p, hp⟩ := h9
        subst hp
        have hl0 : L.length + 1 < k := by rw [HNV.out]; exact hl
        obtain ⟨f', m', hf, hm, hLk, hk1⟩ := HKK.out.get hl0
        subst hf
        subst hm
        obtain ⟨R, hR⟩ : ∃ R, onR (.ok p) cstP b = R := ⟨_, rfl⟩
        have HCN := bx (rconst_any g p b wr HP.out.par.src (by have := HBL.out; omega))
        rw [hR] at HCN
        have HR := bx hR
        have HM0 : Bx (poolM gm k wr = k - nV) := bx (poolM_of m2)
        have HHL : Bx (nV < k ∧ k ≤ 1024) := bx ⟨hl, hk1⟩
        clear hl hl0 hLk hk1 hR m2 HQD
        go_wp2_with fail
        refine HCN.out.mono ?_
        rintro e w1 ⟨cn, he, hs1, hc1, hx1, hl1⟩
        replace he : e = .returned (.agg #[.int .i64 cn.tag, .int .i64 cn.a, .int .i64 cn.b, .int .i64 cn.num, .string ⟨cn.text.toArray⟩]) := he
        subst he
        have HX1 := bx hx1
        have HTN : Bx (cn.text.length ≤ 2000000) := bx (by have := HBL.out; omega)
        have HP1 := bx (HP.out.next hs1 hc1)
        clear hx1 hs1 hc1 hl1 HCN HP
        obtain ⟨gc, hgc⟩ : ∃ g, w1.heap.size = g := ⟨_, rfl⟩
        have HGC := bx hgc
        have HK2 := bx (Bk.newAt w1 53 #[.int .i64 cn.tag, .int .i64 cn.a, .int .i64 cn.b, .int .i64 cn.num, .string ⟨cn.text.toArray⟩] hgc)
        have HP2 := bx (HP1.out.below (bl_alloc (Below.refl _ _) (Nat.le_refl _) (.cells #[.int .i64 cn.tag, .int .i64 cn.a, .int .i64 cn.b, .int .i64 cn.num, .string ⟨cn.text.toArray⟩] 53)))
        have hgg : gm < gc := by rw [← hgc]; exact HP1.out.sz
        have HGG := bx hgg
        have HOB : Bx (∀ g, (Value.slice A nV c).ownBlock = some g → g < gc) := bx (fun g hg => by rw [← hgc]; exact (World.ownsRow.lt HP1.out.own g hg).2)
        clear hgc hgg HP1
        go_upto_region 14 with (fail)
        rw [HGC.out]
        generalize w1.alloc (.cells #[.int .i64 cn.tag, .int .i64 cn.a, .int .i64 cn.b, .int .i64 cn.num, .string ⟨cn.text.toArray⟩] 53) = w2 at HK2 HP2 ⊢
        have HNW := bx (RS.new (fC := cstC) w2 cn #[.int .i64 cn.tag, .int .i64 cn.a, .int .i64 cn.b, .int .i64 cn.num, .string ⟨cn.text.toArray⟩] rfl 53 (0, 0))
        have hbn : Below w2.heap.size w2 (w2.alloc (.cells #[.int .i64 cn.tag, .int .i64 cn.a, .int .i64 cn.b, .int .i64 cn.num, .string ⟨cn.text.toArray⟩] 53)) := bl_alloc (Below.refl _ _) (Nat.le_refl _) _
        have HP3 := bx (HP2.out.below hbn)
        have HK3 := bx (HK2.out.alloc (.cells #[.int .i64 cn.tag, .int .i64 cn.a, .int .i64 cn.b, .int .i64 cn.num, .string ⟨cn.text.toArray⟩] 53))
        have m2 : w2.cell? ⟨gm, 2, none⟩ = some (.slice A nV c) := (HP2.out.par.im.cell 2).trans (by rw [← HCS1.out]; rfl)
        have q0 : w2.cell? ⟨gc, 0, none⟩ = some (.int .i64 cn.tag) := (HK2.out.cell 0).trans rfl
        have q1 : w2.cell? ⟨gc, 1, none⟩ = some (.int .i64 cn.a) := (HK2.out.cell 1).trans rfl
        have q2 : w2.cell? ⟨gc, 2, none⟩ = some (.int .i64 cn.b) := (HK2.out.cell 2).trans rfl
        have q3 : w2.cell? ⟨gc, 3, none⟩ = some (.int .i64 cn.num) := (HK2.out.cell 3).trans rfl
        have q4 : w2.cell? ⟨gc, 4, none⟩ = some (.string ⟨cn.text.toArray⟩) := (HK2.out.cell 4).trans rfl
        have HN2 : Bx (((cst0 :: L).length + [cn].length) * 48 ≤ 140737488355328) := bx (by
          have h1 := HNV.out
          have h2 := HHL.out
          simp only [List.length_cons, List.length_nil]; omega)
        obtain ⟨n1, hn1⟩ : ∃ n1, nV + 1 = n1 := ⟨_, rfl⟩
        have HN1 := bx hn1
        have HLL : Bx (((cst0 :: L) ++ [cn]).length = n1) := bx (by rw [List.length_append]; show L.length + 1 + 1 = n1; rw [HNV.out]; exact hn1)
        have hz6 := HP3.out.sz
        clear hn1 hbn
        go_upto_region 15 with (at_builtin; refine wpList_appS _ cstCels rfl (.tmp 69) (.tmp 71) rfl cstTy (by decide) (gm + 1) (.slice A nV c) (cst0 :: L) rfl HP3.out.own (w2.heap.size + 1) (some ⟨w2.heap.size, 0, none⟩) 1 1 [cn] rfl rfl HNW.out HN2.out hz6 ?_; intro V7 w7 hO7 hg7 hv7 hb7; obtain ⟨A7, c7, e7, -, -⟩ := OwS.rd hO7; replace e7 : V7 = .slice A7 n1 c7 := e7.trans (by rw [HLL.out]); subst e7; have HP7 := bx (HP3.out.app hO7 hb7); have HK7 := bx (HK3.out.grown hg7 (fun e => absurd (HOB.out gc e.symm) (Nat.lt_irrefl _))); have hi7 := HP3.out.par.over hb7 (Nat.lt_succ_self _); have m27 : w7.cell? ⟨gm, 2, none⟩ = some (.slice A nV c) := (hi7.im.cell 2).trans (by rw [← HCS1.out]; rfl); have z27 : w7.frozen? ⟨gm, 2, none⟩ = false := hi7.im.frz 2; clear hO7 hg7 hv7 hb7 hi7)
        have m2 := HP7.out.par.im.cell 2
        replace m2 : (w7.setCell ⟨gm, 2, none⟩ (.slice A7 n1 c7)).cell? ⟨gm, 2, none⟩ = some (.slice A7 n1 c7) := m2.trans (by rw [← HCS1.out]; rfl)
        have HK8 : Bx (Bk (w7.setCell ⟨gm, 2, none⟩ (.slice A7 n1 c7)) gc 53 #[.int .i64 cn.tag, .int .i64 cn.a, .int .i64 cn.b, .int .i64 cn.num, .string ⟨cn.text.toArray⟩]) := bx (HK7.out.far (fun e => by have := HGG.out; simp only at e; omega) _)
        clear m27 z27 q0 q1 q2 q3 q4 HK7 HNW HP3 HK3 HP2 HK2 hz6 HN2 HLL HOB
        generalize w7.setCell ⟨gm, 2, none⟩ (.slice A7 n1 c7) = w8 at HP7 HK8 m2 ⊢
        have q0 : w8.cell? ⟨gc, 0, none⟩ = some (.int .i64 cn.tag) := (HK8.out.cell 0).trans rfl
        by_cases h5 : cn.tag = 5
        · have h5b : (cn.tag == 5) = true := by rw [h5]; rfl
          obtain ⟨q3, hq3⟩ : ∃ q, decide (k ≤ n1) = q := ⟨_, rfl⟩
          obtain ⟨s3, hs3⟩ : ∃ s3, (if q3 = true then failR (stR R) 24 else stR R) = s3 := ⟨_, rfl⟩
          have hs3' : (if n1 = k then failR (stR R) 24 else stR R) = s3 := by
            have h1 := HHL.out
            have h2 := HN1.out
            rw [← hs3, ← hq3]
            by_cases hk : n1 = k
            · rw [if_pos hk, if_pos (decide_eq_true (by omega))]
            · rw [if_neg hk, if_neg (by simp; omega)]
          have HQ3 := bx hq3
          have HRN := bx (pool_five HRR.out HR.out HX1.out h5 HKK.out (by rw [HNV.out]; exact HN1.out) hs3')
          have HF := bx (rsay_any g b (stR R) q3 24 w8 HP7.out.par.src (by decide))
          rw [hs3] at HF
          clear h5 hs3 hs3' hq3
          go_wp2_with fail
          rw [HQ3.out]
          refine HF.out.mono ?_
          rintro e w9 ⟨⟨q, rfl⟩, hs9, hc9⟩
          have hcut := bx (HP7.out.next hs9 hc9)
          clear hs9 hc9 HF HP7 HK8 q0 m2 HQ3
          have HNW := bx (RS.new (fC := cstC) w9 cst0 #[.int .i64 0, .int .i64 0, .int .i64 0, .int .i64 0, .string ⟨#[]⟩] rfl 53 (0, 0))
          have HP3 := bx (hcut.out.below (bl_alloc (Below.refl w9.heap.size w9) (Nat.le_refl _) (.cells #[.int .i64 0, .int .i64 0, .int .i64 0, .int .i64 0, .string ⟨#[]⟩] 53)))
          have m2 : w9.cell? ⟨gm, 2, none⟩ = some (.slice A7 n1 c7) := (hcut.out.par.im.cell 2).trans (by rw [← HCS1.out]; rfl)
          have hz6 := HP3.out.sz
          have HN2 : Bx (((cst0 :: L ++ [cn]).length + [cst0].length) * 48 ≤ 140737488355328) := bx (by
            have h1 := HNV.out
            have h2 := HHL.out
            simp only [List.length_append, List.length_cons, List.length_nil]; omega)
          obtain ⟨n2, hn2⟩ : ∃ n2, n1 + 1 = n2 := ⟨_, rfl⟩
          have HN3 := bx hn2
          have HLL : Bx (((cst0 :: L ++ [cn]) ++ [cst0]).length = n2) := bx (by rw [List.length_append, List.length_append]; show L.length + 1 + 1 + 1 = n2; rw [HNV.out, HN1.out]; exact hn2)
          clear hn2
          go_wp2_with (at_builtin; refine wpList_appS _ cstCels rfl (.tmp 85) (.tmp 87) rfl cstTy (by decide) (gm + 1) (.slice A7 n1 c7) (cst0 :: L ++ [cn]) rfl HP3.out.own (w9.heap.size + 1) (some ⟨w9.heap.size, 0, none⟩) 1 1 [cst0] rfl rfl HNW.out HN2.out hz6 ?_; intro V9 w10 hO9 hg9 hv9 hb9; obtain ⟨A9, c9, e9, -, -⟩ := OwS.rd hO9; replace e9 : V9 = .slice A9 n2 c9 := e9.trans (by rw [HLL.out]); subst e9; have HP9 := bx (HP3.out.app hO9 hb9); have hi9 := HP3.out.par.over hb9 (Nat.lt_succ_self _); have m29 : w10.cell? ⟨gm, 2, none⟩ = some (.slice A7 n1 c7) := (hi9.im.cell 2).trans (by rw [← HCS1.out]; rfl); have z29 : w10.frozen? ⟨gm, 2, none⟩ = false := hi9.im.frz 2; clear hO9 hg9 hv9 hb9 hi9)
          have HM9 : Bx (poolM gm k (w10.setCell ⟨gm, 2, none⟩ (.slice A9 n2 c9)) = k - n2) := bx (poolM_of ((HP9.out.par.im.cell 2).trans (by rw [← HCS1.out]; rfl)))
          have HTX2 := bx ((HTX.out.add HTN.out).add (c := cst0) (by decide))
          clear hcut HNW HP3 hz6 HN2
          go_roundw
          case rel => exact ⟨A9, c9, L ++ [cn] ++ [cst0], s3, f', m' - 1, bx (by rw [show (L ++ [cn] ++ [cst0]).length + 1 = n2 from HLL.out]; exact HP9.out), bx HRN.out.1, bx HRN.out.2, HTX2⟩
          case measure =>
            rw [HM9.out, HM0.out]
            have h1 := HN3.out
            have h2 := HN1.out
            have h3 := HHL.out
            omega
        · have h5b : (cn.tag == 5) = false := by rw [beq_eq_false_iff_ne]; exact h5
          have HRN := bx (pool_one HRR.out HR.out HX1.out h5)
          have HKN := bx (HKK.out.one (c := cn) (s := stR R))
          have HM9 : Bx (poolM gm k w8 = k - n1) := bx (poolM_of m2)
          have HTX2 := bx (HTX.out.add HTN.out)
          clear h5 m2
          go_wp2
          go_roundw
          case rel => exact ⟨A7, c7, L ++ [cn], stR R, f', m', bx (by rw [List.length_append, List.length_singleton, HNV.out, HN1.out]; exact HP7.out), bx HRN.out, HKN, HTX2⟩
          case measure =>
            rw [HM9.out, HM0.out]
            have h2 := HN1.out
            have h3 := HHL.out
            omega
        -- DEV}
end Go.Proofs.Ytdioijhmmmnbgaa
