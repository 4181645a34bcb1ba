/- Contract of the document's path: look. -/
import Derived.Test.YtlmcpkomjofcgaaGreatDoorQvDpB
import Derived.Test.YtlmcpkomjofcgaaGreatDoorPv12
import Derived.Test.YtlmcpkomjofcgaaGreatDoorPv8
import Derived.BigQuiet
import Derived.StillTailTactics
namespace Go.Proofs.YtlmcpkomjofcgaaGreatDoor
open Go.RowKit
section
variable {nms : List (List UInt8)} {F F2 : FS} {K : Kn} {i : Nat} {b b' : List UInt8} {k : Int}
theorem learn_err (hK : K i = none) (hr : F.rows (nms.getD i []) = some b) (hp : readFS F (nms.getD i []) 0 b.length = (.err k, F2)) : learnP nms F K i = (k, F2, K) := by
  unfold learnP; rw [hK]; dsimp only; rw [hr]; dsimp only; rw [hp]
theorem learn_bad (hK : K i = none) (hr : F.rows (nms.getD i []) = some b) (hp : readFS F (nms.getD i []) 0 b.length = (.ok b', F2)) (hd : dirA b' = .err k) : learnP nms F K i = (k, F2, K) := by
  unfold learnP; rw [hK]; dsimp only; rw [hr]; dsimp only; rw [hp]; dsimp only; rw [hd]
end
set_option maxRecDepth 100000 in
set_option maxHeartbeats 16000000 in
theorem r22look_any (i : Nat) (s : ByteArray) (w : World) (M N : Nat → Prop) (gq bx0 bT bD : Nat) (nms : List (List UInt8)) (F : FS) (K : Kn) (hf : DfM w M N bx0 F) (hp : DpM w M N gq bx0 bT bD nms K) (hi : i < nms.length) (hrd : F.reads + 1 < 1000000) :
    Calls Tryz.prog 31 #[.pointer (some ⟨gq, 0, none⟩), .int .i64 (i : Int), .string s] w (LookP w M N gq bx0 bT bD nms (lookP nms s.data.toList F K i)) := by
  obtain ⟨R, hR⟩ : ∃ R, lookP nms s.data.toList F K i = R := ⟨_, rfl⟩
  rw [hR]
  unfold lookP at hR
  obtain ⟨Am, cm, Dm, hd⟩ := hp
  obtain ⟨nL, hnL⟩ : ∃ nL, nms.length = nL := ⟨_, rfl⟩
  rw [hnL] at hi
  have HNL := bx hnL
  have HIL := bx hi
  have hiI : (i : Int) < (nL : Int) := by omega
  have hi0 : (0 : Int) ≤ (i : Int) := by omega
  have hn8 : nL ≤ 8 := by rw [← hnL]; exact hd.len.2
  have HR := bx hR
  have HRD := bx hrd
  have c2 : w.cell? ⟨gq, 2, none⟩ = some (.slice (some ⟨bT, 0, none⟩) nL nL) := (hd.box.cell 2).trans (by rw [hnL]; rfl)
  have cT := hd.there.cell (by rw [hnL]; exact hi)
  have hgq : gq < w.heap.size := hd.box.lt
  have hgT : bT < w.heap.size := hd.there.lt
  cases hK : K i with
  | some l =>
    rw [hK] at cT
    have cT : w.cell? ⟨bT, i, none⟩ = some (.bool true) := cT
    obtain ⟨F2, hF2⟩ : ∃ X, X = F := ⟨_, rfl⟩
    obtain ⟨K2, hK2⟩ : ∃ X, X = K := ⟨_, rfl⟩
    have hLP : learnP nms F K i = (0, F2, K2) := by rw [hF2, hK2]; unfold learnP; rw [hK]
    have HA0 := HR.out
    rw [hLP] at HA0
    have HA0 : (match recOf K2 i s.data.toList with | none => (.err 21, false, F2, K2) | some x => ((takeP nms F2 i x).1, true, (takeP nms F2 i x).2, K2)) = R := HA0
    have HA := bx HA0
    have HDF : Bx (DfM w M N bx0 F2) := bx (by rw [hF2]; exact hf)
    have HDP : Bx (DpB w M N gq bx0 bT bD nms K2 Am cm Dm) := bx (by rw [hK2]; exact hd)
    have HKI : Bx (K2 i = some l) := bx (by rw [hK2]; exact hK)
    have HCH : Bx (Ch w w (LkP bx0 bT bD)) := bx (Ch.refl _)
    have HRD2 : Bx (F2.reads < 1000000) := bx (by rw [hF2]; omega)
    obtain ⟨D2, hD2⟩ : ∃ X, X = Dm := ⟨_, rfl⟩
    rw [← hD2] at HDP
    obtain ⟨cN, hcN⟩ : ∃ X, X = cm := ⟨_, rfl⟩
    rw [← hcN] at HDP
    clear hf hd hR hrd hK hnL hLP HA0 hF2 hK2 hD2 hcN
    go_enter Tryz.func31, Tryz.ntmps31
    go_upto_region 13 with (fail)
    clear c2 cT hgq hgT
    -- w; HDF, HDP, HCH, HKI : K2 i = some l, HA : (match ..) = R, HRD2 : F2.reads < 1000000
    obtain ⟨A8, c8, hD8, hr8⟩ := HDP.out.dir i l HKI.out
    have HR8 : Bx (RS recL w w.heap.size A8 l) := bx (Rx.rd10 hr8 (fun k hk => hk.1))
    obtain ⟨n8, hn8⟩ : ∃ n, l.length = n := ⟨_, rfl⟩
    have HN8 := bx hn8
    rw [hn8] at hD8
    obtain ⟨b8, hb8⟩ := HDP.out.good i l HKI.out
    have HOK := bx (apOk hb8)
    have HB8 := bx (dirA_ok hb8).1
    have hn64 : n8 ≤ 64 := by rw [← hn8]; exact HOK.out.len
    have hgq : gq < w.heap.size := HDP.out.box.lt
    have hgD : bD < w.heap.size := HDP.out.dirs.lt
    have d3 : w.cell? ⟨gq, 3, none⟩ = some (.slice (some ⟨bD, 0, none⟩) nL nL) := (HDP.out.box.cell 3).trans (by rw [HNL.out]; rfl)
    have dD : w.cell? ⟨bD, i, none⟩ = some (.slice A8 n8 c8) := (HDP.out.dirs.cell (by rw [HNL.out]; exact HIL.out)).trans (by rw [hD8])
    have HD3 := bx (And.intro d3 dD)
    have HGQ := bx (And.intro hgq hgD)
    clear hr8 hn8 hb8 hD8 d3 dD hgq hgD
    go_wp2_with fail
    go_loopw [13] (fun iv wx => ∃ j : Nat, j ≤ n8 ∧ iv = .int .i64 (j : Int) ∧ Bx (Below w.heap.size w wx ∧ (l.take j).find? (fun y => decide (y.1.name = s.data.toList)) = none)) (fun iv _ => n8 - (intOf iv).toNat)
    case atStart => exact ⟨0, by omega, rfl, bx ⟨Below.refl _ _, rfl⟩⟩
    case round =>
      obtain ⟨j, hj, rfl, HW⟩ := hrel
      have d3 : wr.cell? ⟨gq, 3, none⟩ = some (.slice (some ⟨bD, 0, none⟩) nL nL) := (HW.out.1.cell (p := ⟨gq, 3, none⟩) HGQ.out.1).trans HD3.out.1
      have dD : wr.cell? ⟨bD, i, none⟩ = some (.slice A8 n8 c8) := (HW.out.1.cell (p := ⟨bD, i, none⟩) HGQ.out.2).trans HD3.out.2
      by_cases hjn : j < n8
      · have hjI : (j : Int) < (n8 : Int) := by omega
        have hj0 : (0 : Int) ≤ (j : Int) := by omega
        obtain ⟨ad8, x, hA8, _, hx, hc, hcs⟩ := (HR8.out.step HW.out.1).at_ recCels (k := j) (by rw [HN8.out]; exact hjn)
        subst hA8
        have HO := bx (HOK.out.one j _ hx.out)
        have HXJ := bx hx.out
        obtain ⟨⟨nm, me, pk, si, su, hd⟩, at2⟩ := x
        obtain ⟨o1, o2, o3, o4, o5⟩ := HO.out
        dsimp only at o1 o2 o3 o4 o5
        obtain ⟨sn, hsn⟩ : ∃ s : ByteArray, (⟨nm.toArray⟩ : ByteArray) = s := ⟨_, rfl⟩
        have HSV : Bx (strV nm = .string sn) := bx (by unfold strV; rw [hsn])
        have HSL : Bx (sn.data.toList = nm) := bx (by rw [← hsn])
        have k0 := hc _ rfl
        have k1 := hcs 0 _ rfl
        have k2 := hcs 1 _ rfl
        have k3 := hcs 2 _ rfl
        have k4 := hcs 3 _ rfl
        have k5 := hcs 4 _ rfl
        have k6 := hcs 5 _ rfl
        rw [Nat.zero_add] at k1
        rw [HSV.out] at k0
        obtain ⟨gi, hgi⟩ : ∃ gi, wr.heap.size = gi := ⟨_, rfl⟩
        obtain ⟨w4, hw4⟩ : ∃ w4, (wr.alloc (.cells z7 71)).setRow wr.heap.size #[.string sn, .int .i64 (me : Int), .int .i64 (pk : Int), .int .i64 (si : Int), .int .i64 (su : Int), .int .i64 (at2 : Int), .int .i64 (hd : Int)] = w4 := ⟨_, rfl⟩
        have hK4 : Bk w4 gi 71 #[.string sn, .int .i64 (me : Int), .int .i64 (pk : Int), .int .i64 (si : Int), .int .i64 (su : Int), .int .i64 (at2 : Int), .int .i64 (hd : Int)] := by rw [← hw4, ← hgi]; exact ((Bk.new wr _ z7).setRow _)
        have hB4 : Below wr.heap.size wr w4 := by rw [← hw4]; exact bl_setRow (bl_alloc (Below.refl wr.heap.size wr) (Nat.le_refl _) _) (Nat.le_refl _) _
        have hone : (#[.string sn, .int .i64 (me : Int), .int .i64 (pk : Int), .int .i64 (si : Int), .int .i64 (su : Int), .int .i64 (at2 : Int), .int .i64 (hd : Int)] : Array Value).all (·.oneCell') = true := by simp [Value.oneCell']
        have HONE := bx hone
        have HK4 := bx hK4
        have HB4 : Bx (Below w.heap.size w w4) := bx (HW.out.1.trans (hB4.mono HW.out.1.size))
        have n0c : w4.cell? ⟨gi, 0, none⟩ = some (.string sn) := (hK4.cell 0).trans rfl
        have HW4e := bx hw4
        have HGI := bx hgi
        have HGZ : Bx (w.heap.size ≤ gi) := bx (by rw [← hgi]; exact HW.out.1.size)
        have HME : Bx (me = 0 ∨ me = 8) := bx o2
        have HPK : Bx (at2 + pk ≤ 65536) := bx (by have := HB8.out; omega)
        clear hw4 hK4 hB4 hone hc hcs hx hsn o1 o2 o3 o4 o5 hgi HO
        by_cases hnm : nm = s.data.toList
        · have hst : (sn.toList == s.toList) = true := tl_same (by rw [HSL.out]; exact hnm)
          have HRC : Bx (recOf K2 i s.data.toList = some (⟨nm, me, pk, si, su, hd⟩, at2)) := bx (by unfold recOf; rw [HKI.out]; exact find_yes HW.out.2 HXJ.out hnm)
          have HA3 := HA.out
          rw [HRC.out] at HA3
          dsimp only at HA3
          have HPX := bx HA3
          clear hnm HA3
          go_upto_region 17 with (refine wpList_store_row rfl 71 (.tmp 14) (.tmp 104) rfl wr.heap.size #[.string sn, .int .i64 (me : Int), .int .i64 (pk : Int), .int .i64 (si : Int), .int .i64 (su : Int), .int .i64 (at2 : Int), .int .i64 (hd : Int)] rfl rfl 71 z7 (Bk.new _ _ _) info_rec rfl HONE.out ?_; rw [z7_eq, HW4e.out, HGI.out])
          clear k0 k1 k2 k3 k4 k5 k6 d3 dD n0c HW4e HONE
          have HDF4 := bx (HDF.out.below HB4.out)
          have HDP4 := bx (HDP.out.below HB4.out)
          have HC4 := bx (HCH.out.trans (Ch.of_below (S := LkP bx0 bT bD) HB4.out) (fun _ _ e => e))
          obtain ⟨adN, sN, hAN, hcell, hsn, hsm, had1, had2⟩ := HDP4.out.name (i := i) (by rw [HNL.out]; exact HIL.out)
          have HBQ := bx HDP4.out.box
          have HCP := bx HDP4.out.cap
          first | subst hAN | (injection hAN with hAN; subst hAN)
          rw [HNL.out] at HBQ HCP
          obtain ⟨hnc, hcm⟩ := HCP.out
          have hnLc : (nL : Int) ≤ 9223372036854775807 := by omega
          have hg1 : gq < w4.heap.size := HBQ.out.lt
          have HAD := bx (And.intro had1 had2)
          have HNQ : Bx (gq ≠ bx0 ∧ adN.block ≠ bx0 ∧ gi ≠ bx0) := bx ⟨fun e => HDP4.out.apart.1 (e ▸ HDF4.out.own), fun e => had2 (e ▸ HDF4.out.sub _ HDF4.out.own), fun e => by have h9 := HDF.out.all _ (HDF.out.sub _ HDF.out.own); have := HGZ.out; omega⟩
          have HRC4 := bx (r8read_any sN at2 pk w4.drew M N bx0 F2 (HDF4.out.below (below_drewN (Below.refl _ _) 1)) HRD2.out (by have := HPK.out; omega) (by have := HPK.out; omega))
          rw [hsn] at HRC4
          obtain ⟨Rr, F3, hP⟩ : ∃ Rr F3, readFS F2 (nms.getD i []) at2 pk = (Rr, F3) := ⟨_, _, rfl⟩
          rw [hP] at HRC4
          have HPR := bx hP
          have hS5 : w4.drew.cell? ⟨gq, 0, none⟩ = some (.pointer (some ⟨bx0, 0, none⟩)) ∧ w4.drew.cell? ⟨gq, 1, none⟩ = some (.slice (some adN) nL cN) ∧ w4.drew.cell? (adN.add i) = some (.string sN) ∧ w4.drew.cell? ⟨gi, 5, none⟩ = some (.int .i64 (at2 : Int)) ∧ w4.drew.cell? ⟨gi, 2, none⟩ = some (.int .i64 (pk : Int)) := ⟨(HBQ.out.cell 0).trans rfl, (HBQ.out.cell 1).trans rfl, hcell, (HK4.out.cell 5).trans rfl, (HK4.out.cell 2).trans rfl⟩
          have HDP5 : Bx (DpB w4.drew M N gq bx0 bT bD nms K2 (some adN) cN D2) := bx (HDP4.out.below (below_drewN (Below.refl _ _) 1))
          have HC5 := bx (HC4.out.drewN 1)
          have HK5 : Bx (Bk w4.drew gi 71 #[.string sn, .int .i64 (me : Int), .int .i64 (pk : Int), .int .i64 (si : Int), .int .i64 (su : Int), .int .i64 (at2 : Int), .int .i64 (hd : Int)]) := bx HK4.out
          have HOWN := bx (And.intro HDF4.out.own HDF4.out.sub)
          clear hP hcell hsn hsm had1 had2 HDP4 HC4 HK4 HDF4
          go_region_held3 (fun w' => w'.cell? ⟨gq, 0, none⟩ = some (.pointer (some ⟨bx0, 0, none⟩)) ∧ w'.cell? ⟨gq, 1, none⟩ = some (.slice (some adN) nL cN) ∧ w'.cell? (adN.add i) = some (.string sN) ∧ w'.cell? ⟨gi, 5, none⟩ = some (.int .i64 (at2 : Int)) ∧ w'.cell? ⟨gi, 2, none⟩ = some (.int .i64 (pk : Int))) (first | exact hS5 | exact hS6 | fail) ((go_at_call 44; refine HRC4.out.mono ?_; intro e w2 hp2; obtain ⟨v2, q2, rfl⟩ := rd_form hp2.1; have hS6 : w2.cell? ⟨gq, 0, none⟩ = some (.pointer (some ⟨bx0, 0, none⟩)) ∧ w2.cell? ⟨gq, 1, none⟩ = some (.slice (some adN) nL cN) ∧ w2.cell? (adN.add i) = some (.string sN) ∧ w2.cell? ⟨gi, 5, none⟩ = some (.int .i64 (at2 : Int)) ∧ w2.cell? ⟨gi, 2, none⟩ = some (.int .i64 (pk : Int)) := ⟨(cell_same (p := ⟨gq, 0, none⟩) (hp2.2.2.same gq hg1 (fun e => HNQ.out.1 e))).trans hS5.1, (cell_same (p := ⟨gq, 1, none⟩) (hp2.2.2.same gq hg1 (fun e => HNQ.out.1 e))).trans hS5.2.1, (cell_same (p := adN.add i) (by rw [blk_add]; exact hp2.2.2.same adN.block HAD.out.1 (fun e => HNQ.out.2.1 e))).trans hS5.2.2.1, (cell_same (p := ⟨gi, 5, none⟩) (hp2.2.2.same gi HK5.out.lt (fun e => HNQ.out.2.2 e))).trans hS5.2.2.2.1, (cell_same (p := ⟨gi, 2, none⟩) (hp2.2.2.same gi HK5.out.lt (fun e => HNQ.out.2.2 e))).trans hS5.2.2.2.2⟩))
          obtain ⟨hpp, hf2, hc2⟩ := hp2
          have HDP6 : Bx (DpM w2 M N gq bx0 bT bD nms K2) := bx ⟨_, _, _, HDP5.out.file HOWN.out.1 HOWN.out.2 hc2⟩
          have HDF6 := bx hf2
          have HC6 := bx (HC5.out.trans hc2 (fun k _ e => .inl e))
          have HK6 : Bx (Bk w2 gi 71 #[.string sn, .int .i64 (me : Int), .int .i64 (pk : Int), .int .i64 (si : Int), .int .i64 (su : Int), .int .i64 (at2 : Int), .int .i64 (hd : Int)]) := bx ((hc2.same gi HK5.out.lt (fun e => HNQ.out.2.2 e)).trans HK5.out)
          have HZ2 : Bx (w.heap.size ≤ w2.heap.size) := bx HC6.out.size
          clear hS5 hS6 hf2 hc2 HRC4 HDP5 HC5 HK5
          cases Rr with
          | err k =>
            obtain ⟨he, hk0⟩ := hpp
            injection he with he
            simp only [Value.tuple.injEq, Array.mk.injEq, List.cons.injEq, Value.int.injEq, and_true, true_and] at he
            obtain ⟨rfl, rfl⟩ := he
            have HRT : Bx (R = (.err q2, true, F3, K2)) := bx (by
              rw [← HPX.out]
              unfold takeP
              dsimp only
              rw [HPR.out])
            have HK0 := bx hk0
            have hkI : (q2 != 0) = true := by rw [bne_iff_ne]; exact hk0
            clear hk0
            go_wp2
            go_ret3
            rw [HRT.out]
            exact ⟨LkA.bad rfl HK0.out, HDF6.out, HDP6.out, HC6.out⟩
          | ok l9 =>
            obtain ⟨v9, he, ho⟩ := hpp
            injection he with he
            simp only [Value.tuple.injEq, Array.mk.injEq, List.cons.injEq, Value.int.injEq, and_true, true_and] at he
            obtain ⟨rfl, rfl⟩ := he
            have HRT : Bx (R = (unpA me pk si su l9, true, F3, K2)) := bx (by
              rw [← HPX.out]
              unfold takeP
              dsimp only
              rw [HPR.out])
            obtain ⟨A7, c7, rfl, hr7, hc7, hm7⟩ := OwL.rd ho
            obtain ⟨n7, hn7⟩ : ∃ n, l9.length = n := ⟨_, rfl⟩
            have hme : me = 0 ∨ me = 8 := HME.out
            have hl9 : l9.length ≤ 65536 := by
              have h1 := HPR.out
              have h2 := HPK.out
              unfold readFS at h1
              split at h1
              · cases h1
              · split at h1
                · cases h1
                · split at h1
                  · cases h1
                  · injection h1 with h1 _
                    injection h1 with h1
                    rw [← h1, List.length_take]; omega
            have HU := bx (runp_any sn me pk si su at2 hd A7 n7 c7 l9 w2 hn7 (by omega) hr7 (by omega) (by omega))
            have k0 : w2.cell? ⟨gi, 0, none⟩ = some (.string sn) := (HK6.out.cell 0).trans rfl
            have k1 : w2.cell? ⟨gi, 1, none⟩ = some (.int .i64 (me : Int)) := (HK6.out.cell 1).trans rfl
            have k2 : w2.cell? ⟨gi, 2, none⟩ = some (.int .i64 (pk : Int)) := (HK6.out.cell 2).trans rfl
            have k3 : w2.cell? ⟨gi, 3, none⟩ = some (.int .i64 (si : Int)) := (HK6.out.cell 3).trans rfl
            have k4 : w2.cell? ⟨gi, 4, none⟩ = some (.int .i64 (su : Int)) := (HK6.out.cell 4).trans rfl
            have k5 : w2.cell? ⟨gi, 5, none⟩ = some (.int .i64 (at2 : Int)) := (HK6.out.cell 5).trans rfl
            have k6 : w2.cell? ⟨gi, 6, none⟩ = some (.int .i64 (hd : Int)) := (HK6.out.cell 6).trans rfl
            rw [hn7]
            clear ho hr7 hc7 hm7 hn7 hme hl9
            go_wp2_with fail
            refine HU.out.mono ?_
            intro e w3 hp3
            obtain ⟨v3, q3, rfl⟩ := unp_form hp3
            have HP3 := bx hp3
            clear hp3 HU k0 k1 k2 k3 k4 k5 k6
            go_wp2
            go_ret3
            rw [HRT.out]
            have hDP := HDP6.out
            obtain ⟨A9, c9, D9, hDP⟩ := hDP
            exact ⟨LkA.unp HP3.out HZ2.out, HDF6.out.below HP3.out.1, ⟨A9, c9, D9, hDP.below HP3.out.1⟩, HC6.out.trans (Ch.of_below (S := LkP bx0 bT bD) HP3.out.1) (fun _ _ e => e)⟩
        · have hst : (sn.toList == s.toList) = false := tl_diff (fun e => hnm (by rw [← HSL.out]; exact e))
          have HF : Bx ((l.take (j + 1)).find? (fun y => decide (y.1.name = s.data.toList)) = none) := bx (find_no HW.out.2 HXJ.out hnm)
          clear hnm
          go_wp2_with (refine wpList_store_row rfl 71 (.tmp 14) (.tmp 104) rfl wr.heap.size #[.string sn, .int .i64 (me : Int), .int .i64 (pk : Int), .int .i64 (si : Int), .int .i64 (su : Int), .int .i64 (at2 : Int), .int .i64 (hd : Int)] rfl rfl 71 z7 (Bk.new _ _ _) info_rec rfl HONE.out ?_; rw [z7_eq, HW4e.out, HGI.out])
          go_roundw
          case rel => exact ⟨j + 1, by omega, by go_num, bx ⟨HB4.out, HF.out⟩⟩
          case measure => simp [intOf]; omega
      · obtain rfl : j = n8 := by omega
        have hjI : ¬ (j : Int) < (j : Int) := by omega
        have HPX : Bx (R = (.err 21, false, F2, K2)) := bx (by
          have h9 := HW.out.2
          rw [List.take_of_length_le (by rw [HN8.out]; exact Nat.le_refl _)] at h9
          have hrc : recOf K2 i s.data.toList = none := by unfold recOf; rw [HKI.out]; exact h9
          have HA3 := HA.out
          rw [hrc] at HA3
          exact HA3.symm)
        go_wp2
        go_ret3
        rw [HPX.out]
        exact ⟨LkA.bad rfl (by decide), HDF.out.below HW.out.1, ⟨_, _, _, HDP.out.below HW.out.1⟩, HCH.out.trans (Ch.of_below (S := LkP bx0 bT bD) HW.out.1) (fun _ _ e => e)⟩
  | none =>
    rw [hK] at cT
    have cT : w.cell? ⟨bT, i, none⟩ = some (.bool false) := cT
    obtain ⟨adN, sN, hAN, hcell, hsn, hsm, had1, had2⟩ := hd.name (i := i) (by rw [hnL]; exact hi)
    subst hAN
    obtain ⟨cN, hcN⟩ : ∃ X, X = cm := ⟨_, rfl⟩
    subst hcN
    have HCP := bx hd.cap
    have hbq := hd.box
    rw [hnL] at hbq HCP
    obtain ⟨hnc, hcm⟩ := HCP.out
    have hnLc : (nL : Int) ≤ 9223372036854775807 := by omega
    have m0 : w.cell? ⟨gq, 0, none⟩ = some (.pointer (some ⟨bx0, 0, none⟩)) := (hbq.cell 0).trans rfl
    have m1 : w.cell? ⟨gq, 1, none⟩ = some (.slice (some adN) nL cN) := (hbq.cell 1).trans rfl
    have HBQ := bx hbq
    have HCN := bx hcell
    have HSN := bx hsn
    have HAD := bx (And.intro had1 had2)
    have HKN := bx hK
    have HDF := bx hf
    have HDP := bx hd
    have hsz : ∀ nq, Calls Tryz.prog 43 #[.pointer (some ⟨bx0, 0, none⟩), .string sN] (w.drewN nq) fun e w' => e = .returned (match F.rows (nms.getD i []) with
      | none => .tuple #[.int .i64 0, .int .i64 21]
      | some b => .tuple #[.int .i64 (b.length : Int), .int .i64 0]) ∧ ∃ n, w' = (w.drewN nq).drewN n := fun nq => by
      have := r8size_any sN (w.drewN nq) M N bx0 F (HDF.out.below (below_drewN (Below.refl _ _) nq))
      rw [HSN.out] at this
      exact this.mono (fun e w' h => ⟨h.1, 0, h.2⟩)
    have HSZ := bx hsz
    clear hf hd hR hrd hK hnL hsn hsm had1 had2 hbq
    go_enter Tryz.func31, Tryz.ntmps31
    go_upto_region 2 with (fail)
    clear c2 cT
    cases hrow : F.rows (nms.getD i []) with
    | none =>
      have HP : Bx (R = (.err 36, true, F, K)) := bx (by rw [← HR.out]; unfold learnP; rw [HKN.out]; dsimp only; rw [hrow]; rfl)
      have hsz := HSZ.out
      rw [hrow] at hsz
      have HSY : Bx (∀ nq, Calls Tryz.prog 43 #[.pointer (some ⟨bx0, 0, none⟩), .string sN] (w.drewN nq) fun e w' => e = .returned (.tuple #[.int .i64 0, .int .i64 21]) ∧ ∃ n, w' = (w.drewN nq).drewN n) := bx hsz
      clear hrow hsz HSZ
      go_quiet ((go_at_call 43; exact Calls.quiet_of (HSY.out _)))
      go_wp2
      go_ret3
      rw [HP.out]
      exact ⟨LkA.bad rfl (by decide), HDF.out.below (below_drewN (Below.refl _ _) nq), ⟨_, _, _, HDP.out.below (below_drewN (Below.refl _ _) nq)⟩, (Ch.refl w).drewN nq⟩
    | some b =>
      have hsz := HSZ.out
      rw [hrow] at hsz
      have HSY : Bx (∀ nq, Calls Tryz.prog 43 #[.pointer (some ⟨bx0, 0, none⟩), .string sN] (w.drewN nq) fun e w' => e = .returned (.tuple #[.int .i64 (b.length : Int), .int .i64 0]) ∧ ∃ n, w' = (w.drewN nq).drewN n) := bx hsz
      have HROW := bx hrow
      clear hrow hsz HSZ
      go_quiet ((go_at_call 43; exact Calls.quiet_of (HSY.out _)))
      have HDF1 : Bx (DfM (w.drewN nq) M N bx0 F) := bx (HDF.out.below (below_drewN (Below.refl _ _) nq))
      have HDP1 : Bx (DpB (w.drewN nq) M N gq bx0 bT bD nms K (some adN) cN Dm) := bx (HDP.out.below (below_drewN (Below.refl _ _) nq))
      have HCH1 : Bx (Ch w (w.drewN nq) (LkP bx0 bT bD)) := bx ((Ch.refl w).drewN nq)
      have HBQ1 : Bx (Bk (w.drewN nq) gq 80 #[.pointer (some ⟨bx0, 0, none⟩), .slice (some adN) nL cN, .slice (some ⟨bT, 0, none⟩) nL nL, .slice (some ⟨bD, 0, none⟩) nL nL]) := bx HBQ.out
      have HCN1 : Bx ((w.drewN nq).cell? (adN.add i) = some (.string sN)) := bx HCN.out
      have HAD1 : Bx (adN.block < (w.drewN nq).heap.size ∧ ¬ M adN.block) := bx HAD.out
      have HBL : Bx (b.length ≤ 65536) := bx (by
        obtain ⟨vL, vF, L, fl, h9⟩ := HDF.out
        cases hp9 : fpos L (nms.getD i []) with
        | none => have := h9.rows_none hp9; rw [HROW.out] at this; cases this
        | some k9 =>
          obtain ⟨x9, hx9, _, hr9⟩ := h9.rows_some hp9
          rw [HROW.out] at hr9
          injection hr9 with hr9
          have h8 := h9.std x9 (List.mem_of_getElem? hx9)
          rw [hr9, h8.1.1]; exact h8.2)
      have hg1 : gq < (w.drewN nq).heap.size := hgq
      clear HSY m0 m1 hgq hgT HBQ HCN HAD HDF HDP hcell
      generalize w.drewN nq = w1 at HDF1 HDP1 HCH1 HBQ1 HCN1 HAD1 hg1 ⊢
      have HRC := bx (r8read_any sN 0 b.length w1.drew M N bx0 F (HDF1.out.below (below_drewN (Below.refl _ _) 1)) (by have := HRD.out; omega) (by omega) (by have := HBL.out; omega))
      rw [HSN.out] at HRC
      obtain ⟨Rr, F2, hP⟩ : ∃ Rr F2, readFS F (nms.getD i []) 0 b.length = (Rr, F2) := ⟨_, _, rfl⟩
      have hrr2 := readFS_reads F (nms.getD i []) 0 b.length
      rw [hP] at HRC hrr2
      have HPR := bx hP
      have HRR2 := bx hrr2
      clear hP hrr2
      have hS5 : w1.drew.cell? ⟨gq, 0, none⟩ = some (.pointer (some ⟨bx0, 0, none⟩)) ∧ w1.drew.cell? ⟨gq, 1, none⟩ = some (.slice (some adN) nL cN) ∧ w1.drew.cell? (adN.add i) = some (.string sN) := ⟨(HBQ1.out.cell 0).trans rfl, (HBQ1.out.cell 1).trans rfl, HCN1.out⟩
      have HNQ : Bx (gq ≠ bx0 ∧ adN.block ≠ bx0) := bx ⟨fun e => HDP1.out.apart.1 (e ▸ HDF1.out.own), fun e => HAD1.out.2 (e ▸ HDF1.out.sub _ HDF1.out.own)⟩
      have HOWN := bx (And.intro HDF1.out.own HDF1.out.sub)
      have HDP2 : Bx (DpB w1.drew M N gq bx0 bT bD nms K (some adN) cN Dm) := bx (HDP1.out.below (below_drewN (Below.refl _ _) 1))
      have HCH2 : Bx (Ch w w1.drew (LkP bx0 bT bD)) := bx (HCH1.out.drewN 1)
      clear HDF1 HDP1 HCH1 HCN1 HBQ1
      go_upto_region 5 with (fail)
      go_region_held3 (fun w' => w'.cell? ⟨gq, 0, none⟩ = some (.pointer (some ⟨bx0, 0, none⟩)) ∧ w'.cell? ⟨gq, 1, none⟩ = some (.slice (some adN) nL cN) ∧ w'.cell? (adN.add i) = some (.string sN)) (first | exact hS5 | exact hS6 | fail) ((go_at_call 44; refine HRC.out.mono ?_; intro e w2 hp2; obtain ⟨v2, k2, rfl⟩ := rd_form hp2.1; have hS6 : w2.cell? ⟨gq, 0, none⟩ = some (.pointer (some ⟨bx0, 0, none⟩)) ∧ w2.cell? ⟨gq, 1, none⟩ = some (.slice (some adN) nL cN) ∧ w2.cell? (adN.add i) = some (.string sN) := ⟨(cell_same (p := ⟨gq, 0, none⟩) (hp2.2.2.same gq hg1 (fun e => HNQ.out.1 e))).trans hS5.1, (cell_same (p := ⟨gq, 1, none⟩) (hp2.2.2.same gq hg1 (fun e => HNQ.out.1 e))).trans hS5.2.1, (cell_same (p := adN.add i) (by rw [blk_add]; exact hp2.2.2.same adN.block HAD1.out.1 (fun e => HNQ.out.2 e))).trans hS5.2.2⟩))
      obtain ⟨hpp, hf2, hc2⟩ := hp2
      have HDP3 := bx (HDP2.out.file HOWN.out.1 HOWN.out.2 hc2)
      have HDF3 := bx hf2
      have HCH3 := bx (HCH2.out.trans hc2 (fun k _ e => .inl e))
      clear hS5 hS6 HRC hf2 hc2 HDP2 HCH2
      cases Rr with
      | err k =>
        have HP : Bx (R = (.err k, true, F2, K)) := bx (by
          obtain ⟨_, hk0⟩ := hpp
          have h9 := HR.out; rw [learn_err HKN.out HROW.out HPR.out] at h9; dsimp only at h9; rw [if_pos hk0] at h9; exact h9.symm)
        obtain ⟨he, hk0⟩ := hpp
        injection he with he
        simp only [Value.tuple.injEq, Array.mk.injEq, List.cons.injEq, Value.int.injEq, and_true, true_and] at he
        obtain ⟨rfl, rfl⟩ := he
        have hkI : (k2 != 0) = true := by rw [bne_iff_ne]; exact hk0
        have HK0 := bx hk0
        clear hk0
        go_wp2
        go_ret3
        rw [HP.out]
        exact ⟨LkA.bad rfl HK0.out, HDF3.out, ⟨_, _, _, HDP3.out⟩, HCH3.out⟩
      | ok b' =>
        obtain ⟨rfl, rfl⟩ : b' = b ∧ F2 = nextFS F := read_back HROW.out HPR.out
        obtain ⟨v, he, ho⟩ := hpp
        injection he with he
        simp only [Value.tuple.injEq, Array.mk.injEq, List.cons.injEq, Value.int.injEq, and_true, true_and] at he
        obtain ⟨rfl, rfl⟩ := he
        obtain ⟨A7, c7, rfl, hr7, hc7, hm7⟩ := OwL.rd ho
        obtain ⟨n7, hn7⟩ : ∃ n, b'.length = n := ⟨_, rfl⟩
        have HD := bx (rdir_any A7 n7 c7 b' w2 hn7 (by have := HBL.out; omega) (by omega) hm7 hr7)
        rw [hn7]
        clear ho hr7 hc7 hm7 hn7
        go_wp2_with fail
        refine HD.out.mono ?_
        intro e w3 hp
        have HDF4 := bx (HDF3.out.below hp.1)
        have HDP4 := bx (HDP3.out.below hp.1)
        have HCH4 := bx (HCH3.out.trans (Ch.of_below (S := LkP bx0 bT bD) hp.1) (fun _ _ e => e))
        have HLO2 : Bx (∀ k, M k → k < w2.heap.size) := bx HDF3.out.all
        clear HD HDF3 HDP3 HCH3
        cases hd : dirA b' with
        | err k =>
          obtain ⟨rfl, _⟩ := dirpost_err hp hd
          have hk0 : k ≠ 0 := by have := (dirA_pos hd).1; omega
          have hkI : (k != 0) = true := by rw [bne_iff_ne]; exact hk0
          have HP : Bx (R = (.err k, true, nextFS F, K)) := bx (by have h9 := HR.out; rw [learn_bad HKN.out HROW.out HPR.out hd] at h9; dsimp only at h9; rw [if_pos hk0] at h9; exact h9.symm)
          have HK0 := bx hk0
          clear hd hp hk0
          go_wp2
          go_ret3
          rw [HP.out]
          exact ⟨LkA.bad rfl HK0.out, HDF4.out, ⟨_, _, _, HDP4.out⟩, HCH4.out⟩
        | ok l =>
          obtain ⟨A9, c9, rfl, ho9, _, hc9, _⟩ := dirpost_ok hp hd
          obtain ⟨A10, c10, e10, _, hrx⟩ := rx_own ho9 HLO2.out
          injection e10 with e10 _ e11
          subst e10
          subst e11
          have hLP : learnP nms F K i = (0, nextFS F, K.set i l) := by unfold learnP; rw [HKN.out]; dsimp only; rw [HROW.out]; dsimp only; rw [HPR.out]; dsimp only; rw [hd]
          have HA0 := HR.out
          rw [hLP] at HA0
          have HA0 : (match recOf (K.set i l) i s.data.toList with | none => (.err 21, false, nextFS F, K.set i l) | some x => ((takeP nms (nextFS F) i x).1, true, (takeP nms (nextFS F) i x).2, K.set i l)) = R := HA0
          obtain ⟨n9, hn9⟩ : ∃ n, l.length = n := ⟨_, rfl⟩
          have hlr := HDP4.out.learned HDF4.out (i := i) (by rw [HNL.out]; exact HIL.out) (A2 := A9) (c2 := c9) hn9 hrx ⟨b', hd⟩
          have HLR := bx hlr
          have m2 : w3.cell? ⟨gq, 2, none⟩ = some (.slice (some ⟨bT, 0, none⟩) nL nL) := (HDP4.out.box.cell 2).trans (by rw [HNL.out]; rfl)
          have m3 : w3.cell? ⟨gq, 3, none⟩ = some (.slice (some ⟨bD, 0, none⟩) nL nL) := (HDP4.out.box.cell 3).trans (by rw [HNL.out]; rfl)
          have q1 : w3.cell? ⟨bT, i, none⟩ = some (.bool (K i).isSome) := HDP4.out.there.cell (by rw [HNL.out]; exact HIL.out)
          have q2 : w3.cell? ⟨bD, i, none⟩ = some (Dm i) := HDP4.out.dirs.cell (by rw [HNL.out]; exact HIL.out)
          have z1 : w3.frozen? ⟨bT, i, none⟩ = false := HDP4.out.there.frz i
          have z2 : w3.frozen? ⟨bD, i, none⟩ = false := HDP4.out.dirs.frz i
          have hg3 : gq < w3.heap.size := HDP4.out.box.lt
          have hgT3 : bT < w3.heap.size := HDP4.out.there.lt
          have hgD3 : bD < w3.heap.size := HDP4.out.dirs.lt
          have hTD : bT ≠ bD := HDP4.out.ne.2.2
          have hDT : bD ≠ bT := fun e => hTD e.symm
          have q3 : (w3.setCell ⟨bT, i, none⟩ (.bool true)).cell? ⟨bD, i, none⟩ = some (Dm i) := (cell_same (p := ⟨bD, i, none⟩) (Below.heap_setCell w3 ⟨bT, i, none⟩ _ bD hDT)).trans q2
          have HHA := bx HA0
          rw [hn9]
          clear hp hd ho9 hc9 hrx hlr hLP HA0 HLO2 hn9
          go_upto_region 11 with (fail)
          go_region
          all_goals (
            clear m2 m3 q1 q2 q3 z1 z2 hg3 hgT3 hgD3 hTD hDT
            obtain ⟨wL, hwL⟩ : ∃ X, X = ((w3.setCell ⟨bT, i, none⟩ (.bool true)).setCell ⟨bD, i, none⟩ (.slice A9 n9 c9)).drew := ⟨_, rfl⟩
            have HWL := bx hwL
            have HDF : Bx (DfM wL M N bx0 (nextFS F)) := bx (by rw [hwL]; exact HLR.out.2.1.below (below_drewN (Below.refl _ _) 1))
            have hdp : DpB wL M N gq bx0 bT bD nms (K.set i l) (some adN) cN (fun q => if q = i then .slice A9 n9 c9 else Dm q) := by rw [hwL]; exact HLR.out.1.below (below_drewN (Below.refl _ _) 1)
            have hch : Ch w wL (LkP bx0 bT bD) := by rw [hwL]; exact (HCH4.out.trans HLR.out.2.2 (fun k _ e => .inr e)).drewN 1
            obtain ⟨D2, hD2⟩ : ∃ X, X = (fun q => if q = i then (.slice A9 n9 c9 : Value) else Dm q) := ⟨_, rfl⟩
            rw [← hD2] at hdp
            obtain ⟨K2, hK2⟩ : ∃ X, X = K.set i l := ⟨_, rfl⟩
            rw [← hK2] at hdp HHA
            obtain ⟨F2, hF2⟩ : ∃ X, X = nextFS F := ⟨_, rfl⟩
            rw [← hF2] at HHA HDF
            have HA := bx HHA.out
            have HDP := bx hdp
            have HCH := bx hch
            have HKI : Bx (K2 i = some l) := bx (by rw [hK2]; exact set_same)
            have HRD2 : Bx (F2.reads < 1000000) := bx (by rw [hF2]; exact HRD.out)
            clear hwL hdp hch hD2 hK2 hF2 HHA HLR
            go_upto_region 13 with (fail)
            rw [← HWL.out]
            -- wL; HDF, HDP, HCH, HKI : K2 i = some l, HA : (match ..) = R, HRD2 : F2.reads < 1000000
            obtain ⟨A8, c8, hD8, hr8⟩ := HDP.out.dir i l HKI.out
            have HR8 : Bx (RS recL wL wL.heap.size A8 l) := bx (Rx.rd10 hr8 (fun k hk => hk.1))
            obtain ⟨n8, hn8⟩ : ∃ n, l.length = n := ⟨_, rfl⟩
            have HN8 := bx hn8
            rw [hn8] at hD8
            obtain ⟨b8, hb8⟩ := HDP.out.good i l HKI.out
            have HOK := bx (apOk hb8)
            have HB8 := bx (dirA_ok hb8).1
            have hn64 : n8 ≤ 64 := by rw [← hn8]; exact HOK.out.len
            have hgq : gq < wL.heap.size := HDP.out.box.lt
            have hgD : bD < wL.heap.size := HDP.out.dirs.lt
            have d3 : wL.cell? ⟨gq, 3, none⟩ = some (.slice (some ⟨bD, 0, none⟩) nL nL) := (HDP.out.box.cell 3).trans (by rw [HNL.out]; rfl)
            have dD : wL.cell? ⟨bD, i, none⟩ = some (.slice A8 n8 c8) := (HDP.out.dirs.cell (by rw [HNL.out]; exact HIL.out)).trans (by rw [hD8])
            have HD3 := bx (And.intro d3 dD)
            have HGQ := bx (And.intro hgq hgD)
            clear hr8 hn8 hb8 hD8 d3 dD hgq hgD
            go_wp2_with fail
            go_loopw [13] (fun iv wx => ∃ j : Nat, j ≤ n8 ∧ iv = .int .i64 (j : Int) ∧ Bx (Below wL.heap.size wL wx ∧ (l.take j).find? (fun y => decide (y.1.name = s.data.toList)) = none)) (fun iv _ => n8 - (intOf iv).toNat)
            case atStart => exact ⟨0, by omega, rfl, bx ⟨Below.refl _ _, rfl⟩⟩
            case round =>
              obtain ⟨j, hj, rfl, HW⟩ := hrel
              have d3 : wr.cell? ⟨gq, 3, none⟩ = some (.slice (some ⟨bD, 0, none⟩) nL nL) := (HW.out.1.cell (p := ⟨gq, 3, none⟩) HGQ.out.1).trans HD3.out.1
              have dD : wr.cell? ⟨bD, i, none⟩ = some (.slice A8 n8 c8) := (HW.out.1.cell (p := ⟨bD, i, none⟩) HGQ.out.2).trans HD3.out.2
              by_cases hjn : j < n8
              · have hjI : (j : Int) < (n8 : Int) := by omega
                have hj0 : (0 : Int) ≤ (j : Int) := by omega
                obtain ⟨ad8, x, hA8, _, hx, hc, hcs⟩ := (HR8.out.step HW.out.1).at_ recCels (k := j) (by rw [HN8.out]; exact hjn)
                subst hA8
                have HO := bx (HOK.out.one j _ hx.out)
                have HXJ := bx hx.out
                obtain ⟨⟨nm, me, pk, si, su, hd⟩, at2⟩ := x
                obtain ⟨o1, o2, o3, o4, o5⟩ := HO.out
                dsimp only at o1 o2 o3 o4 o5
                obtain ⟨sn, hsn⟩ : ∃ s : ByteArray, (⟨nm.toArray⟩ : ByteArray) = s := ⟨_, rfl⟩
                have HSV : Bx (strV nm = .string sn) := bx (by unfold strV; rw [hsn])
                have HSL : Bx (sn.data.toList = nm) := bx (by rw [← hsn])
                have k0 := hc _ rfl
                have k1 := hcs 0 _ rfl
                have k2 := hcs 1 _ rfl
                have k3 := hcs 2 _ rfl
                have k4 := hcs 3 _ rfl
                have k5 := hcs 4 _ rfl
                have k6 := hcs 5 _ rfl
                rw [Nat.zero_add] at k1
                rw [HSV.out] at k0
                obtain ⟨gi, hgi⟩ : ∃ gi, wr.heap.size = gi := ⟨_, rfl⟩
                obtain ⟨w4, hw4⟩ : ∃ w4, (wr.alloc (.cells z7 71)).setRow wr.heap.size #[.string sn, .int .i64 (me : Int), .int .i64 (pk : Int), .int .i64 (si : Int), .int .i64 (su : Int), .int .i64 (at2 : Int), .int .i64 (hd : Int)] = w4 := ⟨_, rfl⟩
                have hK4 : Bk w4 gi 71 #[.string sn, .int .i64 (me : Int), .int .i64 (pk : Int), .int .i64 (si : Int), .int .i64 (su : Int), .int .i64 (at2 : Int), .int .i64 (hd : Int)] := by rw [← hw4, ← hgi]; exact ((Bk.new wr _ z7).setRow _)
                have hB4 : Below wr.heap.size wr w4 := by rw [← hw4]; exact bl_setRow (bl_alloc (Below.refl wr.heap.size wr) (Nat.le_refl _) _) (Nat.le_refl _) _
                have hone : (#[.string sn, .int .i64 (me : Int), .int .i64 (pk : Int), .int .i64 (si : Int), .int .i64 (su : Int), .int .i64 (at2 : Int), .int .i64 (hd : Int)] : Array Value).all (·.oneCell') = true := by simp [Value.oneCell']
                have HONE := bx hone
                have HK4 := bx hK4
                have HB4 : Bx (Below wL.heap.size wL w4) := bx (HW.out.1.trans (hB4.mono HW.out.1.size))
                have n0c : w4.cell? ⟨gi, 0, none⟩ = some (.string sn) := (hK4.cell 0).trans rfl
                have HW4e := bx hw4
                have HGI := bx hgi
                have HGZ : Bx (wL.heap.size ≤ gi) := bx (by rw [← hgi]; exact HW.out.1.size)
                have HME : Bx (me = 0 ∨ me = 8) := bx o2
                have HPK : Bx (at2 + pk ≤ 65536) := bx (by have := HB8.out; omega)
                clear hw4 hK4 hB4 hone hc hcs hx hsn o1 o2 o3 o4 o5 hgi HO
                by_cases hnm : nm = s.data.toList
                · have hst : (sn.toList == s.toList) = true := tl_same (by rw [HSL.out]; exact hnm)
                  have HRC : Bx (recOf K2 i s.data.toList = some (⟨nm, me, pk, si, su, hd⟩, at2)) := bx (by unfold recOf; rw [HKI.out]; exact find_yes HW.out.2 HXJ.out hnm)
                  have HA3 := HA.out
                  rw [HRC.out] at HA3
                  dsimp only at HA3
                  have HPX := bx HA3
                  clear hnm HA3
                  go_upto_region 17 with (refine wpList_store_row rfl 71 (.tmp 14) (.tmp 104) rfl wr.heap.size #[.string sn, .int .i64 (me : Int), .int .i64 (pk : Int), .int .i64 (si : Int), .int .i64 (su : Int), .int .i64 (at2 : Int), .int .i64 (hd : Int)] rfl rfl 71 z7 (Bk.new _ _ _) info_rec rfl HONE.out ?_; rw [z7_eq, HW4e.out, HGI.out])
                  clear k0 k1 k2 k3 k4 k5 k6 d3 dD n0c HW4e HONE
                  have HDF4 := bx (HDF.out.below HB4.out)
                  have HDP4 := bx (HDP.out.below HB4.out)
                  have HC4 := bx (HCH.out.trans (Ch.of_below (S := LkP bx0 bT bD) HB4.out) (fun _ _ e => e))
                  obtain ⟨adN, sN, hAN, hcell, hsn, hsm, had1, had2⟩ := HDP4.out.name (i := i) (by rw [HNL.out]; exact HIL.out)
                  have HBQ := bx HDP4.out.box
                  have HCP := bx HDP4.out.cap
                  first | subst hAN | (injection hAN with hAN; subst hAN)
                  rw [HNL.out] at HBQ HCP
                  obtain ⟨hnc, hcm⟩ := HCP.out
                  have hnLc : (nL : Int) ≤ 9223372036854775807 := by omega
                  have hg1 : gq < w4.heap.size := HBQ.out.lt
                  have HAD := bx (And.intro had1 had2)
                  have HNQ : Bx (gq ≠ bx0 ∧ adN.block ≠ bx0 ∧ gi ≠ bx0) := bx ⟨fun e => HDP4.out.apart.1 (e ▸ HDF4.out.own), fun e => had2 (e ▸ HDF4.out.sub _ HDF4.out.own), fun e => by have h9 := HDF.out.all _ (HDF.out.sub _ HDF.out.own); have := HGZ.out; omega⟩
                  have HRC4 := bx (r8read_any sN at2 pk w4.drew M N bx0 F2 (HDF4.out.below (below_drewN (Below.refl _ _) 1)) HRD2.out (by have := HPK.out; omega) (by have := HPK.out; omega))
                  rw [hsn] at HRC4
                  obtain ⟨Rr, F3, hP⟩ : ∃ Rr F3, readFS F2 (nms.getD i []) at2 pk = (Rr, F3) := ⟨_, _, rfl⟩
                  rw [hP] at HRC4
                  have HPR := bx hP
                  have hS5 : w4.drew.cell? ⟨gq, 0, none⟩ = some (.pointer (some ⟨bx0, 0, none⟩)) ∧ w4.drew.cell? ⟨gq, 1, none⟩ = some (.slice (some adN) nL cN) ∧ w4.drew.cell? (adN.add i) = some (.string sN) ∧ w4.drew.cell? ⟨gi, 5, none⟩ = some (.int .i64 (at2 : Int)) ∧ w4.drew.cell? ⟨gi, 2, none⟩ = some (.int .i64 (pk : Int)) := ⟨(HBQ.out.cell 0).trans rfl, (HBQ.out.cell 1).trans rfl, hcell, (HK4.out.cell 5).trans rfl, (HK4.out.cell 2).trans rfl⟩
                  have HDP5 : Bx (DpB w4.drew M N gq bx0 bT bD nms K2 (some adN) cN D2) := bx (HDP4.out.below (below_drewN (Below.refl _ _) 1))
                  have HC5 := bx (HC4.out.drewN 1)
                  have HK5 : Bx (Bk w4.drew gi 71 #[.string sn, .int .i64 (me : Int), .int .i64 (pk : Int), .int .i64 (si : Int), .int .i64 (su : Int), .int .i64 (at2 : Int), .int .i64 (hd : Int)]) := bx HK4.out
                  have HOWN := bx (And.intro HDF4.out.own HDF4.out.sub)
                  clear hP hcell hsn hsm had1 had2 HDP4 HC4 HK4 HDF4
                  go_region_held3 (fun w' => w'.cell? ⟨gq, 0, none⟩ = some (.pointer (some ⟨bx0, 0, none⟩)) ∧ w'.cell? ⟨gq, 1, none⟩ = some (.slice (some adN) nL cN) ∧ w'.cell? (adN.add i) = some (.string sN) ∧ w'.cell? ⟨gi, 5, none⟩ = some (.int .i64 (at2 : Int)) ∧ w'.cell? ⟨gi, 2, none⟩ = some (.int .i64 (pk : Int))) (first | exact hS5 | exact hS6 | fail) ((go_at_call 44; refine HRC4.out.mono ?_; intro e w2 hp2; obtain ⟨v2, q2, rfl⟩ := rd_form hp2.1; have hS6 : w2.cell? ⟨gq, 0, none⟩ = some (.pointer (some ⟨bx0, 0, none⟩)) ∧ w2.cell? ⟨gq, 1, none⟩ = some (.slice (some adN) nL cN) ∧ w2.cell? (adN.add i) = some (.string sN) ∧ w2.cell? ⟨gi, 5, none⟩ = some (.int .i64 (at2 : Int)) ∧ w2.cell? ⟨gi, 2, none⟩ = some (.int .i64 (pk : Int)) := ⟨(cell_same (p := ⟨gq, 0, none⟩) (hp2.2.2.same gq hg1 (fun e => HNQ.out.1 e))).trans hS5.1, (cell_same (p := ⟨gq, 1, none⟩) (hp2.2.2.same gq hg1 (fun e => HNQ.out.1 e))).trans hS5.2.1, (cell_same (p := adN.add i) (by rw [blk_add]; exact hp2.2.2.same adN.block HAD.out.1 (fun e => HNQ.out.2.1 e))).trans hS5.2.2.1, (cell_same (p := ⟨gi, 5, none⟩) (hp2.2.2.same gi HK5.out.lt (fun e => HNQ.out.2.2 e))).trans hS5.2.2.2.1, (cell_same (p := ⟨gi, 2, none⟩) (hp2.2.2.same gi HK5.out.lt (fun e => HNQ.out.2.2 e))).trans hS5.2.2.2.2⟩))
                  obtain ⟨hpp, hf2, hc2⟩ := hp2
                  have HDP6 : Bx (DpM w2 M N gq bx0 bT bD nms K2) := bx ⟨_, _, _, HDP5.out.file HOWN.out.1 HOWN.out.2 hc2⟩
                  have HDF6 := bx hf2
                  have HC6 := bx (HC5.out.trans hc2 (fun k _ e => .inl e))
                  have HK6 : Bx (Bk w2 gi 71 #[.string sn, .int .i64 (me : Int), .int .i64 (pk : Int), .int .i64 (si : Int), .int .i64 (su : Int), .int .i64 (at2 : Int), .int .i64 (hd : Int)]) := bx ((hc2.same gi HK5.out.lt (fun e => HNQ.out.2.2 e)).trans HK5.out)
                  have HZ2 : Bx (w.heap.size ≤ w2.heap.size) := bx HC6.out.size
                  clear hS5 hS6 hf2 hc2 HRC4 HDP5 HC5 HK5
                  cases Rr with
                  | err k =>
                    obtain ⟨he, hk0⟩ := hpp
                    injection he with he
                    simp only [Value.tuple.injEq, Array.mk.injEq, List.cons.injEq, Value.int.injEq, and_true, true_and] at he
                    obtain ⟨rfl, rfl⟩ := he
                    have HRT : Bx (R = (.err q2, true, F3, K2)) := bx (by
                      rw [← HPX.out]
                      unfold takeP
                      dsimp only
                      rw [HPR.out])
                    have HK0 := bx hk0
                    have hkI : (q2 != 0) = true := by rw [bne_iff_ne]; exact hk0
                    clear hk0
                    go_wp2
                    go_ret3
                    rw [HRT.out]
                    exact ⟨LkA.bad rfl HK0.out, HDF6.out, HDP6.out, HC6.out⟩
                  | ok l9 =>
                    obtain ⟨v9, he, ho⟩ := hpp
                    injection he with he
                    simp only [Value.tuple.injEq, Array.mk.injEq, List.cons.injEq, Value.int.injEq, and_true, true_and] at he
                    obtain ⟨rfl, rfl⟩ := he
                    have HRT : Bx (R = (unpA me pk si su l9, true, F3, K2)) := bx (by
                      rw [← HPX.out]
                      unfold takeP
                      dsimp only
                      rw [HPR.out])
                    obtain ⟨A7, c7, rfl, hr7, hc7, hm7⟩ := OwL.rd ho
                    obtain ⟨n7, hn7⟩ : ∃ n, l9.length = n := ⟨_, rfl⟩
                    have hme : me = 0 ∨ me = 8 := HME.out
                    have hl9 : l9.length ≤ 65536 := by
                      have h1 := HPR.out
                      have h2 := HPK.out
                      unfold readFS at h1
                      split at h1
                      · cases h1
                      · split at h1
                        · cases h1
                        · split at h1
                          · cases h1
                          · injection h1 with h1 _
                            injection h1 with h1
                            rw [← h1, List.length_take]; omega
                    have HU := bx (runp_any sn me pk si su at2 hd A7 n7 c7 l9 w2 hn7 (by omega) hr7 (by omega) (by omega))
                    have k0 : w2.cell? ⟨gi, 0, none⟩ = some (.string sn) := (HK6.out.cell 0).trans rfl
                    have k1 : w2.cell? ⟨gi, 1, none⟩ = some (.int .i64 (me : Int)) := (HK6.out.cell 1).trans rfl
                    have k2 : w2.cell? ⟨gi, 2, none⟩ = some (.int .i64 (pk : Int)) := (HK6.out.cell 2).trans rfl
                    have k3 : w2.cell? ⟨gi, 3, none⟩ = some (.int .i64 (si : Int)) := (HK6.out.cell 3).trans rfl
                    have k4 : w2.cell? ⟨gi, 4, none⟩ = some (.int .i64 (su : Int)) := (HK6.out.cell 4).trans rfl
                    have k5 : w2.cell? ⟨gi, 5, none⟩ = some (.int .i64 (at2 : Int)) := (HK6.out.cell 5).trans rfl
                    have k6 : w2.cell? ⟨gi, 6, none⟩ = some (.int .i64 (hd : Int)) := (HK6.out.cell 6).trans rfl
                    rw [hn7]
                    clear ho hr7 hc7 hm7 hn7 hme hl9
                    go_wp2_with fail
                    refine HU.out.mono ?_
                    intro e w3 hp3
                    obtain ⟨v3, q3, rfl⟩ := unp_form hp3
                    have HP3 := bx hp3
                    clear hp3 HU k0 k1 k2 k3 k4 k5 k6
                    go_wp2
                    go_ret3
                    rw [HRT.out]
                    have hDP := HDP6.out
                    obtain ⟨A9, c9, D9, hDP⟩ := hDP
                    exact ⟨LkA.unp HP3.out HZ2.out, HDF6.out.below HP3.out.1, ⟨A9, c9, D9, hDP.below HP3.out.1⟩, HC6.out.trans (Ch.of_below (S := LkP bx0 bT bD) HP3.out.1) (fun _ _ e => e)⟩
                · have hst : (sn.toList == s.toList) = false := tl_diff (fun e => hnm (by rw [← HSL.out]; exact e))
                  have HF : Bx ((l.take (j + 1)).find? (fun y => decide (y.1.name = s.data.toList)) = none) := bx (find_no HW.out.2 HXJ.out hnm)
                  clear hnm
                  go_wp2_with (refine wpList_store_row rfl 71 (.tmp 14) (.tmp 104) rfl wr.heap.size #[.string sn, .int .i64 (me : Int), .int .i64 (pk : Int), .int .i64 (si : Int), .int .i64 (su : Int), .int .i64 (at2 : Int), .int .i64 (hd : Int)] rfl rfl 71 z7 (Bk.new _ _ _) info_rec rfl HONE.out ?_; rw [z7_eq, HW4e.out, HGI.out])
                  go_roundw
                  case rel => exact ⟨j + 1, by omega, by go_num, bx ⟨HB4.out, HF.out⟩⟩
                  case measure => simp [intOf]; omega
              · obtain rfl : j = n8 := by omega
                have hjI : ¬ (j : Int) < (j : Int) := by omega
                have HPX : Bx (R = (.err 21, false, F2, K2)) := bx (by
                  have h9 := HW.out.2
                  rw [List.take_of_length_le (by rw [HN8.out]; exact Nat.le_refl _)] at h9
                  have hrc : recOf K2 i s.data.toList = none := by unfold recOf; rw [HKI.out]; exact h9
                  have HA3 := HA.out
                  rw [hrc] at HA3
                  exact HA3.symm)
                go_wp2
                go_ret3
                rw [HPX.out]
                exact ⟨LkA.bad rfl (by decide), HDF.out.below HW.out.1, ⟨_, _, _, HDP.out.below HW.out.1⟩, HCH.out.trans (Ch.of_below (S := LkP bx0 bT bD) HW.out.1) (fun _ _ e => e)⟩)
end Go.Proofs.YtlmcpkomjofcgaaGreatDoor
