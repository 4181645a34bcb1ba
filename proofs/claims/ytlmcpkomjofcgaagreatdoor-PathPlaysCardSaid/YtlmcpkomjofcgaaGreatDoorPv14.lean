/- Contract: samovarref11.Lay. -/
import Derived.Test.YtlmcpkomjofcgaaGreatDoorPv13
import Derived.Test.YtlmcpkomjofcgaaGreatDoorPv3
import Derived.Test.YtlmcpkomjofcgaaGreatDoorPv11
import Derived.Deep.RegionWith
import Derived.Deep.RegionHeld3
import Derived.Deep.DeepCutAuto
import Derived.Deep.CutBlock
namespace Go.Proofs.YtlmcpkomjofcgaaGreatDoor
open Go.RowKit
/-- The items with their packed bytes. -/
def zipZ (L : List It) (ps : List Sl) : List Pk := (L.map It.p).zip (ps.map (·.l))
theorem zipZ_fst {L : List It} {ps : List Sl} (h : ps.length = L.length) : (zipZ L ps).map (·.1) = L.map It.p := by
  unfold zipZ
  exact List.map_fst_zip (by simp [h])
theorem zipZ_len {L : List It} {ps : List Sl} (h : ps.length = L.length) : (zipZ L ps).length = L.length := by
  unfold zipZ; simp [h]
theorem zipZ_at {L : List It} {ps : List Sl} {k : Nat} {x : It} {y : Sl} (hx : L[k]? = some x) (hy : ps[k]? = some y) : (zipZ L ps)[k]? = some (x.p, y.l) := by
  unfold zipZ
  rw [List.getElem?_zip_eq_some]
  exact ⟨itm_map hx, by rw [List.getElem?_map, hy]; rfl⟩
theorem zipZ_mem {L : List It} {ps : List Sl} {z : Pk} (h : z ∈ zipZ L ps) : (∃ x ∈ L, z.1 = x.p) ∧ ∃ y ∈ ps, z.2 = y.l := by
  obtain ⟨k, hk⟩ := List.mem_iff_getElem?.1 h
  unfold zipZ at hk
  rw [List.getElem?_zip_eq_some] at hk
  obtain ⟨h1, h2⟩ := hk
  obtain ⟨x, hx, hx2⟩ := List.mem_map.1 (List.mem_of_getElem? h1)
  obtain ⟨y, hy, hy2⟩ := List.mem_map.1 (List.mem_of_getElem? h2)
  exact ⟨⟨x, hx, hx2.symm⟩, y, hy, hy2.symm⟩
set_option maxRecDepth 100000 in
set_option maxHeartbeats 8000000 in
theorem rlay_any (A : Option Addr) (n c : Nat) (L : List It) (Ap : Option Addr) (cp : Nat) (ps : List Sl) (w : World) (hn : L.length = n) (hnc : n ≤ c) (hcc : (c : Int) ≤ 9223372036854775807) (hb : n ≤ 140737488351232) (hs : ∀ x ∈ L, x.name.length ≤ 140737488351232 ∧ x.s.n ≤ 140737488351232) (hr : RIt w w.heap.size A L)
    (hm : ps.length = n) (hmc : n ≤ cp) (hp : RL slV w w.heap.size Ap ps) (hps : ∀ y ∈ ps, SlB w w.heap.size y ∧ y.n ≤ 50000) :
    Calls Tryz.prog 32 #[.slice A n c, .slice Ap n cp] w (BookPost (layP (zipZ L ps)) w) := by
  obtain ⟨Z, hZ⟩ : ∃ Z, zipZ L ps = Z := ⟨_, rfl⟩
  obtain ⟨R, hR⟩ : ∃ R, layP Z = R := ⟨_, rfl⟩
  obtain ⟨C, hC⟩ : ∃ C, chkP (L.map It.p) = C := ⟨_, rfl⟩
  rw [hZ, hR]
  have HZ := bx hZ
  have HR := bx hR
  have HL := bx hn
  have HM := bx hm
  have HS := bx hs
  have HRW := bx hr
  have HP := bx hp
  have HPS := bx hps
  have HC := bx hC
  have HZC : Bx (chkP (Z.map (·.1)) = C) := bx (by rw [← hZ, zipZ_fst (by rw [hm, hn])]; exact hC)
  have HCH := bx (rchk_any A n c L w hn hnc hb hs hr)
  rw [hC] at HCH
  clear hn hm hs hr hp hps hZ hR hC
  go_enter Tryz.func32, Tryz.ntmps32
  go_wp2_with fail
  refine HCH.out.mono ?_
  rintro e w1 ⟨rfl, hb1⟩
  have HB1 := bx hb1
  clear hb1 HCH
  by_cases hC0 : C = 0
  case neg =>
    have hI : (C != 0) = true := by rw [bne_iff_ne]; exact hC0
    have HF : Bx (R = .err C) := bx (by rw [← HR.out]; exact layP_err HZC.out hC0)
    have HK := bx hC0
    clear hC0
    go_wp2
    go_ret2
    exact bookPost_err HF.out HB1.out HK.out
  case pos =>
    have hI : (C != 0) = false := by rw [hC0]; rfl
    have HZ0 : Bx (chkP (Z.map (·.1)) = 0) := bx (by rw [HZC.out]; exact hC0)
    have hck := chkP_ok HZ0.out
    have hn64 : n ≤ 64 := by have := hck.1; rw [List.length_map, ← HZ.out, zipZ_len (by rw [HM.out, HL.out]), HL.out] at this; exact this
    have HZl : Bx (Z.length = n) := bx (by rw [← HZ.out, zipZ_len (by rw [HM.out, HL.out])]; exact HL.out)
    have HZz : Bx (∀ z ∈ Z, z.1.name.length ≤ 64 ∧ z.2.length ≤ 50000 ∧ z.1.data.length ≤ 32768) := bx (fun z hz => by
      obtain ⟨h1, h2⟩ := hck.2.2 z.1 (List.mem_map.2 ⟨z, hz, rfl⟩)
      rw [← HZ.out] at hz
      obtain ⟨_, y, hy, hyl⟩ := zipZ_mem hz
      have h3 := HPS.out y hy
      exact ⟨nameA_len h1, by rw [hyl, h3.1.1]; exact h3.2, h2⟩)
    have HPART : Bx (∀ k, (locsB (Z.take k)).length ≤ 3206016 ∧ (dirsB 0 (Z.take k)).length ≤ 7040) := bx (part_len (by rw [HZl.out]; exact hn64) (fun z hz => ⟨(HZz.out z hz).1, (HZz.out z hz).2.1⟩))
    obtain ⟨B, hB⟩ : ∃ B, w.heap.size = B := ⟨_, rfl⟩
    have HBB := bx hB
    have HS0 : Bx (Lst bV w w1 B 5 (.slice none 0 0) (locsB (Z.take 0)) (.slice none 0 0) (dirsB 0 (Z.take 0)) (.slice none 0 0) []) := bx (Lst.nil (by rw [← hB]; exact HB1.out) (by rw [← hB]; exact HB1.out.size))
    rw [hB] at HRW HP HPS
    clear hC0 hck hB HC HZC HB1
    go_wp2
    go_loopw [7, 8, 9] (fun V D iv wx => ∃ t : Nat, t ≤ n ∧ iv = .int .i64 (t : Int) ∧ Bx (Lst bV w wx B 5 V (locsB (Z.take t)) D (dirsB 0 (Z.take t)) (.slice none 0 0) [])) (fun _ _ i _ => n - (intOf i).toNat)
    case atStart => exact ⟨0, by omega, rfl, HS0⟩
    case round =>
      clear HS0
      obtain ⟨t, ht, rfl, HW⟩ := hrel
      obtain ⟨AV, nV, cV, rfl, hnV, _⟩ := OwL.sl HW.out.t.o1
      have hnV2 : nV ≤ 3206016 := by rw [hnV.out]; exact (HPART.out t).1
      by_cases htn : t < n
      · have htI : (t : Int) < (n : Int) := by omega
        have htc : (t : Int) < (c : Int) := by omega
        have htp : (t : Int) < (cp : Int) := by omega
        obtain ⟨ad, x, sn, rfl, hlt, HX, HSN, k0, k1, k2, HSX⟩ := HRW.out.itm (k := t) (by rw [HL.out]; exact htn)
        obtain ⟨pd, y, rfl, hplt, hy, p0⟩ := RL.atl HP.out (k := t) (by rw [HM.out]; exact htn)
        have HY := bx hy.out
        have HSY := bx (HPS.out y (List.mem_of_getElem? HY.out)).1
        have HZA : Bx (Z[t]? = some (x.p, y.l)) := bx (by rw [← HZ.out]; exact zipZ_at HX.out HY.out)
        have hzz := HZz.out _ (List.mem_of_getElem? HZA.out)
        obtain ⟨z, hz⟩ : ∃ z : Pk, (x.p, y.l) = z := ⟨_, rfl⟩
        have HZE := bx hz
        have hxn : x.s.n ≤ 32768 := by rw [← HSX.out.1]; exact hzz.2.2
        have hyn : y.n ≤ 50000 := (HPS.out y (List.mem_of_getElem? HY.out)).2
        have hnl : x.name.length ≤ 64 := hzz.1
        have hsz : sn.size ≤ 64 := sn_len HSN.out hnl
        have KC : ∀ wx, Below B w wx → wx.cell? (ad.add (t * 3)) = some (.string sn) ∧ wx.cell? ⟨(ad.add (t * 3)).block, (ad.add (t * 3)).off + 1, none⟩ = some (.slice x.s.A x.s.n x.s.c) ∧ wx.cell? ⟨(ad.add (t * 3)).block, (ad.add (t * 3)).off + 2, none⟩ = some (.bool x.sq) ∧ wx.cell? (pd.add t) = some (.slice y.A y.n y.c) := fun wx hbx =>
          ⟨(hbx.cell (p := ad.add (t * 3)) (by rw [blk_add]; exact hlt)).trans k0, (hbx.cell (p := ⟨(ad.add (t * 3)).block, (ad.add (t * 3)).off + 1, none⟩) (by show (ad.add (t * 3)).block < _; rw [blk_add]; exact hlt)).trans k1,
            (hbx.cell (p := ⟨(ad.add (t * 3)).block, (ad.add (t * 3)).off + 2, none⟩) (by show (ad.add (t * 3)).block < _; rw [blk_add]; exact hlt)).trans k2, (hbx.cell (p := pd.add t) (by rw [blk_add]; exact hplt)).trans p0⟩
        have HKC := bx KC
        have HTL : Bx (locsB (Z.take (t + 1)) = locsB (Z.take t) ++ locB z) := bx (by rw [← hz]; exact locs_take HZA.out)
        have HTD : Bx (dirsB 0 (Z.take (t + 1)) = dirsB 0 (Z.take t) ++ dirB nV z) := bx (by rw [← hz, hnV.out]; exact dirs_take HZA.out)
        have HP1 := bx (HPART.out t)
        obtain ⟨o, ho⟩ : ∃ o, locsB (Z.take t) = o := ⟨_, rfl⟩
        obtain ⟨d, hd⟩ : ∃ d, dirsB 0 (Z.take t) = d := ⟨_, rfl⟩
        rw [ho] at HW HTL HP1 hnV
        rw [hd] at HW HTD HP1
        obtain ⟨M, hM⟩ : ∃ M, mthI z = M := ⟨_, rfl⟩
        have HMM := bx hM
        have hM2 : M = if x.sq then 8 else 0 := by rw [← hM, ← hz]; rfl
        obtain ⟨b, hbq⟩ : ∃ b, x.sq = b := ⟨_, rfl⟩
        obtain ⟨q0, q1, q2, q3⟩ := HKC.out wr HW.out.b
        rw [hbq] at q2 hM2
        have hMb : M = 0 ∨ M = 8 := by rw [hM2]; cases b <;> simp
        clear KC k0 k1 k2 p0 hy hz hzz hM hbq ho hd
        go_upto_if 29 with (fail)
        go_cut [10] (fun v wx => v = .int .i64 M ∧ wr = wx)
        case first =>
          cases b
          · have hM3 : M = 0 := hM2
            clear hM2 hMb
            subst hM3
            go_wp2
            go_meet
            case rel => exact ⟨rfl, rfl⟩
          · have hM3 : M = 8 := hM2
            clear hM2 hMb
            subst hM3
            go_wp2
            go_meet
            case rel => exact ⟨rfl, rfl⟩
        case rest =>
          obtain ⟨rfl, rfl⟩ := hcut
          clear hM2 q0 q1 q2 q3
          have HTWO := bx (rtwo_any B 5 5 (.slice none 0 0) [] (some ⟨wr.heap.size, 0, none⟩) [20, 0, M, 0, 33] (wr.alloc (.cells #[.int .i64 20, .int .i64 0, .int .i64 M, .int .i64 0, .int .i64 33] 3)) OwL.nil (Nat.le_trans HW.out.z (by simp)) rfl
            ((RL.news wr [20, 0, M, 0, 33] _ rfl _ _).more (by simp)) fow_nil (by omega) (fun v hv => by simp at hv; omega) (by simp))
          go_wp2_with fail
          refine HTWO.out.mono ?_
          rintro e w2 ⟨H1, rfl, o1, c1, n1⟩
          have L2 := bx ((HW.out.alloc (.cells #[.int .i64 20, .int .i64 0, .int .i64 M, .int .i64 0, .int .i64 33] 3)).num3 o1 c1 n1)
          clear o1 c1 n1 HTWO HW
          obtain ⟨q0, q1, q2, q3⟩ := HKC.out w2.drew L2.out.drew.b
          have hS0 : w2.drew.cell? ⟨(ad.add (t * 3)).block, (ad.add (t * 3)).off + 1, none⟩ = some (.slice x.s.A x.s.n x.s.c) ∧ w2.drew.cell? (pd.add t) = some (.slice y.A y.n y.c) := ⟨q1, q3⟩
          have HSUM := bx (rsum_any x.s.A x.s.n x.s.c x.s.l w2.drew HSX.out.1 (by omega) ((HSX.out.2.2.2.below L2.out.drew.b (by omega)).more L2.out.drew.z))
          obtain ⟨cr, hcr⟩ : ∃ cr, crcA 0 x.s.l = cr := ⟨_, rfl⟩
          have hcr2 : cr < 4294967296 := by rw [← hcr]; exact crcA_lt _
          rw [hcr] at HSUM
          have HCR := bx hcr
          have HFOUR := bx (rfour_any B 3 3 H1 ([] ++ [20, 0, M, 0, 33].flatMap (leB 2)) (some ⟨w2.drew.heap.size, 0, none⟩) [(cr : Int), (y.n : Int), (x.s.n : Int)] (w2.drew.alloc (.cells #[.int .i64 (cr : Int), .int .i64 (y.n : Int), .int .i64 (x.s.n : Int)] 3)) (L2.out.drew.t.o3.alloc _) (Nat.le_trans L2.out.drew.z (by simp)) rfl
            ((RL.news w2.drew [(cr : Int), (y.n : Int), (x.s.n : Int)] _ rfl _ _).more (by simp)) (fow_new L2.out.drew.t.o3 (Nat.le_refl _)) (by omega) (fun v hv => by simp at hv; omega) (by simp [leB_len]))
          have L2a := bx (L2.out.drew.alloc (.cells #[.int .i64 (cr : Int), .int .i64 (y.n : Int), .int .i64 (x.s.n : Int)] 3))
          clear hcr q0 q1 q2 q3
          obtain ⟨q0, q1, q2, q3⟩ := HKC.out _ L2a.out.b
          have hS1 : (w2.drew.alloc (.cells #[.int .i64 (cr : Int), .int .i64 (y.n : Int), .int .i64 (x.s.n : Int)] 3)).cell? ⟨(ad.add (t * 3)).block, (ad.add (t * 3)).off + 1, none⟩ = some (.slice x.s.A x.s.n x.s.c) ∧ (w2.drew.alloc (.cells #[.int .i64 (cr : Int), .int .i64 (y.n : Int), .int .i64 (x.s.n : Int)] 3)).cell? (pd.add t) = some (.slice y.A y.n y.c) := ⟨q1, q3⟩
          clear q0 q1 q2 q3
          go_upto_region 13 with (fail)
          go_region_held3 (fun w' => w'.cell? ⟨(ad.add (t * 3)).block, (ad.add (t * 3)).off + 1, none⟩ = some (.slice x.s.A x.s.n x.s.c) ∧ w'.cell? (pd.add t) = some (.slice y.A y.n y.c)) (first | exact hS0 | exact hS1 | exact hS2) ((first
            | (go_at_call 42; refine HSUM.out.mono ?_; rintro e w3 ⟨rfl, rfl⟩)
            | (go_at_call 47; refine HFOUR.out.mono ?_; rintro e w3 ⟨H2, rfl, o2, c2, n2⟩; have hS2 : w3.cell? ⟨(ad.add (t * 3)).block, (ad.add (t * 3)).off + 1, none⟩ = some (.slice x.s.A x.s.n x.s.c) ∧ w3.cell? (pd.add t) = some (.slice y.A y.n y.c) := ⟨(HKC.out _ (L2a.out.num3 o2 c2 n2).b).2.1, (HKC.out _ (L2a.out.num3 o2 c2 n2).b).2.2.2⟩)))
          have L3 := bx (L2a.out.num3 o2 c2 n2)
          obtain ⟨h2, hh2⟩ : ∃ h2, ([] ++ [20, 0, M, 0, 33].flatMap (leB 2)) ++ [(cr : Int), (y.n : Int), (x.s.n : Int)].flatMap (leB 4) = h2 := ⟨_, rfl⟩
          rw [hh2] at L3
          have HH2 : Bx (h2 = [] ++ num1H z ++ num2H z) := bx (by
            rw [← hh2, ← HZE.out]
            unfold num1H num2H n1H n2H
            have e1 : mthI (x.p, y.l) = M := by rw [HZE.out]; exact HMM.out
            have e2 : crcA 0 (x.p, y.l).1.data = cr := HCR.out
            have e3 : (x.p, y.l).2.length = y.n := HSY.out.1
            have e4 : (x.p, y.l).1.data.length = x.s.n := HSX.out.1
            rw [e1, e2, e3, e4])
          clear hS0 hS1 hS2 o2 c2 n2 L2 L2a HSUM HFOUR hh2
          obtain ⟨q0, _, _, _⟩ := HKC.out w3 L3.out.b
          have HTWO := bx (rtwo_any B 2 2 H2 h2 (some ⟨w3.heap.size, 0, none⟩) [(sn.size : Int), 0] (w3.alloc (.cells #[.int .i64 (sn.size : Int), .int .i64 0] 3)) (L3.out.t.o3.alloc _) (Nat.le_trans L3.out.z (by simp)) rfl
            ((RL.news w3 [(sn.size : Int), 0] _ rfl _ _).more (by simp)) (fow_new L3.out.t.o3 (Nat.le_refl _)) (by omega) (fun v hv => by simp at hv; omega) (by rw [HH2.out]; simp [num1H_len, num2H_len]))
          go_wp2_with fail
          refine HTWO.out.mono ?_
          rintro e w4 ⟨H3, rfl, o3, c3, n3⟩
          have L4 := bx ((L3.out.alloc (.cells #[.int .i64 (sn.size : Int), .int .i64 0] 3)).num3 o3 c3 n3)
          have HH3 : h2 ++ [(sn.size : Int), 0].flatMap (leB 2) = headB z := by
            rw [HH2.out, ← headB_nums, ← HZE.out]
            have e1 : n3H (x.p, y.l) = [(sn.size : Int), 0] := by unfold n3H; rw [sn_size HSN.out]; rfl
            unfold num3H; rw [e1]
          rw [HH3] at L4
          clear HH2 HH3 o3 c3 n3 L3 HTWO q0
          obtain ⟨AH, nH, cH, rfl, hnH, _⟩ := OwL.sl L4.out.t.o3
          obtain ⟨q0, _, _, q3⟩ := HKC.out w4.drew L4.out.drew.b
          have hS0 : w4.drew.cell? (ad.add (t * 3)) = some (.string sn) ∧ w4.drew.cell? (pd.add t) = some (.slice y.A y.n y.c) := ⟨q0, q3⟩
          have L4a := bx (L4.out.drew.alloc (.cells #[.int .u8 80, .int .u8 75, .int .u8 3, .int .u8 4] 5))
          clear q0 q3
          obtain ⟨q0, _, _, q3⟩ := HKC.out _ L4a.out.b
          have hS1 : (w4.drew.alloc (.cells #[.int .u8 80, .int .u8 75, .int .u8 3, .int .u8 4] 5)).cell? (ad.add (t * 3)) = some (.string sn) ∧ (w4.drew.alloc (.cells #[.int .u8 80, .int .u8 75, .int .u8 3, .int .u8 4] 5)).cell? (pd.add t) = some (.slice y.A y.n y.c) := ⟨q0, q3⟩
          clear q0 q3
          have hol : o.length ≤ 3206016 := HP1.out.1
          have hdl : d.length ≤ 7040 := HP1.out.2
          have N1 : Bx ((o.length + [80, 75, 3, 4].length) * 1 ≤ 140737488355328) := bx (by simp; omega)
          have N2 : Bx (((o ++ [80, 75, 3, 4]).length + (headB z).length) * 1 ≤ 140737488355328) := bx (by rw [headB_len]; simp; omega)
          have N3 : Bx (((o ++ [80, 75, 3, 4]) ++ headB z).length + sn.size ≤ 140737488355328) := bx (by rw [List.length_append, headB_len]; simp; omega)
          have N4 : Bx (((((o ++ [80, 75, 3, 4]) ++ headB z) ++ sn.data.toList).length + y.l.length) * 1 ≤ 140737488355328) := bx (by rw [List.length_append, List.length_append, headB_len, HSN.out, HSY.out.1]; simp; omega)
          clear hol hdl
          go_upto_region 15 with (fail)
          go_region_held3 (fun w' => w'.cell? (ad.add (t * 3)) = some (.string sn) ∧ w'.cell? (pd.add t) = some (.slice y.A y.n y.c)) (first | exact hS0 | exact hS1 | exact hS5 | exact hS6 | exact hS7 | exact hS8) ((first
            | (refine step_appL _ bV_one rfl (.tmp 64) (.tmp 65) rfl byteTyP (by decide) B (.slice AV nV cV) o rfl L4a.out.t.o1 _ (some ⟨w4.drew.heap.size, 0, none⟩) 4 4 [80, 75, 3, 4] rfl rfl (RL.news w4.drew [80, 75, 3, 4] _ rfl _ _) N1.out L4a.out.z ?_; intro v5 w5 hO5 hg5 hv5 _; have L5 := bx (L4a.out.num1 hO5 (grown_ch hg5 hv5).1 (grown_ch hg5 hv5).2); have hS5 : w5.cell? (ad.add (t * 3)) = some (.string sn) ∧ w5.cell? (pd.add t) = some (.slice y.A y.n y.c) := ⟨(HKC.out _ L5.out.b).1, (HKC.out _ L5.out.b).2.2.2⟩)
            | (refine step_appL _ bV_one rfl (.tmp 66) (.tmp 67) rfl byteTyP (by decide) B v5 (o ++ [80, 75, 3, 4]) rfl L5.out.t.o1 _ AH nH cH (headB z) rfl hnH.out.symm (OwL.rl L5.out.t.o3) N2.out L5.out.z ?_; intro v6 w6 hO6 hg6 hv6 _; have L6 := bx (L5.out.num1 hO6 (grown_ch hg6 hv6).1 (grown_ch hg6 hv6).2); have hS6 : w6.cell? (ad.add (t * 3)) = some (.string sn) ∧ w6.cell? (pd.add t) = some (.slice y.A y.n y.c) := ⟨(HKC.out _ L6.out.b).1, (HKC.out _ L6.out.b).2.2.2⟩)
            | (refine step_appStrG _ rfl (.tmp 68) (.tmp 73) rfl byteTyP Tryz.underlying9 B v6 ((o ++ [80, 75, 3, 4]) ++ headB z) rfl L6.out.t.o1 sn rfl N3.out L6.out.z ?_; intro v7 w7 hO7 c7 n7; have L7 := bx (L6.out.num1 hO7 c7 n7); have hS7 : w7.cell? (ad.add (t * 3)) = some (.string sn) ∧ w7.cell? (pd.add t) = some (.slice y.A y.n y.c) := ⟨(HKC.out _ L7.out.b).1, (HKC.out _ L7.out.b).2.2.2⟩)
            | (refine step_appL _ bV_one rfl (.tmp 74) (.tmp 78) rfl byteTyP (by decide) B v7 (((o ++ [80, 75, 3, 4]) ++ headB z) ++ sn.data.toList) rfl L7.out.t.o1 _ y.A y.n y.c y.l rfl HSY.out.1 (L7.out.rl HSY.out.2.2.2) N4.out L7.out.z ?_; intro v8 w8 hO8 hg8 hv8 _; have L8 := bx (L7.out.num1 hO8 (grown_ch hg8 hv8).1 (grown_ch hg8 hv8).2); have hS8 : w8.cell? (ad.add (t * 3)) = some (.string sn) ∧ w8.cell? (pd.add t) = some (.slice y.A y.n y.c) := ⟨(HKC.out _ L8.out.b).1, (HKC.out _ L8.out.b).2.2.2⟩)))
          obtain ⟨o', ho'⟩ : ∃ o', ((((o ++ [80, 75, 3, 4]) ++ headB z) ++ sn.data.toList) ++ y.l) = o' := ⟨_, rfl⟩
          have HO2 : Bx (o' = locsB (Z.take (t + 1))) := bx (by
            rw [HTL.out, ← ho', ← locB_nums, ← HZE.out, HSN.out]; rfl)
          rw [ho'] at L8
          clear hS0 hS1 hS5 hS6 hS7 hS8 hO5 hg5 hv5 hO6 hg6 hv6 hO7 c7 n7 hO8 hg8 hv8 L4 L4a L5 L6 L7 N1 N2 N3 N4 ho'
          have hdl : d.length ≤ 7040 := HP1.out.2
          have N1 : Bx ((d.length + [80, 75, 1, 2, 20, 0].length) * 1 ≤ 140737488355328) := bx (by simp; omega)
          have N2 : Bx (((d ++ [80, 75, 1, 2, 20, 0]).length + (headB z).length) * 1 ≤ 140737488355328) := bx (by rw [headB_len]; simp; omega)
          clear hdl
          have L8a := bx (L8.out.alloc (.cells #[.int .u8 80, .int .u8 75, .int .u8 1, .int .u8 2, .int .u8 20, .int .u8 0] 5))
          go_wp2_with (first
            | (at_builtin; refine wpList_appL _ bV_one rfl (.tmp 80) (.tmp 81) rfl byteTyP (by decide) B u8 d rfl L8a.out.t.o2 _ (some ⟨w8.heap.size, 0, none⟩) 6 6 [80, 75, 1, 2, 20, 0] rfl rfl (RL.news w8 [80, 75, 1, 2, 20, 0] _ rfl _ _) N1.out L8a.out.z ?_; intro v9 w9 hO9 hg9 hv9 _; have L9 := bx (L8a.out.num2 hO9 (grown_ch hg9 hv9).1 (grown_ch hg9 hv9).2))
            | (at_builtin; refine wpList_appL _ bV_one rfl (.tmp 82) (.tmp 83) rfl byteTyP (by decide) B v9 (d ++ [80, 75, 1, 2, 20, 0]) rfl L9.out.t.o2 _ AH nH cH (headB z) rfl hnH.out.symm (OwL.rl L9.out.t.o3) N2.out L9.out.z ?_; intro v10 w10 hO10 hg10 hv10 _; have L10 := bx (L9.out.num2 hO10 (grown_ch hg10 hv10).1 (grown_ch hg10 hv10).2)))
          obtain ⟨d1, hd1⟩ : ∃ d1, (d ++ [80, 75, 1, 2, 20, 0]) ++ headB z = d1 := ⟨_, rfl⟩
          rw [hd1] at L10
          have HD1 := bx hd1
          have hd1l : d1.length ≤ 7072 := by rw [← hd1, List.length_append, headB_len]; have := HP1.out.2; simp; omega
          clear hO9 hg9 hv9 hO10 hg10 hv10 L8a L9 N1 N2 hd1 L8
          have HTWO := bx (rtwo_any B 3 3 v10 d1 (some ⟨w10.heap.size, 0, none⟩) [0, 0, 0] (w10.alloc (.cells #[.int .i64 0, .int .i64 0, .int .i64 0] 3)) (L10.out.t.o2.alloc _) (Nat.le_trans L10.out.z (by simp)) rfl
            ((RL.news w10 [0, 0, 0] _ rfl _ _).more (by simp)) (fow_new L10.out.t.o2 (Nat.le_refl _)) (by omega) (fun v hv => by simp at hv; omega) (by omega))
          have hz3 : d1 ++ ([0, 0, 0] : List Int).flatMap (leB 2) = d1 ++ zer3 := rfl
          rw [hz3] at HTWO
          clear hz3
          go_wp2_with fail
          refine HTWO.out.mono ?_
          rintro e w11 ⟨D2, rfl, o3, c3, n3⟩
          have L11 := bx ((L10.out.alloc (.cells #[.int .i64 0, .int .i64 0, .int .i64 0] 3)).num2 o3 c3 n3)
          clear o3 c3 n3 L10 HTWO
          have hz6 : (d1 ++ zer3).length ≤ 7080 := by rw [List.length_append]; have : zer3.length = 6 := by decide
                                                      omega
          have HFOUR := bx (rfour_any B 2 2 D2 (d1 ++ zer3) (some ⟨w11.heap.size, 0, none⟩) [0, (nV : Int)] (w11.alloc (.cells #[.int .i64 0, .int .i64 (nV : Int)] 3)) (L11.out.t.o2.alloc _) (Nat.le_trans L11.out.z (by simp)) rfl
            ((RL.news w11 [0, (nV : Int)] _ rfl _ _).more (by simp)) (fow_new L11.out.t.o2 (Nat.le_refl _)) (by omega) (fun v hv => by simp at hv; omega) (by omega))
          have hz3 : (d1 ++ zer3) ++ ([0, (nV : Int)] : List Int).flatMap (leB 4) = (d1 ++ zer3) ++ atH nV := rfl
          rw [hz3] at HFOUR
          clear hz3 hd1l
          go_wp2_with fail
          refine HFOUR.out.mono ?_
          rintro e w12 ⟨D3, rfl, o3, c3, n3⟩
          have L12 := bx ((L11.out.alloc (.cells #[.int .i64 0, .int .i64 (nV : Int)] 3)).num2 o3 c3 n3)
          clear o3 c3 n3 L11 HFOUR
          obtain ⟨d2, hd2⟩ : ∃ d2, (d1 ++ zer3) ++ atH nV = d2 := ⟨_, rfl⟩
          rw [hd2] at L12
          have HD2 : Bx (d2 ++ sn.data.toList = dirsB 0 (Z.take (t + 1))) := bx (by
            rw [HTD.out, ← hd2, ← HD1.out, HSN.out, ← dirB_nums, ← HZE.out]; rfl)
          have N1 : Bx (d2.length + sn.size ≤ 140737488355328) := bx (by
            rw [← hd2, List.length_append]
            have : (atH nV).length = 8 := by unfold atH; simp [leB_len]
            omega)
          obtain ⟨q0, _, _, _⟩ := HKC.out w12 L12.out.b
          clear hd2 hz6
          go_wp2_with (at_builtin; refine wpList_appStrG _ rfl (.tmp 91) (.tmp 96) rfl byteTyP Tryz.underlying9 B D3 d2 rfl L12.out.t.o2 sn rfl N1.out L12.out.z ?_; intro v13 w13 hO13 c13 n13)
          have L13 := bx (L12.out.num2 hO13 c13 n13)
          rw [HD2.out, HO2.out] at L13
          have L14 := bx L13.out.drop3
          clear hO13 c13 n13 L12 L13 N1 q0 HD2
          go_roundw
          case rel => exact ⟨t + 1, by omega, by go_num, L14⟩
          case measure => simp [intOf]; omega
      · have htI : ¬ (t : Int) < (n : Int) := by omega
        obtain rfl : t = n := by omega
        have HTK : Bx (Z.take t = Z) := bx (List.take_of_length_le (by rw [HZl.out]; exact Nat.le_refl _))
        have HP1 := bx (HPART.out t)
        rw [HTK.out] at HW hnV HP1
        obtain ⟨AD, nD, cD, rfl, hnD, _⟩ := OwL.sl HW.out.t.o2
        have hnD2 : nD ≤ 7040 := by rw [hnD.out]; exact HP1.out.2
        obtain ⟨o, ho⟩ : ∃ o, locsB Z = o := ⟨_, rfl⟩
        obtain ⟨d, hd⟩ : ∃ d, dirsB 0 Z = d := ⟨_, rfl⟩
        have HO := bx ho
        have HD := bx hd
        rw [ho] at HW hnV HP1
        rw [hd] at HW hnD HP1
        have hol : o.length ≤ 3206016 := HP1.out.1
        have hdl : d.length ≤ 7040 := HP1.out.2
        have HB : Bx (((((o ++ d) ++ [80, 75, 5, 6, 0, 0, 0, 0]) ++ ([(t : Int), (t : Int)] : List Int).flatMap (leB 2)) ++ ([(nD : Int), (nV : Int)] : List Int).flatMap (leB 4)) ++ ([0] : List Int).flatMap (leB 2) = bookB Z) := bx (by
          rw [← book_nums Z, ← HO.out, ← HD.out, hnD.out, hnV.out, HZl.out, ← HO.out, ← HD.out]; rfl)
        have N1 : Bx ((o.length + d.length) * 1 ≤ 140737488355328) := bx (by omega)
        have N2 : Bx (((o ++ d).length + [80, 75, 5, 6, 0, 0, 0, 0].length) * 1 ≤ 140737488355328) := bx (by rw [List.length_append]; simp; omega)
        have hl1 : ((o ++ d) ++ [80, 75, 5, 6, 0, 0, 0, 0]).length ≤ 3300000 := by rw [List.length_append, List.length_append]; simp; omega
        have hl2 : (((o ++ d) ++ [80, 75, 5, 6, 0, 0, 0, 0]) ++ ([(t : Int), (t : Int)] : List Int).flatMap (leB 2)).length ≤ 3300010 := by rw [List.length_append, numL_len]; simp only [List.length_cons, List.length_nil]; omega
        have hl3 : ((((o ++ d) ++ [80, 75, 5, 6, 0, 0, 0, 0]) ++ ([(t : Int), (t : Int)] : List Int).flatMap (leB 2)) ++ ([(nD : Int), (nV : Int)] : List Int).flatMap (leB 4)).length ≤ 3300020 := by rw [List.length_append, numL_len]; simp only [List.length_cons, List.length_nil]; omega
        have HL1 := bx hl1
        have HL2 := bx hl2
        have HL3 := bx hl3
        clear hol hdl ho hd hl1 hl2 hl3
        go_wp2_with (first
          | (at_builtin; refine wpList_appL _ bV_one rfl (.tmp 100) (.tmp 101) rfl byteTyP (by decide) B (.slice AV nV cV) o rfl HW.out.t.o1 _ AD nD cD d rfl hnD.out.symm (OwL.rl HW.out.t.o2) N1.out HW.out.z ?_; intro v1 x1 hO1 hg1 hv1 _; have L1 := bx (HW.out.num1 hO1 (grown_ch hg1 hv1).1 (grown_ch hg1 hv1).2); have L1a := bx (L1.out.alloc (.cells #[.int .u8 80, .int .u8 75, .int .u8 5, .int .u8 6, .int .u8 0, .int .u8 0, .int .u8 0, .int .u8 0] 5)))
          | (at_builtin; refine wpList_appL _ bV_one rfl (.tmp 102) (.tmp 103) rfl byteTyP (by decide) B v1 (o ++ d) rfl L1a.out.t.o1 _ (some ⟨x1.heap.size, 0, none⟩) 8 8 [80, 75, 5, 6, 0, 0, 0, 0] rfl rfl (RL.news x1 [80, 75, 5, 6, 0, 0, 0, 0] _ rfl _ _) N2.out L1a.out.z ?_; intro v2 x2 hO2 hg2 hv2 _; have L2 := bx (L1a.out.num1 hO2 (grown_ch hg2 hv2).1 (grown_ch hg2 hv2).2)))
        obtain ⟨o1, ho1⟩ : ∃ o1, ((o ++ d) ++ [80, 75, 5, 6, 0, 0, 0, 0]) = o1 := ⟨_, rfl⟩
        rw [ho1] at L2 HB HL1 HL2 HL3
        clear hO1 hg1 hv1 hO2 hg2 hv2 L1 L1a N1 N2 ho1 HW
        have HTWO := bx (rtwo_any B 2 2 v2 o1 (some ⟨x2.heap.size, 0, none⟩) [(t : Int), (t : Int)] (x2.alloc (.cells #[.int .i64 (t : Int), .int .i64 (t : Int)] 3)) (L2.out.t.o1.alloc _) (Nat.le_trans L2.out.z (by simp)) rfl
          ((RL.news x2 [(t : Int), (t : Int)] _ rfl _ _).more (by simp)) (fow_new L2.out.t.o1 (Nat.le_refl _)) (by omega) (fun v hv => by simp at hv; omega) (Nat.le_trans HL1.out (by decide)))
        go_wp2_with fail
        refine HTWO.out.mono ?_
        rintro e x3 ⟨V2, rfl, o3, c3, n3⟩
        have L3 := bx ((L2.out.alloc (.cells #[.int .i64 (t : Int), .int .i64 (t : Int)] 3)).num1 o3 c3 n3)
        obtain ⟨o2, ho2⟩ : ∃ o2, (o1 ++ ([(t : Int), (t : Int)] : List Int).flatMap (leB 2)) = o2 := ⟨_, rfl⟩
        rw [ho2] at L3 HB HL2 HL3
        clear o3 c3 n3 HTWO L2 ho2
        have HFOUR := bx (rfour_any B 2 2 V2 o2 (some ⟨x3.heap.size, 0, none⟩) [(nD : Int), (nV : Int)] (x3.alloc (.cells #[.int .i64 (nD : Int), .int .i64 (nV : Int)] 3)) (L3.out.t.o1.alloc _) (Nat.le_trans L3.out.z (by simp)) rfl
          ((RL.news x3 [(nD : Int), (nV : Int)] _ rfl _ _).more (by simp)) (fow_new L3.out.t.o1 (Nat.le_refl _)) (by omega) (fun v hv => by simp at hv; omega) (Nat.le_trans HL2.out (by decide)))
        go_wp2_with fail
        refine HFOUR.out.mono ?_
        rintro e x4 ⟨V3, rfl, o3, c3, n3⟩
        have L4 := bx ((L3.out.alloc (.cells #[.int .i64 (nD : Int), .int .i64 (nV : Int)] 3)).num1 o3 c3 n3)
        obtain ⟨o3', ho3⟩ : ∃ o3', (o2 ++ ([(nD : Int), (nV : Int)] : List Int).flatMap (leB 4)) = o3' := ⟨_, rfl⟩
        rw [ho3] at L4 HB HL3
        clear o3 c3 n3 HFOUR L3 ho3
        have HTWO := bx (rtwo_any B 1 1 V3 o3' (some ⟨x4.heap.size, 0, none⟩) [0] (x4.alloc (.cells #[.int .i64 0] 3)) (L4.out.t.o1.alloc _) (Nat.le_trans L4.out.z (by simp)) rfl
          ((RL.news x4 [0] _ rfl _ _).more (by simp)) (fow_new L4.out.t.o1 (Nat.le_refl _)) (by omega) (fun v hv => by simp at hv; omega) (Nat.le_trans HL3.out (by decide)))
        go_wp2_with fail
        refine HTWO.out.mono ?_
        rintro e x5 ⟨V4, rfl, o3, c3, n3⟩
        have L5 := bx ((L4.out.alloc (.cells #[.int .i64 0] 3)).num1 o3 c3 n3)
        rw [HB.out] at L5
        clear o3 c3 n3 HTWO L4
        obtain ⟨AZ, nZ, cZ, rfl, hnZ, _⟩ := OwL.sl L5.out.t.o1
        by_cases h65 : 65536 < nZ
        · have h65I : (65536 : Int) < (nZ : Int) := by omega
          have HF : Bx (R = .err 8) := bx (by rw [← HR.out]; exact layP_long HZ0.out (by rw [← hnZ.out]; exact h65))
          go_wp2
          go_ret2
          exact bookPost_err HF.out (by rw [HBB.out]; exact L5.out.b) (by decide)
        · have h65I : ¬ (65536 : Int) < (nZ : Int) := by omega
          have HF : Bx (R = .ok (bookB Z)) := bx (by rw [← HR.out]; exact layP_made HZ0.out (by rw [← hnZ.out]; exact h65))
          have HZZ : Bx ((bookB Z).length ≤ 65536) := bx (by rw [← hnZ.out]; omega)
          go_wp2
          go_ret2
          exact bookPost_ok HF.out (by rw [HBB.out]; exact L5.out.b) (by rw [HBB.out]; exact L5.out.t.o1) HZZ.out
end Go.Proofs.YtlmcpkomjofcgaaGreatDoor
