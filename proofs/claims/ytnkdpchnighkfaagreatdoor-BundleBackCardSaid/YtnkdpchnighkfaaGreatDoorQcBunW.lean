/- The walk of BundleBack. -/
import Derived.Test.YtnkdpchnighkfaaGreatDoorPc16
import Derived.Test.YtnkdpchnighkfaaGreatDoorPc14
import Derived.Test.YtnkdpchnighkfaaGreatDoorPc9
import Derived.Test.YtnkdpchnighkfaaGreatDoorPc8
import Derived.Test.YtnkdpchnighkfaaGreatDoorPc12
namespace Go.Proofs.YtnkdpchnighkfaaGreatDoor
open Go.RowKit
theorem decW_self (l : List UInt8) : decide (l = l) = true := decide_eq_true rfl
theorem rit_ofW {w : World} {A : Option Addr} {L : List It} (r : Rd w w.heap.size A (L.flatMap itC)) (q : ∀ x ∈ L, SlOk w x.s ∧ x.name.length ≤ 140737488351232 ∧ x.s.n ≤ 140737488351232) : RIt w w.heap.size A L :=
  ⟨r, fun x hx => (q x hx).1⟩
theorem name_at {l : List (Rec × Nat)} {P : List Itm} {k : Nat} {r : Rec × Nat} {x : Itm} (h : l.map (·.1.name) = P.map (·.name)) (hr : l[k]? = some r) (hx : P[k]? = some x) : r.1.name = x.name := by
  have h1 := congrArg (fun q => q[k]?) h
  simp only [List.getElem?_map, hr, hx, Option.map_some] at h1
  injection h1
/-- A row of bytes that reads as l. -/
structure Rok (w : World) (l : List UInt8) (A : Option Addr) (n : Nat) : Prop where
  len : l.length = n
  rb : RB w w.heap.size A l
theorem same_two {w : World} {l : List UInt8} {A C : Option Addr} {n c m d : Nat} (h : Rok w l A n) (h2 : Rok w l C m) (hl : l.length ≤ 100000) (k : Nat) :
    Calls Tryz.prog 14 #[.slice A n c, .slice C m d] (w.drewN k) fun e w' => e = .returned (.bool true) ∧ ∃ q, w' = (w.drewN k).drewN q := by
  have h9 := same_quiet A C n c m d (w.drewN k) l l h.len h2.len (by have := h.len; omega) (by have := h2.len; omega) (RL.drewN h.rb k) (RL.drewN h2.rb k)
  rw [decW_self] at h9
  exact h9
set_option maxRecDepth 100000 in
set_option maxHeartbeats 8000000 in
theorem bundleBack_walk (mx : Int) (w : World) (hm : w.cell? ⟨0, 0, none⟩ = some (.int .i64 mx)) (A0 : Option Addr) (n0 c0 : Nat) (l0 : List It) (e0 : l0.length = n0) (hc0 : n0 ≤ c0) (_hm0 : (c0 : Int) ≤ 9223372036854775807) (r0 : Rd w w.heap.size A0 (l0.flatMap itC))
    (q0 : ∀ x ∈ l0, SlOk w x.s ∧ x.name.length ≤ 140737488351232 ∧ x.s.n ≤ 140737488351232) (b0 : n0 ≤ 140737488351232) :
    Calls Tryz.prog 3 #[.slice A0 n0 c0] w fun e w' => e = .returned (.bool true) ∧ Below w.heap.size w w' := by
  have HM := bx hm
  have HL := bx e0
  have HR0 := bx (rit_ofW r0 q0)
  have HS := bx (fun x hx => (q0 x hx).2)
  clear hm e0 r0 q0
  go_enter Tryz.func3, Tryz.ntmps3
  go_wp2_with fail
  refine (fixed11_any mx w HM.out).mono ?_
  rintro e w1 ⟨rfl, hb1⟩
  have HB1 := bx hb1
  have HR1 : Bx (RIt w1 w.heap.size A0 l0) := bx (HR0.out.below hb1 (Nat.le_refl _))
  clear hb1
  go_wp2_with fail
  refine (small_any A0 n0 c0 l0 w1 HL.out hc0 HS.out (HR1.out.more HB1.out.size)).mono ?_
  rintro e w2 ⟨rfl, hb2⟩
  have HB2 := bx (HB1.out.trans (hb2.mono HB1.out.size))
  clear hb2 HR1 HB1
  cases hsm : smallP 70 (l0.map It.p) with
  | false =>
    go_wp2
    go_ret
    exact ⟨rfl, HB2.out⟩
  | true =>
    obtain ⟨hs1, hs2⟩ := smallP_ok hsm
    have hn71 : n0 ≤ 71 := by rw [List.length_map, HL.out] at hs1; omega
    have HS8 : Bx (∀ x ∈ l0, x.s.l.length ≤ 8000 ∧ x.name.length ≤ 8000) := bx (fun x hx => by
      have := hs2 x.p (List.mem_map_of_mem hx)
      have e : x.p.data.length = x.s.l.length := rfl
      have e2 : x.p.name.length = x.name.length := rfl
      omega)
    obtain ⟨B, hB⟩ : ∃ B, w.heap.size = B := ⟨_, rfl⟩
    have HBB := bx hB
    rw [hB] at HB2
    have hBw : B ≤ w.heap.size := Nat.le_of_eq hB.symm
    have hB2 : B ≤ w2.heap.size := Nat.le_trans hBw HB2.out.size
    have HRR : Bx (RIt w B A0 l0) := bx (by rw [← hB]; exact HR0.out)
    have HM2 : Bx (w2.cell? ⟨0, 0, none⟩ = some (.int .i64 mx)) := bx (cell_old (by rw [hB]; exact HB2.out) HM.out)
    have HMK := bx (bmake_any A0 n0 c0 l0 mx w2 HL.out hc0 b0 HS.out ((HRR.out.below HB2.out (Nat.le_refl _)).more hB2) HM2.out)
    clear hsm hs1 hs2 hB HR0
    go_wp2_with fail
    refine HMK.out.mono ?_
    intro e w3 hp
    cases hRz : layP (packZ (l0.map It.p)) with
    | err k =>
      obtain ⟨rfl, hb3, hk⟩ := bkErr hp hRz
      have HB3 := bx (HB2.out.trans (hb3.mono hB2))
      have hB3 : B ≤ w3.heap.size := Nat.le_trans hB2 hb3.size
      have HCK := bx (rchk_any A0 n0 c0 l0 w3 HL.out hc0 b0 HS.out ((HRR.out.below HB3.out (Nat.le_refl _)).more hB3))
      have HE := bx (back_err hRz)
      obtain ⟨C, hC⟩ : ∃ C, chkP (l0.map It.p) = C := ⟨_, rfl⟩
      rw [hC] at HCK HE
      have hkI : (k != 0) = true := by rw [bne_iff_ne]; exact hk
      clear hp hb3 hRz HMK HM2 hC hk
      go_wp2_with fail
      refine HCK.out.mono ?_
      rintro e w4 ⟨rfl, hb4⟩
      have HB4 : Bx (Below w.heap.size w w4) := bx (by rw [HBB.out]; exact HB3.out.trans (hb4.mono hB3))
      clear hb4 HCK
      by_cases hCk : C = k
      · have hI : (C == k) = true := by rw [beq_iff_eq]; exact hCk
        clear hCk
        go_wp2
        go_ret
        exact ⟨rfl, HB4.out⟩
      · have hI : (C == k) = false := by rw [beq_eq_false_iff_ne]; exact hCk
        have h8 : (k == 8) = true := by rw [beq_iff_eq]; exact HE.out.resolve_left hCk
        clear hCk
        go_wp2
        go_ret
        exact ⟨rfl, HB4.out⟩
    | ok b =>
      obtain ⟨A3, n3, c3, rfl, hn3, hr3, hnc3, hcm3, hb3, hn65⟩ := bkOk hp hRz
      have HB3 := bx (HB2.out.trans (hb3.mono hB2))
      have hB3 : B ≤ w3.heap.size := Nat.le_trans hB2 hb3.size
      have HR3 := bx hr3
      have HRZ := bx hRz
      have HM3 := bx (cell_old hb3 HM2.out)
      have HDR := bx (dir_any A3 n3 c3 b w3 mx hn3.out.symm (by omega) hnc3 hcm3 hr3 HM3.out)
      clear hp hb3 hRz HMK HM2 hr3
      go_wp2_with fail
      refine HDR.out.mono ?_
      intro e w4 hp4
      cases hend : endP b with
      | none =>
        obtain ⟨hd9, hends⟩ := back_none HRZ.out hend
        obtain ⟨rfl, hb4⟩ := dirpost_err hp4 hd9
        have HB4 := bx (HB3.out.trans (hb4.mono hB3))
        have hB4 : B ≤ w4.heap.size := Nat.le_trans hB3 hb4.size
        have HRD := bx (rdir_any A3 n3 c3 b w4 hn3.out.symm (by omega) hnc3 hcm3 (HR3.out.step hb4))
        have HD9 := bx hd9
        have HENDS := bx hends
        clear hp4 hb4 hend hd9 hends HDR
        go_wp2_with fail
        refine HRD.out.mono ?_
        intro e w5 hp5
        obtain ⟨rfl, hb5⟩ := dirpost_err hp5 HD9.out
        have HB5 := bx (HB4.out.trans (hb5.mono hB4))
        have hB5 : B ≤ w5.heap.size := Nat.le_trans hB4 hb5.size
        have HEN := bx (ends_any A0 n0 c0 l0 w5 HL.out b0 HS.out ((HRR.out.below HB5.out (Nat.le_refl _)).more hB5))
        rw [HENDS.out] at HEN
        clear hp5 hb5 HRD HM3
        go_wp2_with fail
        refine HEN.out.mono ?_
        rintro e w6 ⟨rfl, hb6⟩
        have HB6 : Bx (Below w.heap.size w w6) := bx (by rw [HBB.out]; exact HB5.out.trans (hb6.mono hB5))
        clear hb6 HEN
        go_wp2
        go_ret
        exact ⟨rfl, HB6.out⟩
      | some p =>
        obtain ⟨l, hdl, hll, hl64, hnames, hfnd⟩ := back_some HRZ.out hend
        rw [List.length_map, HL.out] at hll hl64
        obtain ⟨A4, c4, rfl, _, hr4, hlc4, hb4⟩ := dirpost_ok hp4 hdl
        have HB4 := bx (HB3.out.trans (hb4.mono hB3))
        have hB4 : B ≤ w4.heap.size := Nat.le_trans hB3 hb4.size
        have HR34 := bx (HR3.out.step hb4)
        have HRD := bx (rdir_any A3 n3 c3 b w4 hn3.out.symm (by omega) hnc3 hcm3 HR34.out)
        have HD9 := bx hdl
        have HLL := bx hll
        have HNM := bx hnames
        have HFD := bx hfnd
        have HL4 := bx hr4
        have HM4 := bx (cell_old hb4 HM3.out)
        rw [hll] at hlc4 ⊢
        clear hp4 hb4 hend hdl hnames hfnd HDR hr4 HM3 HR3 hll
        go_wp2_with fail
        refine HRD.out.mono ?_
        intro e w5 hp5
        obtain ⟨A5, c5, rfl, _, hr5, hlc5, hb5⟩ := dirpost_ok hp5 HD9.out
        rw [HLL.out] at hlc5 ⊢
        have HB5 := bx (HB4.out.trans (hb5.mono hB4))
        have hB5 : B ≤ w5.heap.size := Nat.le_trans hB4 hb5.size
        have HL45 := bx (HL4.out.step hb5)
        have HR35 := bx (HR34.out.step hb5)
        have HM5 := bx (cell_old hb5 HM4.out)
        have HSR := bx (sameRecs_any A4 A5 n0 c4 n0 c5 l l w5 HLL.out HLL.out (by omega) (by omega) HL45.out hr5)
        have hdl : decide (l = l) = true := decide_eq_true rfl
        rw [hdl] at HSR
        have hnn : ((n0 : Int) != (n0 : Int)) = false := by simp
        clear hp5 hb5 hr5 HRD hdl HL4 HR34 HM4 hlc5
        go_wp2_with fail
        refine HSR.out.mono ?_
        rintro e w6 ⟨rfl, hb6⟩
        have HB6 := bx (HB5.out.trans (hb6.mono hB5))
        have hB6 : B ≤ w6.heap.size := Nat.le_trans hB5 hb6.size
        have HL6 := bx (HL45.out.step hb6)
        have HR6 := bx (HR35.out.step hb6)
        have HM6 := bx (cell_old hb6 HM5.out)
        have HV0 := bx (Below.refl w6.heap.size w6)
        clear hb6 HSR HL45 HR35 HM5 hnn
        go_wp2_with fail
        go_loopw [80] (fun iv wx => ∃ i : Nat, i ≤ n0 ∧ iv = .int .i64 (i : Int) ∧ Bx (Below w6.heap.size w6 wx)) (fun i _ => n0 - (intOf i).toNat)
        case atStart => exact ⟨0, by omega, rfl, HV0⟩
        case round =>
          clear HV0
          obtain ⟨i, hi, rfl, HV⟩ := hrel
          have HVB := bx (HB6.out.trans (HV.out.mono hB6))
          by_cases hin : i < n0
          · have hiI : (i : Int) < (n0 : Int) := by omega
            have hBi : B ≤ wr.heap.size := Nat.le_trans hB6 HV.out.size
            have hrr : RIt wr B A0 l0 := HRR.out.below HVB.out (Nat.le_refl _)
            obtain ⟨ad, x, sn, rfl, hlt, HX, HSN, k0, k1, k2, HSX⟩ := hrr.itm (k := i) (by rw [HL.out]; exact hin)
            have hx8 : x.s.n ≤ 8000 := by rw [← HSX.out.1]; exact (HS8.out x (List.mem_of_getElem? HX.out)).1
            have HFX : Bx (findP b sn.data.toList = .ok x.s.l) := bx (by rw [HSN.out]; exact HFD.out x.p (List.mem_map_of_mem (List.mem_of_getElem? HX.out)))
            obtain ⟨gx, hgx⟩ : ∃ gx, wr.heap.size = gx := ⟨_, rfl⟩
            have HKX := bx (Bk.newAt wr 35 #[.string sn, .slice x.s.A x.s.n x.s.c, .bool x.sq] hgx)
            have hbA := bl_alloc (Below.refl wr.heap.size wr) (Nat.le_refl _) (.cells #[.string sn, .slice x.s.A x.s.n x.s.c, .bool x.sq] 35)
            have HVA := bx (HV.out.trans (hbA.mono HV.out.size))
            have HSA : Bx (SlB (wr.alloc (.cells #[.string sn, .slice x.s.A x.s.n x.s.c, .bool x.sq] 35)) B x.s) := bx (HSX.out.below hbA hBi)
            have HGX := bx hgx
            clear hrr hgx HV hbA HSX
            go_upto_region 17 with (fail)
            rw [HGX.out]
            generalize wr.alloc (.cells #[.string sn, .slice x.s.A x.s.n x.s.c, .bool x.sq] 35) = wA at HKX HVA HSA ⊢
            have hBA : B ≤ wA.heap.size := Nat.le_trans hB6 HVA.out.size
            have HMA := bx (cell_old HVA.out HM6.out)
            have hc0 : wA.cell? ⟨gx, 0, none⟩ = some (.string sn) := (HKX.out.cell 0).trans rfl
            have HFW := bx (find_any A3 n3 c3 b sn wA mx hn3.out.symm (by omega) hnc3 hcm3 (HR6.out.step HVA.out) HMA.out)
            clear HMA HGX k0 k1 k2
            go_wp2_with fail
            refine HFW.out.mono ?_
            intro e w7 hp
            obtain ⟨A7, n7, c7, rfl, hn7, hr7, _, _, hb7, _, hn732⟩ := unpOk hp HFX.out
            have HV7 := bx (HVA.out.trans (hb7.mono HVA.out.size))
            have hB7 : B ≤ w7.heap.size := Nat.le_trans hBA hb7.size
            have HK7 := bx (HKX.out.below hb7 HKX.out.lt)
            have HS7 := bx (HSA.out.below hb7 hBA)
            have HR7 := bx hr7
            have hc0 : w7.cell? ⟨gx, 0, none⟩ = some (.string sn) := (HK7.out.cell 0).trans rfl
            have HFW := bx (rfind_any A3 n3 c3 b sn w7 hn3.out.symm (by omega) hnc3 hcm3 (HR6.out.step HV7.out))
            clear hp hr7 hb7 HVA HKX HSA
            go_wp2_with fail
            refine HFW.out.mono ?_
            intro e w8 hp
            obtain ⟨A8, n8, c8, rfl, hn8, hr8, _, _, hb8, _, hn832⟩ := unpOk hp HFX.out
            have HV8 := bx (HV7.out.trans (hb8.mono HV7.out.size))
            have HK8 := bx (HK7.out.below hb8 HK7.out.lt)
            have HS8' := bx ((HS7.out.below hb8 hB7).more (Nat.le_trans hB7 hb8.size))
            have HR78 := bx (HR7.out.step hb8)
            have HR8 := bx hr8
            obtain ⟨bd, r, rfl, hbdl, hrk, q0a, q0b⟩ := (HL6.out.step HV8.out).at_ recCels (k := i) (by rw [HLL.out]; exact hin)
            have hnr : strV r.1.name = .string sn := by
              have h1 := name_at HNM.out hrk.out (itm_map HX.out)
              have h1 : r.1.name = x.name := h1
              unfold strV
              rw [h1, ← HSN.out]
            have q0 := q0a _ rfl
            rw [hnr] at q0
            have hc0 : w8.cell? ⟨gx, 0, none⟩ = some (.string sn) := (HK8.out.cell 0).trans rfl
            have hc1 : w8.cell? ⟨gx, 1, none⟩ = some (.slice x.s.A x.s.n x.s.c) := (HK8.out.cell 1).trans rfl
            have RX : Rok w8 x.s.l x.s.A x.s.n := ⟨HS8'.out.1, HS8'.out.2.2.2⟩
            have R7 : Rok w8 x.s.l A7 n7 := ⟨hn7.out.symm, HR78.out⟩
            have R8 : Rok w8 x.s.l A8 n8 := ⟨hn8.out.symm, HR8.out⟩
            have hx9 : x.s.l.length ≤ 100000 := by have := HS8'.out.1; omega
            have hss : (sn.toList != sn.toList) = false := by simp
            have i1 : (0 : Int) ≤ (i : Int) := by omega
            have i3 : (i : Int).toNat = i := by omega
            clear hp hr8 hb8 HFW hrk hnr HV7 HK7 HS7 HR7 q0a q0b hbdl
            go_wp2
            go_quiet ((go_at_call 14; exact Calls.quiet_of (same_two (by first | exact R7 | exact R8) RX hx9 _)))
            have HV9 := bx (fun k => below_drewN HV8.out k)
            go_wp2
            go_roundw
            case rel => exact ⟨i + 1, by omega, by go_num, bx (HV9.out _)⟩
            case measure => simp [intOf]; omega
          · have hiI : ¬ (i : Int) < (n0 : Int) := by omega
            have HB9 : Bx (Below w.heap.size w wr) := bx (by rw [HBB.out]; exact HVB.out)
            clear HV
            go_wp2
            go_ret
            exact ⟨rfl, HB9.out⟩
end Go.Proofs.YtnkdpchnighkfaaGreatDoor
