/- Contract: (*image.sink).members. -/
import Derived.Test.YtdioijhmmmnbgaaQiImR
namespace Go.Proofs.Ytdioijhmmmnbgaa
open Go.RowKit
def MmLim (x : MmE) : Prop := x.L.length ≤ 64 ∧ ∀ y ∈ x.L, y.s.l.length ≤ 32768
theorem attsB_len (M : List AtE) (h64 : M.length ≤ 64) (hd : ∀ x ∈ M, x.s.l.length ≤ 32768) : (attsB (M.map AtE.p)).length ≤ 2097538 := by
  unfold attsB
  rw [List.length_append, beB_len]
  have := atts_len M hd
  omega
theorem mems_len (M : List MmE) (hd : ∀ x ∈ M, MmLim x) : ((M.map MmE.p).flatMap memB).length ≤ 2097544 * M.length := by
  induction M with
  | nil => simp
  | cons x r ih =>
    have h1 := hd x (by simp)
    have h2 := ih (fun y hy => hd y (by simp [hy]))
    have h3 := attsB_len x.L h1.1 h1.2
    rw [List.map_cons, List.flatMap_cons, List.length_append, List.length_cons]
    have h4 : (memB x.p).length = 6 + (attsB (x.L.map AtE.p)).length := by
      unfold memB
      rw [List.length_append, List.length_append, List.length_append, beB_len, beB_len, beB_len]
      show 2 + (2 + (2 + _)) = _
      show 2 + (2 + (2 + (attsB (x.L.map AtE.p)).length)) = _
      omega
    omega
set_option maxRecDepth 100000 in
set_option maxHeartbeats 8000000 in
theorem sk_members (B g : Nat) (v : Value) (o : List UInt8) (Aa : Option Addr) (na ca : Nat) (M : List MmE) (w0 w : World) (h : SkR w0 w B g v o) (hm : M.length = na) (h64 : na ≤ 64) (hd : ∀ x ∈ M, MmLim x) (ha : RM w0 B Aa M) (ho : o.length ≤ 800000000000) :
    Calls Try.prog 42 #[.pointer (some ⟨g, 0, none⟩), .slice Aa na ca] w (SkPost w0 w B g v (o ++ memsB (M.map MmE.p))) := by
  have HM := bx hm
  have HA := bx ha
  have HD := bx hd
  have HO := bx ho
  have H0 := bx h
  obtain ⟨l0, hl0⟩ : ∃ l0, o ++ [(na : Int)].flatMap (beB 2) = l0 := ⟨_, rfl⟩
  have HL0 := bx hl0
  have HLL : Bx (o ++ memsB (M.map MmE.p) = l0 ++ (M.map MmE.p).flatMap memB) := bx (by
    rw [← hl0]
    unfold memsB
    rw [List.length_map, hm]
    simp)
  have HLN : Bx (l0.length ≤ 800000000002) := bx (by rw [← hl0]; simp [beB_len]; omega)
  have HP0 := bx (sk_new B g 2 1 v o l0 [(na : Int)] #[.int .i64 (na : Int)] w0 w h rfl rfl (by decide) (by decide) (by decide) (by omega) hl0)
  clear h hm ha hd ho hl0
  go_enter Try.func42, Try.ntmps42
  go_wp2_with fail
  refine HP0.out.mono ?_
  rintro e w1 ⟨⟨_, rfl⟩, v1, h1, hc1⟩
  have HS0 : Bx (SkR w0 w1 B g v1 (l0 ++ ((M.take 0).map MmE.p).flatMap memB)) := bx (by simpa using h1)
  have HC0 := bx hc1
  clear h1 hc1 HP0
  go_wp2
  go_loopw [13] (fun iv wx => ∃ (j : Nat) (vj : Value), j ≤ na ∧ iv = .int .i64 (j : Int) ∧ Bx (SkR w0 wx B g vj (l0 ++ ((M.take j).map MmE.p).flatMap memB)) ∧ Bx (SkC g w v wx vj)) (fun iv _ => na - (intOf iv).toNat)
  case atStart => exact ⟨0, v1, by omega, rfl, HS0, HC0⟩
  case round =>
    clear HS0 HC0
    obtain ⟨j, vj, hj, rfl, HS, HC⟩ := hrel
    by_cases hjn : j < na
    · have hjI : (j : Int) < (na : Int) := by omega
      obtain ⟨ad, x, rfl, hlt, HX, p0, p1, p2, p3, HSX⟩ := (HA.out.below HS.out.bel (Nat.le_refl _)).at_ (k := j) (by rw [HM.out]; exact hjn)
      have hxl := HD.out x (List.mem_of_getElem? HX.out)
      have HXL := bx hxl
      have HXN := bx HSX.out.1
      obtain ⟨lj, hlj⟩ : ∃ lj, l0 ++ ((M.take j).map MmE.p).flatMap memB = lj := ⟨_, rfl⟩
      have hln : lj.length ≤ 800134242818 := by
        rw [← hlj, List.length_append]
        have h1 := mems_len (M.take j) (fun y hy => HD.out y (List.mem_of_mem_take hy))
        have h2 : (M.take j).length ≤ 64 := by rw [List.length_take]; omega
        have := HLN.out
        omega
      have HLJ := bx hlj
      rw [hlj] at HS
      obtain ⟨C, hC⟩ : ∃ C, wr.heap.size = C := ⟨_, rfl⟩
      have hgC : C ≠ g ∧ vj.ownBlock ≠ some C := ⟨fun e => by have := (HS.out.low g (.inl rfl)).2; omega, fun e => by have := (HS.out.low C (.inr e)).2; omega⟩
      have HGC := bx hgC
      have HKB := bx (Bk.newAt wr 69 #[.int .i64 x.access, .int .i64 x.name, .int .i64 x.desc, .slice x.A x.n x.c] hC)
      have HBW := bx (bl_alloc (Below.refl wr.heap.size wr) (Nat.le_refl _) (.cells #[.int .i64 x.access, .int .i64 x.name, .int .i64 x.desc, .slice x.A x.n x.c] 69))
      have HCC := bx hC
      clear hC hgC hlj hxl
      go_upto_region 4 with (fail)
      rw [HCC.out]
      generalize wr.alloc (.cells #[.int .i64 x.access, .int .i64 x.name, .int .i64 x.desc, .slice x.A x.n x.c] 69) = wb at HKB HBW ⊢
      have HSB := bx (HS.out.below HBW.out)
      have HCB := bx (HC.out.below HBW.out)
      have c0 : wb.cell? ⟨C, 0, none⟩ = some (.int .i64 x.access) := (HKB.out.cell 0).trans rfl
      have c1 : wb.cell? ⟨C, 1, none⟩ = some (.int .i64 x.name) := (HKB.out.cell 1).trans rfl
      have c2 : wb.cell? ⟨C, 2, none⟩ = some (.int .i64 x.desc) := (HKB.out.cell 2).trans rfl
      obtain ⟨la, hla⟩ : ∃ la, lj ++ [x.access, x.name, x.desc].flatMap (beB 2) = la := ⟨_, rfl⟩
      have hlan : la.length ≤ 800134242824 := by rw [← hla]; simp [beB_len]; omega
      have HPA := bx (sk_new B g 2 3 vj lj la [x.access, x.name, x.desc] #[.int .i64 x.access, .int .i64 x.name, .int .i64 x.desc] w0 wb HSB.out rfl rfl (by decide) (by decide) (by decide) (by omega) hla)
      have HLA := bx hla
      have HLAN := bx hlan
      clear p0 p1 p2 p3 HCC hln hla hlan HSX HS HC
      go_wp2_with fail
      refine HPA.out.mono ?_
      rintro e w2 ⟨⟨_, rfl⟩, v2, hs2, hc2⟩
      have HK2 := bx (HKB.out.skc hc2 HGC.out.1 HGC.out.2)
      have HC2 := bx (HCB.out.trans hc2)
      have HPB := bx (sk_attrs B g v2 la x.A x.n x.c x.L w0 w2 hs2 HXN.out (by have := HXL.out.1; have := HXN.out; omega) HXL.out.2 (HA.out.2 x (List.mem_of_getElem? HX.out)).2.2.2 (by have := HLAN.out; omega))
      have c3 : w2.cell? ⟨C, 3, none⟩ = some (.slice x.A x.n x.c) := (HK2.out.cell 3).trans rfl
      clear hs2 hc2 c0 c1 c2 HPA
      go_wp2_with fail
      refine HPB.out.mono ?_
      rintro e w3 ⟨⟨_, rfl⟩, v3, hs3, hc3⟩
      have N1 : Bx (SkR w0 w3 B g v3 (l0 ++ ((M.take (j + 1)).map MmE.p).flatMap memB)) := bx (by
        have e : l0 ++ ((M.take (j + 1)).map MmE.p).flatMap memB = la ++ attsB (x.L.map AtE.p) := by
          rw [take_snoc' HX.out, List.map_append, List.flatMap_append, ← List.append_assoc, HLJ.out, ← HLA.out]
          have e2 : [x].map MmE.p = [⟨x.access, x.name, x.desc, x.L.map AtE.p⟩] := rfl
          rw [e2]
          simp [memB]
        rw [e]; exact hs3)
      have N2 := bx (HC2.out.trans hc3)
      clear hs3 hc3 HPB
      go_wp2
      go_roundw
      case rel => exact ⟨j + 1, _, by omega, by go_num, N1, N2⟩
      case measure => simp [intOf]; omega
    · obtain rfl : j = na := by omega
      have hjI : ¬ (j : Int) < (j : Int) := by omega
      have hF : Bx (SkR w0 wr B g vj (o ++ memsB (M.map MmE.p))) := bx (by rw [HLL.out]; have := HS.out; rwa [List.take_of_length_le (by rw [HM.out]; exact Nat.le_refl _)] at this)
      go_wp2
      go_end0
      exact ⟨⟨_, rfl⟩, vj, hF.out, HC.out⟩
end Go.Proofs.Ytdioijhmmmnbgaa
