/- The walk of BundleSqueezes. -/
import Derived.Test.YtnkdpchnighkfaaDoorPb16
import Derived.Test.YtnkdpchnighkfaaDoorPb13
import Derived.Test.YtnkdpchnighkfaaDoorPb4
import Derived.Test.YtnkdpchnighkfaaDoorPb3
namespace Go.Proofs.YtnkdpchnighkfaaDoor
open Go.RowKit
theorem decS_self (l : List UInt8) : decide (l = l) = true := decide_eq_true rfl
/-- What an item is packed to. -/
def pkL (x : It) : List UInt8 := (pkI x.p).2
theorem pkL_no {x : It} (h : x.sq = false) : pkL x = x.s.l := by
  show (if x.sq then sqzP x.s.l else x.s.l) = _
  rw [h]; rfl
theorem pkL_yes {x : It} (h : x.sq = true) : pkL x = sqzP x.s.l := by
  show (if x.sq then sqzP x.s.l else x.s.l) = _
  rw [h]; rfl
theorem zip_pack {L : List It} {ps : List Sl} (h : ps.map (·.l) = L.map pkL) : zipZ L ps = packZ (L.map It.p) := by
  unfold zipZ packZ
  rw [h, List.map_map, List.zip_map']
  rfl
/-- The items as they came. -/
theorem rit_of {w : World} {A : Option Addr} {L : List It} (r : Rd w w.heap.size A (L.flatMap itC)) (q : ∀ x ∈ L, SlOk w x.s ∧ x.name.length ≤ 140737488351232 ∧ x.s.n ≤ 140737488351232) : RIt w w.heap.size A L :=
  ⟨r, fun x hx => (q x hx).1⟩
/-- The row of packed bytes behind t rounds. -/
structure PkR (w wx : World) (B : Nat) (V : Value) (L : List It) (t : Nat) (ps : List Sl) : Prop where
  own : OwL slV wx B 28 V ps
  eq : ps.map (·.l) = (L.take t).map pkL
  sub : SubsX wx V ps
  le : ∀ y ∈ ps, y.n ≤ 50000
  b : Below B w wx
theorem PkR.len {w wx : World} {B t : Nat} {V : Value} {L : List It} {ps : List Sl} (h : PkR w wx B V L t ps) (ht : t ≤ L.length) : ps.length = t := by
  have := congrArg List.length h.eq
  simp only [List.length_map, List.length_take] at this
  omega
theorem PkR.alloc {w wx : World} {B t : Nat} {V : Value} {L : List It} {ps : List Sl} (h : PkR w wx B V L t ps) (hB : B ≤ w.heap.size) (o : Obj) : PkR w (wx.alloc o) B V L t ps :=
  ⟨h.own.alloc o, h.eq, h.sub.alloc o, h.le, bl_alloc h.b hB o⟩
theorem PkR.below {w wx w' : World} {B t : Nat} {V : Value} {L : List It} {ps : List Sl} (h : PkR w wx B V L t ps) (hB : B ≤ w.heap.size) (hb : Below wx.heap.size wx w') : PkR w w' B V L t ps :=
  ⟨h.own.below hb, h.eq, h.sub.below hb, h.le, h.b.trans (hb.mono (Nat.le_trans hB h.b.size))⟩
theorem PkR.app {w wx w' : World} {B t : Nat} {V V' : Value} {L : List It} {ps : List Sl} {x : It} {y : Sl} (h : PkR w wx B V L t ps) (hB : B ≤ wx.heap.size) (hx : L[t]? = some x) (hy : SlX wx (Bes wx V) y) (hl : y.l = pkL x) (hn : y.n ≤ 50000)
    (ho : OwL slV w' B 28 V' (ps ++ [y])) (hg : wx.grownBy w' V.ownBlock) (hv : V'.ownBlock = V.ownBlock ∨ V'.ownBlock = some wx.heap.size) : PkR w w' B V' L (t + 1) (ps ++ [y]) :=
  ⟨ho, (by rw [List.map_append, h.eq, List.take_add_one, hx, List.map_append]; show _ ++ [y.l] = _ ++ [pkL x]; rw [hl]), h.sub.app (SubsX.one hy) hg hv, (fun z hz => by
    rcases List.mem_append.1 hz with e | e
    · exact h.le z e
    · rcases List.mem_cons.1 e with e | e
      · rw [e]; exact hn
      · cases e), h.b.trans ((Below.refl _ _).grown hg hB fun k hk => (World.ownsRow.lt h.own k hk).1)⟩
theorem PkR.lo {w wx : World} {B t : Nat} {V : Value} {L : List It} {ps : List Sl} (h : PkR w wx B V L t ps) : ∀ k, V.ownBlock = some k → B ≤ k ∧ k < wx.heap.size := fun k hk => World.ownsRow.lt h.own k hk
/-- Squeezed: a row of bytes that is new. -/
theorem sqz_sl {b : List UInt8} {w w' : World} {e : Ending} (h : AllSPost b w e w') (hb : b.length ≤ 32768) : ∃ y : Sl, e = .returned (.tuple #[.slice y.A y.n y.c, .int .i64 0]) ∧ y.l = sqzP b ∧ SlB w' w'.heap.size y ∧ (∀ q, y.A = some q → w.heap.size ≤ q.block) ∧ Below w.heap.size w w' := by
  obtain ⟨h1, h2⟩ := h
  rw [if_pos hb] at h2
  obtain ⟨v, rfl, hO⟩ := h2
  have hlo := fun k hk => (World.ownsRow.lt hO k hk).1
  obtain ⟨A, c, rfl, hr, hc, hm⟩ := OwL.rd hO
  refine ⟨⟨A, _, c, sqzP b⟩, rfl, rfl, ⟨rfl, hc, hm, hr⟩, fun q hq => ?_, h1⟩
  rcases hO.2 with ⟨e, _⟩ | ⟨g, _, _, e, _⟩
  · injection e with e _ _
    have hq : A = some q := hq
    rw [e] at hq; cases hq
  · injection e with e _ _
    have hq : A = some q := hq
    rw [e] at hq
    injection hq with hq
    subst hq
    subst e
    exact hlo g rfl
set_option maxRecDepth 100000 in
set_option maxHeartbeats 4000000 in
theorem bundleSqueezes_walk (mx : Int) (w : World) (hm : w.cell? ⟨0, 0, none⟩ = some (.int .i64 mx)) (A0 : Option Addr) (n0 c0 : Nat) (l0 : List It) (e0 : l0.length = n0) (hc0 : n0 ≤ c0) (hm0 : (c0 : Int) ≤ 9223372036854775807) (r0 : Rd w w.heap.size A0 (l0.flatMap itC))
    (q0 : ∀ x ∈ l0, SlOk w x.s ∧ x.name.length ≤ 140737488351232 ∧ x.s.n ≤ 140737488351232) (b0 : n0 ≤ 140737488351232) :
    Calls Tryd.prog 6 #[.slice A0 n0 c0] w fun e w' => e = .returned (.bool true) ∧ Below w.heap.size w w' := by
  have HM := bx hm
  have HL := bx e0
  have HR0 := bx (rit_of r0 q0)
  have HS := bx (fun x hx => (q0 x hx).2)
  clear hm e0 r0 q0
  go_enter Tryd.func6, Tryd.ntmps6
  go_wp2_with fail
  refine (fixed11_any mx w HM.out).mono ?_
  rintro e w1 ⟨rfl, hb1⟩
  have HB1 := bx hb1
  have HR1 : Bx (RIt w1 w.heap.size A0 l0) := bx (HR0.out.below hb1 (Nat.le_refl _))
  clear hb1
  go_wp2_with fail
  refine (small_any A0 n0 c0 l0 w1 HL.out hc0 HS.out (HR1.out.more HB1.out.size)).mono ?_
  rintro e w2 ⟨rfl, hb2⟩
  have HB2 := bx (HB1.out.trans (hb2.mono HB1.out.size))
  clear hb2 HR1 HB1
  cases hsm : smallP 70 (l0.map It.p) with
  | false =>
    go_wp2
    go_ret
    exact ⟨rfl, HB2.out⟩
  | true =>
    obtain ⟨hs1, hs2⟩ := smallP_ok hsm
    have hn71 : n0 ≤ 71 := by rw [List.length_map, HL.out] at hs1; omega
    have HS8 : Bx (∀ x ∈ l0, x.s.l.length ≤ 8000) := bx (fun x hx => by
      have := hs2 x.p (List.mem_map_of_mem hx)
      have e : x.p.data.length = x.s.l.length := rfl
      omega)
    obtain ⟨B, hB⟩ : ∃ B, w.heap.size = B := ⟨_, rfl⟩
    have HBB := bx hB
    rw [hB] at HB2
    have HRR : Bx (RIt w B A0 l0) := bx (by rw [← hB]; exact HR0.out)
    have HP0 : Bx (PkR w w2 B (.slice none 0 0) l0 0 []) := bx ⟨OwL.nil, rfl, SubsX.nil, (fun _ h => by cases h), HB2.out⟩
    clear hsm hs1 hs2 hB HB2 HR0
    go_wp2_with fail
    go_loopw [3, 18] (fun V iv wx => ∃ t : Nat, ∃ ps : List Sl, t ≤ n0 ∧ iv = .int .i64 (t : Int) ∧ Bx (PkR w wx B V l0 t ps)) (fun _ i _ => n0 - (intOf i).toNat)
    case atStart => exact ⟨0, [], by omega, rfl, HP0⟩
    case round =>
      clear HP0
      obtain ⟨t, ps, ht, rfl, HP⟩ := hrel
      have hBw : B ≤ w.heap.size := Nat.le_of_eq HBB.out.symm
      have hBz : B ≤ wr.heap.size := Nat.le_trans hBw HP.out.b.size
      obtain ⟨AP, nP, cP, rfl, hnP, _⟩ := OwL.sl HP.out.own
      have hPl : ps.length = t := HP.out.len (by rw [HL.out]; exact ht)
      by_cases htn : t < n0
      · have htI : (t : Int) < (n0 : Int) := by omega
        have hrr : RIt wr B A0 l0 := HRR.out.below HP.out.b (Nat.le_refl _)
        obtain ⟨ad, x, sn, rfl, hlt, HX, HSN, k0, k1, k2, HSX⟩ := hrr.itm (k := t) (by rw [HL.out]; exact htn)
        have hx8 : x.s.n ≤ 8000 := by rw [← HSX.out.1]; exact HS8.out x (List.mem_of_getElem? HX.out)
        have HN : Bx ((ps.length + 1) * 24 ≤ 140737488355328) := bx (by rw [hPl]; omega)
        have HPA := bx (HP.out.alloc hBw (.cells #[.string sn, .slice x.s.A x.s.n x.s.c, .bool x.sq] 30))
        have hBA : B ≤ (wr.alloc (.cells #[.string sn, .slice x.s.A x.s.n x.s.c, .bool x.sq] 30)).heap.size := Nat.le_trans hBz (by simp)
        have HSA : Bx (SlB (wr.alloc (.cells #[.string sn, .slice x.s.A x.s.n x.s.c, .bool x.sq] 30)) B x.s) := bx (HSX.out.below (bl_alloc (Below.refl B wr) hBz _) (Nat.le_refl _))
        cases hsq : x.sq with
        | false =>
          have HPK : Bx (x.s.l = pkL x) := bx (pkL_no hsq).symm
          rw [hsq] at k2 HPA hBA HSA
          have HPB := bx (HPA.out.alloc hBw (.cells #[.slice x.s.A x.s.n x.s.c] 28))
          have hBB : B ≤ ((wr.alloc (.cells #[.string sn, .slice x.s.A x.s.n x.s.c, .bool false] 30)).alloc (.cells #[.slice x.s.A x.s.n x.s.c] 28)).heap.size := Nat.le_trans hBA (by simp)
          have HNW : Bx (RL slV ((wr.alloc (.cells #[.string sn, .slice x.s.A x.s.n x.s.c, .bool false] 30)).alloc (.cells #[.slice x.s.A x.s.n x.s.c] 28)) (wr.heap.size + 1 + 1) (some ⟨wr.heap.size + 1, 0, none⟩) [x.s]) := bx (by
            have h := RL.news (f := slV) (wr.alloc (.cells #[.string sn, .slice x.s.A x.s.n x.s.c, .bool false] 30)) [x.s] #[.slice x.s.A x.s.n x.s.c] rfl 28 (0, 0)
            have e : (wr.alloc (.cells #[.string sn, .slice x.s.A x.s.n x.s.c, .bool false] 30)).heap.size = wr.heap.size + 1 := by simp
            rw [e] at h; exact h)
          have HY := bx (SlX.of_low (v := .slice AP nP cP) (HSA.out.below (bl_alloc (Below.refl B _) hBA (.cells #[.slice x.s.A x.s.n x.s.c] 28)) (Nat.le_refl _)) hBB (fun k hk => (HPB.out.lo k hk).1))
          clear hrr hsq HP HPA HSA
          go_wp2_with (at_builtin; refine wpList_appL _ slV_one rfl (.tmp 32) (.tmp 34) rfl slcTy (by decide) B (.slice AP nP cP) ps rfl HPB.out.own (wr.heap.size + 1 + 1) (some ⟨wr.heap.size + 1, 0, none⟩) 1 1 [x.s] rfl rfl HNW.out HN.out hBB ?_; intro V5 w5 hO5 hg5 hv5 _; have HP5 := bx (HPB.out.app hBB HX.out HY.out HPK.out (by omega) hO5 hg5 hv5))
          go_roundw
          case rel => exact ⟨t + 1, _, by omega, by go_num, HP5⟩
          case measure => simp [intOf]; omega
        | true =>
          have HPK : Bx (sqzP x.s.l = pkL x) := bx (pkL_yes hsq).symm
          rw [hsq] at k2 HPA hBA HSA
          obtain ⟨wA, hwA⟩ : ∃ wA, wr.alloc (.cells #[.string sn, .slice x.s.A x.s.n x.s.c, .bool true] 30) = wA := ⟨_, rfl⟩
          have HSQ := bx (sall_any x.s.A x.s.n x.s.c x.s.l wA HSX.out.1 (by omega) HSX.out.2.1 (by rw [← hwA]; exact (HSA.out.more hBA).2.2.2))
          have HWA := bx hwA
          rw [← hwA] at HSQ
          clear hrr hsq HP HSA hwA
          go_wp2_with fail
          refine HSQ.out.mono ?_
          intro e w4 hp
          rw [HWA.out] at hp HPA hBA
          obtain ⟨y, rfl, hyl, hys, hyA, hb4⟩ := sqz_sl hp (by have := HSX.out.1; omega)
          have hyn : y.n ≤ 50000 := by
            rw [← hys.1, hyl]
            have := (sqz_len (b := x.s.l) (by have := HSX.out.1; omega)).1
            have := HSX.out.1
            omega
          have HP4 := bx (HPA.out.below hBw hb4)
          have hB4 : B ≤ w4.heap.size := Nat.le_trans hBA hb4.size
          have HPB := bx (HP4.out.alloc hBw (.cells #[.slice y.A y.n y.c] 28))
          have hBB : B ≤ (w4.alloc (.cells #[.slice y.A y.n y.c] 28)).heap.size := Nat.le_trans hB4 (by simp)
          have HNW := bx (RL.news (f := slV) w4 [y] #[.slice y.A y.n y.c] rfl 28 (0, 0))
          have HY := bx (SlX.of_new (v := .slice AP nP cP) ((hys.below (bl_alloc (Below.refl w4.heap.size w4) (Nat.le_refl _) (.cells #[.slice y.A y.n y.c] 28)) (Nat.le_refl _)).more (by simp)) hyA (fun k hk => (HPA.out.lo k hk).2))
          have HPL : Bx (y.l = pkL x) := bx (hyl.trans HPK.out)
          clear hp HPA HP4 hyl hys hyA hb4 HSQ HWA
          go_wp2_with (at_builtin; refine wpList_appL _ slV_one rfl (.tmp 32) (.tmp 34) rfl slcTy (by decide) B (.slice AP nP cP) ps rfl HPB.out.own (w4.heap.size + 1) (some ⟨w4.heap.size, 0, none⟩) 1 1 [y] rfl rfl HNW.out HN.out hBB ?_; intro V5 w5 hO5 hg5 hv5 _; have HP5 := bx (HPB.out.app hBB HX.out HY.out HPL.out hyn hO5 hg5 hv5))
          go_roundw
          case rel => exact ⟨t + 1, _, by omega, by go_num, HP5⟩
          case measure => simp [intOf]; omega
      · have htI : ¬ (t : Int) < (n0 : Int) := by omega
        obtain rfl : n0 = t := by omega
        have hnl : nP = ps.length := hnP.out
        rw [hPl] at hnl
        obtain rfl : n0 = nP := hnl.symm
        obtain ⟨k, o, hKL⟩ : ∃ k o, bkKL (layP (packZ (l0.map It.p))) = (k, o) := ⟨_, _, rfl⟩
        have HKL := bx hKL
        have HTK : Bx (ps.map (·.l) = l0.map pkL) := bx (by rw [HP.out.eq, List.take_of_length_le (by rw [HL.out]; exact Nat.le_refl _)])
        have HCP : Bx (n0 ≤ cP ∧ (cP : Int) ≤ 9223372036854775807) := bx (by
          obtain ⟨A', c', e, _, h1, h2⟩ := OwL.rd HP.out.own
          injection e with _ e1 e2
          rw [e2]; rw [← e1] at h1
          exact ⟨h1, h2⟩)
        have HMK := bx (bmake_any A0 n0 c0 l0 mx wr HL.out hc0 b0 HS.out ((HRR.out.below HP.out.b (Nat.le_refl _)).more hBz) (cell_old (by rw [HBB.out]; exact HP.out.b) HM.out))
        have hPL := bx hPl
        clear hKL hnP hnl hPl
        go_wp2_with fail
        refine HMK.out.mono ?_
        intro e w3 hp
        obtain ⟨A3, n3, c3, rfl, hn3, hr3, _, _, hb3, h653⟩ := bkPair hp HKL.out
        have HP3 := bx (HP.out.below hBw hb3)
        have hB3 : B ≤ w3.heap.size := Nat.le_trans hBz hb3.size
        have HR3 := bx hr3
        have HLY := bx (rlay_any A0 n0 c0 l0 AP cP ps w3 HL.out hc0 hm0 b0 HS.out ((HRR.out.below HP3.out.b (Nat.le_refl _)).more hB3) hPL.out HCP.out.1 (OwL.rl HP3.out.own) (fun y hy => ⟨HP3.out.sub.slB y hy, HP3.out.le y hy⟩))
        have HZE : Bx (zipZ l0 ps = packZ (l0.map It.p)) := bx (zip_pack HTK.out)
        rw [HZE.out] at HLY
        clear hp hr3 hb3 HMK HP
        go_wp2_with fail
        refine HLY.out.mono ?_
        intro e w4 hp
        obtain ⟨A4, n4, c4, rfl, hn4, hr4, _, _, hb4, h654⟩ := bkPair hp HKL.out
        have HB4 : Bx (Below w.heap.size w w4) := bx (by rw [HBB.out]; exact HP3.out.b.trans (hb4.mono hB3))
        have hkk : (k == k) = true := by simp
        have HSM := bx (same_any A3 A4 n3 c3 n4 c4 w4 o o hn3.out.symm hn4.out.symm (by omega) (by omega) (HR3.out.step hb4) hr4)
        rw [decS_self] at HSM
        clear hp hr4 hb4 HLY HP3 hn3 hn4
        go_wp2_with fail
        refine HSM.out.mono ?_
        rintro e w5 ⟨rfl, hb5⟩
        have HB5 := bx (HB4.out.trans (hb5.mono HB4.out.size))
        clear hb5
        go_wp2
        go_ret
        exact ⟨rfl, HB5.out⟩
end Go.Proofs.YtnkdpchnighkfaaDoor
