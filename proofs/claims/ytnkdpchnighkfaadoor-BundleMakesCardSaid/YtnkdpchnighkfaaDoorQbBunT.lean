/- The walk of BundleMakes. -/
import Derived.Test.YtnkdpchnighkfaaDoorQbBunS
import Derived.Test.YtnkdpchnighkfaaDoorPb13
namespace Go.Proofs.YtnkdpchnighkfaaDoor
open Go.RowKit
/-- The items that the law has copied. -/
structure OwnR (w wx : World) (B : Nat) (V : Value) (L : List It) (t : Nat) (M : List It) : Prop where
  own : OwS itC 3 wx B 30 V M
  eq : M.map It.p = (L.take t).map fun x => (itS x).p
  sub : SubsX wx V (M.map (·.s))
  b : Below B w wx
theorem OwnR.len {w wx : World} {B t : Nat} {V : Value} {L M : List It} (h : OwnR w wx B V L t M) (ht : t ≤ L.length) : M.length = t := by
  have := congrArg List.length h.eq
  simp only [List.length_map, List.length_take] at this
  omega
theorem OwnR.below {w wx w' : World} {B t : Nat} {V : Value} {L M : List It} (h : OwnR w wx B V L t M) (hB : B ≤ w.heap.size) (hb : Below wx.heap.size wx w') : OwnR w w' B V L t M :=
  ⟨h.own.step hb, h.eq, h.sub.below hb, h.b.trans (hb.mono (Nat.le_trans hB h.b.size))⟩
theorem OwnR.alloc {w wx : World} {B t : Nat} {V : Value} {L M : List It} (h : OwnR w wx B V L t M) (hB : B ≤ w.heap.size) (o : Obj) : OwnR w (wx.alloc o) B V L t M := h.below hB (bl_alloc (Below.refl _ _) (Nat.le_refl _) o)
theorem OwnR.drew {w wx : World} {B t : Nat} {V : Value} {L M : List It} (h : OwnR w wx B V L t M) (hB : B ≤ w.heap.size) : OwnR w wx.drew B V L t M := h.below hB (below_drewN (Below.refl _ _) 1)
theorem OwnR.lo {w wx : World} {B t : Nat} {V : Value} {L M : List It} (h : OwnR w wx B V L t M) : ∀ k, V.ownBlock = some k → B ≤ k ∧ k < wx.heap.size := fun k hk => World.ownsRow.lt h.own k hk
theorem OwnR.app {w wx w' : World} {B t : Nat} {V V' : Value} {L M : List It} {x y : It} (h : OwnR w wx B V L t M) (hB : B ≤ wx.heap.size) (hx : L[t]? = some x) (hy : SlX wx (Bes wx V) y.s) (hp : y.p = (itS x).p)
    (ho : OwS itC 3 w' B 30 V' (M ++ [y])) (hg : wx.grownBy w' V.ownBlock) (hv : V'.ownBlock = V.ownBlock ∨ V'.ownBlock = some wx.heap.size) : OwnR w w' B V' L (t + 1) (M ++ [y]) :=
  ⟨ho, (by rw [List.map_append, h.eq, List.take_add_one, hx, List.map_append]; show _ ++ [y.p] = _ ++ [(itS x).p]; rw [hp]), (by rw [List.map_append]; exact h.sub.app (SubsX.one hy) hg hv),
    h.b.trans ((Below.refl _ _).grown hg hB fun k hk => (World.ownsRow.lt h.own k hk).1)⟩
theorem OwnR.rit {w wx : World} {B t n c : Nat} {A : Option Addr} {L M : List It} (h : OwnR w wx B (.slice A n c) L t M) : RIt wx wx.heap.size A M :=
  ⟨by
    obtain ⟨A', c', e, h1, _⟩ := OwS.rd h.own
    injection e with e1 _ _
    rw [e1]; exact h1, fun x hx => h.sub.slB x.s (List.mem_map_of_mem hx)⟩
theorem OwnR.cap {w wx : World} {B t n c : Nat} {A : Option Addr} {L M : List It} (h : OwnR w wx B (.slice A n c) L t M) : n = M.length ∧ n ≤ c ∧ (c : Int) ≤ 9223372036854775807 := by
  rcases h.own.2 with ⟨e, h0⟩ | ⟨g, cap, cur, e, _, _, hc, hm, _⟩
  · injection e with _ e1 e2
    exact ⟨by omega, by omega, by omega⟩
  · injection e with _ e1 e2
    exact ⟨by omega, by omega, by unfold maxLen at hm; omega⟩
theorem own_new {w : World} {B : Nat} {e : TypeId} {v : Value} {l : List UInt8} (h : OwB w B e v l) : ∃ A n c, v = .slice A n c ∧ Bx (SlB w w.heap.size ⟨A, n, c, l⟩) ∧ Bx (∀ q, A = some q → B ≤ q.block) := by
  have hlo := fun k hk => (World.ownsRow.lt h k hk).1
  obtain ⟨A, c, rfl, hr, hc, hm⟩ := OwL.rd h
  refine ⟨A, _, c, rfl, bx ⟨rfl, hc, hm, hr⟩, bx fun q hq => ?_⟩
  rcases h.2 with ⟨e, _⟩ | ⟨g, _, _, e, _⟩
  · injection e with e _ _
    rw [e] at hq; cases hq
  · injection e with e _ _
    rw [e] at hq
    injection hq with hq
    subst hq
    subst e
    exact hlo g rfl
/-- Stored items' bytes are their own. -/
theorem plain_pack (L : List It) : plainZ (L.map itS) = packZ (L.map fun x => (itS x).p) := by
  unfold plainZ packZ
  rw [List.map_map, List.map_map]
  rfl
theorem own_at {L M : List It} {k : Nat} {x y : It} (h : M.map It.p = L.map fun x => (itS x).p) (hy : M[k]? = some y) (hx : L[k]? = some x) : y.s.l = x.s.l := by
  have h1 := congrArg (fun l => l[k]?) h
  simp only [List.getElem?_map, hy, hx, Option.map_some] at h1
  injection h1 with h1
  exact congrArg Itm.data h1
set_option maxRecDepth 100000 in
set_option maxHeartbeats 4000000 in
theorem bundleMakes_walk (mx : Int) (w : World) (hm : w.cell? ⟨0, 0, none⟩ = some (.int .i64 mx)) (A0 : Option Addr) (n0 c0 : Nat) (l0 : List It) (e0 : l0.length = n0) (hc0 : n0 ≤ c0) (_hm0 : (c0 : Int) ≤ 9223372036854775807) (r0 : Rd w w.heap.size A0 (l0.flatMap itC))
    (q0 : ∀ x ∈ l0, SlOk w x.s ∧ x.name.length ≤ 140737488351232 ∧ x.s.n ≤ 140737488351232) (_b0 : n0 ≤ 140737488351232) :
    Calls Tryd.prog 5 #[.slice A0 n0 c0] w fun e w' => e = .returned (.bool true) ∧ Below w.heap.size w w' := by
  have HM := bx hm
  have HL := bx e0
  have HR0 := bx (rit_of r0 q0)
  have HS := bx (fun x hx => (q0 x hx).2)
  clear hm e0 r0 q0
  go_enter Tryd.func5, Tryd.ntmps5
  go_wp2_with fail
  refine (fixed11_any mx w HM.out).mono ?_
  rintro e w1 ⟨rfl, hb1⟩
  have HB1 := bx hb1
  have HR1 : Bx (RIt w1 w.heap.size A0 l0) := bx (HR0.out.below hb1 (Nat.le_refl _))
  clear hb1
  go_wp2_with fail
  refine (small_any A0 n0 c0 l0 w1 HL.out hc0 HS.out (HR1.out.more HB1.out.size)).mono ?_
  rintro e w2 ⟨rfl, hb2⟩
  have HB2 := bx (HB1.out.trans (hb2.mono HB1.out.size))
  clear hb2 HR1 HB1
  cases hsm : smallP 70 (l0.map It.p) with
  | false =>
    go_wp2
    go_ret
    exact ⟨rfl, HB2.out⟩
  | true =>
    obtain ⟨hs1, hs2⟩ := smallP_ok hsm
    have hn71 : n0 ≤ 71 := by rw [List.length_map, HL.out] at hs1; omega
    have HS8 : Bx (∀ x ∈ l0, x.s.l.length ≤ 8000 ∧ x.name.length ≤ 8000) := bx (fun x hx => by
      have := hs2 x.p (List.mem_map_of_mem hx)
      have e : x.p.data.length = x.s.l.length := rfl
      have e2 : x.p.name.length = x.name.length := rfl
      omega)
    obtain ⟨B, hB⟩ : ∃ B, w.heap.size = B := ⟨_, rfl⟩
    have HBB := bx hB
    rw [hB] at HB2
    have HRR : Bx (RIt w B A0 l0) := bx (by rw [← hB]; exact HR0.out)
    have HP0 : Bx (OwnR w w2 B (.slice none 0 0) l0 0 []) := bx ⟨OwS.nil, rfl, SubsX.nil, HB2.out⟩
    clear hsm hs1 hs2 hB HB2 HR0
    go_wp2_with fail
    go_loopw [3, 18] (fun V iv wx => ∃ t : Nat, ∃ M : List It, t ≤ n0 ∧ iv = .int .i64 (t : Int) ∧ Bx (OwnR w wx B V l0 t M)) (fun _ i _ => n0 - (intOf i).toNat)
    case atStart => exact ⟨0, [], by omega, rfl, HP0⟩
    case round =>
      clear HP0
      obtain ⟨t, M, ht, rfl, HP⟩ := hrel
      have hBw : B ≤ w.heap.size := Nat.le_of_eq HBB.out.symm
      have hBz : B ≤ wr.heap.size := Nat.le_trans hBw HP.out.b.size
      obtain ⟨AP, cP, rfl, _, _⟩ := OwS.rd HP.out.own
      have hPl : M.length = t := HP.out.len (by rw [HL.out]; exact ht)
      rw [hPl] at HP ⊢
      by_cases htn : t < n0
      · have htI : (t : Int) < (n0 : Int) := by omega
        have hrr : RIt wr B A0 l0 := HRR.out.below HP.out.b (Nat.le_refl _)
        obtain ⟨ad, x, sn, rfl, hlt, HX, HSN, k0, k1, k2, HSX⟩ := hrr.itm (k := t) (by rw [HL.out]; exact htn)
        have hx8 : x.s.n ≤ 8000 := by rw [← HSX.out.1]; exact (HS8.out x (List.mem_of_getElem? HX.out)).1
        have hsn : (⟨x.name.toArray⟩ : ByteArray) = sn := by rw [← HSN.out]
        obtain ⟨wA, hwA⟩ : ∃ wA, wr.alloc (.cells #[.string sn, .slice x.s.A x.s.n x.s.c, .bool x.sq] 30) = wA := ⟨_, rfl⟩
        obtain ⟨g, hg⟩ : ∃ g, wr.heap.size = g := ⟨_, rfl⟩
        have HPA : Bx (OwnR w wA B (.slice AP t cP) l0 t M) := bx (by rw [← hwA]; exact HP.out.alloc hBw _)
        have HKA : Bx (Bk wA g 30 #[.string sn, .slice x.s.A x.s.n x.s.c, .bool x.sq]) := bx (by rw [← hwA]; exact Bk.newAt _ _ _ hg)
        have HSA : Bx (SlB wA B x.s) := bx (by rw [← hwA]; exact HSX.out.below (bl_alloc (Below.refl B wr) hBz _) (Nat.le_refl _))
        have hBA : B ≤ wA.heap.size := by rw [← hwA]; exact Nat.le_trans hBz (by simp)
        have HWA := bx hwA
        have HG := bx hg
        have HVG : Bx (∀ row, (Value.slice AP t cP).ownBlock = row → some g ≠ row) := bx (fun row hr e => by
          subst hr
          have := (HP.out.lo g e.symm).2
          omega)
        clear hrr HP hwA hg hPl
        go_upto_region 9 with (fail)
        rw [HG.out, HWA.out]
        have hc := HKA.out.cell
        have hS0 : wA.drew.cell? ⟨g, 0, none⟩ = some (.string sn) ∧ wA.drew.cell? ⟨g, 1, none⟩ = some (.slice x.s.A x.s.n x.s.c) := ⟨(HKA.out.cell 0).trans rfl, (HKA.out.cell 1).trans rfl⟩
        have hS1 : (wA.drew.alloc (.cells #[] 5)).cell? ⟨g, 0, none⟩ = some (.string sn) ∧ (wA.drew.alloc (.cells #[] 5)).cell? ⟨g, 1, none⟩ = some (.slice x.s.A x.s.n x.s.c) := ⟨(((HKA.out.drewN 1).alloc _).cell 0).trans rfl, (((HKA.out.drewN 1).alloc _).cell 1).trans rfl⟩
        have HP1 := bx ((HPA.out.drew hBw).alloc hBw (.cells #[] 5))
        have HK1 := bx ((HKA.out.drewN 1).alloc (.cells #[] 5))
        have HS1 : Bx (SlB (wA.drew.alloc (.cells #[] 5)) B x.s) := bx (HSA.out.below (bl_alloc (below_drewN (Below.refl B wA) 1) hBA _) (Nat.le_refl _))
        have hz1 : wA.drew.heap.size ≤ (wA.drew.alloc (.cells #[] 5)).heap.size := by simp
        have N1 : Bx ((([] : List UInt8).length + x.s.l.length) * 1 ≤ 140737488355328) := bx (by rw [HSX.out.1]; simp; omega)
        clear hc
        have HN : Bx ((M.length + [(⟨x.name, ⟨none, 0, 0, []⟩, false⟩ : It)].length) * 48 ≤ 140737488355328) := bx (by have := HPA.out.len (by rw [HL.out]; exact ht); simp only [List.length_cons, List.length_nil]; omega)
        go_region_held3 (fun w' => w'.cell? ⟨g, 0, none⟩ = some (.string sn) ∧ w'.cell? ⟨g, 1, none⟩ = some (.slice x.s.A x.s.n x.s.c)) (first | exact hS0 | exact hS1 | exact hS5 | exact hS6 | exact hS7) ((first
          | (refine step_appL _ bV_one rfl (.tmp 25) (.tmp 27) rfl byteTyP (by decide) wA.drew.heap.size (.slice (some ⟨wA.drew.heap.size, 0, none⟩) 0 0) [] rfl (OwL.lit0 wA.drew (Nat.le_refl _)) B x.s.A x.s.n x.s.c x.s.l rfl HSX.out.1 HS1.out.2.2.2 N1.out hz1 ?_; intro v5 w5 hO5 hg5 hv5 hb5; obtain ⟨A5, n5, c5, rfl, HS5, HA5⟩ := own_new hO5; have hbx := (bl_alloc (Below.refl wA.drew.heap.size wA.drew) (Nat.le_refl _) (.cells #[] 5)).trans hb5; have HP5 := bx ((HPA.out.drew hBw).below hBw hbx); have HK5 := bx ((HKA.out.drewN 1).below hbx (HKA.out.drewN 1).lt); have hS5 : w5.cell? ⟨g, 0, none⟩ = some (.string sn) ∧ w5.cell? ⟨g, 1, none⟩ = some (.slice x.s.A x.s.n x.s.c) := ⟨(HK5.out.cell 0).trans rfl, (HK5.out.cell 1).trans rfl⟩; have HP6 := bx (HP5.out.alloc hBw (.cells #[.string sn, .slice A5 n5 c5, .bool false] 30)); have hz6 : B ≤ (w5.alloc (.cells #[.string sn, .slice A5 n5 c5, .bool false] 30)).heap.size := Nat.le_trans hBw HP6.out.b.size; have hS6 : (w5.alloc (.cells #[.string sn, .slice A5 n5 c5, .bool false] 30)).cell? ⟨g, 0, none⟩ = some (.string sn) ∧ (w5.alloc (.cells #[.string sn, .slice A5 n5 c5, .bool false] 30)).cell? ⟨g, 1, none⟩ = some (.slice x.s.A x.s.n x.s.c) := ⟨((HK5.out.alloc _).cell 0).trans rfl, ((HK5.out.alloc _).cell 1).trans rfl⟩; have HCS : Bx ((#[.string sn, .slice A5 n5 c5, .bool false] : Array Value).toList = itC ⟨x.name, ⟨A5, n5, c5, [] ++ x.s.l⟩, false⟩) := bx (by rw [← hsn]; rfl); have HNW := bx (RS.new (fC := itC) w5 _ _ HCS.out 30 (0, 0)); have HY := bx (SlX.of_new (v := .slice AP t cP) ((HS5.out.below (bl_alloc (Below.refl w5.heap.size w5) (Nat.le_refl _) (.cells #[.string sn, .slice A5 n5 c5, .bool false] 30)) (Nat.le_refl _)).more (by simp)) HA5.out (fun k hk => (HPA.out.lo k hk).2)); clear hbx hO5 hg5 hv5 hb5)
          | (refine step_appS _ itCels rfl (.tmp 22) (.tmp 30) rfl itmTy (by decide) B (.slice AP t cP) M rfl HP6.out.own (w5.heap.size + 1) (some ⟨w5.heap.size, 0, none⟩) 1 1 [⟨x.name, ⟨A5, n5, c5, [] ++ x.s.l⟩, false⟩] rfl rfl HNW.out HN.out hz6 ?_; intro V7 w7 hO7 hg7 hv7 _; have HP7 := bx (HP6.out.app (y := ⟨x.name, ⟨A5, n5, c5, [] ++ x.s.l⟩, false⟩) hz6 HX.out HY.out rfl hO7 hg7 hv7); have HK7 := bx ((HK5.out.alloc (.cells #[.string sn, .slice A5 n5 c5, .bool false] 30)).grown hg7 (HVG.out _ rfl)); have hS7 : w7.cell? ⟨g, 0, none⟩ = some (.string sn) ∧ w7.cell? ⟨g, 1, none⟩ = some (.slice x.s.A x.s.n x.s.c) := ⟨(HK7.out.cell 0).trans rfl, (HK7.out.cell 1).trans rfl⟩)))
        clear hO7 hg7 hv7 HP5 HP6 HK5 HS5 HA5 HCS HNW HY hS0 hS1 hS5 hS6 hz6 N1 HN HP1 HK1 HS1 hz1 hsn
        go_wp2
        go_roundw
        case rel => exact ⟨t + 1, _, by omega, by go_num, HP7⟩
        case measure => simp [intOf]; omega
      · have htI : ¬ (t : Int) < (n0 : Int) := by omega
        obtain rfl : n0 = t := by omega
        have hTK : l0.take n0 = l0 := List.take_of_length_le (by rw [HL.out]; exact Nat.le_refl _)
        have HEQ : Bx (M.map It.p = l0.map fun x => (itS x).p) := bx (by rw [HP.out.eq, hTK])
        obtain ⟨k, o, hKL⟩ : ∃ k o, bkKL (layP (packZ (M.map It.p))) = (k, o) := ⟨_, _, rfl⟩
        have HKL := bx hKL
        have hcap := HP.out.cap
        have HML := bx hPl
        have HSM : Bx (∀ y ∈ M, y.name.length ≤ 140737488351232 ∧ y.s.n ≤ 140737488351232) := bx (fun y hy => by
          have hyp : y.p ∈ M.map It.p := List.mem_map_of_mem hy
          rw [HEQ.out] at hyp
          obtain ⟨x, hx, e⟩ := List.mem_map.1 hyp
          have h8 := HS8.out x hx
          have e1 : x.name = y.name := congrArg Itm.name e
          have e2 : x.s.l = y.s.l := congrArg Itm.data e
          have e3 := (HP.out.sub y.s (List.mem_map_of_mem hy)).1
          rw [← e1, ← e3, ← e2]
          omega)
        have HMK := bx (bmake_any AP n0 cP M mx wr hPl hcap.2.1 (by omega) HSM.out HP.out.rit (cell_old (by rw [HBB.out]; exact HP.out.b) HM.out))
        have hcP := hcap.2.1
        clear hKL hPl hTK hcap
        go_wp2_with fail
        refine HMK.out.mono ?_
        intro e w3 hp
        obtain ⟨A3, n3, c3, rfl, hn3, hr3, _, _, hb3, h653⟩ := bkPair hp HKL.out
        have HP3 := bx (HP.out.below hBw hb3)
        have hB3 : B ≤ w3.heap.size := Nat.le_trans hBz hb3.size
        have HR3 := bx hr3
        have HI2 := bx (items2_any A0 n0 c0 l0 w3 HL.out hc0 (by omega) ((HRR.out.below HP3.out.b (Nat.le_refl _)).more hB3))
        clear hp hr3 hb3 HMK HP
        go_wp2_with fail
        refine HI2.out.mono ?_
        rintro e w4 ⟨A4, c4, rfl, hi4, hnc4, hcm4, hb4⟩
        have HP4 := bx (HP3.out.below hBw hb4)
        have hB4 : B ≤ w4.heap.size := Nat.le_trans hB3 hb4.size
        have HR4 := bx (HR3.out.step hb4)
        have HRM := bx (rmake_any A4 n0 c4 (l0.map itS) w4 (by rw [List.length_map]; exact HL.out) hnc4 hcm4 (by omega) (fun x hx => by
          obtain ⟨y, hy, rfl⟩ := List.mem_map.1 hx
          have h8 := HS8.out y hy
          have e3 : y.s.l.length = y.s.n := (HRR.out.2 y hy).1
          exact ⟨by show y.name.length ≤ _; omega, by show y.s.n ≤ _; omega⟩) hi4)
        rw [plain_pack, ← HEQ.out] at HRM
        clear hi4 hb4 HI2 HP3 HR3
        go_wp2_with fail
        refine HRM.out.mono ?_
        intro e w5 hp
        obtain ⟨A5, n5, c5, rfl, hn5, hr5, _, _, hb5, h655⟩ := bkPair hp HKL.out
        have HP5 := bx (HP4.out.below hBw hb5)
        have hB5 : B ≤ w5.heap.size := Nat.le_trans hB4 hb5.size
        have HR35 := bx (HR4.out.step hb5)
        have HR5 := bx hr5
        have HW0 := bx (Below.refl w5.heap.size w5)
        clear hp hr5 hb5 HRM HP4 HR4 hnc4 hcm4
        go_wp2_with fail
        go_loopw [46] (fun iv wx => ∃ j : Nat, j ≤ n0 ∧ iv = .int .i64 (j : Int) ∧ Bx (Below w5.heap.size w5 wx)) (fun i _ => n0 - (intOf i).toNat)
        case atStart => exact ⟨0, by omega, rfl, HW0⟩
        case round =>
          clear HW0
          obtain ⟨j, hj, rfl, HW⟩ := hrel
          have HPj := bx (HP5.out.below hBw HW.out)
          have hBj : B ≤ wr.heap.size := Nat.le_trans hB5 HW.out.size
          by_cases hjn : j < n0
          · have hjI : (j : Int) < (n0 : Int) := by omega
            have hr1 := HPj.out.rit
            have hr2 : RIt wr B A0 l0 := HRR.out.below HPj.out.b (Nat.le_refl _)
            obtain ⟨ad, y, sy, rfl, hlt, HY, HSNY, _, k1, _, HSY⟩ := hr1.itm (k := j) (by rw [HML.out]; exact hjn)
            obtain ⟨bd, x, sx, rfl, hlt2, HX, HSNX, _, p1, _, HSX⟩ := hr2.itm (k := j) (by rw [HL.out]; exact hjn)
            have HE : Bx (y.s.l = x.s.l) := bx (own_at HEQ.out HY.out HX.out)
            have hx8 : x.s.n ≤ 8000 := by rw [← HSX.out.1]; exact (HS8.out x (List.mem_of_getElem? HX.out)).1
            have hy8 : y.s.n ≤ 8000 := by
              have := HSY.out.1
              have := HSX.out.1
              have := congrArg List.length HE.out
              omega
            have HSM := bx (same_any y.s.A x.s.A y.s.n y.s.c x.s.n x.s.c wr.drew y.s.l x.s.l HSY.out.1 HSX.out.1 (by omega) (by omega) HSY.out.2.2.2 (HSX.out.more hBj).2.2.2)
            rw [HE.out, decS_self] at HSM
            have HD : Bx (Below w5.heap.size w5 wr.drew) := bx (below_drewN HW.out 1)
            have i1 : (0 : Int) ≤ (j : Int) := by omega
            have i2 : (j : Int) < (n0 : Int) := by omega
            have i3 : (j : Int).toNat = j := by omega
            have i4 : (j : Int) < (c0 : Int) := by omega
            have i5 : (j : Int) < (cP : Int) := by omega
            clear hr1 hr2 hx8 hy8
            go_wp2
            go_still_tail 10, (by kernel_rfl)
            change wpList _ _ _ _ _ wr.drew
            generalize wr.drew = w6 at HSM HD ⊢
            clear i1 i2 i3 i4 i5
            go_wp2_with fail
            refine HSM.out.mono ?_
            rintro e w7 ⟨rfl, hb7⟩
            have HW7 := bx (HD.out.trans (hb7.mono HD.out.size))
            clear hb7 HSM HD
            go_wp2
            go_roundw
            case rel => exact ⟨j + 1, by omega, by go_num, HW7⟩
            case measure => simp [intOf]; omega
          · have hjI : ¬ (j : Int) < (n0 : Int) := by omega
            obtain rfl : n0 = j := by omega
            have hkk : (k == k) = true := by simp
            have HSM := bx (same_any A3 A5 n3 c3 n5 c5 wr o o hn3.out.symm hn5.out.symm (by omega) (by omega) ((HR35.out.step HW.out)) ((HR5.out.step HW.out)))
            rw [decS_self] at HSM
            have HB7 : Bx (Below w.heap.size w wr) := bx (by rw [HBB.out]; exact HPj.out.b)
            clear hn3 hn5
            go_wp2_with fail
            refine HSM.out.mono ?_
            rintro e w7 ⟨rfl, hb7⟩
            have HB8 := bx (HB7.out.trans (hb7.mono HB7.out.size))
            clear hb7
            go_wp2
            go_ret
            exact ⟨rfl, HB8.out⟩
end Go.Proofs.YtnkdpchnighkfaaDoor
