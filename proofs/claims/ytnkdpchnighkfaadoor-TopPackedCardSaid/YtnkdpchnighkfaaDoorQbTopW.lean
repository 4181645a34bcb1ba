/- The walk of TopPacked. -/
import Derived.Test.YtnkdpchnighkfaaDoorPb16
import Derived.Test.YtnkdpchnighkfaaDoorPb3
import Derived.Test.YtnkdpchnighkfaaDoorPb13
import Derived.Test.YtnkdpchnighkfaaDoorPb9
import Derived.Test.YtnkdpchnighkfaaDoorPb4
import Derived.Test.YtnkdpchnighkfaaDoorPb11
namespace Go.Proofs.YtnkdpchnighkfaaDoor
open Go.RowKit
theorem decT_self (l : List UInt8) : decide (l = l) = true := decide_eq_true rfl
theorem rit_ofT {w : World} {A : Option Addr} {L : List It} (r : Rd w w.heap.size A (L.flatMap itC)) (q : ∀ x ∈ L, SlOk w x.s ∧ x.name.length ≤ 140737488351232 ∧ x.s.n ≤ 140737488351232) : RIt w w.heap.size A L :=
  ⟨r, fun x hx => (q x hx).1⟩
theorem rotP_same {P : List Itm} {t k : Nat} {q q' : Nat → Bool} (h : ∀ i, i < k → q i = q' i) : (rotP P t q).take k = (rotP P t q').take k := by
  unfold rotP
  rw [← List.map_take, ← List.map_take]
  refine List.map_congr_left fun i hi => ?_
  have hk : i < k := by
    rw [List.take_range] at hi
    have := List.mem_range.1 hi
    omega
  unfold rotX
  rw [h i hk]
theorem rotP_ext {P : List Itm} {t k : Nat} {q : Nat → Bool} {x : Itm} (hk : k < P.length) (h : P[(k + t) % P.length]? = some x) (b : Bool) : ∃ q', (rotP P t q).take k ++ [⟨x.name, x.data, b⟩] = (rotP P t q').take (k + 1) := by
  refine ⟨fun i => if i = k then b else q i, ?_⟩
  rw [rotP_snoc hk h, if_pos rfl]
  congr 1
  exact rotP_same fun i hi => by rw [if_neg (by omega)]
/-- The other row behind k rounds. -/
structure OthR (w wx : World) (B : Nat) (V : Value) (L : List It) (t k : Nat) (M : List It) (q : Nat → Bool) : Prop where
  own : OwS itC 3 wx B 30 V M
  eq : M.map It.p = (rotP (L.map It.p) t q).take k
  sub : ∀ y ∈ M, y.s ∈ L.map (·.s)
  b : Below B w wx
theorem OthR.len {w wx : World} {B t k : Nat} {V : Value} {L M : List It} {q : Nat → Bool} (h : OthR w wx B V L t k M q) (ht : k ≤ L.length) : M.length = k := by
  have := congrArg List.length h.eq
  simp only [List.length_map, List.length_take, rotP_len] at this
  omega
theorem OthR.below {w wx w' : World} {B t k : Nat} {V : Value} {L M : List It} {q : Nat → Bool} (h : OthR w wx B V L t k M q) (hB : B ≤ w.heap.size) (hb : Below wx.heap.size wx w') : OthR w w' B V L t k M q :=
  ⟨h.own.step hb, h.eq, h.sub, h.b.trans (hb.mono (Nat.le_trans hB h.b.size))⟩
theorem OthR.rit {w wx : World} {B t k n c : Nat} {A A0 : Option Addr} {L M : List It} {q : Nat → Bool} (h : OthR w wx B (.slice A n c) L t k M q) (hr : RIt wx wx.heap.size A0 L) : RIt wx wx.heap.size A M :=
  ⟨by
    obtain ⟨A', c', e, h1, _⟩ := OwS.rd h.own
    injection e with e1 _ _
    rw [e1]; exact h1, fun y hy => by
    obtain ⟨x, hx, e⟩ := List.mem_map.1 (h.sub y hy)
    rw [← e]; exact hr.2 x hx⟩
theorem OthR.cap {w wx : World} {B t k n c : Nat} {A : Option Addr} {L M : List It} {q : Nat → Bool} (h : OthR w wx B (.slice A n c) L t k M q) : n = M.length ∧ n ≤ c ∧ (c : Int) ≤ 9223372036854775807 := by
  rcases h.own.2 with ⟨e, h0⟩ | ⟨g, cap, cur, e, _, _, hc, hm, _⟩
  · injection e with _ e1 e2
    exact ⟨by omega, by omega, by omega⟩
  · injection e with _ e1 e2
    exact ⟨by omega, by omega, by unfold maxLen at hm; omega⟩
theorem OthR.app {w wx w' : World} {B t k : Nat} {V V' : Value} {L M : List It} {q : Nat → Bool} {x : It} (h : OthR w wx B V L t k M q) (hB : B ≤ wx.heap.size) (hk : k < L.length) (hx : L[(k + t) % L.length]? = some x) (b : Bool)
    (ho : OwS itC 3 w' B 30 V' (M ++ [⟨x.name, x.s, b⟩])) (hg : wx.grownBy w' V.ownBlock) : ∃ q', OthR w w' B V' L t (k + 1) (M ++ [⟨x.name, x.s, b⟩]) q' := by
  obtain ⟨q', hq⟩ := rotP_ext (P := L.map It.p) (t := t) (k := k) (q := q) (x := x.p) (by rw [List.length_map]; exact hk) (by rw [List.length_map]; exact itm_map hx) b
  refine ⟨q', ho, ?_, fun y hy => ?_, h.b.trans ((Below.refl _ _).grown hg hB fun k hk => (World.ownsRow.lt h.own k hk).1)⟩
  · rw [List.map_append, h.eq, ← hq]; rfl
  · rcases List.mem_append.1 hy with e | e
    · exact h.sub y e
    · rcases List.mem_cons.1 e with e | e
      · rw [e]
        have h2 : x.s ∈ L.map (·.s) := List.mem_map_of_mem (List.mem_of_getElem? hx)
        exact h2
      · cases e
/-- A row of items in which all that is asked for is found. -/
structure RowOk (wx : World) (P : List Itm) (n : Nat) (A : Option Addr) (c : Nat) (Lx : List It) : Prop where
  len : Lx.length = n
  cap : n ≤ c
  rit : RIt wx wx.heap.size A Lx
  sz : ∀ x ∈ Lx, x.name.length ≤ 140737488351232 ∧ x.s.n ≤ 140737488351232
  chk : chkP (Lx.map It.p) = 0
  fnd : ∀ b p, layP (packZ (Lx.map It.p)) = .ok b → endP b = some p → ∀ x ∈ P, findP b x.name = .ok x.data
theorem rowOk_own {wx : World} {n c : Nat} {A : Option Addr} {L : List It} (hL : L.length = n) (hc : n ≤ c) (hr : RIt wx wx.heap.size A L) (hs : ∀ x ∈ L, x.name.length ≤ 140737488351232 ∧ x.s.n ≤ 140737488351232) (hk : chkP (L.map It.p) = 0) : RowOk wx (L.map It.p) n A c L :=
  ⟨hL, hc, hr, hs, hk, fun _ _ h he => find_made h he⟩
theorem rowOk_oth {w wx : World} {B n c t : Nat} {A A0 : Option Addr} {L M : List It} {q : Nat → Bool} (h : OthR w wx B (.slice A n c) L t n M q) (hL : L.length = n) (hr : RIt wx wx.heap.size A0 L) (hs : ∀ x ∈ L, x.s.l.length ≤ 8000 ∧ x.name.length ≤ 8000) (hk : chkP (L.map It.p) = 0) : RowOk wx (L.map It.p) n A c M := by
  have heq : M.map It.p = rotP (L.map It.p) t q := by
    rw [h.eq, List.take_of_length_le (by rw [rotP_len, List.length_map, hL]; exact Nat.le_refl _)]
  refine ⟨h.len (by omega), h.cap.2.1, h.rit hr, fun y hy => ?_, by rw [heq]; exact rotP_chk hk, fun b p hb he => ?_⟩
  · have hyp : y.p ∈ M.map It.p := List.mem_map_of_mem hy
    rw [heq] at hyp
    obtain ⟨x, hx, e1, _⟩ := rotP_mem hyp
    obtain ⟨x2, hx2, rfl⟩ := List.mem_map.1 hx
    have e1 : y.name = x2.name := e1
    have h1 := (hs x2 hx2).2
    obtain ⟨z, hz, e3⟩ := List.mem_map.1 (h.sub y hy)
    have h2 := (hs z hz).1
    have h3 : z.s.l.length = z.s.n := (hr.2 z hz).1
    rw [e1, ← e3]
    omega
  · rw [heq] at hb
    exact find_rot hb he
set_option maxRecDepth 100000 in
set_option maxHeartbeats 8000000 in
theorem topPacked_walk (mx : Int) (w : World) (hm : w.cell? ⟨0, 0, none⟩ = some (.int .i64 mx)) (A0 : Option Addr) (n0 c0 : Nat) (l0 : List It) (e0 : l0.length = n0) (hc0 : n0 ≤ c0) (_hm0 : (c0 : Int) ≤ 9223372036854775807) (r0 : Rd w w.heap.size A0 (l0.flatMap itC))
    (q0 : ∀ x ∈ l0, SlOk w x.s ∧ x.name.length ≤ 140737488351232 ∧ x.s.n ≤ 140737488351232) (b0 : n0 ≤ 140737488351232) (x1 : Int) (h1 : 0 ≤ x1 ∧ x1 ≤ 255) (x2 : Int) (h2 : 0 ≤ x2 ∧ x2 ≤ 65535) :
    Calls Tryd.prog 3 #[.slice A0 n0 c0, .int .u8 x1, .int .u16 x2] w fun e w' => e = .returned (.bool true) ∧ Below w.heap.size w w' := by
  have h11 := h1.1
  have h12 := h1.2
  have h21 := h2.1
  have h22 := h2.2
  have HM := bx hm
  have HL := bx e0
  have HR0 := bx (rit_ofT r0 q0)
  have HS := bx (fun x hx => (q0 x hx).2)
  clear hm e0 r0 q0 h1 h2
  go_enter Tryd.func3, Tryd.ntmps3
  go_wp2_with fail
  refine (packs_any mx w HM.out).mono ?_
  rintro e w1 ⟨rfl, hb1⟩
  have HB1 := bx hb1
  have HR1 : Bx (RIt w1 w.heap.size A0 l0) := bx (HR0.out.below hb1 (Nat.le_refl _))
  clear hb1
  go_wp2_with fail
  refine (tsmall_any A0 n0 c0 l0 w1 HL.out hc0 HS.out (HR1.out.more HB1.out.size)).mono ?_
  rintro e w2 ⟨rfl, hb2⟩
  have HB2 := bx (HB1.out.trans (hb2.mono HB1.out.size))
  clear hb2 HR1 HB1
  cases hsm : smallP 64 (l0.map It.p) with
  | false =>
    go_wp2
    go_ret
    exact ⟨rfl, HB2.out⟩
  | true =>
    obtain ⟨hs1, hs2⟩ := smallP_ok hsm
    have HR2 : Bx (RIt w2 w.heap.size A0 l0) := bx (HR0.out.below HB2.out (Nat.le_refl _))
    have HCK := bx (rchk_any A0 n0 c0 l0 w2 HL.out hc0 b0 HS.out (HR2.out.more HB2.out.size))
    have HS8 : Bx (∀ x ∈ l0, x.s.l.length ≤ 8000 ∧ x.name.length ≤ 8000) := bx (fun x hx => by
      have := hs2 x.p (List.mem_map_of_mem hx)
      have e : x.p.data.length = x.s.l.length := rfl
      have e2 : x.p.name.length = x.name.length := rfl
      omega)
    obtain ⟨C, hC⟩ : ∃ C, chkP (l0.map It.p) = C := ⟨_, rfl⟩
    rw [hC] at HCK
    have HC := bx hC
    clear hsm hs1 hs2 hC HR2
    go_wp2_with fail
    refine HCK.out.mono ?_
    rintro e w3 ⟨rfl, hb3⟩
    have HB3 := bx (HB2.out.trans (hb3.mono HB2.out.size))
    clear hb3 HCK HB2
    by_cases hC0 : C = 0
    case neg =>
      have hI : (C != 0) = true := by rw [bne_iff_ne]; exact hC0
      clear hC0
      go_wp2
      go_ret
      exact ⟨rfl, HB3.out⟩
    case pos =>
      have hI : (C != 0) = false := by rw [hC0]; rfl
      have HC0 : Bx (chkP (l0.map It.p) = 0) := bx (by rw [HC.out]; exact hC0)
      clear hC0 HC
      have hn64 : n0 ≤ 64 := by have := (chkP_ok HC0.out).1; rw [List.length_map, HL.out] at this; exact this
      by_cases hn0 : n0 = 0
      · have hnI : ((n0 : Int) == 0) = true := by rw [hn0]; rfl
        clear hn0
        go_wp2
        go_ret
        exact ⟨rfl, HB3.out⟩
      have hnI : ((n0 : Int) == 0) = false := by simp; exact hn0
      obtain ⟨T, rfl⟩ : ∃ T : Nat, x1 = (T : Int) := ⟨x1.toNat, by omega⟩
      have hT : T ≤ 255 := by omega
      obtain ⟨B, hB⟩ : ∃ B, w.heap.size = B := ⟨_, rfl⟩
      have HBB := bx hB
      rw [hB] at HB3
      have HRR : Bx (RIt w B A0 l0) := bx (by rw [← hB]; exact HR0.out)
      have HP0 : Bx (OthR w w3 B (.slice none 0 0) l0 T 0 [] (fun _ => false)) := bx ⟨OwS.nil, rfl, (fun _ h => by cases h), HB3.out⟩
      clear hB HB3 HR0 h11 h12
      go_wp2_with fail
      go_loopw [7, 35] (fun V iv wx => ∃ k : Nat, ∃ M : List It, ∃ q : Nat → Bool, k ≤ n0 ∧ iv = .int .i64 (k : Int) ∧ Bx (OthR w wx B V l0 T k M q)) (fun _ i _ => n0 - (intOf i).toNat)
      case atStart => exact ⟨0, [], _, by omega, rfl, HP0⟩
      case round =>
        clear HP0
        obtain ⟨k, M, q, hk, rfl, HP⟩ := hrel
        have hBw : B ≤ w.heap.size := Nat.le_of_eq HBB.out.symm
        have hBz : B ≤ wr.heap.size := Nat.le_trans hBw HP.out.b.size
        obtain ⟨AP, cP, rfl, _, _⟩ := OwS.rd HP.out.own
        have hPl : M.length = k := HP.out.len (by rw [HL.out]; exact hk)
        rw [hPl] at HP ⊢
        by_cases hkn : k < n0
        · have hkI : (k : Int) < (n0 : Int) := by omega
          have hrr : RIt wr B A0 l0 := HRR.out.below HP.out.b (Nat.le_refl _)
          obtain ⟨r, hr⟩ : ∃ r, (k + T) % n0 = r := ⟨_, rfl⟩
          have hrn : r < n0 := by rw [← hr]; exact Nat.mod_lt _ (by omega)
          have hrm : ((k : Int) + (T : Int)) % (n0 : Int) = (r : Int) := by rw [← hr, Int.natCast_emod, Int.natCast_add]
          have hrt : ((k : Int) + (T : Int)).tmod (n0 : Int) = (r : Int) := by rw [Int.tmod_eq_emod_of_nonneg (by omega)]; exact hrm
          have HRN := bx hr
          obtain ⟨ad, x, sn, rfl, hlt, HX, HSN, k0, k1, k2, HSX⟩ := hrr.itm (k := r) (by rw [HL.out]; exact hrn)
          have hsn : (⟨x.name.toArray⟩ : ByteArray) = sn := by rw [← HSN.out]
          have hr1 : (r : Int) < (n0 : Int) := by omega
          have hr2 : (0 : Int) ≤ (r : Int) := by omega
          clear hr hrr
          go_upto_region 11 with (fail)
          generalize (bits BinOp.and IntKind.u16 (x2 / 2 ^ (k % 16)) 1 == 1) = bq
          have HN : Bx ((M.length + [(⟨x.name, x.s, bq⟩ : It)].length) * 48 ≤ 140737488355328) := bx (by rw [hPl]; simp only [List.length_cons, List.length_nil]; omega)
          have HCS : Bx ((#[.string sn, .slice x.s.A x.s.n x.s.c, .bool bq] : Array Value).toList = itC ⟨x.name, x.s, bq⟩) := bx (by rw [← hsn]; rfl)
          have HP1 := bx (HP.out.below hBw (bl_alloc (bl_alloc (Below.refl wr.heap.size wr) (Nat.le_refl _) (.cells #[.string sn, .slice x.s.A x.s.n x.s.c, .bool bq] 30)) (Nat.le_refl _) (.cells #[.string sn, .slice x.s.A x.s.n x.s.c, .bool bq] 30)))
          have hz1 : B ≤ ((wr.alloc (.cells #[.string sn, .slice x.s.A x.s.n x.s.c, .bool bq] 30)).alloc (.cells #[.string sn, .slice x.s.A x.s.n x.s.c, .bool bq] 30)).heap.size := Nat.le_trans hBz (by simp; omega)
          have HNW : Bx (RS itC ((wr.alloc (.cells #[.string sn, .slice x.s.A x.s.n x.s.c, .bool bq] 30)).alloc (.cells #[.string sn, .slice x.s.A x.s.n x.s.c, .bool bq] 30)) (wr.heap.size + 1 + 1) (some ⟨wr.heap.size + 1, 0, none⟩) [⟨x.name, x.s, bq⟩]) := bx (RS.newAt (g := wr.heap.size + 1) _ _ _ HCS.out _ _ (by simp))
          have HXR : Bx (l0[(k + T) % l0.length]? = some x) := bx (by rw [HL.out, HRN.out]; exact HX.out)
          clear hsn HP hrm hrt
          go_wp2_with (at_builtin; refine wpList_appS _ itCels rfl (.tmp 56) (.tmp 58) rfl itmTy (by decide) B (.slice AP k cP) M rfl HP1.out.own (wr.heap.size + 1 + 1) (some ⟨wr.heap.size + 1, 0, none⟩) 1 1 [⟨x.name, x.s, bq⟩] rfl rfl HNW.out HN.out hz1 ?_; intro V5 w5 hO5 hg5 hv5 _; obtain ⟨q5, hq5⟩ := HP1.out.app hz1 (by rw [HL.out]; exact hkn) HXR.out bq hO5 hg5; have HP5 := bx hq5; clear hO5 hg5 hv5 hq5)
          go_roundw
          case rel => exact ⟨k + 1, _, _, by omega, by go_num, HP5⟩
          case measure => simp [intOf]; omega
        · have hkI : ¬ (k : Int) < (n0 : Int) := by omega
          obtain rfl : n0 = k := by omega
          have HML := bx hPl
          clear hPl
          go_wp2_with fail
          obtain ⟨g2, hg2⟩ : ∃ g2, wr.heap.size = g2 := ⟨_, rfl⟩
          have HK4 := bx (Bk.newAt wr 22 #[.slice A0 n0 c0, .slice AP n0 cP] hg2)
          have HP4 := bx (HP.out.below hBw (bl_alloc (Below.refl wr.heap.size wr) (Nat.le_refl _) (.cells #[.slice A0 n0 c0, .slice AP n0 cP] 22)))
          rw [hg2]
          generalize wr.alloc (.cells #[.slice A0 n0 c0, .slice AP n0 cP] 22) = w4 at HK4 HP4 ⊢
          have HW4 := bx (Below.refl w4.heap.size w4)
          clear hg2 HP hBz hk hkn hkI
          go_loopw [65] (fun iv wx => ∃ j : Nat, j ≤ 2 ∧ iv = .int .i64 (j : Int) ∧ Bx (Below w4.heap.size w4 wx)) (fun i _ => 2 - (intOf i).toNat)
          case atStart => exact ⟨0, by omega, rfl, HW4⟩
          case round =>
            clear HW4
            obtain ⟨j, hj, rfl, HW⟩ := hrel
            have HPr := bx (HP4.out.below hBw HW.out)
            have hBr : B ≤ wr.heap.size := Nat.le_trans hBw HPr.out.b.size
            by_cases hj2 : j < 2
            · have hjI : (j : Int) < 2 := by omega
              have hKr := HK4.out.below HW.out HK4.out.lt
              have hRr := (HRR.out.below HPr.out.b (Nat.le_refl _)).more hBr
              obtain ⟨AX, cX, LX, hcell, hok⟩ : ∃ AX cX LX, wr.cell? ⟨g2, j, none⟩ = some (.slice AX n0 cX) ∧ RowOk wr (l0.map It.p) n0 AX cX LX := by
                rcases (by omega : j = 0 ∨ j = 1) with rfl | rfl
                · exact ⟨A0, c0, l0, (hKr.cell 0).trans rfl, rowOk_own HL.out hc0 hRr HS.out HC0.out⟩
                · exact ⟨AP, cP, M, (hKr.cell 1).trans rfl, rowOk_oth HPr.out HL.out hRr HS8.out HC0.out⟩
              have HOK := bx hok
              have HMr : Bx (wr.cell? ⟨0, 0, none⟩ = some (.int .i64 mx)) := bx (cell_old (by rw [HBB.out]; exact HPr.out.b) HM.out)
              have HMK := bx (bmake_any AX n0 cX LX mx wr hok.len hok.cap b0 hok.sz hok.rit HMr.out)
              clear hKr hRr hok
              go_wp2_with fail
              refine HMK.out.mono ?_
              intro e w5 hp
              clear hcell
              rcases lay_two HOK.out.chk with h8 | ⟨b, hb⟩
              · obtain ⟨rfl, hb5, _⟩ := bkErr hp h8
                have HB5 : Bx (Below w.heap.size w w5) := bx (by rw [HBB.out]; exact HPr.out.b.trans (hb5.mono hBr))
                clear hp hb5 h8 HMK
                go_wp2
                go_ret
                exact ⟨rfl, HB5.out⟩
              obtain ⟨A3, n3, c3, rfl, hn3, hr3, hnc3, hcm3, hb5, hn65⟩ := bkOk hp hb
              have HW5 := bx (HW.out.trans (hb5.mono HW.out.size))
              have HR3 := bx hr3
              have HLB := bx hb
              have HEN := bx (rend_any A3 n3 c3 b w5 hn3.out.symm (by omega) hnc3 hcm3 hr3)
              clear hp hb hb5 hr3 HMK HW HPr hBr HMr
              go_wp2_with fail
              refine HEN.out.mono ?_
              rintro e w6 ⟨rfl, hb6⟩
              have HW6 := bx (HW5.out.trans (hb6.mono HW5.out.size))
              have HR6 := bx (HR3.out.step hb6)
              clear hb6 HEN HW5 HR3
              unfold endI
              cases hend : endP b with
              | none =>
                dsimp only
                clear hend
                go_wp2
                go_roundw
                case rel => exact ⟨j + 1, by omega, by go_num, HW6⟩
                case measure => simp [intOf]; omega
              | some p =>
                dsimp only
                have HF := bx (HOK.out.fnd b p HLB.out hend)
                have hpI : ¬ (p : Int) < 0 := by omega
                clear hend HLB
                go_wp2_with fail
                have HV0 := bx (Below.refl w6.heap.size w6)
                have hB6 : B ≤ w6.heap.size := Nat.le_trans (Nat.le_trans hBw HP4.out.b.size) HW6.out.size
                go_loopw [83] (fun iv wx => ∃ i : Nat, i ≤ n0 ∧ iv = .int .i64 (i : Int) ∧ Bx (Below w6.heap.size w6 wx)) (fun i _ => n0 - (intOf i).toNat)
                case atStart => exact ⟨0, by omega, rfl, HV0⟩
                case round =>
                  clear HV0
                  obtain ⟨i, hi, rfl, HV⟩ := hrel
                  have HWi := bx (HW6.out.trans (HV.out.mono HW6.out.size))
                  by_cases hin : i < n0
                  · have hiI : (i : Int) < (n0 : Int) := by omega
                    have HPi := bx (HP4.out.below hBw HWi.out)
                    have hBi : B ≤ wr.heap.size := Nat.le_trans hBw HPi.out.b.size
                    have hrr : RIt wr B A0 l0 := HRR.out.below HPi.out.b (Nat.le_refl _)
                    obtain ⟨ad, x, sn, rfl, hlt, HX, HSN, k0, k1, k2, HSX⟩ := hrr.itm (k := i) (by rw [HL.out]; exact hin)
                    have hx8 : x.s.n ≤ 8000 := by rw [← HSX.out.1]; exact (HS8.out x (List.mem_of_getElem? HX.out)).1
                    have HFX : Bx (findP b sn.data.toList = .ok x.s.l) := bx (by rw [HSN.out]; exact HF.out x.p (List.mem_map_of_mem (List.mem_of_getElem? HX.out)))
                    obtain ⟨gx, hgx⟩ : ∃ gx, wr.heap.size = gx := ⟨_, rfl⟩
                    have HKX := bx (Bk.newAt wr 30 #[.string sn, .slice x.s.A x.s.n x.s.c, .bool x.sq] hgx)
                    have hbA := bl_alloc (Below.refl wr.heap.size wr) (Nat.le_refl _) (.cells #[.string sn, .slice x.s.A x.s.n x.s.c, .bool x.sq] 30)
                    have HVA := bx (HV.out.trans (hbA.mono HV.out.size))
                    have HMA : Bx ((wr.alloc (.cells #[.string sn, .slice x.s.A x.s.n x.s.c, .bool x.sq] 30)).cell? ⟨0, 0, none⟩ = some (.int .i64 mx)) := bx (cell_old hbA (cell_old (by rw [HBB.out]; exact HPi.out.b) HM.out))
                    have HRA := bx (HR6.out.step HVA.out)
                    have HSA : Bx (SlB (wr.alloc (.cells #[.string sn, .slice x.s.A x.s.n x.s.c, .bool x.sq] 30)) B x.s) := bx (HSX.out.below hbA hBi)
                    have hkA := HKX.out.cell 0
                    have HGX := bx hgx
                    rw [hgx] at hbA
                    clear hrr hgx HPi HV HWi hbA HSX hkA
                    go_upto_region 23 with (fail)
                    rw [HGX.out]
                    generalize wr.alloc (.cells #[.string sn, .slice x.s.A x.s.n x.s.c, .bool x.sq] 30) = wA at HKX HVA HMA HRA HSA ⊢
                    have hc0 : wA.cell? ⟨gx, 0, none⟩ = some (.string sn) := (HKX.out.cell 0).trans rfl
                    have HFD := bx (find_any A3 n3 c3 b sn wA mx hn3.out.symm (by omega) hnc3 hcm3 HRA.out HMA.out)
                    clear HMA HRA HGX k0 k1 k2
                    go_wp2_with fail
                    refine HFD.out.mono ?_
                    intro e w7 hp
                    obtain ⟨A4, n4, c4, rfl, hn4, hr4, _, _, hb4, _, hn432⟩ := unpOk hp HFX.out
                    have HV7 := bx (HVA.out.trans (hb4.mono HVA.out.size))
                    have hc1 : w7.cell? ⟨gx, 1, none⟩ = some (.slice x.s.A x.s.n x.s.c) := ((HKX.out.below hb4 HKX.out.lt).cell 1).trans rfl
                    have hB7 : B ≤ w7.heap.size := Nat.le_trans hB6 HV7.out.size
                    have hBA : B ≤ wA.heap.size := Nat.le_trans hB6 HVA.out.size
                    have HSM := bx (same_any x.s.A A4 x.s.n x.s.c n4 c4 w7 x.s.l x.s.l HSA.out.1 hn4.out.symm (by omega) (by omega) ((HSA.out.below hb4 hBA).more hB7).2.2.2 hr4)
                    rw [decT_self] at HSM
                    clear hp hr4 hb4 HFD hc0 hn4 HVA HKX HSA
                    go_wp2_with fail
                    refine HSM.out.mono ?_
                    rintro e w8 ⟨rfl, hb8⟩
                    have HV8 := bx (HV7.out.trans (hb8.mono HV7.out.size))
                    clear hb8 HSM HV7 hc1
                    go_wp2
                    go_roundw
                    case rel => exact ⟨i + 1, by omega, by go_num, HV8⟩
                    case measure => simp [intOf]; omega
                  · have hiI : ¬ (i : Int) < (n0 : Int) := by omega
                    clear HV
                    go_wp2
                    go_roundw
                    case rel => exact ⟨j + 1, by omega, by go_num, HWi⟩
                    case measure => simp [intOf]; omega
            · have hjI : ¬ (j : Int) < 2 := by omega
              have HB9 : Bx (Below w.heap.size w wr) := bx (by rw [HBB.out]; exact HPr.out.b)
              go_wp2
              go_ret
              exact ⟨rfl, HB9.out⟩
end Go.Proofs.YtnkdpchnighkfaaDoor
