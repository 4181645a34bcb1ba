/- Contracts: (*image.sink).put over a growing row, attrs. -/
import Derived.Test.YtdioijhmmmnbgaaQiImQ
import Derived.Test.YtdioijhmmmnbgaaQiImI
namespace Go.Proofs.Ytdioijhmmmnbgaa
open Go.RowKit
/-- A sink in block g that holds l; nothing below B has turned since w. -/
structure SkR (w wx : World) (B g : Nat) (v : Value) (l : List UInt8) : Prop where
  rws : Rws 74 5 wx B g v l
  bel : Below B w wx
  g0 : B ≤ g
  vg : v.ownBlock ≠ some g
  z : B ≤ wx.heap.size
theorem SkR.low {w wx : World} {B g : Nat} {v : Value} {l : List UInt8} (h : SkR w wx B g v l) : ∀ k, Fpt g v k → B ≤ k ∧ k < wx.heap.size := fun k hk => by
  rcases hk with e | e
  · rw [e]; exact ⟨h.g0, h.rws.1.lt⟩
  · exact World.ownsRow.lt h.rws.2 k e
theorem SkR.below {w wx w' : World} {B g : Nat} {v : Value} {l : List UInt8} (h : SkR w wx B g v l) (hb : Below wx.heap.size wx w') : SkR w w' B g v l :=
  ⟨h.rws.below hb, h.bel.trans (hb.mono h.z), h.g0, h.vg, Nat.le_trans h.z hb.size⟩
theorem SkR.cell {w wx : World} {B g : Nat} {v : Value} {l : List UInt8} (h : SkR w wx B g v l) : wx.cell? ⟨g, 0, none⟩ = some v := (h.rws.1.cell 0).trans rfl
/-- What turned from w to w', the row being v and then v'. -/
def SkC (g : Nat) (w : World) (v : Value) (w' : World) (v' : Value) : Prop := Ch w w' (Fpt g v) ∧ (v'.ownBlock = v.ownBlock ∨ ∃ b, v'.ownBlock = some b ∧ w.heap.size ≤ b)
theorem SkC.refl (g : Nat) (w : World) (v : Value) : SkC g w v w v := ⟨Ch.refl w, .inl rfl⟩
theorem SkC.trans {g : Nat} {a b c : World} {v v' v'' : Value} (h : SkC g a v b v') (k : SkC g b v' c v'') : SkC g a v c v'' := ⟨h.1.trans k.1 (fun i hi hs => by
  rcases hs with e | e
  · exact .inl e
  · rcases h.2 with e2 | ⟨b, e2, hb⟩
    · exact .inr (e2 ▸ e)
    · rw [e2] at e; injection e with e; omega), by
  rcases k.2 with e | ⟨b2, e, hb⟩
  · rcases h.2 with e2 | ⟨b, e2, hb⟩
    · exact .inl (e.trans e2)
    · exact .inr ⟨b, e.trans e2, hb⟩
  · exact .inr ⟨b2, e, Nat.le_trans h.1.size hb⟩⟩
theorem SkC.below {g : Nat} {w wx w' : World} {v v' : Value} (h : SkC g w v wx v') (hb : Below wx.heap.size wx w') : SkC g w v w' v' := h.trans ⟨Ch.of_below hb, .inl rfl⟩
def SkPost (w0 w : World) (B g : Nat) (v : Value) (l : List UInt8) (e : Ending) (w' : World) : Prop := (∃ q, e = .returned q) ∧ ∃ v', SkR w0 w' B g v' l ∧ SkC g w v w' v'
theorem Bk.skc {w w' : World} {C g : Nat} {t : TypeId} {cs : Array Value} {v v' : Value} (h : Bk w C t cs) (hc : SkC g w v w' v') (hg : C ≠ g) (hv : v.ownBlock ≠ some C) : Bk w' C t cs := h.ch hc.1 (fun hf => by
  rcases hf with e | e
  · exact hg e
  · exact hv e)
theorem SkR.ch {w wx w' : World} {B g : Nat} {v v' : Value} {l l' : List UInt8} (h : SkR w wx B g v l) (hr : Rws 74 5 w' B g v' l') (hc : Ch wx w' (Fpt g v)) (hv : v'.ownBlock = v.ownBlock ∨ ∃ b, v'.ownBlock = some b ∧ wx.heap.size ≤ b) : SkR w w' B g v' l' :=
  ⟨hr, h.bel.trans ⟨hc.os, hc.tape, hc.output, hc.size, fun k hk => hc.same k (Nat.lt_of_lt_of_le hk h.z) (fun hf => by have := (h.low k hf).1; omega)⟩, h.g0, own_ne h.vg h.rws.1.lt hv, Nat.le_trans h.z hc.size⟩
theorem sk_put (B g n k c : Nat) (v : Value) (o l : List UInt8) (A : Option Addr) (xs : List Int) (w0 w : World) (h : SkR w0 w B g v o) (hx : xs.length = k) (hX : RL iV w w.heap.size A xs) (hA : xs ≠ [] → ∀ ad, A = some ad → ¬ Fpt g v ad.block)
    (h1 : 1 ≤ n) (h8 : n ≤ 8) (hk : k ≤ 64) (ho : o.length ≤ 1000000000000) (hl : o ++ xs.flatMap (beB n) = l) :
    Calls Try.prog 41 #[.pointer (some ⟨g, 0, none⟩), .int .i64 (n : Int), .slice A k c] w (SkPost w0 w B g v l) := by
  refine (sput_any B g n k c v o A xs w h.rws h.z h.vg hx hX hA h1 h8 hk ho).mono ?_
  rintro e w' ⟨hq, v', h1, h2, h3⟩
  exact ⟨hq, v', hl ▸ h.ch h1 h2 h3, h2, h3⟩
/-- A new row of numbers is put. -/
theorem sk_new (B g n k : Nat) (v : Value) (o l : List UInt8) (xs : List Int) (cs : Array Value) (w0 w : World) (h : SkR w0 w B g v o) (hx : xs.length = k) (hcs : cs.toList = xs.map iV)
    (h1 : 1 ≤ n) (h8 : n ≤ 8) (hk : k ≤ 64) (ho : o.length ≤ 1000000000000) (hl : o ++ xs.flatMap (beB n) = l) :
    Calls Try.prog 41 #[.pointer (some ⟨g, 0, none⟩), .int .i64 (n : Int), .slice (some ⟨w.heap.size, 0, none⟩) k k] (w.alloc (.cells cs 3)) (SkPost w0 w B g v l) := by
  refine (sk_put B g n k k v o l _ xs w0 _ (h.below (bl_alloc (Below.refl _ _) (Nat.le_refl _) _)) hx ?_ ?_ h1 h8 hk ho hl).mono ?_
  · exact RL.top (RL.news w xs cs hcs _ _)
  · intro _ ad e hf
    injection e with e
    subst e
    have := (h.low _ hf).2
    exact Nat.lt_irrefl _ this
  · rintro e w' ⟨hq, v', hr, hc⟩
    exact ⟨hq, v', hr, ((SkC.refl g w v).below (bl_alloc (Below.refl _ _) (Nat.le_refl _) _)).trans hc⟩
theorem attB_len (x : Att) : (attB x).length = 6 + x.data.length := by unfold attB; rw [List.length_append, List.length_append, beB_len, beB_len]; omega
theorem atts_len (M : List AtE) (hd : ∀ x ∈ M, x.s.l.length ≤ 32768) : ((M.map AtE.p).flatMap attB).length ≤ 32774 * M.length := by
  induction M with
  | nil => simp
  | cons x r ih =>
    have h1 := hd x (by simp)
    have h2 := ih (fun y hy => hd y (by simp [hy]))
    rw [List.map_cons, List.flatMap_cons, List.length_append, attB_len, List.length_cons]
    show 6 + x.s.l.length + _ ≤ _
    omega
set_option maxRecDepth 100000 in
set_option maxHeartbeats 8000000 in
theorem sk_attrs (B g : Nat) (v : Value) (o : List UInt8) (Aa : Option Addr) (na ca : Nat) (M : List AtE) (w0 w : World) (h : SkR w0 w B g v o) (hm : M.length = na) (h64 : na ≤ 64) (hd : ∀ x ∈ M, x.s.l.length ≤ 32768) (ha : RA w0 B Aa M) (ho : o.length ≤ 900000000000) :
    Calls Try.prog 43 #[.pointer (some ⟨g, 0, none⟩), .slice Aa na ca] w (SkPost w0 w B g v (o ++ attsB (M.map AtE.p))) := by
  have HM := bx hm
  have HA := bx ha
  have HD := bx hd
  have HO := bx ho
  have H0 := bx h
  obtain ⟨l0, hl0⟩ : ∃ l0, o ++ [(na : Int)].flatMap (beB 2) = l0 := ⟨_, rfl⟩
  have HL0 := bx hl0
  have HLL : Bx (o ++ attsB (M.map AtE.p) = l0 ++ (M.map AtE.p).flatMap attB) := bx (by
    rw [← hl0]
    unfold attsB
    rw [List.length_map, hm]
    simp)
  have HLN : Bx (l0.length ≤ 900000000002) := bx (by rw [← hl0]; simp [beB_len]; omega)
  have HP0 := bx (sk_new B g 2 1 v o l0 [(na : Int)] #[.int .i64 (na : Int)] w0 w h rfl rfl (by decide) (by decide) (by decide) (by omega) hl0)
  clear h hm ha hd ho hl0
  go_enter Try.func43, Try.ntmps43
  go_wp2_with fail
  refine HP0.out.mono ?_
  rintro e w1 ⟨⟨_, rfl⟩, v1, h1, hc1⟩
  have HS0 : Bx (SkR w0 w1 B g v1 (l0 ++ ((M.take 0).map AtE.p).flatMap attB)) := bx (by simpa using h1)
  have HC0 := bx hc1
  clear h1 hc1 HP0
  go_wp2
  go_loopw [13] (fun iv wx => ∃ (j : Nat) (vj : Value), j ≤ na ∧ iv = .int .i64 (j : Int) ∧ Bx (SkR w0 wx B g vj (l0 ++ ((M.take j).map AtE.p).flatMap attB)) ∧ Bx (SkC g w v wx vj)) (fun iv _ => na - (intOf iv).toNat)
  case atStart => exact ⟨0, v1, by omega, rfl, HS0, HC0⟩
  case round =>
    clear HS0 HC0
    obtain ⟨j, vj, hj, rfl, HS, HC⟩ := hrel
    by_cases hjn : j < na
    · have hjI : (j : Int) < (na : Int) := by omega
      obtain ⟨ad, x, rfl, hlt, HX, p0, p1, HSX⟩ := (HA.out.below HS.out.bel (Nat.le_refl _)).at_ (k := j) (by rw [HM.out]; exact hjn)
      have hxn : x.s.n ≤ 32768 := by have := HD.out x (List.mem_of_getElem? HX.out); have := HSX.out.1; omega
      have HXL := bx HSX.out.1
      obtain ⟨lj, hlj⟩ : ∃ lj, l0 ++ ((M.take j).map AtE.p).flatMap attB = lj := ⟨_, rfl⟩
      have hln : lj.length ≤ 900002097540 := by
        rw [← hlj, List.length_append]
        have h1 := atts_len (M.take j) (fun y hy => HD.out y (List.mem_of_mem_take hy))
        have h2 : (M.take j).length ≤ 64 := by rw [List.length_take]; omega
        have := HLN.out
        omega
      have HLJ := bx hlj
      rw [hlj] at HS
      obtain ⟨C, hC⟩ : ∃ C, wr.heap.size = C := ⟨_, rfl⟩
      have hgC : C ≠ g ∧ vj.ownBlock ≠ some C := ⟨fun e => by have := (HS.out.low g (.inl rfl)).2; omega, fun e => by have := (HS.out.low C (.inr e)).2; omega⟩
      have HGC := bx hgC
      have HKB := bx (Bk.newAt wr 71 #[.int .i64 x.name, .slice x.s.A x.s.n x.s.c] hC)
      have HBW := bx (bl_alloc (Below.refl wr.heap.size wr) (Nat.le_refl _) (.cells #[.int .i64 x.name, .slice x.s.A x.s.n x.s.c] 71))
      have HCC := bx hC
      clear hC hgC hlj
      go_upto_region 4 with (fail)
      rw [HCC.out]
      generalize wr.alloc (.cells #[.int .i64 x.name, .slice x.s.A x.s.n x.s.c] 71) = wb at HKB HBW ⊢
      have HSB := bx (HS.out.below HBW.out)
      have HCB := bx (HC.out.below HBW.out)
      have c0 : wb.cell? ⟨C, 0, none⟩ = some (.int .i64 x.name) := (HKB.out.cell 0).trans rfl
      obtain ⟨la, hla⟩ : ∃ la, lj ++ [x.name].flatMap (beB 2) = la := ⟨_, rfl⟩
      obtain ⟨lb, hlb⟩ : ∃ lb, la ++ [(x.s.n : Int)].flatMap (beB 4) = lb := ⟨_, rfl⟩
      have hlan : la.length ≤ 900002097542 := by rw [← hla]; simp [beB_len]; omega
      have hlbn : lb.length ≤ 900002097546 := by rw [← hlb]; simp [beB_len]; omega
      have HPA := bx (sk_new B g 2 1 vj lj la [x.name] #[.int .i64 x.name] w0 wb HSB.out rfl rfl (by decide) (by decide) (by decide) (by omega) hla)
      have HLA := bx hla
      have HLB := bx hlb
      have HLAN := bx hlan
      have HLBN := bx hlbn
      clear p0 p1 HCC hln hla hlb hlan hlbn HSX HS HC
      go_wp2_with fail
      refine HPA.out.mono ?_
      rintro e w2 ⟨⟨_, rfl⟩, v2, hs2, hc2⟩
      have HK2 := bx (HKB.out.skc hc2 HGC.out.1 HGC.out.2)
      have HG2 : Bx (v2.ownBlock ≠ some C) := bx (by
        rcases hc2.2 with e | ⟨b, e, hb⟩
        · rw [e]; exact HGC.out.2
        · rw [e]; intro e2; injection e2 with e2; have := HKB.out.lt; omega)
      have HS2 := bx hs2
      have HC2 := bx (HCB.out.trans hc2)
      have HPB := bx (sk_new B g 4 1 v2 la lb [(x.s.n : Int)] #[.int .i64 (x.s.n : Int)] w0 w2 hs2 rfl rfl (by decide) (by decide) (by decide) (by have := HLAN.out; omega) HLB.out)
      have c1 : w2.cell? ⟨C, 1, none⟩ = some (.slice x.s.A x.s.n x.s.c) := (HK2.out.cell 1).trans rfl
      clear hs2 hc2 c0 HPA
      go_wp2_with fail
      refine HPB.out.mono ?_
      rintro e w3 ⟨⟨_, rfl⟩, v3, hs3, hc3⟩
      have HK3 := bx (HK2.out.skc hc3 HGC.out.1 HG2.out)
      have HS3 := bx hs3
      have HC3 := bx (HC2.out.trans hc3)
      have c1 : w3.cell? ⟨C, 1, none⟩ = some (.slice x.s.A x.s.n x.s.c) := (HK3.out.cell 1).trans rfl
      have s1 : w3.cell? ⟨g, 0, none⟩ = some v3 := hs3.cell
      clear hs3 hc3 HPB
      go_upto_region 6 with (fail)
      have hRX := ((HA.out.2 x (List.mem_of_getElem? HX.out)).below HS3.out.bel (Nat.le_refl _)).2.2.2
      have HRX := bx hRX
      have HN : Bx ((lb.length + x.s.l.length) * 1 ≤ 140737488355328) := bx (by have := HLBN.out; have := HXL.out; omega)
      have hS0 : w3.drew.cell? ⟨g, 0, none⟩ = some v3 := s1
      have hS1 : w3.drew.cell? ⟨C, 1, none⟩ = some (.slice x.s.A x.s.n x.s.c) := c1
      have hbase : B ≤ w3.drew.heap.size := HS3.out.z
      clear hRX
      go_region_law ((refine step_appL w3.drew bV_one rfl (.tmp 32) (.tmp 34) rfl byteTyP (by decide) B v3 lb rfl (OwL.drew HS3.out.rws.2) B x.s.A x.s.n x.s.c x.s.l rfl HXL.out (RL.drew HRX.out) HN.out hbase ?_; intro v5 w5 hO5 hg5 hv5 hb5; obtain ⟨A5, n5, c5, rfl, hn5, hr5⟩ := OwL.sl hO5; have hK5 := (HS3.out.rws.1.drewN 1).grown hg5 (fun e => HS3.out.vg e.symm); have hc5 : w5.cell? ⟨g, 0, none⟩ = some v3 := (hK5.cell 0).trans rfl; have hf5 : w5.frozen? ⟨g, 0, none⟩ = false := hK5.frz 0))
      all_goals (
        obtain ⟨n1, n2, n3⟩ := Rws.next (more := x.s.l) HS3.out.rws (Ch.refl w3) (.inl rfl) HS3.out.rws.1.lt HS3.out.vg (below_drewN (Below.refl w3.heap.size w3) 1) hg5 hO5 hv5
        have N1 : Bx (SkR w0 (w5.setCell ⟨g, 0, none⟩ (.slice A5 n5 c5)) B g (.slice A5 n5 c5) (l0 ++ ((M.take (j + 1)).map AtE.p).flatMap attB)) := bx (by
          have h9 := HS3.out.ch n1 n2 n3
          have e : l0 ++ ((M.take (j + 1)).map AtE.p).flatMap attB = lb ++ x.s.l := by
            rw [take_snoc' HX.out, List.map_append, List.flatMap_append, ← List.append_assoc, HLJ.out, ← HLB.out, ← HLA.out]
            have e2 : [x].map AtE.p = [⟨x.name, x.s.l⟩] := rfl
            rw [e2]
            simp [attB, HXL.out]
          rw [e]; exact h9)
        have N2 := bx (HC3.out.trans ⟨n2, n3⟩)
        clear n1 n2 n3 hO5 hK5 hg5 hv5 hb5 hr5 hn5
        go_wp2
        go_roundw
        case rel => exact ⟨j + 1, _, by omega, by go_num, N1, N2⟩
        case measure => simp [intOf]; omega)
    · obtain rfl : j = na := by omega
      have hjI : ¬ (j : Int) < (j : Int) := by omega
      have hF : Bx (SkR w0 wr B g vj (o ++ attsB (M.map AtE.p))) := bx (by rw [HLL.out]; have := HS.out; rwa [List.take_of_length_le (by rw [HM.out]; exact Nat.le_refl _)] at this)
      go_wp2
      go_end0
      exact ⟨⟨_, rfl⟩, vj, hF.out, HC.out⟩
end Go.Proofs.Ytdioijhmmmnbgaa
