/- Contract of the document's reading: attrs. -/
import Derived.Test.YtdioijhmmmnbgaaQiRqA
import Derived.Test.YtdioijhmmmnbgaaQiImB
namespace Go.Proofs.Ytdioijhmmmnbgaa
open Go.RowKit
/-- The attributes that were read so far. -/
structure AtQ (w wx : World) (B g : Nat) (b : List UInt8) (V : Value) (L : List AtE) (s : Rz Nat) : Prop where
  own : OwS attC 2 wx B 71 V L
  sub : SubsA B wx V L
  src : Rg wx g b s
  ch : Ch w wx (Onl g)
  z : B ≤ wx.heap.size
  lo : g < B
section
variable {w wx w' : World} {B g : Nat} {b : List UInt8} {V V' : Value} {L : List AtE} {s s' : Rz Nat}
theorem AtQ.two (h : AtQ w wx B g b V L s) : ∀ k, Onl g k → k < B := Onl.lt h.lo
/-- The reading went on. -/
theorem AtQ.next (h : AtQ w wx B g b V L s) (hs : Rg w' g b s') (c : Ch wx w' (Onl g)) : AtQ w w' B g b V L s' :=
  ⟨h.own.ch c h.two, h.sub.ch c h.two, hs, h.ch.trans c (fun _ _ h => h), Nat.le_trans h.z c.size, h.lo⟩
theorem AtQ.below (h : AtQ w wx B g b V L s) (hb : Below wx.heap.size wx w') : AtQ w w' B g b V L s := h.next (h.src.below hb) (Ch.of_below hb)
theorem AtQ.alloc (h : AtQ w wx B g b V L s) (o : Obj) : AtQ w (wx.alloc o) B g b V L s := h.below (bl_alloc (Below.refl _ _) (Nat.le_refl _) o)
theorem AtQ.lt (h : AtQ w wx B g b V L s) : ∀ k, V.ownBlock = some k → B ≤ k ∧ k < wx.heap.size := fun k hk => World.ownsRow.lt h.own k hk
theorem AtQ.app {x : AtE} (h : AtQ w wx B g b V L s) (hx : SlX wx (Bel B wx V) x.s) (ho : OwS attC 2 w' B 71 V' (L ++ [x])) (hg : wx.grownBy w' V.ownBlock) (hv : V'.ownBlock = V.ownBlock ∨ V'.ownBlock = some wx.heap.size) (hB : w.heap.size ≤ B) : AtQ w w' B g b V' (L ++ [x]) s := by
  have hb : Below B wx w' := (Below.refl _ _).grown hg h.z fun k hk => (h.lt k hk).1
  have hsr : Rg w' g b s := h.src.low hb h.lo
  refine ⟨ho, h.sub.app (SubsA.one hx) hg hv, hsr, ?_, Nat.le_trans h.z hg.size, h.lo⟩
  exact ⟨hg.os.trans h.ch.os, hg.tape.trans h.ch.tape, hg.output.trans h.ch.output, Nat.le_trans h.ch.size hg.size, fun k hk hn => by
    refine (hg.block k (Nat.lt_of_lt_of_le hk h.ch.size) (fun e => ?_)).trans (h.ch.same k hk hn)
    have := (h.lt k e.symm).1
    omega⟩
end
/-- What reading attributes leaves. -/
def AttsPostQ (w : World) (g : Nat) (b : List UInt8) (R : Rz (List Att × Nat)) (e : Ending) (w' : World) : Prop := ∃ V L, e = .returned V ∧ AtQ w w' w.heap.size g b V L (stR R) ∧ L.length ≤ 64 ∧ ∀ x, R = .ok x → L.map AtE.p = x.1
theorem okb {α β : Type} {r : Rz (α × Nat)} {A : Py β} {b : List UInt8} {z : β × Nat} (h : onR (stR r) A b = .ok z) : ∃ x, r = .ok x := by
  cases r with
  | err k => cases h
  | ok x => exact ⟨x, rfl⟩
theorem st_ok {α : Type} {r : Rz (α × Nat)} {p : Nat} (h : stR r = .ok p) : ∃ x, r = .ok x := by
  cases r with
  | err k => cases h
  | ok x => exact ⟨x, rfl⟩
/-- A round that met an error. -/
theorem att_bad {b : List UInt8} {acc : List Att} {p m : Nat} {k : Int} {R : Rz (List Att × Nat)} {r1 r2 : Rz (Nat × Nat)} (hR : repR attP b acc (.ok p) (m + 1) = R) (h1 : onR (.ok p) (rdN 2) b = r1) (h2 : onR (stR r1) (rdN 4) b = r2) (he : stR r2 = .err k) : repR attP b acc (.err k) m = R := by
  obtain ⟨n, hn⟩ : ∃ n : Nat, valN r2 = (n : Int) := ⟨(valN r2).toNat, by have := (valN_lt 4 (stR r1) b).1; rw [h2] at this; omega⟩
  have e := att_round hR h1 h2 hn rfl
  rw [he, onR_err, stR_err, repR_err] at e
  rw [repR_err]; exact e
set_option maxRecDepth 100000 in
set_option maxHeartbeats 4000000 in
theorem rattrs14_any (g : Nat) (b : List UInt8) (s : Rz Nat) (w : World) (h : Rg w g b s) :
    Calls Try.prog 37 #[.pointer (some ⟨g, 0, none⟩)] w (AttsPostQ w g b (onR s attsP b)) := by
  obtain ⟨R, hR⟩ : ∃ R, onR s attsP b = R := ⟨_, rfl⟩
  rw [hR]
  have hlt := h.lt
  have HM := bx (rcount_any g b s w h)
  obtain ⟨r, hr⟩ : ∃ r, onR s cntI b = r := ⟨_, rfl⟩
  have hv := cnt_le (s := s) (b := b)
  rw [hr] at HM hv
  obtain ⟨n, hn⟩ : ∃ n : Nat, valN r = (n : Int) := ⟨(valN r).toNat, by omega⟩
  rw [hn] at HM hv
  have HR0 : Bx (repR attP b [] (stR r) n = R) := bx (by rw [← many_rep hr hn]; exact hR)
  have hn64 : n ≤ 64 := by omega
  obtain ⟨B, hB⟩ : ∃ B, w.heap.size = B := ⟨_, rfl⟩
  have HB := bx hB
  have hg9 : g < B := by omega
  clear h hR hr hv hn hlt hB
  go_enter Try.func37, Try.ntmps37
  go_wp2_with fail
  refine HM.out.mono ?_
  rintro e w1 ⟨rfl, hs1, hc1⟩
  have HA0 : Bx (AtQ w w1 B g b (.slice none 0 0) [] (stR r)) := bx ⟨OwS.nil, SubsA.nil, hs1, hc1, by rw [← HB.out]; exact hc1.size, hg9⟩
  clear hs1 hc1 HM
  go_wp2_with fail
  go_loopw [3, 4] (fun V nv wx => ∃ (m : Nat) (L : List AtE) (s' : Rz Nat), nv = .int .i64 (m : Int) ∧ L.length + m ≤ 64 ∧ Bx (AtQ w wx B g b V L s') ∧ Bx (repR attP b (L.map AtE.p) s' m = R)) (fun _ nv _ => (intOf nv).toNat)
  case atStart => exact ⟨n, [], stR r, rfl, by simpa using hn64, HA0, HR0⟩
  case round =>
    clear HA0 HR0
    obtain ⟨m, L, s', rfl, hLm, HA, HRR⟩ := hrel
    obtain ⟨AV, cV, rfl, _, _⟩ := OwS.rd HA.out.own
    obtain ⟨nV, hnV⟩ : ∃ nV, L.length = nV := ⟨_, rfl⟩
    have HNV := bx hnV
    rw [hnV] at HA ⊢
    clear hnV
    have hfin : (m = 0 ∨ ∃ k, s' = .err k) → AttsPostQ w g b R (.returned (.slice AV nV cV)) wr := fun h => by
      obtain ⟨e1, e2⟩ := rep_end HRR.out h
      exact ⟨_, L, rfl, by rw [e1, HB.out]; exact HA.out, by omega, e2⟩
    have HFIN := bx hfin
    clear hfin
    cases s' with
    | err k =>
      obtain ⟨⟨ae, be, hB1⟩, hk0⟩ := HA.out.src.err_
      obtain ⟨_, _, c3, _, _⟩ := hB1.cells
      have hkI : (k == 0) = false := by rw [beq_eq_false_iff_ne]; exact hk0
      have HF := bx (HFIN.out (.inr ⟨k, rfl⟩))
      clear hB1 hk0 HFIN
      by_cases hm : m = 0
      · have hmI : ¬ (0 : Int) < (m : Int) := by omega
        clear hm
        go_wp2
        go_ret
        exact HF.out
      · have hmI : (0 : Int) < (m : Int) := by omega
        clear hm
        go_wp2
        go_ret
        exact HF.out
    | ok p =>
      obtain ⟨_, _, c3, _, _⟩ := HA.out.src.ok_.cells
      cases m with
      | zero =>
        have hmI : ¬ (0 : Int) < ((0 : Nat) : Int) := by omega
        have HF := bx (HFIN.out (.inl rfl))
        clear HFIN
        go_wp2
        go_ret
        exact HF.out
      | succ m =>
        have hmI : (0 : Int) < ((m + 1 : Nat) : Int) := by omega
        obtain ⟨r1, h1⟩ : ∃ r, onR (.ok p) (rdN 2) b = r := ⟨_, rfl⟩
        have HN1 := bx (rnum_any g 2 65536 b (.ok p) wr HA.out.src (by decide) (by decide) (by decide))
        rw [h1] at HN1
        have H1 := bx h1
        clear h1 HFIN
        go_wp2_with fail
        refine HN1.out.mono ?_
        rintro e w1 ⟨v1, rfl, hv10, hv11, hx1, hs1, hc1⟩
        have HA1 := bx (HA.out.next hs1 hc1)
        have HV1 := bx hx1
        clear hs1 hc1 hx1 HN1 HA c3
        obtain ⟨r2, h2⟩ : ∃ r, onR (stR r1) (rdN 4) b = r := ⟨_, rfl⟩
        have HN1 := bx (rnum_any g 4 4294967296 b (stR r1) w1 HA1.out.src (by decide) (by decide) (by decide))
        rw [h2] at HN1
        have H2 := bx h2
        clear h2
        go_wp2_with fail
        refine HN1.out.mono ?_
        rintro e w3 ⟨v2, rfl, hv20, hv21, hx2, hs1, hc1⟩
        have HA3 := bx (HA1.out.next hs1 hc1)
        have HV2 := bx hx2
        clear hs1 hc1 hx2 HN1 HA1
        obtain ⟨s2, hs2⟩ : ∃ s, stR r2 = s := ⟨_, rfl⟩
        rw [hs2] at HA3
        have HS2 := bx hs2
        clear hs2
        cases s2 with
        | err k =>
          obtain ⟨⟨ae, be, hB1⟩, hk0⟩ := HA3.out.src.err_
          obtain ⟨_, _, c3, _, _⟩ := hB1.cells
          have hkI : (k == 0) = false := by rw [beq_eq_false_iff_ne]; exact hk0
          have HRN := bx (att_bad HRR.out H1.out H2.out HS2.out)
          clear hB1 hk0 HRR
          go_wp2
          go_roundw
          case rel => exact ⟨m, L, .err k, by go_num, by omega, HA3, HRN⟩
          case measure => simp [intOf]
        | ok p2 =>
          obtain ⟨_, _, c3, _, _⟩ := HA3.out.src.ok_.cells
          have HRZ : Bx (v1 = valN r1 ∧ v2 = valN r2) := bx (by
            obtain ⟨x2, e2⟩ := st_ok HS2.out
            have e := H2.out
            rw [e2] at e
            obtain ⟨x1, e1⟩ := okb e
            exact ⟨by rw [e1, HV1.out x1 e1]; rfl, by rw [e2, HV2.out x2 e2]; rfl⟩)
          obtain ⟨n2, rfl⟩ : ∃ n2 : Nat, v2 = (n2 : Int) := ⟨v2.toNat, by omega⟩
          obtain ⟨r3, h3⟩ : ∃ r3, onR (stR r2) (rdB n2) b = r3 := ⟨_, rfl⟩
          have HP3 := bx (rbytes_ok g n2 p2 b w3 HA3.out.src)
          have hh3 := h3
          rw [HS2.out] at hh3
          rw [hh3] at HP3
          have HRN := bx (att_round HRR.out H1.out H2.out HRZ.out.2.symm h3)
          clear h3 hh3 HRR H1 H2 HS2 HV1 HV2
          go_wp2_with fail
          refine HP3.out.mono ?_
          rintro e w4 ⟨⟨v, rfl, ho4⟩, hs4, hc4⟩
          have HA4 := bx (HA3.out.next hs4 hc4)
          have hlo4 := fun k hk => (World.ownsRow.lt ho4 k hk).1
          obtain ⟨A4, n4, c4, rfl, hn4, hr4⟩ := OwL.sl ho4
          have HY4 : Bx (SlB w4 w4.heap.size ⟨A4, n4, c4, valB r3⟩ ∧ ∀ q, A4 = some q → w3.heap.size ≤ q.block) := bx (by
            obtain ⟨A', c', e, hr', hc', hm'⟩ := OwL.rd ho4
            injection e with e1 e2 e3
            subst e1; subst e3
            refine ⟨⟨e2.symm, by show n4 ≤ c4; omega, hm', hr'⟩, fun q hq => ?_⟩
            rcases ho4.2 with ⟨e, _⟩ | ⟨g, _, _, e, _⟩
            · injection e with e _ _
              rw [e] at hq; cases hq
            · injection e with e _ _
              rw [e] at hq
              injection hq with hq
              subst hq
              subst e
              exact hlo4 g rfl)
          have HZ3 := bx HA3.out.z
          have HL3 := bx HA3.out.lt
          clear hs4 hc4 ho4 hlo4 hr4 hn4 HP3 c3 HA3
          have HA6 := bx (HA4.out.alloc (.cells #[.int .i64 v1, .slice A4 n4 c4] 71))
          have HNW := bx (RS.new (fC := attC) w4 ⟨v1, ⟨A4, n4, c4, valB r3⟩⟩ #[.int .i64 v1, .slice A4 n4 c4] rfl 71 (0, 0))
          have HX6 : Bx (SlX (w4.alloc (.cells #[.int .i64 v1, .slice A4 n4 c4] 71)) (Bel B (w4.alloc (.cells #[.int .i64 v1, .slice A4 n4 c4] 71)) (.slice AV nV cV)) ⟨A4, n4, c4, valB r3⟩) := bx (SlX.fresh (S := w3.heap.size) ((HY4.out.1.below (bl_alloc (Below.refl w4.heap.size w4) (Nat.le_refl _) _) (Nat.le_refl _)).more (by simp)) HZ3.out HY4.out.2 (fun k hk => (HL3.out k hk).2))
          have HN2 : Bx ((L.length + [(⟨v1, ⟨A4, n4, c4, valB r3⟩⟩ : AtE)].length) * 32 ≤ 140737488355328) := bx (by simp only [List.length_cons, List.length_nil]; omega)
          have hz6 : B ≤ (w4.alloc (.cells #[.int .i64 v1, .slice A4 n4 c4] 71)).heap.size := HA6.out.z
          clear HA4 HY4 HZ3 HL3
          go_wp2_with (at_builtin; refine wpList_appS _ attCels rfl (.tmp 29) (.tmp 35) rfl attTy (by decide) B (.slice AV nV cV) L rfl HA6.out.own (w4.heap.size + 1) (some ⟨w4.heap.size, 0, none⟩) 1 1 [⟨v1, ⟨A4, n4, c4, valB r3⟩⟩] rfl rfl HNW.out HN2.out hz6 ?_; intro V7 w7 hO7 hg7 hv7 _; have HA7 := bx (HA6.out.app (x := ⟨v1, ⟨A4, n4, c4, valB r3⟩⟩) HX6.out hO7 hg7 hv7 (Nat.le_of_eq HB.out)))
          have HRL : Bx (repR attP b ((L ++ [(⟨v1, ⟨A4, n4, c4, valB r3⟩⟩ : AtE)]).map AtE.p) (stR r3) m = R) := bx (by
            have e := HRN.out
            rw [← HRZ.out.1] at e
            rw [List.map_append]; exact e)
          clear hO7 hg7 hv7 HA6 HX6 HNW HRN HN2
          go_roundw
          case rel => exact ⟨m, L ++ [⟨v1, ⟨A4, n4, c4, valB r3⟩⟩], stR r3, by go_num, by rw [List.length_append]; simp only [List.length_cons, List.length_nil]; omega, HA7, HRL⟩
          case measure => simp [intOf]
end Go.Proofs.Ytdioijhmmmnbgaa
