/- Contract of the document's reading: members. -/
import Derived.Test.YtdioijhmmmnbgaaQiRqB
import Derived.Test.YtdioijhmmmnbgaaQiImC
namespace Go.Proofs.Ytdioijhmmmnbgaa
open Go.RowKit
/-- The members that were read so far. -/
structure MmQ (w wx : World) (B g : Nat) (b : List UInt8) (V : Value) (L : List MmE) (s : Rz Nat) : Prop where
  own : OwS memC 4 wx B 69 V L
  sub : SubsM B wx V L
  src : Rg wx g b s
  ch : Ch w wx (Onl g)
  z : B ≤ wx.heap.size
  lo : g < B
section
variable {w wx w' : World} {B g : Nat} {b : List UInt8} {V V' : Value} {L : List MmE} {s s' : Rz Nat}
theorem MmQ.two (h : MmQ w wx B g b V L s) : ∀ k, Onl g k → k < B := Onl.lt h.lo
/-- The reading went on. -/
theorem MmQ.next (h : MmQ w wx B g b V L s) (hs : Rg w' g b s') (c : Ch wx w' (Onl g)) : MmQ w w' B g b V L s' :=
  ⟨h.own.ch c h.two, h.sub.ch c h.two, hs, h.ch.trans c (fun _ _ h => h), Nat.le_trans h.z c.size, h.lo⟩
theorem MmQ.below (h : MmQ w wx B g b V L s) (hb : Below wx.heap.size wx w') : MmQ w w' B g b V L s := h.next (h.src.below hb) (Ch.of_below hb)
theorem MmQ.alloc (h : MmQ w wx B g b V L s) (o : Obj) : MmQ w (wx.alloc o) B g b V L s := h.below (bl_alloc (Below.refl _ _) (Nat.le_refl _) o)
theorem MmQ.lt (h : MmQ w wx B g b V L s) : ∀ k, V.ownBlock = some k → B ≤ k ∧ k < wx.heap.size := fun k hk => World.ownsRow.lt h.own k hk
theorem MmQ.app {x : MmE} (h : MmQ w wx B g b V L s) (hx : MmX wx (Bel B wx V) x) (ho : OwS memC 4 w' B 69 V' (L ++ [x])) (hg : wx.grownBy w' V.ownBlock) (hv : V'.ownBlock = V.ownBlock ∨ V'.ownBlock = some wx.heap.size) (hB : w.heap.size ≤ B) : MmQ w w' B g b V' (L ++ [x]) s := by
  have hb : Below B wx w' := (Below.refl _ _).grown hg h.z fun k hk => (h.lt k hk).1
  have hsr : Rg w' g b s := h.src.low hb h.lo
  refine ⟨ho, h.sub.app (SubsM.one hx) hg hv, hsr, ?_, Nat.le_trans h.z hg.size, h.lo⟩
  exact ⟨hg.os.trans h.ch.os, hg.tape.trans h.ch.tape, hg.output.trans h.ch.output, Nat.le_trans h.ch.size hg.size, fun k hk hn => by
    refine (hg.block k (Nat.lt_of_lt_of_le hk h.ch.size) (fun e => ?_)).trans (h.ch.same k hk hn)
    have := (h.lt k e.symm).1
    omega⟩
end
/-- What reading members leaves. -/
def MemsPostQ (w : World) (g : Nat) (b : List UInt8) (R : Rz (List Mem × Nat)) (e : Ending) (w' : World) : Prop := ∃ V L, e = .returned V ∧ MmQ w w' w.heap.size g b V L (stR R) ∧ L.length ≤ 64 ∧ ∀ x, R = .ok x → L.map MmE.p = x.1
/-- A round, whatever the numbers behind an error are. -/
theorem mem_roundQ {b : List UInt8} {acc : List Mem} {p m : Nat} {R : Rz (List Mem × Nat)} {r1 r2 r3 : Rz (Nat × Nat)} {r4 : Rz (List Att × Nat)} {l : List Att} {v1 v2 v3 : Int} (hR : repR memP b acc (.ok p) (m + 1) = R) (h1 : onR (.ok p) (rdN 2) b = r1) (h2 : onR (stR r1) (rdN 2) b = r2) (h3 : onR (stR r2) (rdN 2) b = r3) (h4 : onR (stR r3) attsP b = r4)
    (hl : ∀ x, r4 = .ok x → l = x.1) (k1 : ∀ x, r1 = .ok x → v1 = (x.1 : Int)) (k2 : ∀ x, r2 = .ok x → v2 = (x.1 : Int)) (k3 : ∀ x, r3 = .ok x → v3 = (x.1 : Int)) : repR memP b (acc ++ [⟨v1, v2, v3, l⟩]) (stR r4) m = R := by
  have e := mem_round hR h1 h2 h3 h4 hl
  cases r4 with
  | err k => rw [stR_err, repR_err] at e ⊢; exact e
  | ok z =>
    obtain ⟨x3, rfl⟩ := okb h4
    obtain ⟨x2, rfl⟩ := okb h3
    obtain ⟨x1, rfl⟩ := okb h2
    rw [k1 x1 rfl, k2 x2 rfl, k3 x3 rfl]
    exact e
set_option maxRecDepth 100000 in
set_option maxHeartbeats 4000000 in
theorem rmembers14_any (g : Nat) (b : List UInt8) (s : Rz Nat) (w : World) (h : Rg w g b s) :
    Calls Try.prog 36 #[.pointer (some ⟨g, 0, none⟩)] w (MemsPostQ w g b (onR s memsP b)) := by
  obtain ⟨R, hR⟩ : ∃ R, onR s memsP b = R := ⟨_, rfl⟩
  rw [hR]
  have hlt := h.lt
  have HM := bx (rcount_any g b s w h)
  obtain ⟨r, hr⟩ : ∃ r, onR s cntI b = r := ⟨_, rfl⟩
  have hv := cnt_le (s := s) (b := b)
  rw [hr] at HM hv
  obtain ⟨n, hn⟩ : ∃ n : Nat, valN r = (n : Int) := ⟨(valN r).toNat, by omega⟩
  rw [hn] at HM hv
  have HR0 : Bx (repR memP b [] (stR r) n = R) := bx (by rw [← many_rep hr hn]; exact hR)
  have hn64 : n ≤ 64 := by omega
  obtain ⟨B, hB⟩ : ∃ B, w.heap.size = B := ⟨_, rfl⟩
  have HB := bx hB
  have hg9 : g < B := by omega
  clear h hR hr hv hn hlt hB
  go_enter Try.func36, Try.ntmps36
  go_wp2_with fail
  refine HM.out.mono ?_
  rintro e w1 ⟨rfl, hs1, hc1⟩
  have HA0 : Bx (MmQ w w1 B g b (.slice none 0 0) [] (stR r)) := bx ⟨OwS.nil, SubsM.nil, hs1, hc1, by rw [← HB.out]; exact hc1.size, hg9⟩
  clear hs1 hc1 HM
  go_wp2_with fail
  go_loopw [3, 4] (fun V nv wx => ∃ (m : Nat) (L : List MmE) (s' : Rz Nat), nv = .int .i64 (m : Int) ∧ L.length + m ≤ 64 ∧ Bx (MmQ w wx B g b V L s') ∧ Bx (repR memP b (L.map MmE.p) s' m = R)) (fun _ nv _ => (intOf nv).toNat)
  case atStart => exact ⟨n, [], stR r, rfl, by simpa using hn64, HA0, HR0⟩
  case round =>
    clear HA0 HR0
    obtain ⟨m, L, s', rfl, hLm, HA, HRR⟩ := hrel
    obtain ⟨AV, cV, rfl, _, _⟩ := OwS.rd HA.out.own
    obtain ⟨nV, hnV⟩ : ∃ nV, L.length = nV := ⟨_, rfl⟩
    have HNV := bx hnV
    rw [hnV] at HA ⊢
    clear hnV
    have hfin : (m = 0 ∨ ∃ k, s' = .err k) → MemsPostQ w g b R (.returned (.slice AV nV cV)) wr := fun h => by
      obtain ⟨e1, e2⟩ := rep_end HRR.out h
      exact ⟨_, L, rfl, by rw [e1, HB.out]; exact HA.out, by omega, e2⟩
    have HFIN := bx hfin
    clear hfin
    cases s' with
    | err k =>
      obtain ⟨⟨ae, be, hB1⟩, hk0⟩ := HA.out.src.err_
      obtain ⟨_, _, c3, _, _⟩ := hB1.cells
      have hkI : (k == 0) = false := by rw [beq_eq_false_iff_ne]; exact hk0
      have HF := bx (HFIN.out (.inr ⟨k, rfl⟩))
      clear hB1 hk0 HFIN
      by_cases hm : m = 0
      · have hmI : ¬ (0 : Int) < (m : Int) := by omega
        clear hm
        go_wp2
        go_ret
        exact HF.out
      · have hmI : (0 : Int) < (m : Int) := by omega
        clear hm
        go_wp2
        go_ret
        exact HF.out
    | ok p =>
      obtain ⟨_, _, c3, _, _⟩ := HA.out.src.ok_.cells
      cases m with
      | zero =>
        have hmI : ¬ (0 : Int) < ((0 : Nat) : Int) := by omega
        have HF := bx (HFIN.out (.inl rfl))
        clear HFIN
        go_wp2
        go_ret
        exact HF.out
      | succ m =>
        have hmI : (0 : Int) < ((m + 1 : Nat) : Int) := by omega
        obtain ⟨r1, h1⟩ : ∃ r, onR (.ok p) (rdN 2) b = r := ⟨_, rfl⟩
        have HN1 := bx (rnum_any g 2 65536 b (.ok p) wr HA.out.src (by decide) (by decide) (by decide))
        rw [h1] at HN1
        have H1 := bx h1
        clear h1 HFIN
        go_wp2_with fail
        refine HN1.out.mono ?_
        rintro e w1 ⟨v1, rfl, hv10, hv11, hx1, hs1, hc1⟩
        have HA1 := bx (HA.out.next hs1 hc1)
        have HV1 := bx hx1
        clear hs1 hc1 hx1 HN1 HA c3
        obtain ⟨r2, h2⟩ : ∃ r, onR (stR r1) (rdN 2) b = r := ⟨_, rfl⟩
        have HN1 := bx (rnum_any g 2 65536 b (stR r1) w1 HA1.out.src (by decide) (by decide) (by decide))
        rw [h2] at HN1
        have H2 := bx h2
        clear h2
        go_wp2_with fail
        refine HN1.out.mono ?_
        rintro e w2 ⟨v2, rfl, hv20, hv21, hx2, hs1, hc1⟩
        have HA2 := bx (HA1.out.next hs1 hc1)
        have HV2 := bx hx2
        clear hs1 hc1 hx2 HN1 HA1
        obtain ⟨r3, h3⟩ : ∃ r, onR (stR r2) (rdN 2) b = r := ⟨_, rfl⟩
        have HN1 := bx (rnum_any g 2 65536 b (stR r2) w2 HA2.out.src (by decide) (by decide) (by decide))
        rw [h3] at HN1
        have H3 := bx h3
        clear h3
        go_wp2_with fail
        refine HN1.out.mono ?_
        rintro e w3 ⟨v3, rfl, hv30, hv31, hx3, hs1, hc1⟩
        have HA3 := bx (HA2.out.next hs1 hc1)
        have HV3 := bx hx3
        clear hs1 hc1 hx3 HN1 HA2
        obtain ⟨r4, h4⟩ : ∃ r4, onR (stR r3) attsP b = r4 := ⟨_, rfl⟩
        have HP3 := bx (rattrs14_any g b (stR r3) w3 HA3.out.src)
        rw [h4] at HP3
        have H4 := bx h4
        clear h4
        go_wp2_with fail
        refine HP3.out.mono ?_
        rintro e w4 ⟨V4, L4, rfl, har4, hl4, hx4⟩
        have HAR4 := bx har4
        have HA4 := bx (HA3.out.next har4.src har4.ch)
        obtain ⟨A4, c4, rfl, _, _⟩ := OwS.rd har4.own
        obtain ⟨n4, hn4⟩ : ∃ n4, L4.length = n4 := ⟨_, rfl⟩
        rw [hn4] at HAR4 ⊢
        have HRN := bx (mem_roundQ HRR.out H1.out H2.out H3.out H4.out hx4 HV1.out HV2.out HV3.out)
        have HZ3 := bx HA3.out.z
        have HL3 := bx HA3.out.lt
        clear har4 hx4 HP3 hn4 HA3 HRR H1 H2 H3 H4 HV1 HV2 HV3
        have hb6 : Below w4.heap.size w4 (w4.alloc (.cells #[.int .i64 v1, .int .i64 v2, .int .i64 v3, .slice A4 n4 c4] 69)) := bl_alloc (Below.refl _ _) (Nat.le_refl _) _
        have HA6 := bx (HA4.out.below hb6)
        have HNW := bx (RS.new (fC := memC) w4 ⟨v1, v2, v3, A4, n4, c4, L4⟩ #[.int .i64 v1, .int .i64 v2, .int .i64 v3, .slice A4 n4 c4] rfl 69 (0, 0))
        have HX6 : Bx (MmX (w4.alloc (.cells #[.int .i64 v1, .int .i64 v2, .int .i64 v3, .slice A4 n4 c4] 69)) (Bel B (w4.alloc (.cells #[.int .i64 v1, .int .i64 v2, .int .i64 v3, .slice A4 n4 c4] 69)) (.slice AV nV cV)) ⟨v1, v2, v3, A4, n4, c4, L4⟩) := bx (MmX.fresh (S := w3.heap.size) (HAR4.out.own.ch (Ch.of_below (S := fun _ => False) hb6) (fun k hk => hk.elim)) (HAR4.out.sub.below hb6) rfl HZ3.out (fun k hk => (HL3.out k hk).2))
        have HN2 : Bx ((L.length + [(⟨v1, v2, v3, A4, n4, c4, L4⟩ : MmE)].length) * 48 ≤ 140737488355328) := bx (by simp only [List.length_cons, List.length_nil]; omega)
        have hz6 : B ≤ (w4.alloc (.cells #[.int .i64 v1, .int .i64 v2, .int .i64 v3, .slice A4 n4 c4] 69)).heap.size := HA6.out.z
        clear HA4 HZ3 HL3 HAR4 hb6
        go_wp2_with (at_builtin; refine wpList_appS _ memCels rfl (.tmp 27) (.tmp 34) rfl memTy (by decide) B (.slice AV nV cV) L rfl HA6.out.own (w4.heap.size + 1) (some ⟨w4.heap.size, 0, none⟩) 1 1 [⟨v1, v2, v3, A4, n4, c4, L4⟩] rfl rfl HNW.out HN2.out hz6 ?_; intro V7 w7 hO7 hg7 hv7 _; have HA7 := bx (HA6.out.app (x := ⟨v1, v2, v3, A4, n4, c4, L4⟩) HX6.out hO7 hg7 hv7 (Nat.le_of_eq HB.out)))
        have HRL : Bx (repR memP b ((L ++ [(⟨v1, v2, v3, A4, n4, c4, L4⟩ : MmE)]).map MmE.p) (stR r4) m = R) := bx (by
          have e := HRN.out
          rw [List.map_append]; exact e)
        clear hO7 hg7 hv7 HA6 HX6 HNW HRN HN2
        go_roundw
        case rel => exact ⟨m, L ++ [⟨v1, v2, v3, A4, n4, c4, L4⟩], stR r4, by go_num, by rw [List.length_append]; simp only [List.length_cons, List.length_nil]; omega, HA7, HRL⟩
        case measure => simp [intOf]
end Go.Proofs.Ytdioijhmmmnbgaa
