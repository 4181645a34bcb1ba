/- Contract of image's source: members. -/
import Derived.Test.YtdioijhmmmnbgaaQiImB
import Derived.Deep.DeepCutAuto
import Derived.Deep.CutBlock
namespace Go.Proofs.Ytdioijhmmmnbgaa
open Go.RowKit
theorem memTy : ETy Try.prog 26 69 (.agg #[.int .i64 0, .int .i64 0, .int .i64 0, .slice none 0 0]) 4 48 := ⟨Try.underlying26, info_parts (by kernel_rfl), rfl, by decide⟩
/-- The members that were read so far. -/
structure MmR (w wx : World) (B gs gr : Nat) (b : List UInt8) (V : Value) (L : List MmE) (s : Rz Nat) : Prop where
  own : OwS memC 4 wx B 69 V L
  sub : SubsM B wx V L
  src : Src wx gs gr b s
  ch : Ch w wx (Two gs gr)
  z : B ≤ wx.heap.size
  lo : gs < B ∧ gr < B
section
variable {w wx w' : World} {B gs gr : Nat} {b : List UInt8} {V V' : Value} {L : List MmE} {s s' : Rz Nat}
theorem MmR.two (h : MmR w wx B gs gr b V L s) : ∀ k, Two gs gr k → k < B := Two.lt h.lo.1 h.lo.2
/-- The source went on. -/
theorem MmR.next (h : MmR w wx B gs gr b V L s) (hs : Src w' gs gr b s') (c : Ch wx w' (Two gs gr)) : MmR w w' B gs gr b V L s' :=
  ⟨h.own.ch c h.two, h.sub.ch c h.two, hs, h.ch.trans c (fun _ _ h => h), Nat.le_trans h.z c.size, h.lo⟩
theorem MmR.below (h : MmR w wx B gs gr b V L s) (hb : Below wx.heap.size wx w') : MmR w w' B gs gr b V L s := h.next (h.src.below hb) (Ch.of_below hb)
theorem MmR.alloc (h : MmR w wx B gs gr b V L s) (o : Obj) : MmR w (wx.alloc o) B gs gr b V L s := h.below (bl_alloc (Below.refl _ _) (Nat.le_refl _) o)
theorem MmR.lt (h : MmR w wx B gs gr b V L s) : ∀ k, V.ownBlock = some k → B ≤ k ∧ k < wx.heap.size := fun k hk => World.ownsRow.lt h.own k hk
theorem MmR.app {x : MmE} (h : MmR w wx B gs gr b V L s) (hx : MmX wx (Bel B wx V) x) (ho : OwS memC 4 w' B 69 V' (L ++ [x])) (hg : wx.grownBy w' V.ownBlock) (hv : V'.ownBlock = V.ownBlock ∨ V'.ownBlock = some wx.heap.size) (hB : w.heap.size ≤ B) : MmR w w' B gs gr b V' (L ++ [x]) s := by
  have hb : Below B wx w' := (Below.refl _ _).grown hg h.z fun k hk => (h.lt k hk).1
  have hsr : Src w' gs gr b s := h.src.low hb h.lo.1 h.lo.2
  refine ⟨ho, h.sub.app (SubsM.one hx) hg hv, hsr, ?_, Nat.le_trans h.z hg.size, h.lo⟩
  exact ⟨hg.os.trans h.ch.os, hg.tape.trans h.ch.tape, hg.output.trans h.ch.output, Nat.le_trans h.ch.size hg.size, fun k hk hn => by
    refine (hg.block k (Nat.lt_of_lt_of_le hk h.ch.size) (fun e => ?_)).trans (h.ch.same k hk hn)
    have := (h.lt k e.symm).1
    omega⟩
end
/-- What reading members leaves. -/
def MemsPost (w : World) (gs gr : Nat) (b : List UInt8) (R : Rz (List Mem × Nat)) (e : Ending) (w' : World) : Prop := ∃ V L, e = .returned V ∧ MmR w w' w.heap.size gs gr b V L (stR R) ∧ L.length ≤ 64 ∧ ∀ x, R = .ok x → L.map MmE.p = x.1
set_option maxRecDepth 100000 in
set_option maxHeartbeats 4000000 in
theorem smems_any (gs gr : Nat) (b : List UInt8) (s : Rz Nat) (w : World) (h : Src w gs gr b s) :
    Calls Try.prog 29 #[.pointer (some ⟨gs, 0, none⟩)] w (MemsPost w gs gr b (onR s memsP b)) := by
  obtain ⟨R, hR⟩ : ∃ R, onR s memsP b = R := ⟨_, rfl⟩
  rw [hR]
  have hlt := h.lt
  have HM := bx (smany_any gs gr b s w h)
  obtain ⟨r, hr⟩ : ∃ r, onR s cntI b = r := ⟨_, rfl⟩
  have hv := cnt_le (s := s) (b := b)
  rw [hr] at HM hv
  obtain ⟨n, hn⟩ : ∃ n : Nat, valN r = (n : Int) := ⟨(valN r).toNat, by omega⟩
  rw [hn] at HM hv
  have HR0 : Bx (repR memP b [] (stR r) n = R) := bx (by rw [← many_rep hr hn]; exact hR)
  have hn64 : n ≤ 64 := by omega
  obtain ⟨B, hB⟩ : ∃ B, w.heap.size = B := ⟨_, rfl⟩
  have HB := bx hB
  have hgs : gs < B := by omega
  have hgr : gr < B := by omega
  clear h hR hr hv hn hlt hB
  go_enter Try.func29, Try.ntmps29
  go_wp2_with fail
  refine HM.out.mono ?_
  rintro e w1 ⟨rfl, hs1, hc1⟩
  have HA0 : Bx (MmR w w1 B gs gr b (.slice none 0 0) [] (stR r)) := bx ⟨OwS.nil, SubsM.nil, hs1, hc1, by rw [← HB.out]; exact hc1.size, hgs, hgr⟩
  clear hs1 hc1 HM
  go_wp2_with fail
  go_loopw [3, 4] (fun V nv wx => ∃ (m : Nat) (L : List MmE) (s' : Rz Nat), nv = .int .i64 (m : Int) ∧ L.length + m ≤ 64 ∧ Bx (MmR w wx B gs gr b V L s') ∧ Bx (repR memP b (L.map MmE.p) s' m = R)) (fun _ nv _ => (intOf nv).toNat)
  case atStart => exact ⟨n, [], stR r, rfl, by simpa using hn64, HA0, HR0⟩
  case round =>
    clear HA0 HR0
    obtain ⟨m, L, s', rfl, hLm, HA, HRR⟩ := hrel
    obtain ⟨AV, cV, rfl, _, _⟩ := OwS.rd HA.out.own
    obtain ⟨nV, hnV⟩ : ∃ nV, L.length = nV := ⟨_, rfl⟩
    have HNV := bx hnV
    rw [hnV] at HA ⊢
    clear hnV
    have hfin : (m = 0 ∨ ∃ k, s' = .err k) → MemsPost w gs gr b R (.returned (.slice AV nV cV)) wr := fun h => by
      obtain ⟨e1, e2⟩ := rep_end HRR.out h
      exact ⟨_, L, rfl, by rw [e1, HB.out]; exact HA.out, by omega, e2⟩
    have HFIN := bx hfin
    clear hfin
    cases s' with
    | err k =>
      obtain ⟨hB1, hk0⟩ := HA.out.src.err_
      have c1 : wr.cell? ⟨gs, 1, none⟩ = some (.int .i64 k) := (hB1.cell 1).trans rfl
      have hkI : (k == 0) = false := by rw [beq_eq_false_iff_ne]; exact hk0
      have HF := bx (HFIN.out (.inr ⟨k, rfl⟩))
      clear hB1 hk0 HFIN
      by_cases hm : m = 0
      · have hmI : ¬ (0 : Int) < (m : Int) := by omega
        clear hm
        go_wp2
        go_ret
        exact HF.out
      · have hmI : (0 : Int) < (m : Int) := by omega
        clear hm
        go_wp2
        go_ret
        exact HF.out
    | ok p =>
      obtain ⟨hB1, _, _⟩ := HA.out.src.ok_
      have c1 : wr.cell? ⟨gs, 1, none⟩ = some (.int .i64 0) := (hB1.cell 1).trans rfl
      clear hB1
      cases m with
      | zero =>
        have hmI : ¬ (0 : Int) < ((0 : Nat) : Int) := by omega
        have HF := bx (HFIN.out (.inl rfl))
        clear HFIN
        go_wp2
        go_ret
        exact HF.out
      | succ m =>
        have hmI : (0 : Int) < ((m + 1 : Nat) : Int) := by omega
        obtain ⟨r1, h1⟩ : ∃ r1, onR (.ok p) (rdN 2) b = r1 := ⟨_, rfl⟩
        have HN1 := bx (snum_small gs gr 2 b (.ok p) wr HA.out.src (by decide) (by decide))
        rw [h1] at HN1
        have H1 := bx h1
        obtain ⟨v1, hv1⟩ : ∃ v1, valN r1 = v1 := ⟨_, rfl⟩
        rw [hv1] at HN1
        have HV1 := bx hv1
        clear h1 hv1 HFIN
        go_wp2_with fail
        refine HN1.out.mono ?_
        rintro e w1a ⟨rfl, hs1, hc1⟩
        have HA1a := bx (HA.out.next hs1 hc1)
        clear hs1 hc1 HN1 HA c1
        obtain ⟨r2, h2⟩ : ∃ r2, onR (stR r1) (rdN 2) b = r2 := ⟨_, rfl⟩
        have HN1 := bx (snum_small gs gr 2 b (stR r1) w1a HA1a.out.src (by decide) (by decide))
        rw [h2] at HN1
        have H2 := bx h2
        obtain ⟨v2, hv2⟩ : ∃ v2, valN r2 = v2 := ⟨_, rfl⟩
        rw [hv2] at HN1
        have HV2 := bx hv2
        clear h2 hv2
        go_wp2_with fail
        refine HN1.out.mono ?_
        rintro e w1b ⟨rfl, hs1, hc1⟩
        have HA1b := bx (HA1a.out.next hs1 hc1)
        clear hs1 hc1 HN1 HA1a
        obtain ⟨r3, h3⟩ : ∃ r3, onR (stR r2) (rdN 2) b = r3 := ⟨_, rfl⟩
        have HN1 := bx (snum_small gs gr 2 b (stR r2) w1b HA1b.out.src (by decide) (by decide))
        rw [h3] at HN1
        have H3 := bx h3
        obtain ⟨v3, hv3⟩ : ∃ v3, valN r3 = v3 := ⟨_, rfl⟩
        rw [hv3] at HN1
        have HV3 := bx hv3
        clear h3 hv3
        go_wp2_with fail
        refine HN1.out.mono ?_
        rintro e w1 ⟨rfl, hs1, hc1⟩
        have HA1 := bx (HA1b.out.next hs1 hc1)
        clear hs1 hc1 HN1 HA1b
        go_wp2_with fail
        obtain ⟨ga, hga⟩ : ∃ ga, w1.heap.size = ga := ⟨_, rfl⟩
        have HGA := bx hga
        have hzB : B ≤ ga := by rw [← hga]; exact HA1.out.z
        have HK2 := bx (Bk.newAt w1 69 #[.int .i64 v1, .int .i64 v2, .int .i64 v3, .slice none 0 0] hga)
        have HA2 := bx (HA1.out.alloc (.cells #[.int .i64 v1, .int .i64 v2, .int .i64 v3, .slice none 0 0] 69))
        have HC2 : Bx (Ch w1 (w1.alloc (.cells #[.int .i64 v1, .int .i64 v2, .int .i64 v3, .slice none 0 0] 69)) (Two gs gr)) := bx ((Ch.refl w1).alloc _)
        rw [hga]
        generalize w1.alloc (.cells #[.int .i64 v1, .int .i64 v2, .int .i64 v3, .slice none 0 0] 69) = w2 at HK2 HA2 HC2 ⊢
        obtain ⟨r4, h4⟩ : ∃ r4, onR (stR r3) attsP b = r4 := ⟨_, rfl⟩
        have HP3 := bx (sattrs_any gs gr b (stR r3) w2 HA2.out.src)
        rw [h4] at HP3
        have H4 := bx h4
        clear hga h4
        refine HP3.out.mono ?_
        rintro e w4 ⟨V4, L4, rfl, har4, hl4, hx4⟩
        have HAR4 := bx har4
        have HX4 := bx hx4
        have HC4 := bx (HC2.out.trans har4.ch (fun _ _ h => h))
        have HK4 := bx (HK2.out.ch har4.ch (fun h => by have := HA2.out.two ga h; omega))
        have HL2 := bx HK2.out.lt
        have HS4 := bx har4.src
        obtain ⟨A4, c4, rfl, _, _⟩ := OwS.rd har4.own
        obtain ⟨n4, hn4⟩ : ∃ n4, L4.length = n4 := ⟨_, rfl⟩
        rw [hn4] at HAR4 ⊢
        clear har4 hx4 HP3 HA2 HC2 HK2 hn4
        have hc40 : w4.cell? ⟨ga, 0, none⟩ = some (.int .i64 v1) := (HK4.out.cell 0).trans rfl
        have hc43 : w4.cell? ⟨ga, 3, none⟩ = some (.slice none 0 0) := (HK4.out.cell 3).trans rfl
        have hf43 := HK4.out.frz 3
        go_upto_region 7 with (fail)
        have HK5 : Bx (Bk (w4.setCell ⟨ga, 3, none⟩ (.slice A4 n4 c4)) ga 69 #[.int .i64 v1, .int .i64 v2, .int .i64 v3, .slice A4 n4 c4]) := bx (by simpa using HK4.out.set 3 (.slice A4 n4 c4))
        have hb5 : Below B w4 (w4.setCell ⟨ga, 3, none⟩ (.slice A4 n4 c4)) := (Below.refl B w4).setCell hzB _
        have HC5 : Bx (Ch w1 (w4.setCell ⟨ga, 3, none⟩ (.slice A4 n4 c4)) (Two gs gr)) := bx (HC4.out.setCell (fun h => by rw [HGA.out] at h; exact absurd h (Nat.lt_irrefl _)) _)
        have HS5 := bx (HS4.out.low hb5 hgs hgr)
        have HC45 : Bx (Ch w4 (w4.setCell ⟨ga, 3, none⟩ (.slice A4 n4 c4)) (fun k => k = ga)) := bx (Ch.setCell (S := fun k => k = ga) (p := ⟨ga, 3, none⟩) (Ch.refl w4) (fun _ => rfl) _)
        generalize w4.setCell ⟨ga, 3, none⟩ (.slice A4 n4 c4) = w5 at HK5 HC5 HS5 HC45 ⊢
        have HA5 : Bx (MmR w w5 B gs gr b (.slice AV nV cV) L (stR r4)) := bx (HA1.out.next HS5.out HC5.out)
        have HA6 := bx (HA5.out.alloc (.cells #[.int .i64 v1, .int .i64 v2, .int .i64 v3, .slice A4 n4 c4] 69))
        have HNW := bx (RS.new (fC := memC) w5 ⟨v1, v2, v3, A4, n4, c4, L4⟩ #[.int .i64 v1, .int .i64 v2, .int .i64 v3, .slice A4 n4 c4] rfl 69 (0, 0))
        have HC46 := bx (HC45.out.alloc (.cells #[.int .i64 v1, .int .i64 v2, .int .i64 v3, .slice A4 n4 c4] 69))
        have HX6 : Bx (MmX (w5.alloc (.cells #[.int .i64 v1, .int .i64 v2, .int .i64 v3, .slice A4 n4 c4] 69)) (Bel B (w5.alloc (.cells #[.int .i64 v1, .int .i64 v2, .int .i64 v3, .slice A4 n4 c4] 69)) (.slice AV nV cV)) ⟨v1, v2, v3, A4, n4, c4, L4⟩) := bx (MmX.fresh (S := w2.heap.size) (HAR4.out.own.ch HC46.out (fun k hk => by have := HL2.out; omega)) (HAR4.out.sub.ch HC46.out (fun k hk => by have := HL2.out; omega)) rfl (by have := HL2.out; omega) (fun k hk => by
          have := (HA1.out.lt k hk).2
          rw [HGA.out] at this
          have := HL2.out
          omega))
        have HN2 : Bx ((L.length + [(⟨v1, v2, v3, A4, n4, c4, L4⟩ : MmE)].length) * 48 ≤ 140737488355328) := bx (by simp only [List.length_cons, List.length_nil]; omega)
        have hz6 : B ≤ (w5.alloc (.cells #[.int .i64 v1, .int .i64 v2, .int .i64 v3, .slice A4 n4 c4] 69)).heap.size := HA6.out.z
        have hcc0 : w5.cell? ⟨ga, 0, none⟩ = some (.int .i64 v1) := (HK5.out.cell 0).trans rfl
        have hcc1 : w5.cell? ⟨ga, 1, none⟩ = some (.int .i64 v2) := (HK5.out.cell 1).trans rfl
        have hcc2 : w5.cell? ⟨ga, 2, none⟩ = some (.int .i64 v3) := (HK5.out.cell 2).trans rfl
        have hcc3 : w5.cell? ⟨ga, 3, none⟩ = some (.slice A4 n4 c4) := (HK5.out.cell 3).trans rfl
        have HRN := bx (mem_round HRR.out H1.out H2.out H3.out H4.out HX4.out)
        clear HA1 HA5 HC4 HC5 HK4 HK5 HS4 HS5 HAR4 HX4 HL2 hb5 hc40 hc43 hf43 HRR H1 H2 H3 H4 HC45 HC46
        go_wp2_with (at_builtin; refine wpList_appS _ memCels rfl (.tmp 29) (.tmp 31) rfl memTy (by decide) B (.slice AV nV cV) L rfl HA6.out.own (w5.heap.size + 1) (some ⟨w5.heap.size, 0, none⟩) 1 1 [⟨v1, v2, v3, A4, n4, c4, L4⟩] rfl rfl HNW.out HN2.out hz6 ?_; intro V7 w7 hO7 hg7 hv7 _; have HA7 := bx (HA6.out.app (x := ⟨v1, v2, v3, A4, n4, c4, L4⟩) HX6.out hO7 hg7 hv7 (Nat.le_of_eq HB.out)))
        have HRL : Bx (repR memP b ((L ++ [(⟨v1, v2, v3, A4, n4, c4, L4⟩ : MmE)]).map MmE.p) (stR r4) m = R) := bx (by
          have e := HRN.out
          rw [HV1.out, HV2.out, HV3.out] at e
          rw [List.map_append]; exact e)
        clear hO7 hg7 hv7 HA6 HX6 HNW HRN HN2
        go_roundw
        case rel => exact ⟨m, L ++ [⟨v1, v2, v3, A4, n4, c4, L4⟩], stR r4, by go_num, by rw [List.length_append]; simp only [List.length_cons, List.length_nil]; omega, HA7, HRL⟩
        case measure => simp [intOf]
end Go.Proofs.Ytdioijhmmmnbgaa
