/- Contract of image's source: attrs. -/
import Derived.Test.YtdioijhmmmnbgaaQiImA
import Derived.Test.YtdioijhmmmnbgaaPi7
import Derived.Test.YtdioijhmmmnbgaaPi1
import Derived.Deep.DeepCutAuto
import Derived.Deep.CutBlock
namespace Go.Proofs.Ytdioijhmmmnbgaa
open Go.RowKit
theorem attTy : ETy Try.prog 27 71 (.agg #[.int .i64 0, .slice none 0 0]) 2 32 := ⟨Try.underlying27, info_parts (by kernel_rfl), rfl, by decide⟩
theorem OwS.ch {α : Type} {fC : α → List Value} {sz : Nat} {w w' : World} {base : Nat} {e : TypeId} {v : Value} {l : List α} {S : Nat → Prop} (h : OwS fC sz w base e v l) (c : Ch w w' S) (hS : ∀ k, S k → k < base) : OwS fC sz w' base e v l := by
  have hs : ∀ k, v.ownBlock = some k → w'.heap[k]? = w.heap[k]? := fun k hk => by
    have := World.ownsRow.lt h k hk
    exact c.same k this.2 (fun h9 => by have := hS k h9; omega)
  refine ⟨h.1, ?_⟩
  rcases h.2 with hn | ⟨g, cap, cur, rfl, hb, hgg, rest⟩
  · exact .inl hn
  · exact .inr ⟨g, cap, cur, rfl, hb, (hs g rfl).trans hgg, rest⟩
/-- The attributes that were read so far. -/
structure AtR (w wx : World) (B gs gr : Nat) (b : List UInt8) (V : Value) (L : List AtE) (s : Rz Nat) : Prop where
  own : OwS attC 2 wx B 71 V L
  sub : SubsA B wx V L
  src : Src wx gs gr b s
  ch : Ch w wx (Two gs gr)
  z : B ≤ wx.heap.size
  lo : gs < B ∧ gr < B
section
variable {w wx w' : World} {B gs gr : Nat} {b : List UInt8} {V V' : Value} {L : List AtE} {s s' : Rz Nat}
theorem AtR.two (h : AtR w wx B gs gr b V L s) : ∀ k, Two gs gr k → k < B := Two.lt h.lo.1 h.lo.2
/-- The source went on. -/
theorem AtR.next (h : AtR w wx B gs gr b V L s) (hs : Src w' gs gr b s') (c : Ch wx w' (Two gs gr)) : AtR w w' B gs gr b V L s' :=
  ⟨h.own.ch c h.two, h.sub.ch c h.two, hs, h.ch.trans c (fun _ _ h => h), Nat.le_trans h.z c.size, h.lo⟩
theorem AtR.below (h : AtR w wx B gs gr b V L s) (hb : Below wx.heap.size wx w') : AtR w w' B gs gr b V L s := h.next (h.src.below hb) (Ch.of_below hb)
theorem AtR.alloc (h : AtR w wx B gs gr b V L s) (o : Obj) : AtR w (wx.alloc o) B gs gr b V L s := h.below (bl_alloc (Below.refl _ _) (Nat.le_refl _) o)
theorem AtR.lt (h : AtR w wx B gs gr b V L s) : ∀ k, V.ownBlock = some k → B ≤ k ∧ k < wx.heap.size := fun k hk => World.ownsRow.lt h.own k hk
theorem AtR.app {x : AtE} (h : AtR w wx B gs gr b V L s) (hx : SlX wx (Bel B wx V) x.s) (ho : OwS attC 2 w' B 71 V' (L ++ [x])) (hg : wx.grownBy w' V.ownBlock) (hv : V'.ownBlock = V.ownBlock ∨ V'.ownBlock = some wx.heap.size) (hB : w.heap.size ≤ B) : AtR w w' B gs gr b V' (L ++ [x]) s := by
  have hb : Below B wx w' := (Below.refl _ _).grown hg h.z fun k hk => (h.lt k hk).1
  have hsr : Src w' gs gr b s := h.src.low hb h.lo.1 h.lo.2
  refine ⟨ho, h.sub.app (SubsA.one hx) hg hv, hsr, ?_, Nat.le_trans h.z hg.size, h.lo⟩
  exact ⟨hg.os.trans h.ch.os, hg.tape.trans h.ch.tape, hg.output.trans h.ch.output, Nat.le_trans h.ch.size hg.size, fun k hk hn => by
    refine (hg.block k (Nat.lt_of_lt_of_le hk h.ch.size) (fun e => ?_)).trans (h.ch.same k hk hn)
    have := (h.lt k e.symm).1
    omega⟩
end
/-- What reading attributes leaves. -/
def AttsPost (w : World) (gs gr : Nat) (b : List UInt8) (R : Rz (List Att × Nat)) (e : Ending) (w' : World) : Prop := ∃ V L, e = .returned V ∧ AtR w w' w.heap.size gs gr b V L (stR R) ∧ L.length ≤ 64 ∧ ∀ x, R = .ok x → L.map AtE.p = x.1
set_option maxRecDepth 100000 in
set_option maxHeartbeats 4000000 in
theorem sattrs_any (gs gr : Nat) (b : List UInt8) (s : Rz Nat) (w : World) (h : Src w gs gr b s) :
    Calls Try.prog 30 #[.pointer (some ⟨gs, 0, none⟩)] w (AttsPost w gs gr b (onR s attsP b)) := by
  obtain ⟨R, hR⟩ : ∃ R, onR s attsP b = R := ⟨_, rfl⟩
  rw [hR]
  have hlt := h.lt
  have HM := bx (smany_any gs gr b s w h)
  obtain ⟨r, hr⟩ : ∃ r, onR s cntI b = r := ⟨_, rfl⟩
  have hv := cnt_le (s := s) (b := b)
  rw [hr] at HM hv
  obtain ⟨n, hn⟩ : ∃ n : Nat, valN r = (n : Int) := ⟨(valN r).toNat, by omega⟩
  rw [hn] at HM hv
  have HR0 : Bx (repR attP b [] (stR r) n = R) := bx (by rw [← many_rep hr hn]; exact hR)
  have hn64 : n ≤ 64 := by omega
  obtain ⟨B, hB⟩ : ∃ B, w.heap.size = B := ⟨_, rfl⟩
  have HB := bx hB
  have hgs : gs < B := by omega
  have hgr : gr < B := by omega
  clear h hR hr hv hn hlt hB
  go_enter Try.func30, Try.ntmps30
  go_wp2_with fail
  refine HM.out.mono ?_
  rintro e w1 ⟨rfl, hs1, hc1⟩
  have HA0 : Bx (AtR w w1 B gs gr b (.slice none 0 0) [] (stR r)) := bx ⟨OwS.nil, SubsA.nil, hs1, hc1, by rw [← HB.out]; exact hc1.size, hgs, hgr⟩
  clear hs1 hc1 HM
  go_wp2_with fail
  go_loopw [3, 4] (fun V nv wx => ∃ (m : Nat) (L : List AtE) (s' : Rz Nat), nv = .int .i64 (m : Int) ∧ L.length + m ≤ 64 ∧ Bx (AtR w wx B gs gr b V L s') ∧ Bx (repR attP b (L.map AtE.p) s' m = R)) (fun _ nv _ => (intOf nv).toNat)
  case atStart => exact ⟨n, [], stR r, rfl, by simpa using hn64, HA0, HR0⟩
  case round =>
    clear HA0 HR0
    obtain ⟨m, L, s', rfl, hLm, HA, HRR⟩ := hrel
    obtain ⟨AV, cV, rfl, _, _⟩ := OwS.rd HA.out.own
    obtain ⟨nV, hnV⟩ : ∃ nV, L.length = nV := ⟨_, rfl⟩
    have HNV := bx hnV
    rw [hnV] at HA ⊢
    clear hnV
    have hfin : (m = 0 ∨ ∃ k, s' = .err k) → AttsPost w gs gr b R (.returned (.slice AV nV cV)) wr := fun h => by
      obtain ⟨e1, e2⟩ := rep_end HRR.out h
      exact ⟨_, L, rfl, by rw [e1, HB.out]; exact HA.out, by omega, e2⟩
    have HFIN := bx hfin
    clear hfin
    cases s' with
    | err k =>
      obtain ⟨hB1, hk0⟩ := HA.out.src.err_
      have c1 : wr.cell? ⟨gs, 1, none⟩ = some (.int .i64 k) := (hB1.cell 1).trans rfl
      have hkI : (k == 0) = false := by rw [beq_eq_false_iff_ne]; exact hk0
      have HF := bx (HFIN.out (.inr ⟨k, rfl⟩))
      clear hB1 hk0 HFIN
      by_cases hm : m = 0
      · have hmI : ¬ (0 : Int) < (m : Int) := by omega
        clear hm
        go_wp2
        go_ret
        exact HF.out
      · have hmI : (0 : Int) < (m : Int) := by omega
        clear hm
        go_wp2
        go_ret
        exact HF.out
    | ok p =>
      obtain ⟨hB1, _, _⟩ := HA.out.src.ok_
      have c1 : wr.cell? ⟨gs, 1, none⟩ = some (.int .i64 0) := (hB1.cell 1).trans rfl
      clear hB1
      cases m with
      | zero =>
        have hmI : ¬ (0 : Int) < ((0 : Nat) : Int) := by omega
        have HF := bx (HFIN.out (.inl rfl))
        clear HFIN
        go_wp2
        go_ret
        exact HF.out
      | succ m =>
        have hmI : (0 : Int) < ((m + 1 : Nat) : Int) := by omega
        obtain ⟨r1, h1⟩ : ∃ r1, onR (.ok p) (rdN 2) b = r1 := ⟨_, rfl⟩
        have HN1 := bx (snum_small gs gr 2 b (.ok p) wr HA.out.src (by decide) (by decide))
        rw [h1] at HN1
        have H1 := bx h1
        obtain ⟨v1, hv1⟩ : ∃ v1, valN r1 = v1 := ⟨_, rfl⟩
        rw [hv1] at HN1
        have HV1 := bx hv1
        clear h1 hv1 HFIN
        go_wp2_with fail
        refine HN1.out.mono ?_
        rintro e w1 ⟨rfl, hs1, hc1⟩
        have HA1 := bx (HA.out.next hs1 hc1)
        clear hs1 hc1 HN1 HA c1
        go_wp2_with fail
        obtain ⟨ga, hga⟩ : ∃ ga, w1.heap.size = ga := ⟨_, rfl⟩
        have HGA := bx hga
        have hzB : B ≤ ga := by rw [← hga]; exact HA1.out.z
        have HK2 := bx (Bk.newAt w1 71 #[.int .i64 v1, .slice none 0 0] hga)
        have HA2 := bx (HA1.out.alloc (.cells #[.int .i64 v1, .slice none 0 0] 71))
        have HC2 : Bx (Ch w1 (w1.alloc (.cells #[.int .i64 v1, .slice none 0 0] 71)) (Two gs gr)) := bx ((Ch.refl w1).alloc _)
        rw [hga]
        generalize w1.alloc (.cells #[.int .i64 v1, .slice none 0 0] 71) = w2 at HK2 HA2 HC2 ⊢
        obtain ⟨r2, h2⟩ : ∃ r2, onR (stR r1) (rdN 4) b = r2 := ⟨_, rfl⟩
        have HN2 := bx (snum_small gs gr 4 b (stR r1) w2 HA2.out.src (by decide) (by decide))
        have hv2 := valN_lt 4 (stR r1) b
        rw [h2] at HN2 hv2
        obtain ⟨n2, hn2⟩ : ∃ n2 : Nat, valN r2 = (n2 : Int) := ⟨(valN r2).toNat, by omega⟩
        rw [hn2] at HN2
        have H2 := bx h2
        have HN := bx hn2
        clear hga h2 hn2 hv2
        refine HN2.out.mono ?_
        rintro e w3 ⟨rfl, hs3, hc3⟩
        have HS3 := bx hs3
        have HC3 := bx (HC2.out.trans hc3 (fun _ _ h => h))
        have HK3 := bx (HK2.out.ch hc3 (fun h => by have := HA2.out.two ga h; omega))
        clear hs3 hc3 HN2 HA2 HC2 HK2
        go_wp2_with fail
        obtain ⟨r3, h3⟩ : ∃ r3, onR (stR r2) (rdB n2) b = r3 := ⟨_, rfl⟩
        have HP3 := bx (spart_any gs gr n2 b (stR r2) w3 HS3.out)
        rw [h3] at HP3
        have H3 := bx h3
        clear h3
        refine HP3.out.mono ?_
        rintro e w4 ⟨⟨v, rfl, ho4⟩, hs4, hc4⟩
        have HC4 := bx (HC3.out.trans hc4 (fun _ _ h => h))
        have HK4 := bx (HK3.out.ch hc4 (fun h => by have := HA1.out.two ga h; omega))
        have HL3 := bx HK3.out.lt
        have HZ34 := bx hc4.size
        have HS4 := bx hs4
        have hlo4 := fun k hk => (World.ownsRow.lt ho4 k hk).1
        obtain ⟨A4, n4, c4, rfl, hn4, hr4⟩ := OwL.sl ho4
        have HY4 : Bx (SlB w4 w4.heap.size ⟨A4, n4, c4, valB r3⟩ ∧ ∀ q, A4 = some q → w3.heap.size ≤ q.block) := bx (by
          obtain ⟨A', c', e, hr', hc', hm'⟩ := OwL.rd ho4
          injection e with e1 e2 e3
          subst e1; subst e3
          refine ⟨⟨e2.symm, by show n4 ≤ c4; omega, hm', hr'⟩, fun q hq => ?_⟩
          rcases ho4.2 with ⟨e, _⟩ | ⟨g, _, _, e, _⟩
          · injection e with e _ _
            rw [e] at hq; cases hq
          · injection e with e _ _
            rw [e] at hq
            injection hq with hq
            subst hq
            subst e
            exact hlo4 g rfl)
        clear hs4 hc4 ho4 hlo4 hr4 hn4 HP3 HC3 HK3 HS3
        have hc40 : w4.cell? ⟨ga, 0, none⟩ = some (.int .i64 v1) := (HK4.out.cell 0).trans rfl
        have hc41 : w4.cell? ⟨ga, 1, none⟩ = some (.slice none 0 0) := (HK4.out.cell 1).trans rfl
        have hf41 := HK4.out.frz 1
        go_upto_region 7 with (fail)
        have HK5 : Bx (Bk (w4.setCell ⟨ga, 1, none⟩ (.slice A4 n4 c4)) ga 71 #[.int .i64 v1, .slice A4 n4 c4]) := bx (by simpa using HK4.out.set 1 (.slice A4 n4 c4))
        have hb5 : Below B w4 (w4.setCell ⟨ga, 1, none⟩ (.slice A4 n4 c4)) := (Below.refl B w4).setCell hzB _
        have HC5 : Bx (Ch w1 (w4.setCell ⟨ga, 1, none⟩ (.slice A4 n4 c4)) (Two gs gr)) := bx (HC4.out.setCell (fun h => by rw [HGA.out] at h; exact absurd h (Nat.lt_irrefl _)) _)
        have HS5 := bx (HS4.out.low hb5 hgs hgr)
        have HY5 : Bx (SlB (w4.setCell ⟨ga, 1, none⟩ (.slice A4 n4 c4)) w4.heap.size ⟨A4, n4, c4, valB r3⟩) := bx ⟨HY4.out.1.1, HY4.out.1.2.1, HY4.out.1.2.2.1, fun hn => by
          obtain ⟨ad, e, hb, hc⟩ := HY4.out.1.2.2.2 hn
          have hlo := HY4.out.2 ad e
          have hne : ad.block ≠ ga := by
            have := HL3.out
            have hlo : w3.heap.size ≤ ad.block := hlo
            omega
          exact ⟨ad, e, hb, fun i u hu => (World.cell?_setCell_other w4 ⟨ga, 1, none⟩ (ad.add i) _ (fun e => hne (by have := congrArg Addr.block e; rw [blk_add] at this; exact this.symm))).trans (hc i u hu)⟩⟩
        have hz5 : (w4.setCell ⟨ga, 1, none⟩ (.slice A4 n4 c4)).heap.size = w4.heap.size := by simp [World.setCell]
        generalize w4.setCell ⟨ga, 1, none⟩ (.slice A4 n4 c4) = w5 at HK5 HC5 HS5 HY5 hz5 ⊢
        have HA5 : Bx (AtR w w5 B gs gr b (.slice AV nV cV) L (stR r3)) := bx (HA1.out.next HS5.out HC5.out)
        have HA6 := bx (HA5.out.alloc (.cells #[.int .i64 v1, .slice A4 n4 c4] 71))
        have HNW := bx (RS.new (fC := attC) w5 ⟨v1, ⟨A4, n4, c4, valB r3⟩⟩ #[.int .i64 v1, .slice A4 n4 c4] rfl 71 (0, 0))
        have HX6 : Bx (SlX (w5.alloc (.cells #[.int .i64 v1, .slice A4 n4 c4] 71)) (Bel B (w5.alloc (.cells #[.int .i64 v1, .slice A4 n4 c4] 71)) (.slice AV nV cV)) ⟨A4, n4, c4, valB r3⟩) := bx (SlX.fresh (S := w3.heap.size) ((HY5.out.below (bl_alloc (Below.refl w4.heap.size w5) (by rw [hz5]; exact Nat.le_refl _) _) (Nat.le_refl _)).more (by rw [← hz5]; simp)) (by have := HL3.out; omega) HY4.out.2 (fun k hk => by
          have := (HA1.out.lt k hk).2
          rw [HGA.out] at this
          have := HL3.out
          omega))
        have HN2 : Bx ((L.length + [(⟨v1, ⟨A4, n4, c4, valB r3⟩⟩ : AtE)].length) * 32 ≤ 140737488355328) := bx (by simp only [List.length_cons, List.length_nil]; omega)
        have hz6 : B ≤ (w5.alloc (.cells #[.int .i64 v1, .slice A4 n4 c4] 71)).heap.size := HA6.out.z
        have hcc0 : w5.cell? ⟨ga, 0, none⟩ = some (.int .i64 v1) := (HK5.out.cell 0).trans rfl
        have hcc1 : w5.cell? ⟨ga, 1, none⟩ = some (.slice A4 n4 c4) := (HK5.out.cell 1).trans rfl
        have HRN := bx (att_round HRR.out H1.out H2.out HN.out H3.out)
        clear HA1 HA5 HC4 HC5 HK4 HK5 HS4 HS5 HY4 HY5 HL3 HZ34 hb5 hc40 hc41 hf41 hz5 HRR H1 H2 H3 HN
        go_wp2_with (at_builtin; refine wpList_appS _ attCels rfl (.tmp 27) (.tmp 29) rfl attTy (by decide) B (.slice AV nV cV) L rfl HA6.out.own (w5.heap.size + 1) (some ⟨w5.heap.size, 0, none⟩) 1 1 [⟨v1, ⟨A4, n4, c4, valB r3⟩⟩] rfl rfl HNW.out HN2.out hz6 ?_; intro V7 w7 hO7 hg7 hv7 _; have HA7 := bx (HA6.out.app (x := ⟨v1, ⟨A4, n4, c4, valB r3⟩⟩) HX6.out hO7 hg7 hv7 (Nat.le_of_eq HB.out)))
        have HRL : Bx (repR attP b ((L ++ [(⟨v1, ⟨A4, n4, c4, valB r3⟩⟩ : AtE)]).map AtE.p) (stR r3) m = R) := bx (by
          have e := HRN.out
          rw [HV1.out] at e
          rw [List.map_append]; exact e)
        clear hO7 hg7 hv7 HA6 HX6 HNW HRN HN2
        go_roundw
        case rel => exact ⟨m, L ++ [⟨v1, ⟨A4, n4, c4, valB r3⟩⟩], stR r3, by go_num, by rw [List.length_append]; simp only [List.length_cons, List.length_nil]; omega, HA7, HRL⟩
        case measure => simp [intOf]
end Go.Proofs.Ytdioijhmmmnbgaa
