/- Contract: image.Write: the head. -/
import Derived.Test.YtdioijhmmmnbgaaQiImS
import Derived.Test.YtdioijhmmmnbgaaQiImJ
import Derived.Test.YtdioijhmmmnbgaaPi2
namespace Go.Proofs.Ytdioijhmmmnbgaa
open Go.RowKit
/-- A text is put. -/
theorem sk_app {w0 w w5 : World} {B g : Nat} {v v5 : Value} {l more : List UInt8} (h : SkR w0 w B g v l) (ho : OwB w5 B 5 v5 (l ++ more)) (hc : Ch w.drew w5 (Fow v)) (hn : OwnN w.drew v v5) :
    SkR w0 (w5.setCell ⟨g, 0, none⟩ v5) B g v5 (l ++ more) ∧ SkC g w v (w5.setCell ⟨g, 0, none⟩ v5) v5 := by
  have hgv : v5.ownBlock ≠ some g := own_ne h.vg h.rws.1.lt hn
  have hK5 : Bk w5 g 74 #[v] := (h.rws.1.drewN 1).ch hc (fun e => h.vg e)
  have hR : Rws 74 5 (w5.setCell ⟨g, 0, none⟩ v5) B g v5 (l ++ more) := ⟨by simpa using hK5.set 0 v5, OwL.own_same ho fun k hk => Below.heap_setCell w5 ⟨g, 0, none⟩ v5 k (fun e => hgv (by rw [hk]; exact congrArg some e))⟩
  have hd : Ch w w.drew (Fpt g v) := ⟨rfl, rfl, rfl, Nat.le_refl _, fun _ _ _ => rfl⟩
  have c2 : Ch w.drew w5 (Fpt g v) := ⟨hc.os, hc.tape, hc.output, hc.size, fun k hk hf => hc.same k hk (fun e => hf (.inr e))⟩
  have c3 : Ch w (w5.setCell ⟨g, 0, none⟩ v5) (Fpt g v) := (hd.trans c2 (fun _ _ h => h)).setCell (fun _ => .inl rfl) v5
  exact ⟨h.ch hR c3 hn, c3, hn⟩
def ImgWPost (R : Rz (List UInt8)) (w : World) (e : Ending) (w' : World) : Prop :=
  Below w.heap.size w w' ∧ match R with
    | .ok o => ∃ v, e = .returned (.tuple #[v, .int .i64 0]) ∧ OwB w' w.heap.size 5 v o ∧ o.length ≤ 32768
    | .err k => e = .returned (.tuple #[.slice none 0 0, .int .i64 k]) ∧ (k = 24 ∨ k = 8)
theorem info_image : (Try.prog.info? 29).map (·.size) = some 10 := by kernel_rfl
theorem imC_size (x : ImE) : (imC x).size = 10 := rfl
/-- What the head's numbers are. -/
def headB (m : Img) : List UInt8 := beB 4 3405691582 ++ (beB 2 m.minor ++ (beB 2 m.major ++ beB 2 m.pool.length))
def tailB (m : Img) : List UInt8 := beB 2 m.access ++ (beB 2 m.this ++ (beB 2 m.super ++ (ifB m.ifaces ++ (memsB m.fields ++ (memsB m.methods ++ attsB m.attrs)))))
theorem imgB_eq (m : Img) : imgB m = headB m ++ (m.pool.flatMap cstB ++ tailB m) := by unfold imgB headB tailB; simp only [List.append_assoc]
theorem tag_cases {pool : List Cst} {i : Nat} {c : Cst} (h : rightP pool i c = true) : c.tag = 0 ∨ c.tag = 1 ∨ c.tag = 3 ∨ c.tag = 5 ∨ (c.tag = 7 ∨ c.tag = 8) ∨ (c.tag = 9 ∨ c.tag = 10 ∨ c.tag = 11 ∨ c.tag = 12) := by
  by_cases h0 : c.tag = 0
  · exact .inl h0
  by_cases h1 : c.tag = 1
  · exact .inr (.inl h1)
  by_cases h3 : c.tag = 3
  · exact .inr (.inr (.inl h3))
  by_cases h5 : c.tag = 5
  · exact .inr (.inr (.inr (.inl h5)))
  by_cases h7 : c.tag = 7 ∨ c.tag = 8
  · exact .inr (.inr (.inr (.inr (.inl h7))))
  by_cases h9 : c.tag = 9 ∨ c.tag = 10 ∨ c.tag = 11
  · exact .inr (.inr (.inr (.inr (.inr (by omega)))))
  by_cases h12 : c.tag = 12
  · exact .inr (.inr (.inr (.inr (.inr (by omega)))))
  unfold rightP at h
  rw [if_neg h0, if_neg h1, if_neg h3, if_neg h5, if_neg h7, if_neg h9, if_neg h12] at h
  simp at h
theorem holds_rights {m : Img} (h : holdsP m = true) : rightsP m.pool = true := by
  unfold holdsP at h
  simp only [Bool.and_eq_true] at h
  exact h.1.1.1.1.1.1.2
theorem cstB_0 {c : Cst} (h : c.tag = 0) : cstB c = [] := by unfold cstB; rw [if_pos h]
theorem cstB_1 {c : Cst} (h : c.tag = 1) : cstB c = beB 1 c.tag ++ (beB 2 c.text.length ++ c.text) := by unfold cstB; rw [if_neg (by omega), if_pos h]
theorem cstB_3 {c : Cst} (h : c.tag = 3) : cstB c = beB 1 c.tag ++ beB 4 c.num := by unfold cstB; rw [if_neg (by omega), if_neg (by omega), if_pos h]
theorem cstB_5 {c : Cst} (h : c.tag = 5) : cstB c = beB 1 c.tag ++ beB 8 c.num := by unfold cstB; rw [if_neg (by omega), if_neg (by omega), if_neg (by omega), if_pos h]
theorem cstB_7 {c : Cst} (h : c.tag = 7 ∨ c.tag = 8) : cstB c = beB 1 c.tag ++ beB 2 c.a := by unfold cstB; rw [if_neg (by omega), if_neg (by omega), if_neg (by omega), if_neg (by omega), if_pos h]
theorem cstB_9 {c : Cst} (h : c.tag = 9 ∨ c.tag = 10 ∨ c.tag = 11 ∨ c.tag = 12) : cstB c = beB 1 c.tag ++ (beB 2 c.a ++ beB 2 c.b) := by unfold cstB; rw [if_neg (by omega), if_neg (by omega), if_neg (by omega), if_neg (by omega), if_neg (by omega)]
theorem img_long {m : Img} {j : Nat} (h : 32768 < (headB m ++ (m.pool.take j).flatMap cstB).length) : 32768 < (imgB m).length := by
  rw [imgB_eq, List.length_append, List.length_append]
  have e : (m.pool.flatMap cstB).length = ((m.pool.take j).flatMap cstB).length + ((m.pool.drop j).flatMap cstB).length := by
    rw [← List.length_append, ← List.flatMap_append, List.take_append_drop]
  rw [List.length_append] at h
  omega
theorem atts_lim {L : List Cst} {M : List AtE} (h : attsOk L (M.map AtE.p) = true) : M.length ≤ 64 ∧ ∀ y ∈ M, y.s.l.length ≤ 32768 := by
  rw [attsOk_E, Bool.and_eq_true, List.all_eq_true] at h
  refine ⟨of_decide_eq_true h.2, fun y hy => ?_⟩
  have := h.1 y hy
  unfold okE attOk at this
  rw [Bool.and_eq_true] at this
  exact of_decide_eq_true this.2
theorem mems_lim {L : List Cst} {M : List MmE} (h : memsOk L (M.map MmE.p) = true) : M.length ≤ 64 ∧ ∀ z ∈ M, MmLim z := by
  rw [memsOk_E, Bool.and_eq_true, List.all_eq_true] at h
  refine ⟨of_decide_eq_true h.2, fun z hz => ?_⟩
  have := h.1 z hz
  rw [okM_E, Bool.and_eq_true] at this
  exact atts_lim this.2
theorem holds_lim {x : ImE} (h : holdsP x.p = true) : x.ifs.length ≤ 64 ∧ (x.fs.length ≤ 64 ∧ ∀ z ∈ x.fs, MmLim z) ∧ (x.ms.length ≤ 64 ∧ ∀ z ∈ x.ms, MmLim z) ∧ (x.as_.length ≤ 64 ∧ ∀ y ∈ x.as_, y.s.l.length ≤ 32768) := by
  unfold holdsP at h
  simp only [Bool.and_eq_true] at h
  obtain ⟨⟨⟨⟨⟨⟨⟨h1, _⟩, _⟩, _⟩, _⟩, h6⟩, h7⟩, h8⟩ := h
  refine ⟨?_, mems_lim h6, mems_lim h7, atts_lim h8⟩
  unfold headOk at h1
  rw [Bool.and_eq_true] at h1
  exact of_decide_eq_true h1.2
theorem memsB_len (M : List MmE) (h64 : M.length ≤ 64) (hd : ∀ x ∈ M, MmLim x) : (memsB (M.map MmE.p)).length ≤ 134242820 := by
  unfold memsB
  rw [List.length_append, beB_len]
  have := mems_len M hd
  omega
theorem imgW_err {R : Rz (List UInt8)} {w w' : World} {k : Int} (h : R = .err k) (hb : Below w.heap.size w w') (hk : k = 24 ∨ k = 8) : ImgWPost R w (.returned (.tuple #[.slice none 0 0, .int .i64 k])) w' := by
  subst h; exact ⟨hb, rfl, hk⟩
theorem imgW_ok {R : Rz (List UInt8)} {w w' : World} {v : Value} {l : List UInt8} (h : R = .ok l) (hb : Below w.heap.size w w') (ho : OwB w' w.heap.size 5 v l) (hl : l.length ≤ 32768) : ImgWPost R w (.returned (.tuple #[v, .int .i64 0])) w' := by
  subst h; exact ⟨hb, v, rfl, ho, hl⟩
set_option maxRecDepth 100000 in
set_option maxHeartbeats 16000000 in
theorem write_any (x : ImE) (w : World) (hx : RIm w w.heap.size x) (hT : ∀ c ∈ x.pool, (-9223372036854775808 ≤ c.tag ∧ c.tag ≤ 9223372036854775807) ∧ c.text.length ≤ 2000000) :
    Calls Try.prog 15 #[.agg (imC x)] w (ImgWPost (writeP x.p) w) := by
  have HX := bx hx
  have HT := bx hT
  obtain ⟨W, hW⟩ : ∃ W, writeP x.p = W := ⟨_, rfl⟩
  obtain ⟨cs, hcs⟩ : ∃ cs, cs = imC x := ⟨_, rfl⟩
  rw [hW, ← hcs]
  have HW := bx hW
  have HCS := bx hcs
  obtain ⟨B, hB⟩ : ∃ B, w.heap.size = B := ⟨_, rfl⟩
  have HKB := bx (Bk.newAt w 29 cs hB)
  have HBB := bx (bl_alloc (Below.refl w.heap.size w) (Nat.le_refl _) (.cells cs 29))
  have HB := bx hB
  obtain ⟨q, hq⟩ : ∃ q, holdsP x.p = q := ⟨_, rfl⟩
  have HQ := bx hq
  have hpb : (x.pn : Int) ≤ 9223372036854775807 := by have := hx.pl; omega
  clear hx hT hW hcs hB hq
  go_enter Try.func15, Try.ntmps15
  go_upto_region 1 with (fail)
  rw [HB.out]
  generalize w.alloc (.cells cs 29) = wb at HKB HBB ⊢
  have HHOLD := bx (holds_any x wb (HX.out.up HBB.out) HT.out)
  rw [← HCS.out, HQ.out] at HHOLD
  cases q with
  | false =>
    have HN : Bx (W = .err 24) := bx (by rw [← HW.out]; unfold writeP; rw [if_pos HQ.out])
    go_wp2_with (first | (refine wpList_load_row rfl 29 (.tmp 1) rfl B rfl _ cs _ _ HKB.out Try.underlying29 rfl (by rw [HCS.out, imC_size]; exact info_image) ?_) | (go_at_call 17; refine HHOLD.out.mono ?_; rintro e w1 ⟨rfl, hb1⟩; have HB1 := bx hb1; clear hb1))
    go_ret2
    exact imgW_err HN.out (HBB.out.trans (HB1.out.mono HBB.out.size)) (.inl rfl)
  | true =>
    have HN : Bx (W = if 32768 < (imgB x.p).length then .err 8 else .ok (imgB x.p)) := bx (by rw [← HW.out]; unfold writeP; rw [if_neg (by rw [HQ.out]; decide)])
    go_upto_region 4 with (first | (refine wpList_load_row rfl 29 (.tmp 1) rfl B rfl _ cs _ _ HKB.out Try.underlying29 rfl (by rw [HCS.out, imC_size]; exact info_image) ?_) | (go_at_call 17; refine HHOLD.out.mono ?_; rintro e w1 ⟨rfl, hb1⟩; have HB1 := bx hb1; clear hb1))
    obtain ⟨g, hg⟩ : ∃ g, w1.heap.size = g := ⟨_, rfl⟩
    have HBW1 := bx (HBB.out.trans (HB1.out.mono HBB.out.size))
    have HKM1 := bx (HKB.out.below HB1.out HKB.out.lt)
    have hgB : B < g := by have := HKM1.out.lt; omega
    have HBG : Bx (B ≠ g) := bx (by omega)
    have HKS := bx (Bk.newAt w1 74 #[.slice none 0 0] hg)
    have HKM2 := bx (HKM1.out.alloc (.cells #[.slice none 0 0] 74))
    have HBW2 := bx (bl_alloc HBW1.out (Nat.le_refl _) (.cells #[.slice none 0 0] 74))
    have HGB : Bx (w.heap.size ≤ g) := bx (by rw [← hg]; exact HBW1.out.size)
    rw [hg]
    generalize w1.alloc (.cells #[.slice none 0 0] 74) = w2 at HKS HKM2 HBW2 ⊢
    obtain ⟨v2, hv2⟩ : ∃ v, v = Value.slice none 0 0 := ⟨_, rfl⟩
    obtain ⟨l2, hl2⟩ : ∃ l : List UInt8, l = [] := ⟨_, rfl⟩
    have hn2 : l2.length ≤ 0 := by rw [hl2]; exact Nat.le_refl _
    have HV2 := bx hv2
    have HL2 := bx hl2
    have HS2 : Bx (SkR w w2 w.heap.size g v2 l2) := bx ⟨⟨by rw [hv2]; exact HKS.out, by rw [hv2, hl2]; exact OwL.nil⟩, HBW2.out, HGB.out, (by rw [hv2]; exact fun e => by cases e), HBW2.out.size⟩
    have HC2 := bx (SkC.refl g w2 v2)
    clear hg hv2 hl2 HKB HKM1 HHOLD HKS
    obtain ⟨l3, hl⟩ : ∃ l', l2 ++ [3405691582].flatMap (beB 4) = l' := ⟨_, rfl⟩
    have hn3 : l3.length ≤ 10 := by rw [← hl]; simp [beB_len]; omega
    have HP := bx (sk_new w.heap.size g 4 1 v2 l2 l3 [3405691582] #[.int .i64 3405691582] w w2 HS2.out rfl rfl (by decide) (by decide) (by decide) (by omega) hl)
    have HL3 := bx hl
    clear hl
    go_wp2_with fail
    refine HP.out.mono ?_
    rintro e w3 ⟨⟨_, rfl⟩, v3, hs, hc⟩
    have HS3 := bx hs
    have HC3 := bx (HC2.out.trans hc)
    clear hs hc HP
    have HKM3 := bx (HKM2.out.skc HC3.out HBG.out (by rw [HV2.out]; exact fun e => by cases e))
    have f0_3 := HKM3.out.im0 HCS.out
    have f1_3 := HKM3.out.im1 HCS.out
    have f2_3 := HKM3.out.im2 HCS.out
    obtain ⟨l4, hl⟩ : ∃ l', l3 ++ [x.minor, x.major, (x.pn : Int)].flatMap (beB 2) = l' := ⟨_, rfl⟩
    have hn4 : l4.length ≤ 20 := by rw [← hl]; simp [beB_len]; omega
    have HP := bx (sk_new w.heap.size g 2 3 v3 l3 l4 [x.minor, x.major, (x.pn : Int)] #[.int .i64 x.minor, .int .i64 x.major, .int .i64 (x.pn : Int)] w w3 HS3.out rfl rfl (by decide) (by decide) (by decide) (by omega) hl)
    have HL4 := bx hl
    clear hl
    go_wp2_with fail
    refine HP.out.mono ?_
    rintro e w4 ⟨⟨_, rfl⟩, v4, hs, hc⟩
    have HS4 := bx hs
    have HC4 := bx (HC3.out.trans hc)
    clear hs hc HP
    have HKM4 := bx (HKM2.out.skc HC4.out HBG.out (by rw [HV2.out]; exact fun e => by cases e))
    have f2_4 := HKM4.out.im2 HCS.out
    clear f0_3 f1_3 f2_3
    have HH : Bx (l4 = headB x.p) := bx (by
      rw [← HL4.out, ← HL3.out, HL2.out]
      have e : x.p.pool.length = x.pn := HX.out.pl.1
      unfold headB
      rw [e]
      simp [ImE.p])
    have HA4 : Bx (SkR w w4 w.heap.size g v4 (l4 ++ (x.pool.take 0).flatMap cstB)) := bx (by simpa using HS4.out)
    go_wp2
    go_loopw [28] (fun iv wx => ∃ (j : Nat) (vj : Value), j ≤ x.pn ∧ iv = .int .i64 (j : Int) ∧ Bx (SkR w wx w.heap.size g vj (l4 ++ (x.pool.take j).flatMap cstB)) ∧ Bx (SkC g w2 v2 wx vj) ∧ Bx ((l4 ++ (x.pool.take j).flatMap cstB).length ≤ 3000000)) (fun iv _ => x.pn - (intOf iv).toNat)
    case atStart => exact ⟨0, v4, by omega, rfl, HA4, HC4, bx (by simp; omega)⟩
    case round =>
      clear HA4 f2_4 HS2 HS3 HS4 HC2 HC3 HC4 HKM3 HKM4
      obtain ⟨j, vj, hj, rfl, HS, HC, HLN⟩ := hrel
      by_cases hjn : j < x.pn
      · have hjI : (j : Int) < (x.pn : Int) := by omega
        obtain ⟨ad, c, hA, _, HCX, p0, p1, p2, p3, p4⟩ := cst_at (HX.out.pool.below HS.out.bel (Nat.le_refl _)) (k := j) (by rw [HX.out.pl.1]; exact hjn)
        rw [hA]
        have HTC := bx (tag_cases (right_at (holds_rights HQ.out) (show x.p.pool[j]? = some c from HCX.out)))
        have htl := (HT.out c (List.mem_of_getElem? HCX.out)).2
        have hsz : (⟨c.text.toArray⟩ : ByteArray).size = c.text.length := by simp [ByteArray.size]
        have hsl : (⟨c.text.toArray⟩ : ByteArray).data.toList = c.text := rfl
        obtain ⟨sn, hsn⟩ : ∃ sn : ByteArray, sn = ⟨c.text.toArray⟩ := ⟨_, rfl⟩
        rw [← hsn] at p4 hsz hsl
        have HSZ := bx hsz
        have HSL := bx hsl
        obtain ⟨l5, hl5⟩ : ∃ l, l4 ++ (x.pool.take j).flatMap cstB = l := ⟨_, rfl⟩
        have HL5 := bx hl5
        rw [hl5] at HS
        obtain ⟨A5, n5, c5, rfl, hn5, _⟩ := OwL.sl HS.out.rws.2
        have HNL := hn5
        obtain ⟨C, hC⟩ : ∃ C, wr.heap.size = C := ⟨_, rfl⟩
        have hgC : C ≠ g ∧ (Value.slice A5 n5 c5).ownBlock ≠ some C := ⟨fun e => by have := (HS.out.low g (.inl rfl)).2; omega, fun e => by have := (HS.out.low C (.inr e)).2; omega⟩
        have HGC := bx hgC
        have HKC5 := bx (Bk.newAt wr 53 #[.int .i64 c.tag, .int .i64 c.a, .int .i64 c.b, .int .i64 c.num, .string sn] hC)
        have HBW := bx (bl_alloc (Below.refl wr.heap.size wr) (Nat.le_refl _) (.cells #[.int .i64 c.tag, .int .i64 c.a, .int .i64 c.b, .int .i64 c.num, .string sn] 53))
        have HCC := bx hC
        clear hC hgC hl5 hn5 hsz hsl hsn
        go_upto_region 9 with (fail)
        rw [HCC.out]
        generalize wr.alloc (.cells #[.int .i64 c.tag, .int .i64 c.a, .int .i64 c.b, .int .i64 c.num, .string sn] 53) = w5 at HKC5 HBW ⊢
        have HS5 := bx (HS.out.below HBW.out)
        have HC5 := bx (HC.out.below HBW.out)
        have HD5 := bx (SkC.refl g w5 (.slice A5 n5 c5))
        have s5 := HS5.out.cell
        have c0 : w5.cell? ⟨C, 0, none⟩ = some (.int .i64 c.tag) := (HKC5.out.cell 0).trans rfl
        clear p0 p1 p2 p3 p4 HCC HS HC HLN
        by_cases hbig : 32768 < n5
        · have hbI : (32768 : Int) < (n5 : Int) := by omega
          have HN8 : Bx (W = .err 8) := bx (by
            rw [HN.out, if_pos]
            refine img_long (j := j) ?_
            show 32768 < (headB x.p ++ (x.pool.take j).flatMap cstB).length
            rw [← HH.out, HL5.out, ← HNL.out]; exact hbig)
          go_wp2
          go_ret2
          exact imgW_err HN8.out HS5.out.bel (.inr rfl)
        · have hbI : ¬ (32768 : Int) < (n5 : Int) := by omega
          have hn5 : l5.length ≤ 32768 := by rw [← HNL.out]; omega
          have HN5 := bx hn5
          rcases HTC.out with t0 | t1 | t3 | t5 | t7 | t9
          · have ng1 : ¬ c.tag = 1 := by omega
            have ng3 : ¬ c.tag = 3 := by omega
            have ng5 : ¬ c.tag = 5 := by omega
            have ng7 : ¬ c.tag = 7 := by omega
            have ng8 : ¬ c.tag = 8 := by omega
            have ng9 : ¬ c.tag = 9 := by omega
            have ng10 : ¬ c.tag = 10 := by omega
            have ng11 : ¬ c.tag = 11 := by omega
            have ng12 : ¬ c.tag = 12 := by omega
            have N1 : Bx (SkR w w5 w.heap.size g (.slice A5 n5 c5) (l4 ++ (x.pool.take (j + 1)).flatMap cstB)) := bx (by
              have e : l4 ++ (x.pool.take (j + 1)).flatMap cstB = l5 := by
                rw [take_snoc' HCX.out, List.flatMap_append, ← List.append_assoc, HL5.out]
                show _ ++ (cstB c ++ []) = _
                rw [cstB_0 t0]; simp
              rw [e]; exact HS5.out)
            have N3 : Bx ((l4 ++ (x.pool.take (j + 1)).flatMap cstB).length ≤ 3000000) := bx (by
              have e : l4 ++ (x.pool.take (j + 1)).flatMap cstB = l5 := by
                rw [take_snoc' HCX.out, List.flatMap_append, ← List.append_assoc, HL5.out]
                show _ ++ (cstB c ++ []) = _
                rw [cstB_0 t0]; simp
              rw [e]; omega)
            go_wp2
            go_roundw
            case rel => exact ⟨j + 1, _, by omega, by go_num, N1, HC5, N3⟩
            case measure => simp [intOf]; omega
          · have ng3 : ¬ c.tag = 3 := by omega
            have ng5 : ¬ c.tag = 5 := by omega
            have ng7 : ¬ c.tag = 7 := by omega
            have ng8 : ¬ c.tag = 8 := by omega
            have ng9 : ¬ c.tag = 9 := by omega
            have ng10 : ¬ c.tag = 10 := by omega
            have ng11 : ¬ c.tag = 11 := by omega
            have ng12 : ¬ c.tag = 12 := by omega
            obtain ⟨l6, hl⟩ : ∃ l', l5 ++ [1].flatMap (beB 1) = l' := ⟨_, rfl⟩
            have hn6 : l6.length ≤ 40000 := by rw [← hl]; simp [beB_len]; omega
            have HP := bx (sk_new w.heap.size g 1 1 (.slice A5 n5 c5) l5 l6 [1] #[.int .i64 1] w w5 HS5.out rfl rfl (by decide) (by decide) (by decide) (by omega) hl)
            have HL6 := bx hl
            clear hl
            go_wp2_with fail
            refine HP.out.mono ?_
            rintro e w6 ⟨⟨_, rfl⟩, v6, hs, hc⟩
            have HS6 := bx hs
            have HC6 := bx (HC5.out.trans hc)
            have HD6 := bx (HD5.out.trans hc)
            have HKC6 := bx (HKC5.out.skc HD6.out HGC.out.1 HGC.out.2)
            have c4_6 : w6.cell? ⟨C, 4, none⟩ = some (.string sn) := (HKC6.out.cell 4).trans rfl
            clear hs hc HP
            obtain ⟨l7, hl⟩ : ∃ l', l6 ++ [(sn.size : Int)].flatMap (beB 2) = l' := ⟨_, rfl⟩
            have hn7 : l7.length ≤ 40010 := by rw [← hl]; simp [beB_len]; omega
            have HP := bx (sk_new w.heap.size g 2 1 v6 l6 l7 [(sn.size : Int)] #[.int .i64 (sn.size : Int)] w w6 HS6.out rfl rfl (by decide) (by decide) (by decide) (by omega) hl)
            have HL7 := bx hl
            clear hl
            go_wp2_with fail
            refine HP.out.mono ?_
            rintro e w7 ⟨⟨_, rfl⟩, v7, hs, hc⟩
            have HS7 := bx hs
            have HC7 := bx (HC6.out.trans hc)
            have HD7 := bx (HD6.out.trans hc)
            have HKC7 := bx (HKC5.out.skc HD7.out HGC.out.1 HGC.out.2)
            have c4_7 : w7.cell? ⟨C, 4, none⟩ = some (.string sn) := (HKC7.out.cell 4).trans rfl
            clear hs hc HP
            go_upto_region 15 with (fail)
            have s7 : w7.drew.cell? ⟨g, 0, none⟩ = some v7 := HS7.out.cell
            have d7 : w7.drew.cell? ⟨C, 4, none⟩ = some (.string sn) := c4_7
            have HNN : Bx (l7.length + sn.size ≤ 140737488355328) := bx (by have := HSZ.out; omega)
            have hbase : w.heap.size ≤ w7.drew.heap.size := HS7.out.z
            go_region_law ((refine step_appStrG _ rfl (.tmp 57) (.tmp 59) rfl byteTyP Try.underlying9 w.heap.size v7 l7 rfl (OwL.drew HS7.out.rws.2) sn rfl HNN.out hbase ?_; intro v9 w9 hO9 h9 n9; obtain ⟨A9, m9, k9, rfl, hm9, _⟩ := OwL.sl hO9; have hK9 : Bk w9 g 74 #[v7] := (HS7.out.rws.1.drewN 1).ch h9 (fun e => HS7.out.vg e); have hc9 : w9.cell? ⟨g, 0, none⟩ = some v7 := (hK9.cell 0).trans rfl; have hf9 : w9.frozen? ⟨g, 0, none⟩ = false := hK9.frz 0))
            all_goals (
              obtain ⟨k1, k2⟩ := sk_app HS7.out hO9 h9 n9
              have e : l4 ++ (x.pool.take (j + 1)).flatMap cstB = l7 ++ sn.data.toList := by
                rw [take_snoc' HCX.out, List.flatMap_append, ← List.append_assoc, HL5.out, ← HL7.out, ← HL6.out, HSL.out]
                show _ ++ (cstB c ++ []) = _
                rw [cstB_1 t1]
                simp [t1, HSZ.out]
              have N1 : Bx (SkR w (w9.setCell ⟨g, 0, none⟩ (.slice A9 m9 k9)) w.heap.size g (.slice A9 m9 k9) (l4 ++ (x.pool.take (j + 1)).flatMap cstB)) := bx (by rw [e]; exact k1)
              have N2 := bx (HC7.out.trans k2)
              have N3 : Bx ((l4 ++ (x.pool.take (j + 1)).flatMap cstB).length ≤ 3000000) := bx (by
                rw [e, List.length_append, HSL.out]; omega)
              clear k1 k2 e hO9 h9 n9 hK9 hm9
              go_wp2
              go_roundw
              case rel => exact ⟨j + 1, _, by omega, by go_num, N1, N2, N3⟩
              case measure => simp [intOf]; omega)
          · have ng1 : ¬ c.tag = 1 := by omega
            have ng5 : ¬ c.tag = 5 := by omega
            have ng7 : ¬ c.tag = 7 := by omega
            have ng8 : ¬ c.tag = 8 := by omega
            have ng9 : ¬ c.tag = 9 := by omega
            have ng10 : ¬ c.tag = 10 := by omega
            have ng11 : ¬ c.tag = 11 := by omega
            have ng12 : ¬ c.tag = 12 := by omega
            obtain ⟨l6, hl⟩ : ∃ l', l5 ++ [3].flatMap (beB 1) = l' := ⟨_, rfl⟩
            have hn6 : l6.length ≤ 40000 := by rw [← hl]; simp [beB_len]; omega
            have HP := bx (sk_new w.heap.size g 1 1 (.slice A5 n5 c5) l5 l6 [3] #[.int .i64 3] w w5 HS5.out rfl rfl (by decide) (by decide) (by decide) (by omega) hl)
            have HL6 := bx hl
            clear hl
            go_wp2_with fail
            refine HP.out.mono ?_
            rintro e w6 ⟨⟨_, rfl⟩, v6, hs, hc⟩
            have HS6 := bx hs
            have HC6 := bx (HC5.out.trans hc)
            have HD6 := bx (HD5.out.trans hc)
            have HKC6 := bx (HKC5.out.skc HD6.out HGC.out.1 HGC.out.2)
            have c3_6 : w6.cell? ⟨C, 3, none⟩ = some (.int .i64 c.num) := (HKC6.out.cell 3).trans rfl
            clear hs hc HP
            obtain ⟨l7, hl⟩ : ∃ l', l6 ++ [c.num].flatMap (beB 4) = l' := ⟨_, rfl⟩
            have hn7 : l7.length ≤ 40010 := by rw [← hl]; simp [beB_len]; omega
            have HP := bx (sk_new w.heap.size g 4 1 v6 l6 l7 [c.num] #[.int .i64 c.num] w w6 HS6.out rfl rfl (by decide) (by decide) (by decide) (by omega) hl)
            have HL7 := bx hl
            clear hl
            go_wp2_with fail
            refine HP.out.mono ?_
            rintro e w7 ⟨⟨_, rfl⟩, v7, hs, hc⟩
            have HS7 := bx hs
            have HC7 := bx (HC6.out.trans hc)
            clear hs hc HP
            have N1 : Bx (SkR w w7 w.heap.size g v7 (l4 ++ (x.pool.take (j + 1)).flatMap cstB)) := bx (by
              have e : l4 ++ (x.pool.take (j + 1)).flatMap cstB = l7 := by
                rw [take_snoc' HCX.out, List.flatMap_append, ← List.append_assoc, HL5.out, ← HL7.out, ← HL6.out]
                show _ ++ (cstB c ++ []) = _
                rw [cstB_3 t3]
                simp [t3]
              rw [e]; exact HS7.out)
            have N3 : Bx ((l4 ++ (x.pool.take (j + 1)).flatMap cstB).length ≤ 3000000) := bx (by
              have e : l4 ++ (x.pool.take (j + 1)).flatMap cstB = l5 ++ cstB c := by
                rw [take_snoc' HCX.out, List.flatMap_append, ← List.append_assoc, HL5.out]
                show _ ++ (cstB c ++ []) = _
                rw [List.append_nil]
              rw [e, cstB_3 t3]
              have := HN5.out
              simp [beB_len]; omega)
            go_wp2
            go_roundw
            case rel => exact ⟨j + 1, _, by omega, by go_num, N1, HC7, N3⟩
            case measure => simp [intOf]; omega
          · have ng1 : ¬ c.tag = 1 := by omega
            have ng3 : ¬ c.tag = 3 := by omega
            have ng7 : ¬ c.tag = 7 := by omega
            have ng8 : ¬ c.tag = 8 := by omega
            have ng9 : ¬ c.tag = 9 := by omega
            have ng10 : ¬ c.tag = 10 := by omega
            have ng11 : ¬ c.tag = 11 := by omega
            have ng12 : ¬ c.tag = 12 := by omega
            obtain ⟨l6, hl⟩ : ∃ l', l5 ++ [5].flatMap (beB 1) = l' := ⟨_, rfl⟩
            have hn6 : l6.length ≤ 40000 := by rw [← hl]; simp [beB_len]; omega
            have HP := bx (sk_new w.heap.size g 1 1 (.slice A5 n5 c5) l5 l6 [5] #[.int .i64 5] w w5 HS5.out rfl rfl (by decide) (by decide) (by decide) (by omega) hl)
            have HL6 := bx hl
            clear hl
            go_wp2_with fail
            refine HP.out.mono ?_
            rintro e w6 ⟨⟨_, rfl⟩, v6, hs, hc⟩
            have HS6 := bx hs
            have HC6 := bx (HC5.out.trans hc)
            have HD6 := bx (HD5.out.trans hc)
            have HKC6 := bx (HKC5.out.skc HD6.out HGC.out.1 HGC.out.2)
            have c3_6 : w6.cell? ⟨C, 3, none⟩ = some (.int .i64 c.num) := (HKC6.out.cell 3).trans rfl
            clear hs hc HP
            obtain ⟨l7, hl⟩ : ∃ l', l6 ++ [c.num].flatMap (beB 8) = l' := ⟨_, rfl⟩
            have hn7 : l7.length ≤ 40010 := by rw [← hl]; simp [beB_len]; omega
            have HP := bx (sk_new w.heap.size g 8 1 v6 l6 l7 [c.num] #[.int .i64 c.num] w w6 HS6.out rfl rfl (by decide) (by decide) (by decide) (by omega) hl)
            have HL7 := bx hl
            clear hl
            go_wp2_with fail
            refine HP.out.mono ?_
            rintro e w7 ⟨⟨_, rfl⟩, v7, hs, hc⟩
            have HS7 := bx hs
            have HC7 := bx (HC6.out.trans hc)
            clear hs hc HP
            have N1 : Bx (SkR w w7 w.heap.size g v7 (l4 ++ (x.pool.take (j + 1)).flatMap cstB)) := bx (by
              have e : l4 ++ (x.pool.take (j + 1)).flatMap cstB = l7 := by
                rw [take_snoc' HCX.out, List.flatMap_append, ← List.append_assoc, HL5.out, ← HL7.out, ← HL6.out]
                show _ ++ (cstB c ++ []) = _
                rw [cstB_5 t5]
                simp [t5]
              rw [e]; exact HS7.out)
            have N3 : Bx ((l4 ++ (x.pool.take (j + 1)).flatMap cstB).length ≤ 3000000) := bx (by
              have e : l4 ++ (x.pool.take (j + 1)).flatMap cstB = l5 ++ cstB c := by
                rw [take_snoc' HCX.out, List.flatMap_append, ← List.append_assoc, HL5.out]
                show _ ++ (cstB c ++ []) = _
                rw [List.append_nil]
              rw [e, cstB_5 t5]
              have := HN5.out
              simp [beB_len]; omega)
            go_wp2
            go_roundw
            case rel => exact ⟨j + 1, _, by omega, by go_num, N1, HC7, N3⟩
            case measure => simp [intOf]; omega
          · rcases t7 with u7 | u8
            · have ng1 : ¬ c.tag = 1 := by omega
              have ng3 : ¬ c.tag = 3 := by omega
              have ng5 : ¬ c.tag = 5 := by omega
              have ng8 : ¬ c.tag = 8 := by omega
              have ng9 : ¬ c.tag = 9 := by omega
              have ng10 : ¬ c.tag = 10 := by omega
              have ng11 : ¬ c.tag = 11 := by omega
              have ng12 : ¬ c.tag = 12 := by omega
              obtain ⟨l6, hl⟩ : ∃ l', l5 ++ [7].flatMap (beB 1) = l' := ⟨_, rfl⟩
              have hn6 : l6.length ≤ 40000 := by rw [← hl]; simp [beB_len]; omega
              have HP := bx (sk_new w.heap.size g 1 1 (.slice A5 n5 c5) l5 l6 [7] #[.int .i64 7] w w5 HS5.out rfl rfl (by decide) (by decide) (by decide) (by omega) hl)
              have HL6 := bx hl
              clear hl
              go_wp2_with fail
              refine HP.out.mono ?_
              rintro e w6 ⟨⟨_, rfl⟩, v6, hs, hc⟩
              have HS6 := bx hs
              have HC6 := bx (HC5.out.trans hc)
              have HD6 := bx (HD5.out.trans hc)
              have HKC6 := bx (HKC5.out.skc HD6.out HGC.out.1 HGC.out.2)
              have c1_6 : w6.cell? ⟨C, 1, none⟩ = some (.int .i64 c.a) := (HKC6.out.cell 1).trans rfl
              clear hs hc HP
              obtain ⟨l7, hl⟩ : ∃ l', l6 ++ [c.a].flatMap (beB 2) = l' := ⟨_, rfl⟩
              have hn7 : l7.length ≤ 40010 := by rw [← hl]; simp [beB_len]; omega
              have HP := bx (sk_new w.heap.size g 2 1 v6 l6 l7 [c.a] #[.int .i64 c.a] w w6 HS6.out rfl rfl (by decide) (by decide) (by decide) (by omega) hl)
              have HL7 := bx hl
              clear hl
              go_wp2_with fail
              refine HP.out.mono ?_
              rintro e w7 ⟨⟨_, rfl⟩, v7, hs, hc⟩
              have HS7 := bx hs
              have HC7 := bx (HC6.out.trans hc)
              clear hs hc HP
              have N1 : Bx (SkR w w7 w.heap.size g v7 (l4 ++ (x.pool.take (j + 1)).flatMap cstB)) := bx (by
                have e : l4 ++ (x.pool.take (j + 1)).flatMap cstB = l7 := by
                  rw [take_snoc' HCX.out, List.flatMap_append, ← List.append_assoc, HL5.out, ← HL7.out, ← HL6.out]
                  show _ ++ (cstB c ++ []) = _
                  rw [cstB_7 (Or.inl u7)]
                  simp [u7]
                rw [e]; exact HS7.out)
              have N3 : Bx ((l4 ++ (x.pool.take (j + 1)).flatMap cstB).length ≤ 3000000) := bx (by
                have e : l4 ++ (x.pool.take (j + 1)).flatMap cstB = l5 ++ cstB c := by
                  rw [take_snoc' HCX.out, List.flatMap_append, ← List.append_assoc, HL5.out]
                  show _ ++ (cstB c ++ []) = _
                  rw [List.append_nil]
                rw [e, cstB_7 (Or.inl u7)]
                have := HN5.out
                simp [beB_len]; omega)
              go_wp2
              go_roundw
              case rel => exact ⟨j + 1, _, by omega, by go_num, N1, HC7, N3⟩
              case measure => simp [intOf]; omega
            · have ng1 : ¬ c.tag = 1 := by omega
              have ng3 : ¬ c.tag = 3 := by omega
              have ng5 : ¬ c.tag = 5 := by omega
              have ng7 : ¬ c.tag = 7 := by omega
              have ng9 : ¬ c.tag = 9 := by omega
              have ng10 : ¬ c.tag = 10 := by omega
              have ng11 : ¬ c.tag = 11 := by omega
              have ng12 : ¬ c.tag = 12 := by omega
              obtain ⟨l6, hl⟩ : ∃ l', l5 ++ [8].flatMap (beB 1) = l' := ⟨_, rfl⟩
              have hn6 : l6.length ≤ 40000 := by rw [← hl]; simp [beB_len]; omega
              have HP := bx (sk_new w.heap.size g 1 1 (.slice A5 n5 c5) l5 l6 [8] #[.int .i64 8] w w5 HS5.out rfl rfl (by decide) (by decide) (by decide) (by omega) hl)
              have HL6 := bx hl
              clear hl
              go_wp2_with fail
              refine HP.out.mono ?_
              rintro e w6 ⟨⟨_, rfl⟩, v6, hs, hc⟩
              have HS6 := bx hs
              have HC6 := bx (HC5.out.trans hc)
              have HD6 := bx (HD5.out.trans hc)
              have HKC6 := bx (HKC5.out.skc HD6.out HGC.out.1 HGC.out.2)
              have c1_6 : w6.cell? ⟨C, 1, none⟩ = some (.int .i64 c.a) := (HKC6.out.cell 1).trans rfl
              clear hs hc HP
              obtain ⟨l7, hl⟩ : ∃ l', l6 ++ [c.a].flatMap (beB 2) = l' := ⟨_, rfl⟩
              have hn7 : l7.length ≤ 40010 := by rw [← hl]; simp [beB_len]; omega
              have HP := bx (sk_new w.heap.size g 2 1 v6 l6 l7 [c.a] #[.int .i64 c.a] w w6 HS6.out rfl rfl (by decide) (by decide) (by decide) (by omega) hl)
              have HL7 := bx hl
              clear hl
              go_wp2_with fail
              refine HP.out.mono ?_
              rintro e w7 ⟨⟨_, rfl⟩, v7, hs, hc⟩
              have HS7 := bx hs
              have HC7 := bx (HC6.out.trans hc)
              clear hs hc HP
              have N1 : Bx (SkR w w7 w.heap.size g v7 (l4 ++ (x.pool.take (j + 1)).flatMap cstB)) := bx (by
                have e : l4 ++ (x.pool.take (j + 1)).flatMap cstB = l7 := by
                  rw [take_snoc' HCX.out, List.flatMap_append, ← List.append_assoc, HL5.out, ← HL7.out, ← HL6.out]
                  show _ ++ (cstB c ++ []) = _
                  rw [cstB_7 (Or.inr u8)]
                  simp [u8]
                rw [e]; exact HS7.out)
              have N3 : Bx ((l4 ++ (x.pool.take (j + 1)).flatMap cstB).length ≤ 3000000) := bx (by
                have e : l4 ++ (x.pool.take (j + 1)).flatMap cstB = l5 ++ cstB c := by
                  rw [take_snoc' HCX.out, List.flatMap_append, ← List.append_assoc, HL5.out]
                  show _ ++ (cstB c ++ []) = _
                  rw [List.append_nil]
                rw [e, cstB_7 (Or.inr u8)]
                have := HN5.out
                simp [beB_len]; omega)
              go_wp2
              go_roundw
              case rel => exact ⟨j + 1, _, by omega, by go_num, N1, HC7, N3⟩
              case measure => simp [intOf]; omega
          · rcases t9 with u9 | u10 | u11 | u12
            · have ng1 : ¬ c.tag = 1 := by omega
              have ng3 : ¬ c.tag = 3 := by omega
              have ng5 : ¬ c.tag = 5 := by omega
              have ng7 : ¬ c.tag = 7 := by omega
              have ng8 : ¬ c.tag = 8 := by omega
              have ng10 : ¬ c.tag = 10 := by omega
              have ng11 : ¬ c.tag = 11 := by omega
              have ng12 : ¬ c.tag = 12 := by omega
              obtain ⟨l6, hl⟩ : ∃ l', l5 ++ [9].flatMap (beB 1) = l' := ⟨_, rfl⟩
              have hn6 : l6.length ≤ 40000 := by rw [← hl]; simp [beB_len]; omega
              have HP := bx (sk_new w.heap.size g 1 1 (.slice A5 n5 c5) l5 l6 [9] #[.int .i64 9] w w5 HS5.out rfl rfl (by decide) (by decide) (by decide) (by omega) hl)
              have HL6 := bx hl
              clear hl
              go_wp2_with fail
              refine HP.out.mono ?_
              rintro e w6 ⟨⟨_, rfl⟩, v6, hs, hc⟩
              have HS6 := bx hs
              have HC6 := bx (HC5.out.trans hc)
              have HD6 := bx (HD5.out.trans hc)
              have HKC6 := bx (HKC5.out.skc HD6.out HGC.out.1 HGC.out.2)
              have c1_6 : w6.cell? ⟨C, 1, none⟩ = some (.int .i64 c.a) := (HKC6.out.cell 1).trans rfl
              have c2_6 : w6.cell? ⟨C, 2, none⟩ = some (.int .i64 c.b) := (HKC6.out.cell 2).trans rfl
              clear hs hc HP
              obtain ⟨l7, hl⟩ : ∃ l', l6 ++ [c.a, c.b].flatMap (beB 2) = l' := ⟨_, rfl⟩
              have hn7 : l7.length ≤ 40010 := by rw [← hl]; simp [beB_len]; omega
              have HP := bx (sk_new w.heap.size g 2 2 v6 l6 l7 [c.a, c.b] #[.int .i64 c.a, .int .i64 c.b] w w6 HS6.out rfl rfl (by decide) (by decide) (by decide) (by omega) hl)
              have HL7 := bx hl
              clear hl
              go_wp2_with fail
              refine HP.out.mono ?_
              rintro e w7 ⟨⟨_, rfl⟩, v7, hs, hc⟩
              have HS7 := bx hs
              have HC7 := bx (HC6.out.trans hc)
              clear hs hc HP
              have N1 : Bx (SkR w w7 w.heap.size g v7 (l4 ++ (x.pool.take (j + 1)).flatMap cstB)) := bx (by
                have e : l4 ++ (x.pool.take (j + 1)).flatMap cstB = l7 := by
                  rw [take_snoc' HCX.out, List.flatMap_append, ← List.append_assoc, HL5.out, ← HL7.out, ← HL6.out]
                  show _ ++ (cstB c ++ []) = _
                  rw [cstB_9 (Or.inl u9)]
                  simp [u9]
                rw [e]; exact HS7.out)
              have N3 : Bx ((l4 ++ (x.pool.take (j + 1)).flatMap cstB).length ≤ 3000000) := bx (by
                have e : l4 ++ (x.pool.take (j + 1)).flatMap cstB = l5 ++ cstB c := by
                  rw [take_snoc' HCX.out, List.flatMap_append, ← List.append_assoc, HL5.out]
                  show _ ++ (cstB c ++ []) = _
                  rw [List.append_nil]
                rw [e, cstB_9 (Or.inl u9)]
                have := HN5.out
                simp [beB_len]; omega)
              go_wp2
              go_roundw
              case rel => exact ⟨j + 1, _, by omega, by go_num, N1, HC7, N3⟩
              case measure => simp [intOf]; omega
            · have ng1 : ¬ c.tag = 1 := by omega
              have ng3 : ¬ c.tag = 3 := by omega
              have ng5 : ¬ c.tag = 5 := by omega
              have ng7 : ¬ c.tag = 7 := by omega
              have ng8 : ¬ c.tag = 8 := by omega
              have ng9 : ¬ c.tag = 9 := by omega
              have ng11 : ¬ c.tag = 11 := by omega
              have ng12 : ¬ c.tag = 12 := by omega
              obtain ⟨l6, hl⟩ : ∃ l', l5 ++ [10].flatMap (beB 1) = l' := ⟨_, rfl⟩
              have hn6 : l6.length ≤ 40000 := by rw [← hl]; simp [beB_len]; omega
              have HP := bx (sk_new w.heap.size g 1 1 (.slice A5 n5 c5) l5 l6 [10] #[.int .i64 10] w w5 HS5.out rfl rfl (by decide) (by decide) (by decide) (by omega) hl)
              have HL6 := bx hl
              clear hl
              go_wp2_with fail
              refine HP.out.mono ?_
              rintro e w6 ⟨⟨_, rfl⟩, v6, hs, hc⟩
              have HS6 := bx hs
              have HC6 := bx (HC5.out.trans hc)
              have HD6 := bx (HD5.out.trans hc)
              have HKC6 := bx (HKC5.out.skc HD6.out HGC.out.1 HGC.out.2)
              have c1_6 : w6.cell? ⟨C, 1, none⟩ = some (.int .i64 c.a) := (HKC6.out.cell 1).trans rfl
              have c2_6 : w6.cell? ⟨C, 2, none⟩ = some (.int .i64 c.b) := (HKC6.out.cell 2).trans rfl
              clear hs hc HP
              obtain ⟨l7, hl⟩ : ∃ l', l6 ++ [c.a, c.b].flatMap (beB 2) = l' := ⟨_, rfl⟩
              have hn7 : l7.length ≤ 40010 := by rw [← hl]; simp [beB_len]; omega
              have HP := bx (sk_new w.heap.size g 2 2 v6 l6 l7 [c.a, c.b] #[.int .i64 c.a, .int .i64 c.b] w w6 HS6.out rfl rfl (by decide) (by decide) (by decide) (by omega) hl)
              have HL7 := bx hl
              clear hl
              go_wp2_with fail
              refine HP.out.mono ?_
              rintro e w7 ⟨⟨_, rfl⟩, v7, hs, hc⟩
              have HS7 := bx hs
              have HC7 := bx (HC6.out.trans hc)
              clear hs hc HP
              have N1 : Bx (SkR w w7 w.heap.size g v7 (l4 ++ (x.pool.take (j + 1)).flatMap cstB)) := bx (by
                have e : l4 ++ (x.pool.take (j + 1)).flatMap cstB = l7 := by
                  rw [take_snoc' HCX.out, List.flatMap_append, ← List.append_assoc, HL5.out, ← HL7.out, ← HL6.out]
                  show _ ++ (cstB c ++ []) = _
                  rw [cstB_9 (Or.inr (Or.inl u10))]
                  simp [u10]
                rw [e]; exact HS7.out)
              have N3 : Bx ((l4 ++ (x.pool.take (j + 1)).flatMap cstB).length ≤ 3000000) := bx (by
                have e : l4 ++ (x.pool.take (j + 1)).flatMap cstB = l5 ++ cstB c := by
                  rw [take_snoc' HCX.out, List.flatMap_append, ← List.append_assoc, HL5.out]
                  show _ ++ (cstB c ++ []) = _
                  rw [List.append_nil]
                rw [e, cstB_9 (Or.inr (Or.inl u10))]
                have := HN5.out
                simp [beB_len]; omega)
              go_wp2
              go_roundw
              case rel => exact ⟨j + 1, _, by omega, by go_num, N1, HC7, N3⟩
              case measure => simp [intOf]; omega
            · have ng1 : ¬ c.tag = 1 := by omega
              have ng3 : ¬ c.tag = 3 := by omega
              have ng5 : ¬ c.tag = 5 := by omega
              have ng7 : ¬ c.tag = 7 := by omega
              have ng8 : ¬ c.tag = 8 := by omega
              have ng9 : ¬ c.tag = 9 := by omega
              have ng10 : ¬ c.tag = 10 := by omega
              have ng12 : ¬ c.tag = 12 := by omega
              obtain ⟨l6, hl⟩ : ∃ l', l5 ++ [11].flatMap (beB 1) = l' := ⟨_, rfl⟩
              have hn6 : l6.length ≤ 40000 := by rw [← hl]; simp [beB_len]; omega
              have HP := bx (sk_new w.heap.size g 1 1 (.slice A5 n5 c5) l5 l6 [11] #[.int .i64 11] w w5 HS5.out rfl rfl (by decide) (by decide) (by decide) (by omega) hl)
              have HL6 := bx hl
              clear hl
              go_wp2_with fail
              refine HP.out.mono ?_
              rintro e w6 ⟨⟨_, rfl⟩, v6, hs, hc⟩
              have HS6 := bx hs
              have HC6 := bx (HC5.out.trans hc)
              have HD6 := bx (HD5.out.trans hc)
              have HKC6 := bx (HKC5.out.skc HD6.out HGC.out.1 HGC.out.2)
              have c1_6 : w6.cell? ⟨C, 1, none⟩ = some (.int .i64 c.a) := (HKC6.out.cell 1).trans rfl
              have c2_6 : w6.cell? ⟨C, 2, none⟩ = some (.int .i64 c.b) := (HKC6.out.cell 2).trans rfl
              clear hs hc HP
              obtain ⟨l7, hl⟩ : ∃ l', l6 ++ [c.a, c.b].flatMap (beB 2) = l' := ⟨_, rfl⟩
              have hn7 : l7.length ≤ 40010 := by rw [← hl]; simp [beB_len]; omega
              have HP := bx (sk_new w.heap.size g 2 2 v6 l6 l7 [c.a, c.b] #[.int .i64 c.a, .int .i64 c.b] w w6 HS6.out rfl rfl (by decide) (by decide) (by decide) (by omega) hl)
              have HL7 := bx hl
              clear hl
              go_wp2_with fail
              refine HP.out.mono ?_
              rintro e w7 ⟨⟨_, rfl⟩, v7, hs, hc⟩
              have HS7 := bx hs
              have HC7 := bx (HC6.out.trans hc)
              clear hs hc HP
              have N1 : Bx (SkR w w7 w.heap.size g v7 (l4 ++ (x.pool.take (j + 1)).flatMap cstB)) := bx (by
                have e : l4 ++ (x.pool.take (j + 1)).flatMap cstB = l7 := by
                  rw [take_snoc' HCX.out, List.flatMap_append, ← List.append_assoc, HL5.out, ← HL7.out, ← HL6.out]
                  show _ ++ (cstB c ++ []) = _
                  rw [cstB_9 (Or.inr (Or.inr (Or.inl u11)))]
                  simp [u11]
                rw [e]; exact HS7.out)
              have N3 : Bx ((l4 ++ (x.pool.take (j + 1)).flatMap cstB).length ≤ 3000000) := bx (by
                have e : l4 ++ (x.pool.take (j + 1)).flatMap cstB = l5 ++ cstB c := by
                  rw [take_snoc' HCX.out, List.flatMap_append, ← List.append_assoc, HL5.out]
                  show _ ++ (cstB c ++ []) = _
                  rw [List.append_nil]
                rw [e, cstB_9 (Or.inr (Or.inr (Or.inl u11)))]
                have := HN5.out
                simp [beB_len]; omega)
              go_wp2
              go_roundw
              case rel => exact ⟨j + 1, _, by omega, by go_num, N1, HC7, N3⟩
              case measure => simp [intOf]; omega
            · have ng1 : ¬ c.tag = 1 := by omega
              have ng3 : ¬ c.tag = 3 := by omega
              have ng5 : ¬ c.tag = 5 := by omega
              have ng7 : ¬ c.tag = 7 := by omega
              have ng8 : ¬ c.tag = 8 := by omega
              have ng9 : ¬ c.tag = 9 := by omega
              have ng10 : ¬ c.tag = 10 := by omega
              have ng11 : ¬ c.tag = 11 := by omega
              obtain ⟨l6, hl⟩ : ∃ l', l5 ++ [12].flatMap (beB 1) = l' := ⟨_, rfl⟩
              have hn6 : l6.length ≤ 40000 := by rw [← hl]; simp [beB_len]; omega
              have HP := bx (sk_new w.heap.size g 1 1 (.slice A5 n5 c5) l5 l6 [12] #[.int .i64 12] w w5 HS5.out rfl rfl (by decide) (by decide) (by decide) (by omega) hl)
              have HL6 := bx hl
              clear hl
              go_wp2_with fail
              refine HP.out.mono ?_
              rintro e w6 ⟨⟨_, rfl⟩, v6, hs, hc⟩
              have HS6 := bx hs
              have HC6 := bx (HC5.out.trans hc)
              have HD6 := bx (HD5.out.trans hc)
              have HKC6 := bx (HKC5.out.skc HD6.out HGC.out.1 HGC.out.2)
              have c1_6 : w6.cell? ⟨C, 1, none⟩ = some (.int .i64 c.a) := (HKC6.out.cell 1).trans rfl
              have c2_6 : w6.cell? ⟨C, 2, none⟩ = some (.int .i64 c.b) := (HKC6.out.cell 2).trans rfl
              clear hs hc HP
              obtain ⟨l7, hl⟩ : ∃ l', l6 ++ [c.a, c.b].flatMap (beB 2) = l' := ⟨_, rfl⟩
              have hn7 : l7.length ≤ 40010 := by rw [← hl]; simp [beB_len]; omega
              have HP := bx (sk_new w.heap.size g 2 2 v6 l6 l7 [c.a, c.b] #[.int .i64 c.a, .int .i64 c.b] w w6 HS6.out rfl rfl (by decide) (by decide) (by decide) (by omega) hl)
              have HL7 := bx hl
              clear hl
              go_wp2_with fail
              refine HP.out.mono ?_
              rintro e w7 ⟨⟨_, rfl⟩, v7, hs, hc⟩
              have HS7 := bx hs
              have HC7 := bx (HC6.out.trans hc)
              clear hs hc HP
              have N1 : Bx (SkR w w7 w.heap.size g v7 (l4 ++ (x.pool.take (j + 1)).flatMap cstB)) := bx (by
                have e : l4 ++ (x.pool.take (j + 1)).flatMap cstB = l7 := by
                  rw [take_snoc' HCX.out, List.flatMap_append, ← List.append_assoc, HL5.out, ← HL7.out, ← HL6.out]
                  show _ ++ (cstB c ++ []) = _
                  rw [cstB_9 (Or.inr (Or.inr (Or.inr u12)))]
                  simp [u12]
                rw [e]; exact HS7.out)
              have N3 : Bx ((l4 ++ (x.pool.take (j + 1)).flatMap cstB).length ≤ 3000000) := bx (by
                have e : l4 ++ (x.pool.take (j + 1)).flatMap cstB = l5 ++ cstB c := by
                  rw [take_snoc' HCX.out, List.flatMap_append, ← List.append_assoc, HL5.out]
                  show _ ++ (cstB c ++ []) = _
                  rw [List.append_nil]
                rw [e, cstB_9 (Or.inr (Or.inr (Or.inr u12)))]
                have := HN5.out
                simp [beB_len]; omega)
              go_wp2
              go_roundw
              case rel => exact ⟨j + 1, _, by omega, by go_num, N1, HC7, N3⟩
              case measure => simp [intOf]; omega
      · obtain rfl : j = x.pn := by omega
        have hjI : ¬ (x.pn : Int) < (x.pn : Int) := by omega
        have HLIM := bx (holds_lim HQ.out)
        have HTK : x.pool.take x.pn = x.pool := List.take_of_length_le (by rw [HX.out.pl.1]; exact Nat.le_refl _)
        rw [HTK] at HS HLN
        obtain ⟨l20, hl20⟩ : ∃ l, l4 ++ x.pool.flatMap cstB = l := ⟨_, rfl⟩
        have HL20 := bx hl20
        rw [hl20] at HS HLN
        have hn20 := HLN.out
        have HS20 := HS
        have HC20 := HC
        clear HTK hl20 HS HC HLN
        have HKM20 := bx (HKM2.out.skc HC20.out HBG.out (by rw [HV2.out]; exact fun e => by cases e))
        have f3_20 := HKM20.out.im3 HCS.out
        have f4_20 := HKM20.out.im4 HCS.out
        have f5_20 := HKM20.out.im5 HCS.out
        have f6_20 := HKM20.out.im6 HCS.out
        obtain ⟨l21, hl⟩ : ∃ l', l20 ++ [x.access, x.this, x.super, (x.i_n : Int)].flatMap (beB 2) = l' := ⟨_, rfl⟩
        have hn21 : l21.length ≤ 3000010 := by rw [← hl]; simp [beB_len]; omega
        have HP := bx (sk_new w.heap.size g 2 4 vj l20 l21 [x.access, x.this, x.super, (x.i_n : Int)] #[.int .i64 x.access, .int .i64 x.this, .int .i64 x.super, .int .i64 (x.i_n : Int)] w wr HS20.out rfl rfl (by decide) (by decide) (by decide) (by omega) hl)
        have HL21 := bx hl
        clear hl
        go_wp2_with fail
        refine HP.out.mono ?_
        rintro e w21 ⟨⟨_, rfl⟩, v21, hs, hc⟩
        have HS21 := bx hs
        have HC21 := bx (HC20.out.trans hc)
        clear hs hc HP
        have HKM21 := bx (HKM2.out.skc HC21.out HBG.out (by rw [HV2.out]; exact fun e => by cases e))
        have f6_21 := HKM21.out.im6 HCS.out
        have hi64 : x.i_n ≤ 64 := by have := HLIM.out.1; have := HX.out.il.1; omega
        obtain ⟨l22, hl⟩ : ∃ l', l21 ++ x.ifs.flatMap (beB 2) = l' := ⟨_, rfl⟩
        have hn22 : l22.length ≤ 3000200 := by rw [← hl, List.length_append, putBs_len]; have := HLIM.out.1; omega
        have HP := bx (sk_put w.heap.size g 2 x.i_n x.ic v21 l21 l22 x.iA x.ifs w w21 HS21.out HX.out.il.1 (RL.top (HX.out.ifs.below HS21.out.bel (Nat.le_refl _))) (fun hne ad e hf => by
          obtain ⟨ad', _, e2, hlt, _⟩ := RL.atl HX.out.ifs (k := 0) (List.length_pos_iff.2 hne)
          rw [e] at e2
          injection e2 with e2
          subst e2
          have := (HS21.out.low _ hf).1
          omega) (by decide) (by decide) hi64 (by omega) hl)
        have HL22 := bx hl
        clear hl
        go_wp2_with fail
        refine HP.out.mono ?_
        rintro e w22 ⟨⟨_, rfl⟩, v22, hs, hc⟩
        have HS22 := bx hs
        have HC22 := bx (HC21.out.trans hc)
        clear hs hc HP
        have HKM22 := bx (HKM2.out.skc HC22.out HBG.out (by rw [HV2.out]; exact fun e => by cases e))
        have f7_22 := HKM22.out.im7 HCS.out
        obtain ⟨l23, hl⟩ : ∃ l', l22 ++ memsB (x.fs.map MmE.p) = l' := ⟨_, rfl⟩
        have hn23 : l23.length ≤ 200000000 := by rw [← hl, List.length_append]; have := memsB_len x.fs HLIM.out.2.1.1 HLIM.out.2.1.2; omega
        have HP := bx (sk_members w.heap.size g v22 l22 x.fA x.fn x.fc x.fs w w22 HS22.out HX.out.fl.1 (by have := HLIM.out.2.1.1; have := HX.out.fl.1; omega) HLIM.out.2.1.2 HX.out.fs (by omega))
        rw [hl] at HP
        have HL23 := bx hl
        clear hl
        go_wp2_with fail
        refine HP.out.mono ?_
        rintro e w23 ⟨⟨_, rfl⟩, v23, hs, hc⟩
        have HS23 := bx hs
        have HC23 := bx (HC22.out.trans hc)
        clear hs hc HP
        have HKM23 := bx (HKM2.out.skc HC23.out HBG.out (by rw [HV2.out]; exact fun e => by cases e))
        have f8_23 := HKM23.out.im8 HCS.out
        obtain ⟨l24, hl⟩ : ∃ l', l23 ++ memsB (x.ms.map MmE.p) = l' := ⟨_, rfl⟩
        have hn24 : l24.length ≤ 400000000 := by rw [← hl, List.length_append]; have := memsB_len x.ms HLIM.out.2.2.1.1 HLIM.out.2.2.1.2; omega
        have HP := bx (sk_members w.heap.size g v23 l23 x.mA x.mn x.mc x.ms w w23 HS23.out HX.out.ml.1 (by have := HLIM.out.2.2.1.1; have := HX.out.ml.1; omega) HLIM.out.2.2.1.2 HX.out.ms (by omega))
        rw [hl] at HP
        have HL24 := bx hl
        clear hl
        go_wp2_with fail
        refine HP.out.mono ?_
        rintro e w24 ⟨⟨_, rfl⟩, v24, hs, hc⟩
        have HS24 := bx hs
        have HC24 := bx (HC23.out.trans hc)
        clear hs hc HP
        have HKM24 := bx (HKM2.out.skc HC24.out HBG.out (by rw [HV2.out]; exact fun e => by cases e))
        have f9_24 := HKM24.out.im9 HCS.out
        obtain ⟨l25, hl⟩ : ∃ l', l24 ++ attsB (x.as_.map AtE.p) = l' := ⟨_, rfl⟩
        have hn25 : l25.length ≤ 500000000 := by rw [← hl, List.length_append]; have := attsB_len x.as_ HLIM.out.2.2.2.1 HLIM.out.2.2.2.2; omega
        have HP := bx (sk_attrs w.heap.size g v24 l24 x.aA x.an x.ac x.as_ w w24 HS24.out HX.out.al.1 (by have := HLIM.out.2.2.2.1; have := HX.out.al.1; omega) HLIM.out.2.2.2.2 HX.out.as_ (by omega))
        rw [hl] at HP
        have HL25 := bx hl
        clear hl
        go_wp2_with fail
        refine HP.out.mono ?_
        rintro e w25 ⟨⟨_, rfl⟩, v25, hs, hc⟩
        have HS25 := bx hs
        have HC25 := bx (HC24.out.trans hc)
        clear hs hc HP
        have HIM : Bx (l25 = imgB x.p) := bx (by
          have e : x.p.ifaces.length = x.i_n := HX.out.il.1
          rw [imgB_eq, ← HL25.out, ← HL24.out, ← HL23.out, ← HL22.out, ← HL21.out, ← HL20.out, HH.out]
          unfold tailB ifB
          rw [e]
          simp [ImE.p])
        obtain ⟨A5, n5, c5, rfl, hn5, _⟩ := OwL.sl HS25.out.rws.2
        have HNL := hn5
        have s25 := HS25.out.cell
        clear hn5
        by_cases hbig : 32768 < n5
        · have hbI : (32768 : Int) < (n5 : Int) := by omega
          have HN8 : Bx (W = .err 8) := bx (by rw [HN.out, if_pos (by rw [← HIM.out, ← HNL.out]; exact hbig)])
          go_wp2
          go_ret2
          exact imgW_err HN8.out HS25.out.bel (.inr rfl)
        · have hbI : ¬ (32768 : Int) < (n5 : Int) := by omega
          have HN8 : Bx (W = .ok l25) := bx (by rw [HN.out, if_neg (by rw [← HIM.out, ← HNL.out]; exact hbig), HIM.out])
          have HLE : Bx (l25.length ≤ 32768) := bx (by rw [← HNL.out]; omega)
          go_wp2
          go_ret2
          exact imgW_ok HN8.out HS25.out.bel HS25.out.rws.2 HLE.out
end Go.Proofs.Ytdioijhmmmnbgaa
