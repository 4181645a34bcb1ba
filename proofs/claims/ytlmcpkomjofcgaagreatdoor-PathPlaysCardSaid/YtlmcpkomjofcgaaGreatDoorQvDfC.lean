/- Contract of the document's files: Put, the walk. -/
import Derived.Test.YtlmcpkomjofcgaaGreatDoorQvDfB
namespace Go.Proofs.YtlmcpkomjofcgaaGreatDoor
open Go.RowKit
theorem ChP.same {w w' : World} {M N : Nat → Prop} {bx : Nat} {F : FS} (h : DfM w M N bx F) (hb : Below w.heap.size w w') : ChP w M N bx F w' :=
  ⟨M, N, Gr.of_ch (Ch.of_below hb) h.sub h.all, fun _ e => e, fun _ e => .inl e, h.below hb⟩
/-- What was laid of the new row ahead of the j-th file. -/
def PutL (L : List FEl) (x : FEl) (j : Nat) (q : Bool) (o : List FEl) : Prop := (q = false ∧ o = L.take j) ∨ (q = true ∧ ∃ t, t ≤ j ∧ o = L.take t ++ x :: (L.take j).drop t)
theorem PutL.len {L o : List FEl} {x : FEl} {j : Nat} {q : Bool} (h : PutL L x j q o) (hj : j ≤ L.length) : o.length ≤ j + 1 := by
  rcases h with ⟨_, rfl⟩ | ⟨_, t, ht, rfl⟩
  · simp; omega
  · simp; omega
theorem take_next {L : List FEl} {j : Nat} {y : FEl} (h : L[j]? = some y) : L.take (j + 1) = L.take j ++ [y] := by rw [List.take_add_one, h]; rfl
theorem PutL.keep {L o : List FEl} {x y : FEl} {j : Nat} {q : Bool} (h : PutL L x j q o) (hy : L[j]? = some y) : PutL L x (j + 1) q (o ++ [y]) := by
  have hj : j < L.length := (List.getElem?_eq_some_iff.1 hy).1
  rcases h with ⟨e, rfl⟩ | ⟨e, t, ht, rfl⟩
  · exact .inl ⟨e, (take_next hy).symm⟩
  · refine .inr ⟨e, t, by omega, ?_⟩
    rw [take_next hy, List.drop_append_of_le_length (by simp; omega)]
    simp
theorem PutL.put {L o : List FEl} {x : FEl} {j : Nat} (h : PutL L x j false o) : PutL L x j true (o ++ [x]) := by
  rcases h with ⟨_, rfl⟩ | ⟨e, _⟩
  · refine .inr ⟨rfl, j, Nat.le_refl _, ?_⟩
    have : (L.take j).drop j = [] := List.drop_eq_nil_of_le (by simp; omega)
    rw [this]
  · cases e
theorem PutL.done {L o : List FEl} {x : FEl} (h : PutL L x L.length true o) : ∃ t, o = L.take t ++ x :: L.drop t := by
  rcases h with ⟨e, _⟩ | ⟨_, t, _, rfl⟩
  · cases e
  · exact ⟨t, by rw [List.take_length]⟩
theorem OwS.sl10 {α : Type} {fC : α → List Value} {sz : Nat} {w : World} {base : Nat} {e : TypeId} {v : Value} {l : List α} (h : OwS fC sz w base e v l) : ∃ A n c, v = .slice A n c ∧ Bx (n = l.length) := by
  obtain ⟨A, c, e, _, _⟩ := h.rd
  exact ⟨A, _, c, e, bx rfl⟩
set_option maxRecDepth 100000 in
set_option maxHeartbeats 8000000 in
theorem r8put_any (s : ByteArray) (A : Option Addr) (n c : Nat) (b : List UInt8) (w : World) (M N : Nat → Prop) (bx0 : Nat) (F : FS) (h : DfM w M N bx0 F) (hn : b.length = n) (hz : n ≤ 1000000000) (hr : RB w w.heap.size A b) (hs : s.size ≤ 140737488351232) :
    Calls Tryz.prog 13 #[.pointer (some ⟨bx0, 0, none⟩), .string s, .slice A n c] w fun e w' => e = .returned (.int .i64 (putFS F s.data.toList b).1) ∧ ChP w M N bx0 (putFS F s.data.toList b).2 w' := by
  have HH := bx h
  have HNM := bx (r8name_any s w hs)
  cases hfn : fnOk s.data.toList with
  | false =>
    have hp : putFS F s.data.toList b = (13, F) := by unfold putFS; rw [if_pos hfn]
    rw [hp]
    rw [hfn] at HNM
    clear h hn hr hp hfn
    go_enter Tryz.func13, Tryz.ntmps13
    go_wp2_with fail
    refine HNM.out.mono ?_
    rintro e w1 ⟨rfl, hw⟩
    obtain rfl : w = w1 := hw.symm
    go_wp2
    go_ret
    exact ⟨rfl, ChP.same HH.out (Below.refl _ _)⟩
  | true =>
  rw [hfn] at HNM
  by_cases hbig : 65536 < n
  · have hp : putFS F s.data.toList b = (8, F) := by unfold putFS; rw [if_neg (by rw [hfn]; decide), if_pos (by omega)]
    rw [hp]
    have hbI : (65536 : Int) < (n : Int) := by omega
    clear h hn hr hp hfn
    go_enter Tryz.func13, Tryz.ntmps13
    go_wp2_with fail
    refine HNM.out.mono ?_
    rintro e w1 ⟨rfl, hw⟩
    obtain rfl : w = w1 := hw.symm
    go_wp2
    go_ret
    exact ⟨rfl, ChP.same HH.out (Below.refl _ _)⟩
  have hbI : ¬ (65536 : Int) < (n : Int) := by omega
  have HB6 : Bx (b.length ≤ 65536) := bx (by omega)
  have HN := bx hn
  have HRB := bx hr
  have HNN : Bx ((([] : List UInt8).length + b.length) * 1 ≤ 140737488355328) := bx (by simp only [List.length_nil]; omega)
  have hz1 := le_alloc0 (w := w) (Nat.le_refl w.heap.size) (.cells #[] 5)
  obtain ⟨vL, vF, L, fl, hd⟩ := h
  have HD := bx hd
  obtain ⟨AL, cL, hvL, hrL, hcL⟩ := hd.list
  have HVL := bx hvL
  have hlt := hd.lt
  obtain ⟨nL, hnL⟩ : ∃ nL, L.length = nL := ⟨_, rfl⟩
  have hn16 : nL ≤ 16 := by rw [← hnL, hd.cnt]; exact hd.small.1
  have HCN : Bx (F.cnt = nL) := bx (by rw [← hnL, hd.cnt])
  rw [hnL] at hvL hcL
  have c0 : w.cell? ⟨bx0, 0, none⟩ = some (.slice AL nL cL) := (hd.box.cell 0).trans (by rw [← hvL]; rfl)
  have z0 := hd.box.frz 0
  obtain ⟨P, hP⟩ : ∃ P, putFS F s.data.toList b = P := ⟨_, rfl⟩
  rw [hP]
  have HC0 := bx c0
  have HZ0 := bx z0
  have HNL := bx hnL
  have HRL := bx hrL
  have HCL := bx hcL
  have HLT := bx hlt
  cases hp : fpos L s.data.toList with
  | some k =>
    have hkL : k < nL := by obtain ⟨x, hx, _⟩ := fpos_of hp; have := (List.getElem?_eq_some_iff.1 hx).1; omega
    obtain ⟨g, cg, hvg, _, hgl⟩ := hd.lst.form (by omega)
    have HZG : Bx (w.frozen? ⟨g, k * 2 + 1, none⟩ = false) := bx (by rw [hvg] at hd; exact hd.lst.frz _)
    have HCG : Bx (∃ u, w.cell? ⟨g, k * 2 + 1, none⟩ = some u) := bx (by
      obtain ⟨x, hx, _⟩ := fpos_of hp
      have h9 := hd.lst
      rw [hvg] at h9
      exact ⟨slV x.2, h9.cell fiCels hx (j := 1) rfl⟩)
    have hAL : AL = some ⟨g, 0, none⟩ := by rw [hvg] at hvL; injection hvL with hvL _ _; exact hvL.symm
    have HPP : Bx (P = (0, { F with rows := fun q => if q = s.data.toList then some b else F.rows q, cnt := if (F.rows s.data.toList).isSome = true then F.cnt else F.cnt + 1 })) := bx (by
      rw [← hP]
      unfold putFS
      obtain ⟨x, _, _, hrw⟩ := hd.rows_some hp
      rw [if_neg (by rw [hfn]; decide), if_neg (by omega), if_neg (fun e => by rw [hrw] at e; cases e.1)])
    have HP := bx hp
    have HVG := bx hvg
    have HGL := bx hgl
    subst hAL
    have hkI : (0 : Int) ≤ (k : Int) := by omega
    have hkI2 : (k : Int) < (nL : Int) := by omega
    clear hd hvL hrL hcL hnL hn hr hfn hbig hP hp hvg c0 z0 hlt
    go_enter Tryz.func13, Tryz.ntmps13
    go_wp2_with fail
    refine HNM.out.mono ?_
    rintro e w1 ⟨rfl, hw⟩
    obtain rfl : w = w1 := hw.symm
    go_wp2_with (at_builtin; refine wpList_appL _ bV_one rfl (.tmp 18) (.tmp 19) rfl byteTy (by decide) w.heap.size _ [] rfl (OwL.lit0 w (Nat.le_refl _)) _ A n c b rfl HN.out (HRB.out.alloc (Nat.le_refl _) _) HNN.out hz1 ?_; intro v1 w1 own1 _ _ hb1; rw [List.nil_append] at own1; obtain ⟨A1, n1, c1, rfl, _, _⟩ := OwL.sl own1; have HO1 := bx own1; have HB1 := bx ((bl_alloc (Below.refl w.heap.size w) (Nat.le_refl _) (.cells #[] 5)).trans hb1); clear own1 hb1)
    refine (r8find_any s w1 M N bx0 F vL vF L fl (HD.out.below HB1.out)).mono ?_
    rintro e w2 ⟨rfl, hw⟩
    obtain rfl : w1 = w2 := hw.symm
    rw [HP.out, show posI (some k) = (k : Int) from rfl]
    have c0 : w1.cell? ⟨bx0, 0, none⟩ = some (.slice (some ⟨g, 0, none⟩) nL cL) := (HB1.out.cell (p := ⟨bx0, 0, none⟩) HLT.out).trans HC0.out
    obtain ⟨ug, hug⟩ := HCG.out
    have cg1 : w1.cell? ⟨g, k * 2 + 1, none⟩ = some ug := (HB1.out.cell (p := ⟨g, k * 2 + 1, none⟩) HGL.out).trans hug
    clear hug
    have zg : w1.frozen? ⟨g, k * 2 + 1, none⟩ = false := (HB1.out.frozen (p := ⟨g, k * 2 + 1, none⟩) HGL.out).trans HZG.out
    go_wp2
    go_ret
    rw [HPP.out]
    exact ⟨rfl, HD.out.replaced HB1.out HP.out HVG.out HO1.out HB6.out⟩
  | none =>
    have hrwn := hd.rows_none hp
    have HRWN := bx hrwn
    have HP := bx hp
    by_cases hfull : 16 ≤ nL
    · have HPP : Bx (P = (17, F)) := bx (by
        rw [← hP]
        unfold putFS
        rw [if_neg (by rw [hfn]; decide), if_neg (by omega), if_pos ⟨hrwn, by rw [HCN.out]; exact hfull⟩])
      have hfI : (16 : Int) ≤ (nL : Int) := by omega
      clear hd hvL hrL hcL hnL hn hr hfn hbig hP hp c0 z0 hlt hrwn
      go_enter Tryz.func13, Tryz.ntmps13
      go_wp2_with fail
      refine HNM.out.mono ?_
      rintro e w1 ⟨rfl, hw⟩
      obtain rfl : w = w1 := hw.symm
      go_wp2_with (at_builtin; refine wpList_appL _ bV_one rfl (.tmp 18) (.tmp 19) rfl byteTy (by decide) w.heap.size _ [] rfl (OwL.lit0 w (Nat.le_refl _)) _ A n c b rfl HN.out (HRB.out.alloc (Nat.le_refl _) _) HNN.out hz1 ?_; intro v1 w1 own1 _ _ hb1; rw [List.nil_append] at own1; obtain ⟨A1, n1, c1, rfl, _, _⟩ := OwL.sl own1; have HO1 := bx own1; have HB1 := bx ((bl_alloc (Below.refl w.heap.size w) (Nat.le_refl _) (.cells #[] 5)).trans hb1); clear own1 hb1)
      refine (r8find_any s w1 M N bx0 F vL vF L fl (HD.out.below HB1.out)).mono ?_
      rintro e w2 ⟨rfl, hw⟩
      obtain rfl : w1 = w2 := hw.symm
      rw [HP.out, show posI none = -1 from rfl]
      have c0 : w1.cell? ⟨bx0, 0, none⟩ = some (.slice AL nL cL) := (HB1.out.cell (p := ⟨bx0, 0, none⟩) HLT.out).trans HC0.out
      go_wp2
      go_ret
      rw [HPP.out]
      exact ⟨rfl, ChP.same ⟨_, _, _, _, HD.out⟩ HB1.out⟩
    have HPP : Bx (P = (0, { F with rows := fun q => if q = s.data.toList then some b else F.rows q, cnt := if (F.rows s.data.toList).isSome = true then F.cnt else F.cnt + 1 })) := bx (by
      rw [← hP]
      unfold putFS
      rw [if_neg (by rw [hfn]; decide), if_neg (by omega), if_neg (fun e => by have := e.2; rw [HCN.out] at this; omega)])
    have hfI : ¬ (16 : Int) ≤ (nL : Int) := by omega
    have HFU : Bx (F.cnt < 16 ∧ nL < 16) := bx (by rw [HCN.out]; omega)
    clear hd hvL hrL hcL hnL hn hr hfn hbig hP hp c0 z0 hlt hrwn
    go_enter Tryz.func13, Tryz.ntmps13
    go_wp2_with fail
    refine HNM.out.mono ?_
    rintro e w1 ⟨rfl, hw⟩
    obtain rfl : w = w1 := hw.symm
    go_wp2_with (at_builtin; refine wpList_appL _ bV_one rfl (.tmp 18) (.tmp 19) rfl byteTy (by decide) w.heap.size _ [] rfl (OwL.lit0 w (Nat.le_refl _)) _ A n c b rfl HN.out (HRB.out.alloc (Nat.le_refl _) _) HNN.out hz1 ?_; intro v1 w1 own1 _ _ hb1; rw [List.nil_append] at own1; obtain ⟨A1, n1, c1, rfl, _, _⟩ := OwL.sl own1; have HO1 := bx own1; have HB1 := bx ((bl_alloc (Below.refl w.heap.size w) (Nat.le_refl _) (.cells #[] 5)).trans hb1); clear own1 hb1)
    refine (r8find_any s w1 M N bx0 F vL vF L fl (HD.out.below HB1.out)).mono ?_
    rintro e w2 ⟨rfl, hw⟩
    obtain rfl : w1 = w2 := hw.symm
    rw [HP.out, show posI none = -1 from rfl]
    have c0 : w1.cell? ⟨bx0, 0, none⟩ = some (.slice AL nL cL) := (HB1.out.cell (p := ⟨bx0, 0, none⟩) HLT.out).trans HC0.out
    have HC1 := bx c0
    have HLT1 : Bx (bx0 < w1.heap.size) := bx (Nat.lt_of_lt_of_le HLT.out HB1.out.size)
    have HRL1 := bx (HRL.out.step HB1.out)
    go_wp2_with fail
    clear c0
    go_loopw [9, 10, 11] (fun v q iv wx => ∃ (j : Nat) (fq : Bool) (o : List FEl), j ≤ nL ∧ iv = .int .i64 (j : Int) ∧ q = .bool fq ∧ Bx (PutL L (s.data.toList, ⟨A1, n1, c1, b⟩) j fq o ∧ OwS fiC 2 wx w1.heap.size 76 v o ∧ Below w1.heap.size w1 wx)) (fun _ _ iv _ => nL - (intOf iv).toNat)
    case atStart => exact ⟨0, false, [], by omega, rfl, rfl, bx ⟨.inl ⟨rfl, rfl⟩, OwS.nil, Below.refl _ _⟩⟩
    case round =>
      obtain ⟨j, fq, o, hj, rfl, rfl, HST⟩ := hrel
      have hcw : wr.cell? ⟨bx0, 0, none⟩ = some (.slice AL nL cL) := (HST.out.2.2.cell (p := ⟨bx0, 0, none⟩) HLT1.out).trans HC1.out
      by_cases hjn : j < nL
      · have hjI : (j : Int) < (nL : Int) := by omega
        have hj0 : (0 : Int) ≤ (j : Int) := by omega
        obtain ⟨ad, y, rfl, hadl, hy, hy0, hy1⟩ := HRL1.out.at_ fiCels (k := j) (by rw [HNL.out]; exact hjn)
        obtain ⟨sn, hsn⟩ : ∃ s : ByteArray, (⟨y.1.toArray⟩ : ByteArray) = s := ⟨_, rfl⟩
        obtain ⟨yA, yn, yc, hyy⟩ : ∃ yA yn yc, y.2.A = yA ∧ y.2.n = yn ∧ y.2.c = yc := ⟨_, _, _, rfl, rfl, rfl⟩
        have k0 := hy0 (.string sn) (by rw [← hsn]; rfl)
        have k1 := hy1 0 (.slice yA yn yc) (by rw [← hyy.1, ← hyy.2.1, ← hyy.2.2]; rfl)
        rw [Nat.zero_add] at k1
        have HEL : Bx (∀ wx, Below w1.heap.size w1 wx → wx.cell? (ad.add (j * 2)) = some (.string sn) ∧ wx.cell? ⟨(ad.add (j * 2)).block, (ad.add (j * 2)).off + 1, none⟩ = some (.slice yA yn yc) ∧ wx.cell? ⟨bx0, 0, none⟩ = some (.slice (some ad) nL cL)) := bx (fun wx hb => ⟨(hb.cell (p := ad.add (j * 2)) (by rw [blk_add]; exact hadl)).trans k0, (hb.cell (p := ⟨(ad.add (j * 2)).block, (ad.add (j * 2)).off + 1, none⟩) (by rw [blk_add]; exact hadl)).trans k1, (hb.cell (p := ⟨bx0, 0, none⟩) HLT1.out).trans HC1.out⟩)
        have HFY : Bx (fiC y = [.string sn, .slice yA yn yc]) := bx (by rw [← hsn, ← hyy.1, ← hyy.2.1, ← hyy.2.2]; rfl)
        have HFS : Bx (fiC (s.data.toList, ⟨A1, n1, c1, b⟩) = [.string s, .slice A1 n1 c1]) := bx rfl
        have HYJ := bx hy.out
        obtain ⟨e0, e1, _⟩ := HEL.out wr HST.out.2.2
        have HOL : Bx (o.length ≤ j + 1) := bx (HST.out.1.len (by rw [HNL.out]; omega))
        have HNA : Bx ((o.length + [y].length) * 40 ≤ 140737488355328) := bx (by have := HOL.out; simp only [List.length_cons, List.length_nil]; omega)
        have HNB : Bx ((o.length + [((s.data.toList, ⟨A1, n1, c1, b⟩) : FEl)].length) * 40 ≤ 140737488355328) := bx (by have := HOL.out; simp only [List.length_cons, List.length_nil]; omega)
        have HNC : Bx (((o ++ [((s.data.toList, ⟨A1, n1, c1, b⟩) : FEl)]).length + [y].length) * 40 ≤ 140737488355328) := bx (by have := HOL.out; simp only [List.length_cons, List.length_nil, List.length_append]; omega)
        have HSZ := bx HST.out.2.2.size
        clear hsn hyy k0 k1 hy hy0 hy1 hadl
        cases fq with
        | true =>
          go_wp2_with (at_builtin; refine wpList_appS _ fiCels rfl (.tmp 69) (.tmp 77) rfl fiTy (by decide) w1.heap.size _ o rfl (OwS.alloc HST.out.2.1 _) _ _ 1 1 [y] rfl rfl (RS.new _ _ #[.string sn, .slice yA yn yc] HFY.out.symm _ _) HNA.out (le_alloc0 HSZ.out _) ?_; intro v5 w5 own5 _ _ hb5; have HO5 := bx own5; have HB5 := bx ((bl_alloc HST.out.2.2 (Nat.le_refl _) _).trans hb5); clear own5 hb5)
          go_roundw
          case rel => exact ⟨j + 1, true, o ++ [y], by omega, by go_num, rfl, bx ⟨HST.out.1.keep HYJ.out, HO5.out, HB5.out⟩⟩
          case measure => simp [intOf]; omega
        | false =>
          go_wp2_with (first
            | (at_builtin; refine wpList_appS _ fiCels rfl (.tmp 63) (.tmp 67) rfl fiTy (by decide) w1.heap.size _ o rfl (OwS.alloc HST.out.2.1 _) _ _ 1 1 [((s.data.toList, ⟨A1, n1, c1, b⟩) : FEl)] rfl rfl (RS.new _ _ #[.string s, .slice A1 n1 c1] HFS.out.symm _ _) HNB.out (le_alloc0 HSZ.out _) ?_; intro v4 w4 own4 _ _ hb4; have HO4 := bx own4; have HB4 : Bx (Below w1.heap.size w1 w4) := bx ((bl_alloc HST.out.2.2 (Nat.le_refl _) _).trans hb4); obtain ⟨f0, f1, f2⟩ := HEL.out w4 HB4.out; clear own4 hb4 e0 e1)
            | (at_builtin; refine wpList_appS _ fiCels rfl (.tmp 69) (.tmp 77) rfl fiTy (by decide) w1.heap.size _ (o ++ [((s.data.toList, ⟨A1, n1, c1, b⟩) : FEl)]) rfl (OwS.alloc HO4.out _) _ _ 1 1 [y] rfl rfl (RS.new _ _ #[.string sn, .slice yA yn yc] HFY.out.symm _ _) HNC.out (le_alloc0 HB4.out.size _) ?_; intro v5 w5 own5 _ _ hb5; have HO5 := bx own5; have HB5 := bx ((bl_alloc HB4.out (Nat.le_refl _) _).trans hb5); clear own5 hb5)
            | (at_builtin; refine wpList_appS _ fiCels rfl (.tmp 69) (.tmp 77) rfl fiTy (by decide) w1.heap.size _ o rfl (OwS.alloc HST.out.2.1 _) _ _ 1 1 [y] rfl rfl (RS.new _ _ #[.string sn, .slice yA yn yc] HFY.out.symm _ _) HNA.out (le_alloc0 HSZ.out _) ?_; intro v5 w5 own5 _ _ hb5; have HO5 := bx own5; have HB5 := bx ((bl_alloc HST.out.2.2 (Nat.le_refl _) _).trans hb5); clear own5 hb5))
          all_goals (
            go_roundw
            case rel => first
              | exact ⟨j + 1, true, (o ++ [((s.data.toList, ⟨A1, n1, c1, b⟩) : FEl)]) ++ [y], by omega, by go_num, rfl, bx ⟨HST.out.1.put.keep HYJ.out, HO5.out, HB5.out⟩⟩
              | exact ⟨j + 1, false, o ++ [y], by omega, by go_num, rfl, bx ⟨HST.out.1.keep HYJ.out, HO5.out, HB5.out⟩⟩
            case measure => simp [intOf]; omega)
      · obtain rfl : j = nL := by omega
        have hjI : ¬ (j : Int) < (j : Int) := by omega
        have HOL : Bx (o.length ≤ j + 1) := bx (HST.out.1.len (by rw [HNL.out]; omega))
        have HNB : Bx ((o.length + [((s.data.toList, ⟨A1, n1, c1, b⟩) : FEl)].length) * 40 ≤ 140737488355328) := bx (by have := HOL.out; simp only [List.length_cons, List.length_nil]; omega)
        have HFS : Bx (fiC (s.data.toList, ⟨A1, n1, c1, b⟩) = [.string s, .slice A1 n1 c1]) := bx rfl
        obtain ⟨Av, nv, cv, rfl, _⟩ := HST.out.2.1.sl10
        have HSZ := bx HST.out.2.2.size
        have hzw : wr.frozen? ⟨bx0, 0, none⟩ = false := (HST.out.2.2.frozen (p := ⟨bx0, 0, none⟩) HLT1.out).trans ((HB1.out.frozen (p := ⟨bx0, 0, none⟩) HLT.out).trans HZ0.out)
        have HZW := bx hzw
        cases fq with
        | true =>
          have HT : Bx (∃ t, o = L.take t ++ (s.data.toList, ⟨A1, n1, c1, b⟩) :: L.drop t) := bx (by have h9 := HST.out.1; rw [← HNL.out] at h9; exact h9.done)
          obtain ⟨t, ht⟩ := HT.out
          have HO := HST.out.2.1
          rw [ht] at HO
          have HOO := bx HO
          clear HO ht
          go_wp2
          go_ret
          rw [HPP.out]
          exact ⟨rfl, HD.out.inserted HB1.out HP.out HO1.out HB6.out HFU.out.1 HST.out.2.2 HOO.out⟩
        | false =>
          go_wp2_with (at_builtin; refine wpList_appS _ fiCels rfl (.tmp 81) (.tmp 85) rfl fiTy (by decide) w1.heap.size _ o rfl (OwS.alloc HST.out.2.1 _) _ _ 1 1 [((s.data.toList, ⟨A1, n1, c1, b⟩) : FEl)] rfl rfl (RS.new _ _ #[.string s, .slice A1 n1 c1] HFS.out.symm _ _) HNB.out (le_alloc0 HSZ.out _) ?_; intro v4 w4 own4 _ _ hb4; obtain ⟨Aw, nw, cw, rfl, _⟩ := own4.sl10; have HO4 := bx own4; have HB4 : Bx (Below w1.heap.size w1 w4) := bx ((bl_alloc HST.out.2.2 (Nat.le_refl _) _).trans hb4); have f2 : w4.cell? ⟨bx0, 0, none⟩ = some (.slice AL j cL) := (HB4.out.cell (p := ⟨bx0, 0, none⟩) HLT1.out).trans HC1.out; have f3 : w4.frozen? ⟨bx0, 0, none⟩ = false := (HB4.out.frozen (p := ⟨bx0, 0, none⟩) HLT1.out).trans ((HB1.out.frozen (p := ⟨bx0, 0, none⟩) HLT.out).trans HZ0.out); clear own4 hb4)
          have HT : Bx (∃ t, o ++ [((s.data.toList, ⟨A1, n1, c1, b⟩) : FEl)] = L.take t ++ (s.data.toList, ⟨A1, n1, c1, b⟩) :: L.drop t) := bx (by have h9 := HST.out.1.put; rw [← HNL.out] at h9; exact h9.done)
          obtain ⟨t, ht⟩ := HT.out
          have HO := HO4.out
          rw [ht] at HO
          have HOO := bx HO
          clear HO ht
          go_ret
          rw [HPP.out]
          exact ⟨rfl, HD.out.inserted HB1.out HP.out HO1.out HB6.out HFU.out.1 HB4.out HOO.out⟩
end Go.Proofs.YtlmcpkomjofcgaaGreatDoor
