/- Contract: samovarref09.Directory. -/
import Derived.Test.YtokojichjliieaaDoorArcM
import Derived.Deep.RegionWith
namespace Go.Proofs.YtokojichjliieaaDoor
open Go.RowKit
theorem numA_split {b : List UInt8} {q : Nat} (h : q + 4 ≤ b.length) : numA b q 4 = numA b q 2 + 65536 * numA b (q + 2) 2 := by
  have e : ∀ i, i < b.length → ∃ x, b[i]? = some x := fun i hi => ⟨_, List.getElem?_eq_getElem hi⟩
  obtain ⟨x0, h0⟩ := e q (by omega)
  obtain ⟨x1, h1⟩ := e (q + 1) (by omega)
  obtain ⟨x2, h2⟩ := e (q + 2) (by omega)
  obtain ⟨x3, h3⟩ := e (q + 3) (by omega)
  have t4 : (b.drop q).take 4 = [x0, x1, x2, x3] := by
    apply List.ext_getElem?
    intro i
    rw [List.getElem?_take, List.getElem?_drop]
    rcases (by omega : i = 0 ∨ i = 1 ∨ i = 2 ∨ i = 3 ∨ 4 ≤ i) with rfl | rfl | rfl | rfl | h
    · simpa using h0
    · simpa using h1
    · simpa using h2
    · simpa using h3
    · rw [if_neg (by omega), List.getElem?_eq_none (by simpa using h)]
  have t2 : (b.drop q).take 2 = [x0, x1] := by
    apply List.ext_getElem?
    intro i
    rw [List.getElem?_take, List.getElem?_drop]
    rcases (by omega : i = 0 ∨ i = 1 ∨ 2 ≤ i) with rfl | rfl | h
    · simpa using h0
    · simpa using h1
    · rw [if_neg (by omega), List.getElem?_eq_none (by simpa using h)]
  have t2' : (b.drop (q + 2)).take 2 = [x2, x3] := by
    apply List.ext_getElem?
    intro i
    rw [List.getElem?_take, List.getElem?_drop]
    rcases (by omega : i = 0 ∨ i = 1 ∨ 2 ≤ i) with rfl | rfl | h
    · simpa using h2
    · simpa [Nat.add_assoc] using h3
    · rw [if_neg (by omega), List.getElem?_eq_none (by simpa using h)]
  unfold numA
  rw [t4, t2, t2']
  simp only [leN]
  omega
theorem over_all {l : List (Rec × Nat)} (h : ∀ (i k : Nat) (x y : Rec × Nat), l[i]? = some x → l[k]? = some y → k < i → overA x y = false) : anyOver l = false := by
  rw [anyOver_iff, List.pairwise_iff_getElem]
  intro i j hi hj hij
  rw [overA_comm]
  exact h j i _ _ (List.getElem?_eq_getElem hj) (List.getElem?_eq_getElem hi) hij
theorem over_hit {l : List (Rec × Nat)} {i k : Nat} {x y : Rec × Nat} (hx : l[i]? = some x) (hy : l[k]? = some y) (hk : k < i) (h : overA x y = true) : anyOver l = true := by
  cases ha : anyOver l with
  | true => rfl
  | false =>
    rw [anyOver_iff, List.pairwise_iff_getElem] at ha
    obtain ⟨hi, e1⟩ := List.getElem?_eq_some_iff.1 hx
    obtain ⟨hk2, e2⟩ := List.getElem?_eq_some_iff.1 hy
    have := ha k i hk2 hi hk
    rw [e1, e2, overA_comm, h] at this
    cases this
theorem cenR_pos {b : List UInt8} {fr td m : Nat} {k : Int} (h : cenR b fr td m = .err k) : 11 ≤ k ∧ k ≤ 14 := by
  have key : ∀ (n p : Nat) (acc : List (Rec × Nat)) (k : Int), centA b td n p acc = .err k → 11 ≤ k ∧ k ≤ 14 := by
    intro n
    induction n with
    | zero => intro p acc k h; rw [centA] at h; cases h
    | succ n ih =>
      intro p acc k h
      cases hr : recA b p td (acc.map (·.1.name)) with
      | err e => rw [cent1_err hr] at h; injection h with h; rw [← h]; exact recA_err hr
      | ok x => rw [cent1_ok hr] at h; exact ih _ _ _ h
  unfold cenR at h
  cases hc : centA b td m fr [] with
  | err e => rw [hc] at h; injection h with h; rw [← h]; exact key _ _ _ _ hc
  | ok x =>
    rw [hc] at h
    have h : (if x.2 ≠ td then Rz.err 11 else Rz.ok x.1 : Rz (List (Rec × Nat))) = .err k := h
    split at h
    · injection h with h; omega
    · cases h
theorem cenR_ok {b : List UInt8} {fr td m : Nat} {l : List (Rec × Nat)} (h : cenR b fr td m = .ok l) : centA b td m fr [] = .ok (l, td) := by
  unfold cenR at h
  cases hc : centA b td m fr [] with
  | err e => rw [hc] at h; cases h
  | ok x =>
    rw [hc] at h
    have h : (if x.2 ≠ td then Rz.err 11 else Rz.ok x.1 : Rz (List (Rec × Nat))) = .ok l := h
    split at h
    · cases h
    · rename_i hx
      injection h with h
      rw [← h, show x = (x.1, x.2) from rfl, show x.2 = td by simpa using hx]
theorem book_cenR {b : List UInt8} {fr td m : Nat} : bookA b fr td m = (cenR b fr td m).bind fun l => locR b fr [] l := by
  rw [bookA_dirK]
  unfold cenR
  cases hc : centA b td m fr [] with
  | err e => rfl
  | ok x =>
    obtain ⟨l, q⟩ := x
    show dirK b fr td (l, q) = (if q ≠ td then Rz.err 11 else Rz.ok l).bind _
    by_cases hq : q = td
    · subst hq
      rw [if_neg (by simp), dirK_loc]; rfl
    · rw [if_pos hq]; unfold dirK; rw [if_pos hq]; rfl
theorem rl_at {done l : List (Rec × Nat)} {k : Nat} {x : Rec × Nat} (h : done.length = k) (hx : l[k]? = some x) : (done ++ (l.drop k).map rec0)[k]? = some (rec0 x) := by
  have hk := (List.getElem?_eq_some_iff.1 hx).1
  rw [List.getElem?_append_right (by rw [h]; exact Nat.le_refl _), h, Nat.sub_self, List.getElem?_map, List.getElem?_drop, Nat.add_zero, hx]
  rfl
theorem rl_set {done l : List (Rec × Nat)} {k a : Nat} {x : Rec × Nat} (h : done.length = k) (hx : l[k]? = some x) : (done ++ (l.drop k).map rec0).set k (x.1, a) = (done ++ [(x.1, a)]) ++ (l.drop (k + 1)).map rec0 := by
  have hk := (List.getElem?_eq_some_iff.1 hx).1
  rw [List.set_append_right _ _ (by rw [h]; exact Nat.le_refl _), h, Nat.sub_self, List.drop_eq_getElem_cons hk, List.map_cons, List.set_cons_zero]
  simp
theorem rl_len {done l : List (Rec × Nat)} {k : Nat} (h : done.length = k) (hk : k ≤ l.length) : (done ++ (l.drop k).map rec0).length = l.length := by
  rw [List.length_append, h, List.length_map, List.length_drop]; omega
set_option maxRecDepth 100000 in
set_option maxHeartbeats 16000000 in
theorem rdir_any (A : Option Addr) (n c : Nat) (b : List UInt8) (w : World) (hn : b.length = n) (hzz : n ≤ 140737488351232) (hnc : n ≤ c) (hc : (c : Int) ≤ 9223372036854775807) (hr : RB w w.heap.size A b) :
    Calls Tryd.prog 14 #[.slice A n c] w (DirPost (dirA b) w) := by
  obtain ⟨R, hR⟩ : ∃ R, dirA b = R := ⟨_, rfl⟩
  rw [hR]
  unfold dirA at hR
  by_cases c1 : 65536 < n
  · rw [if_pos (by rw [hn]; exact c1)] at hR
    have HR := bx hR.symm
    have HB := bx (Below.refl w.heap.size w)
    clear hR hn hr
    go_enter Tryd.func14, Tryd.ntmps14
    go_wp2
    go_ret2
    exact DirPost.bad HR.out HB.out
  have hz : n ≤ 70000 := by omega
  rw [if_neg (by rw [hn]; exact c1)] at hR
  have HN := bx hn
  have HR0 := bx hR
  have HRB := bx hr
  have HEND := bx (rend_any A n c b w hn (by omega) hnc hc hr)
  obtain ⟨v, hv⟩ : ∃ v, endI b = v := ⟨_, rfl⟩
  rw [hv] at HEND
  have HV := bx hv
  clear hR hn hr hv
  by_cases hv0 : v < 0
  · have HR := bx (show R = .err 9 from by
      have := HV.out
      unfold endI at this
      rw [← HR0.out]
      cases he : endP b with
      | none => rfl
      | some p => rw [he] at this; dsimp only at this; omega)
    clear HR0 HV
    go_enter Tryd.func14, Tryd.ntmps14
    go_wp2_with fail
    refine HEND.out.mono ?_
    rintro e w1 ⟨rfl, hb1⟩
    have HB1 := bx hb1
    clear hb1
    go_wp2
    go_ret2
    exact DirPost.bad HR.out HB1.out
  obtain ⟨p, hp, hEP⟩ : ∃ p : Nat, v = (p : Int) ∧ endP b = some p := by
    have := HV.out
    unfold endI at this
    cases he : endP b with
    | none => rw [he] at this; dsimp only at this; omega
    | some p => rw [he] at this; exact ⟨p, this.symm, rfl⟩
  subst hp
  have hpe := (endP_some hEP).1
  have HR1 := HR0.out
  rw [hEP] at HR1
  dsimp only at HR1
  rw [HN.out] at hpe
  obtain ⟨d4, hd4⟩ : ∃ d, numA b (p + 4) 2 = d := ⟨_, rfl⟩
  obtain ⟨d6, hd6⟩ : ∃ d, numA b (p + 6) 2 = d := ⟨_, rfl⟩
  obtain ⟨d10, hd10⟩ : ∃ d, numA b (p + 10) 2 = d := ⟨_, rfl⟩
  obtain ⟨m, hm⟩ : ∃ d, numA b (p + 8) 2 = d := ⟨_, rfl⟩
  obtain ⟨fr, hfr⟩ : ∃ d, numA b (p + 16) 4 = d := ⟨_, rfl⟩
  obtain ⟨sz, hsz⟩ : ∃ d, numA b (p + 12) 4 = d := ⟨_, rfl⟩
  have l1 : m < 65536 := by rw [← hm]; exact numA_2 _ _
  have l2 : fr < 4294967296 := by rw [← hfr]; exact numA_4 _ _
  have l3 : sz < 4294967296 := by rw [← hsz]; exact numA_4 _ _
  have hsp := numA_split (b := b) (q := p + 4) (by have := HN.out; omega)
  rw [hd4, show p + 4 + 2 = p + 6 by omega, hd6] at hsp
  rw [hsp, hd10, hm, hfr, hsz] at HR1
  have HR2 := bx HR1
  have H4 := bx hd4
  have H6 := bx hd6
  have H10 := bx hd10
  have H8 := bx hm
  have H16 := bx hfr
  have H12 := bx hsz
  clear hEP hd4 hd6 hd10 hm hfr hsz HR1 HR0 hsp HV hv0
  go_enter Tryd.func14, Tryd.ntmps14
  go_wp2_with fail
  refine HEND.out.mono ?_
  rintro e w1 ⟨rfl, hb1⟩
  have HB1 := bx hb1
  clear hb1 HEND
  go_wp2_with fail
  refine (rnum_r A n c p 8 2 8 2 b w w1 HN.out hnc hc HRB.out HB1.out rfl rfl (by omega) (by omega) (by omega) H8.out).mono ?_
  rintro e w2 ⟨rfl, hb2⟩
  have HB2 := bx hb2
  clear hb2 HB1
  go_wp2_with fail
  refine (rnum_r A n c p 12 4 12 4 b w w2 HN.out hnc hc HRB.out HB2.out rfl rfl (by omega) (by omega) (by omega) H12.out).mono ?_
  rintro e w3 ⟨rfl, hb3⟩
  have HB3 := bx hb3
  clear hb3 HB2
  go_wp2_with fail
  refine (rnum_r A n c p 16 4 16 4 b w w3 HN.out hnc hc HRB.out HB3.out rfl rfl (by omega) (by omega) (by omega) H16.out).mono ?_
  rintro e w4 ⟨rfl, hb4⟩
  have HB4 := bx hb4
  clear hb4 HB3
  go_wp2_with fail
  refine (rnum_r A n c p 4 2 4 2 b w w4 HN.out hnc hc HRB.out HB4.out rfl rfl (by omega) (by omega) (by omega) H4.out).mono ?_
  rintro e w5 ⟨rfl, hb5⟩
  have HB5 := bx hb5
  clear hb5 HB4
  by_cases e4 : d4 = 0
  case neg => -- DEV{
    have HR := bx (show R = .err 10 from by rw [← HR2.out, if_pos (.inl (by omega))])
    have d4I : ((d4 : Int) != 0) = true := by rw [bne_iff_ne]; omega
    clear e4 HR2
    go_wp2
    go_ret2
    exact DirPost.bad HR.out HB5.out
    -- DEV}
  have d4I : ((d4 : Int) != 0) = false := by rw [bne_eq_false_iff_eq]; omega
  go_wp2_with fail
  refine (rnum_r A n c p 6 2 6 2 b w w5 HN.out hnc hc HRB.out HB5.out rfl rfl (by omega) (by omega) (by omega) H6.out).mono ?_
  rintro e w6 ⟨rfl, hb6⟩
  have HB6 := bx hb6
  clear hb6 HB5
  by_cases e6 : d6 = 0
  case neg => -- DEV{
    have HR := bx (show R = .err 10 from by rw [← HR2.out, if_pos (.inl (by omega))])
    have d6I : ((d6 : Int) != 0) = true := by rw [bne_iff_ne]; omega
    clear e4 e6 HR2
    go_wp2
    go_ret2
    exact DirPost.bad HR.out HB6.out
    -- DEV}
  have d6I : ((d6 : Int) != 0) = false := by rw [bne_eq_false_iff_eq]; omega
  go_wp2_with fail
  refine (rnum_r A n c p 10 2 10 2 b w w6 HN.out hnc hc HRB.out HB6.out rfl rfl (by omega) (by omega) (by omega) H10.out).mono ?_
  rintro e w7 ⟨rfl, hb7⟩
  have HB7 := bx hb7
  clear hb7 HB6
  by_cases e10 : d10 = m
  case neg => -- DEV{
    have HR := bx (show R = .err 10 from by rw [← HR2.out, if_pos (.inr (.inl e10))])
    have d10I : ((d10 : Int) != (m : Int)) = true := by rw [bne_iff_ne]; omega
    clear e4 e6 e10 HR2
    go_wp2
    go_ret2
    exact DirPost.bad HR.out HB7.out
    -- DEV}
  have d10I : ((d10 : Int) != (m : Int)) = false := by rw [bne_eq_false_iff_eq]; omega
  by_cases em : 64 < m
  · -- DEV{
    have HR := bx (show R = .err 10 from by rw [← HR2.out, if_pos (.inr (.inr (.inl em)))])
    have emI : (64 : Int) < (m : Int) := by omega
    clear e4 e6 e10 HR2
    go_wp2
    go_ret2
    exact DirPost.bad HR.out HB7.out
    -- DEV}
  have emI : ¬ (64 : Int) < (m : Int) := by omega
  by_cases es : fr + sz = p
  case neg => -- DEV{
    have HR := bx (show R = .err 10 from by rw [← HR2.out, if_pos (.inr (.inr (.inr es)))])
    have esI : ((fr : Int) + (sz : Int) != (p : Int)) = true := by rw [bne_iff_ne]; omega
    clear e4 e6 e10 es HR2
    go_wp2
    go_ret2
    exact DirPost.bad HR.out HB7.out
    -- DEV}
  have esI : ((fr : Int) + (sz : Int) != (p : Int)) = false := by rw [bne_eq_false_iff_eq]; omega
  have HR := bx (show R = (cenR b fr p m).bind (fun l => locR b fr [] l) from by rw [← HR2.out, if_neg (by rintro (h | h | h | h); exact h (by omega); exact h e10; exact em h; exact h es), book_cenR])
  clear HR2 e4 e6 e10 es
  go_wp2_with fail
  have HC := bx (rcent_any A n c fr p m b w7 HN.out hz hnc hc ((HRB.out.below HB7.out (Nat.le_refl _)).more HB7.out.size) hpe (by omega) (by omega))
  obtain ⟨X, hX⟩ : ∃ X, cenR b fr p m = X := ⟨_, rfl⟩
  rw [hX] at HC HR
  cases X with
  | err k => -- DEV{
    have hk := cenR_pos hX
    have HRk := bx (show R = .err k from by rw [HR.out]; rfl)
    have hkI : (k != 0) = true := by rw [bne_iff_ne]; omega
    clear hX
    refine HC.out.mono ?_
    rintro e w8 ⟨hb8, rfl⟩
    have HB8 := bx (HB7.out.trans (hb8.mono HB7.out.size))
    clear hb8
    go_wp2
    go_ret2
    exact DirPost.bad HRk.out HB8.out
    -- DEV}
  | ok l =>
  have hCA := cenR_ok hX
  have hOk := centA_ok m fr [] l p (Nat.le_refl _) ⟨by simp, by simp⟩ hCA
  have hSm := centA_sm m fr [] l p (by simp) hCA
  have HOK := bx hOk.1
  have HSM := bx hSm
  have hfrp : fr ≤ p := hOk.2.2.1
  have hlm : l.length = m := by have := hOk.2.1; simpa using this
  have HLM := bx hlm
  have HR3 := bx (show R = locR b fr [] l from by rw [HR.out]; rfl)
  clear hX hCA hOk hSm hlm HR
  refine HC.out.mono ?_
  rintro e wa ⟨hba, v, pv, rfl, hov, hop, hapt⟩
  obtain ⟨B7, hB7⟩ : ∃ B7, w7.heap.size = B7 := ⟨_, rfl⟩
  rw [hB7] at hba hov hop
  have HBa := bx hba
  have hwB : w.heap.size ≤ B7 := by rw [← hB7]; exact HB7.out.size
  have hB7a : B7 ≤ wa.heap.size := by rw [← hB7]; exact hba.size
  have HOV : Bx (OwS recL 7 wa B7 33 v ([] ++ (l.drop 0).map rec0)) := bx hov
  have HOP := bx hop
  have HAP := bx hapt
  obtain ⟨vA, vc, hv, _, _⟩ := hov.rd
  rw [List.length_map, HLM.out] at hv
  subst hv
  obtain ⟨pA, pc, hpv, _, _, _⟩ := hop.rd
  rw [List.length_map, HLM.out] at hpv
  subst hpv
  clear hba hov hop hapt hB7 HC d4I d6I d10I emI esI
  go_wp2_with fail
  go_loopw [11] (fun iv wx => ∃ (j : Nat) (done : List (Rec × Nat)), j ≤ m ∧ iv = .int .i64 (j : Int) ∧ Bx (R = locR b fr done (l.drop j)) ∧ Bx (done.length = j) ∧ Bx (Below B7 wa wx) ∧ Bx (OwS recL 7 wx B7 33 (.slice vA m vc) (done ++ (l.drop j).map rec0)) ∧ Bx (OwI wx B7 3 (.slice pA m pc) (l.map plcI)) ∧ Bx (∀ y ∈ done, DonOk fr y)) (fun i _ => m - (intOf i).toNat)
  case atStart => exact ⟨0, [], by omega, rfl, HR3, bx rfl, bx (Below.refl _ _), HOV, HOP, bx (by simp)⟩
  case round =>
    obtain ⟨j, done, hj, rfl, HRj, HLj, HWj, HOj, HPj, HTj⟩ := hrel
    have hszj : B7 ≤ wr.heap.size := by have := HWj.out.size; omega
    by_cases hjm : j < m
    · -- DEV{
      have hjI : (j : Int) < (m : Int) := by omega
      obtain ⟨x, hx⟩ : ∃ x, l[j]? = some x := ⟨_, List.getElem?_eq_getElem (by rw [HLM.out]; exact hjm)⟩
      have hxm : x ∈ l := List.mem_of_getElem? hx
      obtain ⟨gl, cc, hv, hglo, hglt⟩ := HOj.out.form (by rw [rl_len HLj.out (by rw [HLM.out]; exact hj), HLM.out]; omega)
      injection hv with hv1 hv2 hv3
      subst hv1
      obtain ⟨ap, xp, hpA, _, hxp, hcp⟩ := HPj.out.rl.num (k := j) (by rw [List.length_map, HLM.out]; exact hjm)
      subst hpA
      have hxp2 : xp = (x.2 : Int) := by
        have := hxp.out
        rw [List.getElem?_map, hx] at this
        injection this with this
        exact this.symm
      subst hxp2
      have hdr : l.drop j = x :: l.drop (j + 1) := by
        rw [List.drop_eq_getElem_cons (by rw [HLM.out]; exact hjm)]
        have hx' := hx
        rw [List.getElem?_eq_getElem (by rw [HLM.out]; exact hjm)] at hx'
        injection hx' with hx'
        rw [hx']
      have hsm := HSM.out x hxm
      have hx2 := (HOK.out.good x hxm).2.2.2
      have hat := rl_at HLj.out hx
      have hset := fun a => rl_set (a := a) HLj.out hx
      have hRn : localA b fr x = none → R = .err 15 := fun h => by rw [HRj.out, hdr, locR_bad h]
      have hRs : ∀ a, localA b fr x = some a → R = locR b fr (done ++ [(x.1, a)]) (l.drop (j + 1)) ∧ (∀ y ∈ done ++ [(x.1, a)], DonOk fr y) := fun a h => ⟨by rw [HRj.out, hdr, locR_good h], fun y hy => by
        have hlo := localA_ok h
        rcases List.mem_append.1 hy with h | h
        · exact HTj.out y h
        · simp at h; subst h
          exact ⟨hsm.1, hsm.2.1, hsm.2.2.2.1, hsm.2.2.2.2.1, hsm.2.2.2.2.2, hsm.2.2.1, by have := hlo.1; show x.1.head + 30 ≤ a; omega, hlo.2.1⟩⟩
      obtain ⟨⟨nm, me, pk, si, su, hd⟩, pl⟩ := x
      have q0 : wr.cell? ⟨gl, j * 7, none⟩ = some (strV nm) := HOj.out.cell recCels (j := 0) hat rfl
      have q1 : wr.cell? ⟨gl, j * 7 + 1, none⟩ = some (.int .i64 (me : Int)) := HOj.out.cell recCels (j := 1) hat rfl
      have q2 : wr.cell? ⟨gl, j * 7 + 2, none⟩ = some (.int .i64 (pk : Int)) := HOj.out.cell recCels (j := 2) hat rfl
      have q3 : wr.cell? ⟨gl, j * 7 + 3, none⟩ = some (.int .i64 (si : Int)) := HOj.out.cell recCels (j := 3) hat rfl
      have q4 : wr.cell? ⟨gl, j * 7 + 4, none⟩ = some (.int .i64 (su : Int)) := HOj.out.cell recCels (j := 4) hat rfl
      have q5 : wr.cell? ⟨gl, j * 7 + 5, none⟩ = some (.int .i64 0) := HOj.out.cell recCels (j := 5) hat rfl
      have q6 : wr.cell? ⟨gl, j * 7 + 6, none⟩ = some (.int .i64 (hd : Int)) := HOj.out.cell recCels (j := 6) hat rfl
      have hfz := HOj.out.frz (j * 7 + 5)
      have HLOC := bx (rloc_any A n c fr pl b nm me pk si su hd 0 wr.drew HN.out hz hnc hc (((HRB.out.below HB7.out (Nat.le_refl _)).below HBa.out (by omega)).below HWj.out (by omega) |>.more (show w.heap.size ≤ wr.heap.size by omega) |>.drew) (by omega) (by have := HN.out; omega) hsm.1 hsm.2.1 hsm.2.2.1)
      obtain ⟨Y, hY⟩ : ∃ Y, localA b fr (⟨nm, me, pk, si, su, hd⟩, pl) = Y := ⟨_, rfl⟩
      rw [hY] at hRn hRs HLOC
      obtain ⟨ri, hri⟩ : ∃ ri, locI Y = ri := ⟨_, rfl⟩
      rw [hri] at HLOC
      have HRN := bx hRn
      have HRS := bx hRs
      have HSET := bx hset
      have HAT := bx hat
      have HRI := bx hri
      have hcp' : wr.cell? (ap.add j) = some (.int .i64 (pl : Int)) := hcp
      clear hY hri hRn hRs hset hat hcp hxp hdr hsm hx2 hx hxm hv2 hv3 HRj HTj
      go_wp2
      go_region_with ((go_at_call 37; refine HLOC.out.mono ?_; rintro e w4 ⟨rfl, hb4⟩; have hf4 : w4.frozen? ⟨gl, j * 7 + 5, none⟩ = false := (hb4.frozen (p := ⟨gl, j * 7 + 5, none⟩) hglt).trans hfz; have hc4 : w4.cell? ⟨gl, j * 7 + 5, none⟩ = some (.int .i64 0) := (hb4.cell (p := ⟨gl, j * 7 + 5, none⟩) hglt).trans q5))
      all_goals
        have hB4 : Below B7 wa w4 := HWj.out.trans ((below_drewN (Below.refl B7 wr) 1).trans (hb4.mono hszj))
        have hO4 := HOj.out.drew.step hb4
        have hP4 := HPj.out.drew.below hb4
        have HB5 := bx (hB4.setCell (p := ⟨gl, j * 7 + 5, none⟩) hglo (.int .i64 ri))
        have HW5 := bx (HB7.out.trans ((HBa.out.trans HB5.out).mono hwB))
        have HP5 := bx (apt_kept hP4 HAP.out (gb_set (g := gl) (gb_below (Below.refl _ _) (some gl)) (j * 7 + 5) (.int .i64 ri)))
        have HO4 := bx hO4
        clear hB4 hO4 hP4 hb4 HLOC q0 q1 q2 q3 q4 q5 q6 hfz hcp' HOj HPj HWj
        cases Y with
        | none =>
          have HRk := bx (HRN.out rfl)
          obtain rfl : ri = -1 := by rw [← HRI.out]; rfl
          clear HRI HRN HRS HO4
          go_wp2
          go_ret2
          exact DirPost.bad HRk.out HW5.out
        | some a =>
          have HRr := HRS.out a rfl
          obtain rfl : ri = (a : Int) := by rw [← HRI.out]; rfl
          have HO5 := bx (HO4.out.set recCels (j := 5) (x' := (⟨nm, me, pk, si, su, hd⟩, a)) HAT.out (by omega) rfl)
          rw [HSET.out] at HO5
          have HRa := bx HRr.1
          have HTa := bx HRr.2
          have HLa : Bx ((done ++ [((⟨nm, me, pk, si, su, hd⟩ : Rec), a)]).length = j + 1) := bx (by rw [List.length_append, HLj.out]; rfl)
          have haI : ¬ (a : Int) < 0 := by omega
          clear HRr HRI HRN HRS HO4 HSET HAT
          go_wp2
          go_roundw
          case rel => exact ⟨j + 1, _, by omega, by go_num, HRa, HLa, HB5, HO5, HP5, HTa⟩
          case measure => simp [intOf]; omega
      -- DEV}
    have hjI : ¬ (j : Int) < (m : Int) := by omega
    obtain rfl : j = m := by omega
    have hOd : OwS recL 7 wr B7 33 (.slice vA j vc) done := by
      have := HOj.out
      rw [List.drop_eq_nil_of_le (Nat.le_of_eq HLM.out), List.map_nil, List.append_nil] at this
      exact this
    have HOd := bx hOd
    have HR4 := bx (show R = locK done from by rw [HRj.out, List.drop_eq_nil_of_le (Nat.le_of_eq HLM.out), locR_nil])
    have HWr := bx (HB7.out.trans ((HBa.out.trans HWj.out).mono hwB))
    clear hOd HOj HPj HRj hjm hj HOV HOP HAP HOK HSM HR3 HBa
    obtain ⟨wb, rfl⟩ : ∃ wb, wb = wr := ⟨_, rfl⟩
    go_wp2_with fail
    go_loopw [12] (fun iv wx => ∃ i q : Nat, i ≤ j ∧ iv = .int .i64 (i : Int) ∧ wx = wb.drewN q ∧ Bx (∀ (s t : Nat) (x y : Rec × Nat), s < i → done[s]? = some x → done[t]? = some y → t < s → overA x y = false)) (fun iv _ => j - (intOf iv).toNat)
    case atStart => exact ⟨0, 0, by omega, rfl, rfl, bx (fun s _ _ _ h => absurd h (by omega))⟩
    case round =>
      obtain ⟨i, q, hi, rfl, rfl, HV⟩ := hrel
      by_cases hij : i < j
      · have hiI : (i : Int) < (j : Int) := by omega
        have hiK : decide (i < j) = true := decide_eq_true hij
        go_wp2_with fail
        go_loopw [13] (fun kv wx => ∃ k q : Nat, k ≤ i ∧ kv = .int .i64 (k : Int) ∧ wx = wb.drewN q ∧ Bx (∀ (t : Nat) (x y : Rec × Nat), t < k → done[i]? = some x → done[t]? = some y → overA x y = false)) (fun kv _ => i - (intOf kv).toNat)
        case atStart => exact ⟨0, q, by omega, rfl, rfl, bx (fun t _ _ h => absurd h (by omega))⟩
        case round =>
          obtain ⟨k, q2, hk, rfl, rfl, HU⟩ := hrel
          by_cases hki : k < i
          · have hkI : (k : Int) < (i : Int) := by omega
            have hkK : decide (k < i) = true := decide_eq_true hki
            obtain ⟨gl, cc, hv, _⟩ := HOd.out.form (by rw [HLj.out]; omega)
            injection hv with hv1 hv2 hv3
            subst hv1
            obtain ⟨x, hx⟩ : ∃ x, done[i]? = some x := ⟨_, List.getElem?_eq_getElem (by rw [HLj.out]; omega)⟩
            obtain ⟨y, hy⟩ : ∃ y, done[k]? = some y := ⟨_, List.getElem?_eq_getElem (by rw [HLj.out]; omega)⟩
            have hX := HTj.out x (List.mem_of_getElem? hx)
            have hY := HTj.out y (List.mem_of_getElem? hy)
            unfold DonOk at hX hY
            obtain ⟨xh, hxh⟩ : ∃ z, x.1.head = z := ⟨_, rfl⟩
            obtain ⟨xp, hxp⟩ : ∃ z, x.1.packed = z := ⟨_, rfl⟩
            obtain ⟨xa, hxa⟩ : ∃ z, x.2 = z := ⟨_, rfl⟩
            obtain ⟨yh, hyh⟩ : ∃ z, y.1.head = z := ⟨_, rfl⟩
            obtain ⟨yp, hyp⟩ : ∃ z, y.1.packed = z := ⟨_, rfl⟩
            obtain ⟨ya, hya⟩ : ∃ z, y.2 = z := ⟨_, rfl⟩
            have p6 : wb.cell? ⟨gl, i * 7 + 6, none⟩ = some (.int .i64 (xh : Int)) := by rw [← hxh]; exact HOd.out.cell recCels (j := 6) hx rfl
            have p5 : wb.cell? ⟨gl, i * 7 + 5, none⟩ = some (.int .i64 (xa : Int)) := by rw [← hxa]; exact HOd.out.cell recCels (j := 5) hx rfl
            have p2 : wb.cell? ⟨gl, i * 7 + 2, none⟩ = some (.int .i64 (xp : Int)) := by rw [← hxp]; exact HOd.out.cell recCels (j := 2) hx rfl
            have r6 : wb.cell? ⟨gl, k * 7 + 6, none⟩ = some (.int .i64 (yh : Int)) := by rw [← hyh]; exact HOd.out.cell recCels (j := 6) hy rfl
            have r5 : wb.cell? ⟨gl, k * 7 + 5, none⟩ = some (.int .i64 (ya : Int)) := by rw [← hya]; exact HOd.out.cell recCels (j := 5) hy rfl
            have r2 : wb.cell? ⟨gl, k * 7 + 2, none⟩ = some (.int .i64 (yp : Int)) := by rw [← hyp]; exact HOd.out.cell recCels (j := 2) hy rfl
            rw [hxh, hxp, hxa] at hX
            rw [hyh, hyp, hya] at hY
            have b1 : xh < 4294967296 := hX.1
            have b2 : xa ≤ 70000 := by have := hX.2.2.2.2.2.2.2; omega
            have b3 : xp < 4294967296 := hX.2.1
            have b4 : yh < 4294967296 := hY.1
            have b5 : ya ≤ 70000 := by have := hY.2.2.2.2.2.2.2; omega
            have b6 : yp < 4294967296 := hY.2.1
            have HOVR : Bx (overA x y = decide (xh < ya + yp ∧ yh < xa + xp)) := bx (by unfold overA; rw [hxh, hxp, hxa, hyh, hyp, hya])
            have HXY := bx (And.intro hx hy)
            have z1 : IntKind.i64.wrap ((ya : Int) + (yp : Int)) = (ya : Int) + (yp : Int) := IntWalk.i64_in _ (by omega)
            have z2 : IntKind.i64.wrap ((xa : Int) + (xp : Int)) = (xa : Int) + (xp : Int) := IntWalk.i64_in _ (by omega)
            have z3 : (k : Int) < (j : Int) := by omega
            have HV2 : overA x y = false → Bx (∀ (t : Nat) (x y : Rec × Nat), t < k + 1 → done[i]? = some x → done[t]? = some y → overA x y = false) := fun ho => bx (fun t x' y' ht h1 h2 => by
              by_cases e : t = k
              · subst e
                rw [HXY.out.1] at h1; rw [HXY.out.2] at h2
                injection h1 with h1; injection h2 with h2
                rw [← h1, ← h2]; exact ho
              · exact HU.out t x' y' (by omega) h1 h2)
            have HV3 := bx HV2
            clear hv2 hv3 hx hy hX hY hxh hxp hxa hyh hyp hya HV2
            by_cases o1 : xh < ya + yp
            · have o1I : (xh : Int) < (ya : Int) + (yp : Int) := by omega
              have o1K : decide ((xh : Int) < (ya : Int) + (yp : Int)) = true := decide_eq_true o1I
              by_cases o2 : yh < xa + xp
              · have o2I : (yh : Int) < (xa : Int) + (xp : Int) := by omega
                have o2K : decide ((yh : Int) < (xa : Int) + (xp : Int)) = true := decide_eq_true o2I
                have HRk := bx (show R = .err 16 from by
                  rw [HR4.out]; unfold locK
                  rw [over_hit HXY.out.1 HXY.out.2 hki (by rw [HOVR.out]; exact decide_eq_true ⟨o1, o2⟩)]; rfl)
                clear o1 o2
                go_wp2
                go_quiet (fail)
                go_wp2
                go_ret2
                exact DirPost.bad HRk.out (below_drewN (below_drewN HWr.out _) _)
              · have o2I : ¬ (yh : Int) < (xa : Int) + (xp : Int) := by omega
                have o2K : decide ((yh : Int) < (xa : Int) + (xp : Int)) = false := decide_eq_false o2I
                have HU2 := HV3.out (by rw [HOVR.out]; exact decide_eq_false (by rintro ⟨_, h⟩; exact o2 h))
                clear o1 o2
                go_wp2
                go_quiet (fail)
                go_wp2
                go_roundw
                case rel => exact ⟨k + 1, q2 + nq, by omega, by go_num, rfl, HU2⟩
                case measure => simp [intOf]; omega
            · have o1I : ¬ (xh : Int) < (ya : Int) + (yp : Int) := by omega
              have o1K : decide ((xh : Int) < (ya : Int) + (yp : Int)) = false := decide_eq_false o1I
              have HU2 := HV3.out (by rw [HOVR.out]; exact decide_eq_false (by rintro ⟨h, _⟩; exact o1 h))
              clear o1
              go_wp2
              go_quiet (fail)
              go_wp2
              go_roundw
              case rel => exact ⟨k + 1, q2 + nq, by omega, by go_num, rfl, HU2⟩
              case measure => simp [intOf]; omega
          · have hkI : ¬ (k : Int) < (i : Int) := by omega
            have hkK : decide (k < i) = false := decide_eq_false hki
            have hke : k = i := by omega
            have HV2 : Bx (∀ (s t : Nat) (x y : Rec × Nat), s < i + 1 → done[s]? = some x → done[t]? = some y → t < s → overA x y = false) := bx (fun s t x y hs h1 h2 hts => by
              by_cases e : s = i
              · subst e; exact HU.out t x y (by omega) h1 h2
              · exact HV.out s t x y (by omega) h1 h2 hts)
            clear hke
            go_wp2
            go_roundw
            case rel => exact ⟨i + 1, q2, by omega, by go_num, rfl, HV2⟩
            case measure => simp [intOf]; omega
      · have hiI : ¬ (i : Int) < (j : Int) := by omega
        have hiK : decide (i < j) = false := decide_eq_false hij
        have HRk := bx (show R = .ok done from by
          rw [HR4.out]; unfold locK
          rw [over_all (fun s t x y h1 h2 h3 => HV.out s t x y (by
            have := (List.getElem?_eq_some_iff.1 h1).1
            rw [HLj.out] at this; omega) h1 h2 h3)]; rfl)
        go_wp2
        go_ret2
        exact DirPost.good HRk.out (below_drewN HWr.out _) (OwS.drewN (OwS.low HOd.out hwB) _)
end Go.Proofs.YtokojichjliieaaDoor
