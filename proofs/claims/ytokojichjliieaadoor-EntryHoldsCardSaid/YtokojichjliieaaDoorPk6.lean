/- Contract: samovarref09.Directory. Contract: samovarref09.Same. append(s, make([]byte, k)...) where there is no room. Nothing here speaks of the program. samovarlaw09.fixed: it answers true. Contract: samovarref02.Same (for the seats behind the first). The walks of ArchiveReads and ArchiveNames. What is known of a directory that is accepted, for the laws. Contract: entry.Find. samovarlaw10.fixed: it answers true. Contracts: (*samovarref04.Reader).Left, Take, Bytes. The document's code, its lengths and distances, in plain numbers. Contracts: samovarref05.longest, Next. Contract: samovarref05.New. -/
import Derived.Test.YtokojichjliieaaDoorPk5
import Derived.Deep.RegionWith
import Derived.Test.YtokojichjliieaaDoorPk1
import Derived.Test.YtokojichjliieaaDoorPk4
import Derived.StillTailTactics
import Derived.Lib.SlBytesConst
import Derived.Test.YtokojichjliieaaDoorPk2
import Derived.Laws.Tables
import Derived.Laws.Rows
import Derived.Test.YtokojichjliieaaDoorPk3
import Derived.Laws.ResultCell
import Derived.Deep.DeepCutAuto
namespace Go.Proofs.YtokojichjliieaaDoor
open Go.RowKit
theorem numA_split {b : List UInt8} {q : Nat} (h : q + 4 ≤ b.length) : numA b q 4 = numA b q 2 + 65536 * numA b (q + 2) 2 := by
  have e : ∀ i, i < b.length → ∃ x, b[i]? = some x := fun i hi => ⟨_, List.getElem?_eq_getElem hi⟩
  obtain ⟨x0, h0⟩ := e q (by omega)
  obtain ⟨x1, h1⟩ := e (q + 1) (by omega)
  obtain ⟨x2, h2⟩ := e (q + 2) (by omega)
  obtain ⟨x3, h3⟩ := e (q + 3) (by omega)
  have t4 : (b.drop q).take 4 = [x0, x1, x2, x3] := by
    apply List.ext_getElem?
    intro i
    rw [List.getElem?_take, List.getElem?_drop]
    rcases (by omega : i = 0 ∨ i = 1 ∨ i = 2 ∨ i = 3 ∨ 4 ≤ i) with rfl | rfl | rfl | rfl | h
    · simpa using h0
    · simpa using h1
    · simpa using h2
    · simpa using h3
    · rw [if_neg (by omega), List.getElem?_eq_none (by simpa using h)]
  have t2 : (b.drop q).take 2 = [x0, x1] := by
    apply List.ext_getElem?
    intro i
    rw [List.getElem?_take, List.getElem?_drop]
    rcases (by omega : i = 0 ∨ i = 1 ∨ 2 ≤ i) with rfl | rfl | h
    · simpa using h0
    · simpa using h1
    · rw [if_neg (by omega), List.getElem?_eq_none (by simpa using h)]
  have t2' : (b.drop (q + 2)).take 2 = [x2, x3] := by
    apply List.ext_getElem?
    intro i
    rw [List.getElem?_take, List.getElem?_drop]
    rcases (by omega : i = 0 ∨ i = 1 ∨ 2 ≤ i) with rfl | rfl | h
    · simpa using h2
    · simpa [Nat.add_assoc] using h3
    · rw [if_neg (by omega), List.getElem?_eq_none (by simpa using h)]
  unfold numA
  rw [t4, t2, t2']
  simp only [leN]
  omega
theorem over_all {l : List (Rec × Nat)} (h : ∀ (i k : Nat) (x y : Rec × Nat), l[i]? = some x → l[k]? = some y → k < i → overA x y = false) : anyOver l = false := by
  rw [anyOver_iff, List.pairwise_iff_getElem]
  intro i j hi hj hij
  rw [overA_comm]
  exact h j i _ _ (List.getElem?_eq_getElem hj) (List.getElem?_eq_getElem hi) hij
theorem over_hit {l : List (Rec × Nat)} {i k : Nat} {x y : Rec × Nat} (hx : l[i]? = some x) (hy : l[k]? = some y) (hk : k < i) (h : overA x y = true) : anyOver l = true := by
  cases ha : anyOver l with
  | true => rfl
  | false =>
    rw [anyOver_iff, List.pairwise_iff_getElem] at ha
    obtain ⟨hi, e1⟩ := List.getElem?_eq_some_iff.1 hx
    obtain ⟨hk2, e2⟩ := List.getElem?_eq_some_iff.1 hy
    have := ha k i hk2 hi hk
    rw [e1, e2, overA_comm, h] at this
    cases this
theorem cenR_pos {b : List UInt8} {fr td m : Nat} {k : Int} (h : cenR b fr td m = .err k) : 11 ≤ k ∧ k ≤ 14 := by
  have key : ∀ (n p : Nat) (acc : List (Rec × Nat)) (k : Int), centA b td n p acc = .err k → 11 ≤ k ∧ k ≤ 14 := by
    intro n
    induction n with
    | zero => intro p acc k h; rw [centA] at h; cases h
    | succ n ih =>
      intro p acc k h
      cases hr : recA b p td (acc.map (·.1.name)) with
      | err e => rw [cent1_err hr] at h; injection h with h; rw [← h]; exact recA_err hr
      | ok x => rw [cent1_ok hr] at h; exact ih _ _ _ h
  unfold cenR at h
  cases hc : centA b td m fr [] with
  | err e => rw [hc] at h; injection h with h; rw [← h]; exact key _ _ _ _ hc
  | ok x =>
    rw [hc] at h
    have h : (if x.2 ≠ td then Rz.err 11 else Rz.ok x.1 : Rz (List (Rec × Nat))) = .err k := h
    split at h
    · injection h with h; omega
    · cases h
theorem cenR_ok {b : List UInt8} {fr td m : Nat} {l : List (Rec × Nat)} (h : cenR b fr td m = .ok l) : centA b td m fr [] = .ok (l, td) := by
  unfold cenR at h
  cases hc : centA b td m fr [] with
  | err e => rw [hc] at h; cases h
  | ok x =>
    rw [hc] at h
    have h : (if x.2 ≠ td then Rz.err 11 else Rz.ok x.1 : Rz (List (Rec × Nat))) = .ok l := h
    split at h
    · cases h
    · rename_i hx
      injection h with h
      rw [← h, show x = (x.1, x.2) from rfl, show x.2 = td by simpa using hx]
theorem book_cenR {b : List UInt8} {fr td m : Nat} : bookA b fr td m = (cenR b fr td m).bind fun l => locR b fr [] l := by
  rw [bookA_dirK]
  unfold cenR
  cases hc : centA b td m fr [] with
  | err e => rfl
  | ok x =>
    obtain ⟨l, q⟩ := x
    show dirK b fr td (l, q) = (if q ≠ td then Rz.err 11 else Rz.ok l).bind _
    by_cases hq : q = td
    · subst hq
      rw [if_neg (by simp), dirK_loc]; rfl
    · rw [if_pos hq]; unfold dirK; rw [if_pos hq]; rfl
theorem rl_at {done l : List (Rec × Nat)} {k : Nat} {x : Rec × Nat} (h : done.length = k) (hx : l[k]? = some x) : (done ++ (l.drop k).map rec0)[k]? = some (rec0 x) := by
  have hk := (List.getElem?_eq_some_iff.1 hx).1
  rw [List.getElem?_append_right (by rw [h]; exact Nat.le_refl _), h, Nat.sub_self, List.getElem?_map, List.getElem?_drop, Nat.add_zero, hx]
  rfl
theorem rl_set {done l : List (Rec × Nat)} {k a : Nat} {x : Rec × Nat} (h : done.length = k) (hx : l[k]? = some x) : (done ++ (l.drop k).map rec0).set k (x.1, a) = (done ++ [(x.1, a)]) ++ (l.drop (k + 1)).map rec0 := by
  have hk := (List.getElem?_eq_some_iff.1 hx).1
  rw [List.set_append_right _ _ (by rw [h]; exact Nat.le_refl _), h, Nat.sub_self, List.drop_eq_getElem_cons hk, List.map_cons, List.set_cons_zero]
  simp
theorem rl_len {done l : List (Rec × Nat)} {k : Nat} (h : done.length = k) (hk : k ≤ l.length) : (done ++ (l.drop k).map rec0).length = l.length := by
  rw [List.length_append, h, List.length_map, List.length_drop]; omega
set_option maxRecDepth 100000 in
set_option maxHeartbeats 16000000 in
theorem rdir_any (A : Option Addr) (n c : Nat) (b : List UInt8) (w : World) (hn : b.length = n) (hzz : n ≤ 140737488351232) (hnc : n ≤ c) (hc : (c : Int) ≤ 9223372036854775807) (hr : RB w w.heap.size A b) :
    Calls Tryd.prog 14 #[.slice A n c] w (DirPost (dirA b) w) := by
  obtain ⟨R, hR⟩ : ∃ R, dirA b = R := ⟨_, rfl⟩
  rw [hR]
  unfold dirA at hR
  by_cases c1 : 65536 < n
  · rw [if_pos (by rw [hn]; exact c1)] at hR
    have HR := bx hR.symm
    have HB := bx (Below.refl w.heap.size w)
    clear hR hn hr
    go_enter Tryd.func14, Tryd.ntmps14
    go_wp2
    go_ret2
    exact DirPost.bad HR.out HB.out
  have hz : n ≤ 70000 := by omega
  rw [if_neg (by rw [hn]; exact c1)] at hR
  have HN := bx hn
  have HR0 := bx hR
  have HRB := bx hr
  have HEND := bx (rend_any A n c b w hn (by omega) hnc hc hr)
  obtain ⟨v, hv⟩ : ∃ v, endI b = v := ⟨_, rfl⟩
  rw [hv] at HEND
  have HV := bx hv
  clear hR hn hr hv
  by_cases hv0 : v < 0
  · have HR := bx (show R = .err 9 from by
      have := HV.out
      unfold endI at this
      rw [← HR0.out]
      cases he : endP b with
      | none => rfl
      | some p => rw [he] at this; dsimp only at this; omega)
    clear HR0 HV
    go_enter Tryd.func14, Tryd.ntmps14
    go_wp2_with fail
    refine HEND.out.mono ?_
    rintro e w1 ⟨rfl, hb1⟩
    have HB1 := bx hb1
    clear hb1
    go_wp2
    go_ret2
    exact DirPost.bad HR.out HB1.out
  obtain ⟨p, hp, hEP⟩ : ∃ p : Nat, v = (p : Int) ∧ endP b = some p := by
    have := HV.out
    unfold endI at this
    cases he : endP b with
    | none => rw [he] at this; dsimp only at this; omega
    | some p => rw [he] at this; exact ⟨p, this.symm, rfl⟩
  subst hp
  have hpe := (endP_some hEP).1
  have HR1 := HR0.out
  rw [hEP] at HR1
  dsimp only at HR1
  rw [HN.out] at hpe
  obtain ⟨d4, hd4⟩ : ∃ d, numA b (p + 4) 2 = d := ⟨_, rfl⟩
  obtain ⟨d6, hd6⟩ : ∃ d, numA b (p + 6) 2 = d := ⟨_, rfl⟩
  obtain ⟨d10, hd10⟩ : ∃ d, numA b (p + 10) 2 = d := ⟨_, rfl⟩
  obtain ⟨m, hm⟩ : ∃ d, numA b (p + 8) 2 = d := ⟨_, rfl⟩
  obtain ⟨fr, hfr⟩ : ∃ d, numA b (p + 16) 4 = d := ⟨_, rfl⟩
  obtain ⟨sz, hsz⟩ : ∃ d, numA b (p + 12) 4 = d := ⟨_, rfl⟩
  have l1 : m < 65536 := by rw [← hm]; exact numA_2 _ _
  have l2 : fr < 4294967296 := by rw [← hfr]; exact numA_4 _ _
  have l3 : sz < 4294967296 := by rw [← hsz]; exact numA_4 _ _
  have hsp := numA_split (b := b) (q := p + 4) (by have := HN.out; omega)
  rw [hd4, show p + 4 + 2 = p + 6 by omega, hd6] at hsp
  rw [hsp, hd10, hm, hfr, hsz] at HR1
  have HR2 := bx HR1
  have H4 := bx hd4
  have H6 := bx hd6
  have H10 := bx hd10
  have H8 := bx hm
  have H16 := bx hfr
  have H12 := bx hsz
  clear hEP hd4 hd6 hd10 hm hfr hsz HR1 HR0 hsp HV hv0
  go_enter Tryd.func14, Tryd.ntmps14
  go_wp2_with fail
  refine HEND.out.mono ?_
  rintro e w1 ⟨rfl, hb1⟩
  have HB1 := bx hb1
  clear hb1 HEND
  go_wp2_with fail
  refine (rnum_r A n c p 8 2 8 2 b w w1 HN.out hnc hc HRB.out HB1.out rfl rfl (by omega) (by omega) (by omega) H8.out).mono ?_
  rintro e w2 ⟨rfl, hb2⟩
  have HB2 := bx hb2
  clear hb2 HB1
  go_wp2_with fail
  refine (rnum_r A n c p 12 4 12 4 b w w2 HN.out hnc hc HRB.out HB2.out rfl rfl (by omega) (by omega) (by omega) H12.out).mono ?_
  rintro e w3 ⟨rfl, hb3⟩
  have HB3 := bx hb3
  clear hb3 HB2
  go_wp2_with fail
  refine (rnum_r A n c p 16 4 16 4 b w w3 HN.out hnc hc HRB.out HB3.out rfl rfl (by omega) (by omega) (by omega) H16.out).mono ?_
  rintro e w4 ⟨rfl, hb4⟩
  have HB4 := bx hb4
  clear hb4 HB3
  go_wp2_with fail
  refine (rnum_r A n c p 4 2 4 2 b w w4 HN.out hnc hc HRB.out HB4.out rfl rfl (by omega) (by omega) (by omega) H4.out).mono ?_
  rintro e w5 ⟨rfl, hb5⟩
  have HB5 := bx hb5
  clear hb5 HB4
  by_cases e4 : d4 = 0
  case neg => -- DEV{
    have HR := bx (show R = .err 10 from by rw [← HR2.out, if_pos (.inl (by omega))])
    have d4I : ((d4 : Int) != 0) = true := by rw [bne_iff_ne]; omega
    clear e4 HR2
    go_wp2
    go_ret2
    exact DirPost.bad HR.out HB5.out
    -- DEV}
  have d4I : ((d4 : Int) != 0) = false := by rw [bne_eq_false_iff_eq]; omega
  go_wp2_with fail
  refine (rnum_r A n c p 6 2 6 2 b w w5 HN.out hnc hc HRB.out HB5.out rfl rfl (by omega) (by omega) (by omega) H6.out).mono ?_
  rintro e w6 ⟨rfl, hb6⟩
  have HB6 := bx hb6
  clear hb6 HB5
  by_cases e6 : d6 = 0
  case neg => -- DEV{
    have HR := bx (show R = .err 10 from by rw [← HR2.out, if_pos (.inl (by omega))])
    have d6I : ((d6 : Int) != 0) = true := by rw [bne_iff_ne]; omega
    clear e4 e6 HR2
    go_wp2
    go_ret2
    exact DirPost.bad HR.out HB6.out
    -- DEV}
  have d6I : ((d6 : Int) != 0) = false := by rw [bne_eq_false_iff_eq]; omega
  go_wp2_with fail
  refine (rnum_r A n c p 10 2 10 2 b w w6 HN.out hnc hc HRB.out HB6.out rfl rfl (by omega) (by omega) (by omega) H10.out).mono ?_
  rintro e w7 ⟨rfl, hb7⟩
  have HB7 := bx hb7
  clear hb7 HB6
  by_cases e10 : d10 = m
  case neg => -- DEV{
    have HR := bx (show R = .err 10 from by rw [← HR2.out, if_pos (.inr (.inl e10))])
    have d10I : ((d10 : Int) != (m : Int)) = true := by rw [bne_iff_ne]; omega
    clear e4 e6 e10 HR2
    go_wp2
    go_ret2
    exact DirPost.bad HR.out HB7.out
    -- DEV}
  have d10I : ((d10 : Int) != (m : Int)) = false := by rw [bne_eq_false_iff_eq]; omega
  by_cases em : 64 < m
  · -- DEV{
    have HR := bx (show R = .err 10 from by rw [← HR2.out, if_pos (.inr (.inr (.inl em)))])
    have emI : (64 : Int) < (m : Int) := by omega
    clear e4 e6 e10 HR2
    go_wp2
    go_ret2
    exact DirPost.bad HR.out HB7.out
    -- DEV}
  have emI : ¬ (64 : Int) < (m : Int) := by omega
  by_cases es : fr + sz = p
  case neg => -- DEV{
    have HR := bx (show R = .err 10 from by rw [← HR2.out, if_pos (.inr (.inr (.inr es)))])
    have esI : ((fr : Int) + (sz : Int) != (p : Int)) = true := by rw [bne_iff_ne]; omega
    clear e4 e6 e10 es HR2
    go_wp2
    go_ret2
    exact DirPost.bad HR.out HB7.out
    -- DEV}
  have esI : ((fr : Int) + (sz : Int) != (p : Int)) = false := by rw [bne_eq_false_iff_eq]; omega
  have HR := bx (show R = (cenR b fr p m).bind (fun l => locR b fr [] l) from by rw [← HR2.out, if_neg (by rintro (h | h | h | h); exact h (by omega); exact h e10; exact em h; exact h es), book_cenR])
  clear HR2 e4 e6 e10 es
  go_wp2_with fail
  have HC := bx (rcent_any A n c fr p m b w7 HN.out hz hnc hc ((HRB.out.below HB7.out (Nat.le_refl _)).more HB7.out.size) hpe (by omega) (by omega))
  obtain ⟨X, hX⟩ : ∃ X, cenR b fr p m = X := ⟨_, rfl⟩
  rw [hX] at HC HR
  cases X with
  | err k => -- DEV{
    have hk := cenR_pos hX
    have HRk := bx (show R = .err k from by rw [HR.out]; rfl)
    have hkI : (k != 0) = true := by rw [bne_iff_ne]; omega
    clear hX
    refine HC.out.mono ?_
    rintro e w8 ⟨hb8, rfl⟩
    have HB8 := bx (HB7.out.trans (hb8.mono HB7.out.size))
    clear hb8
    go_wp2
    go_ret2
    exact DirPost.bad HRk.out HB8.out
    -- DEV}
  | ok l =>
  have hCA := cenR_ok hX
  have hOk := centA_ok m fr [] l p (Nat.le_refl _) ⟨by simp, by simp⟩ hCA
  have hSm := centA_sm m fr [] l p (by simp) hCA
  have HOK := bx hOk.1
  have HSM := bx hSm
  have hfrp : fr ≤ p := hOk.2.2.1
  have hlm : l.length = m := by have := hOk.2.1; simpa using this
  have HLM := bx hlm
  have HR3 := bx (show R = locR b fr [] l from by rw [HR.out]; rfl)
  clear hX hCA hOk hSm hlm HR
  refine HC.out.mono ?_
  rintro e wa ⟨hba, v, pv, rfl, hov, hop, hapt⟩
  obtain ⟨B7, hB7⟩ : ∃ B7, w7.heap.size = B7 := ⟨_, rfl⟩
  rw [hB7] at hba hov hop
  have HBa := bx hba
  have hwB : w.heap.size ≤ B7 := by rw [← hB7]; exact HB7.out.size
  have hB7a : B7 ≤ wa.heap.size := by rw [← hB7]; exact hba.size
  have HOV : Bx (OwS recL 7 wa B7 33 v ([] ++ (l.drop 0).map rec0)) := bx hov
  have HOP := bx hop
  have HAP := bx hapt
  obtain ⟨vA, vc, hv, _, _⟩ := hov.rd
  rw [List.length_map, HLM.out] at hv
  subst hv
  obtain ⟨pA, pc, hpv, _, _, _⟩ := hop.rd
  rw [List.length_map, HLM.out] at hpv
  subst hpv
  clear hba hov hop hapt hB7 HC d4I d6I d10I emI esI
  go_wp2_with fail
  go_loopw [11] (fun iv wx => ∃ (j : Nat) (done : List (Rec × Nat)), j ≤ m ∧ iv = .int .i64 (j : Int) ∧ Bx (R = locR b fr done (l.drop j)) ∧ Bx (done.length = j) ∧ Bx (Below B7 wa wx) ∧ Bx (OwS recL 7 wx B7 33 (.slice vA m vc) (done ++ (l.drop j).map rec0)) ∧ Bx (OwI wx B7 3 (.slice pA m pc) (l.map plcI)) ∧ Bx (∀ y ∈ done, DonOk fr y)) (fun i _ => m - (intOf i).toNat)
  case atStart => exact ⟨0, [], by omega, rfl, HR3, bx rfl, bx (Below.refl _ _), HOV, HOP, bx (by simp)⟩
  case round =>
    obtain ⟨j, done, hj, rfl, HRj, HLj, HWj, HOj, HPj, HTj⟩ := hrel
    have hszj : B7 ≤ wr.heap.size := by have := HWj.out.size; omega
    by_cases hjm : j < m
    · -- DEV{
      have hjI : (j : Int) < (m : Int) := by omega
      obtain ⟨x, hx⟩ : ∃ x, l[j]? = some x := ⟨_, List.getElem?_eq_getElem (by rw [HLM.out]; exact hjm)⟩
      have hxm : x ∈ l := List.mem_of_getElem? hx
      obtain ⟨gl, cc, hv, hglo, hglt⟩ := HOj.out.form (by rw [rl_len HLj.out (by rw [HLM.out]; exact hj), HLM.out]; omega)
      injection hv with hv1 hv2 hv3
      subst hv1
      obtain ⟨ap, xp, hpA, _, hxp, hcp⟩ := HPj.out.rl.num (k := j) (by rw [List.length_map, HLM.out]; exact hjm)
      subst hpA
      have hxp2 : xp = (x.2 : Int) := by
        have := hxp.out
        rw [List.getElem?_map, hx] at this
        injection this with this
        exact this.symm
      subst hxp2
      have hdr : l.drop j = x :: l.drop (j + 1) := by
        rw [List.drop_eq_getElem_cons (by rw [HLM.out]; exact hjm)]
        have hx' := hx
        rw [List.getElem?_eq_getElem (by rw [HLM.out]; exact hjm)] at hx'
        injection hx' with hx'
        rw [hx']
      have hsm := HSM.out x hxm
      have hx2 := (HOK.out.good x hxm).2.2.2
      have hat := rl_at HLj.out hx
      have hset := fun a => rl_set (a := a) HLj.out hx
      have hRn : localA b fr x = none → R = .err 15 := fun h => by rw [HRj.out, hdr, locR_bad h]
      have hRs : ∀ a, localA b fr x = some a → R = locR b fr (done ++ [(x.1, a)]) (l.drop (j + 1)) ∧ (∀ y ∈ done ++ [(x.1, a)], DonOk fr y) := fun a h => ⟨by rw [HRj.out, hdr, locR_good h], fun y hy => by
        have hlo := localA_ok h
        rcases List.mem_append.1 hy with h | h
        · exact HTj.out y h
        · simp at h; subst h
          exact ⟨hsm.1, hsm.2.1, hsm.2.2.2.1, hsm.2.2.2.2.1, hsm.2.2.2.2.2, hsm.2.2.1, by have := hlo.1; show x.1.head + 30 ≤ a; omega, hlo.2.1⟩⟩
      obtain ⟨⟨nm, me, pk, si, su, hd⟩, pl⟩ := x
      have q0 : wr.cell? ⟨gl, j * 7, none⟩ = some (strV nm) := HOj.out.cell recCels (j := 0) hat rfl
      have q1 : wr.cell? ⟨gl, j * 7 + 1, none⟩ = some (.int .i64 (me : Int)) := HOj.out.cell recCels (j := 1) hat rfl
      have q2 : wr.cell? ⟨gl, j * 7 + 2, none⟩ = some (.int .i64 (pk : Int)) := HOj.out.cell recCels (j := 2) hat rfl
      have q3 : wr.cell? ⟨gl, j * 7 + 3, none⟩ = some (.int .i64 (si : Int)) := HOj.out.cell recCels (j := 3) hat rfl
      have q4 : wr.cell? ⟨gl, j * 7 + 4, none⟩ = some (.int .i64 (su : Int)) := HOj.out.cell recCels (j := 4) hat rfl
      have q5 : wr.cell? ⟨gl, j * 7 + 5, none⟩ = some (.int .i64 0) := HOj.out.cell recCels (j := 5) hat rfl
      have q6 : wr.cell? ⟨gl, j * 7 + 6, none⟩ = some (.int .i64 (hd : Int)) := HOj.out.cell recCels (j := 6) hat rfl
      have hfz := HOj.out.frz (j * 7 + 5)
      have HLOC := bx (rloc_any A n c fr pl b nm me pk si su hd 0 wr.drew HN.out hz hnc hc (((HRB.out.below HB7.out (Nat.le_refl _)).below HBa.out (by omega)).below HWj.out (by omega) |>.more (show w.heap.size ≤ wr.heap.size by omega) |>.drew) (by omega) (by have := HN.out; omega) hsm.1 hsm.2.1 hsm.2.2.1)
      obtain ⟨Y, hY⟩ : ∃ Y, localA b fr (⟨nm, me, pk, si, su, hd⟩, pl) = Y := ⟨_, rfl⟩
      rw [hY] at hRn hRs HLOC
      obtain ⟨ri, hri⟩ : ∃ ri, locI Y = ri := ⟨_, rfl⟩
      rw [hri] at HLOC
      have HRN := bx hRn
      have HRS := bx hRs
      have HSET := bx hset
      have HAT := bx hat
      have HRI := bx hri
      have hcp' : wr.cell? (ap.add j) = some (.int .i64 (pl : Int)) := hcp
      clear hY hri hRn hRs hset hat hcp hxp hdr hsm hx2 hx hxm hv2 hv3 HRj HTj
      go_wp2
      go_region_with ((go_at_call 37; refine HLOC.out.mono ?_; rintro e w4 ⟨rfl, hb4⟩; have hf4 : w4.frozen? ⟨gl, j * 7 + 5, none⟩ = false := (hb4.frozen (p := ⟨gl, j * 7 + 5, none⟩) hglt).trans hfz; have hc4 : w4.cell? ⟨gl, j * 7 + 5, none⟩ = some (.int .i64 0) := (hb4.cell (p := ⟨gl, j * 7 + 5, none⟩) hglt).trans q5))
      all_goals
        have hB4 : Below B7 wa w4 := HWj.out.trans ((below_drewN (Below.refl B7 wr) 1).trans (hb4.mono hszj))
        have hO4 := HOj.out.drew.step hb4
        have hP4 := HPj.out.drew.below hb4
        have HB5 := bx (hB4.setCell (p := ⟨gl, j * 7 + 5, none⟩) hglo (.int .i64 ri))
        have HW5 := bx (HB7.out.trans ((HBa.out.trans HB5.out).mono hwB))
        have HP5 := bx (apt_kept hP4 HAP.out (gb_set (g := gl) (gb_below (Below.refl _ _) (some gl)) (j * 7 + 5) (.int .i64 ri)))
        have HO4 := bx hO4
        clear hB4 hO4 hP4 hb4 HLOC q0 q1 q2 q3 q4 q5 q6 hfz hcp' HOj HPj HWj
        cases Y with
        | none =>
          have HRk := bx (HRN.out rfl)
          obtain rfl : ri = -1 := by rw [← HRI.out]; rfl
          clear HRI HRN HRS HO4
          go_wp2
          go_ret2
          exact DirPost.bad HRk.out HW5.out
        | some a =>
          have HRr := HRS.out a rfl
          obtain rfl : ri = (a : Int) := by rw [← HRI.out]; rfl
          have HO5 := bx (HO4.out.set recCels (j := 5) (x' := (⟨nm, me, pk, si, su, hd⟩, a)) HAT.out (by omega) rfl)
          rw [HSET.out] at HO5
          have HRa := bx HRr.1
          have HTa := bx HRr.2
          have HLa : Bx ((done ++ [((⟨nm, me, pk, si, su, hd⟩ : Rec), a)]).length = j + 1) := bx (by rw [List.length_append, HLj.out]; rfl)
          have haI : ¬ (a : Int) < 0 := by omega
          clear HRr HRI HRN HRS HO4 HSET HAT
          go_wp2
          go_roundw
          case rel => exact ⟨j + 1, _, by omega, by go_num, HRa, HLa, HB5, HO5, HP5, HTa⟩
          case measure => simp [intOf]; omega
      -- DEV}
    have hjI : ¬ (j : Int) < (m : Int) := by omega
    obtain rfl : j = m := by omega
    have hOd : OwS recL 7 wr B7 33 (.slice vA j vc) done := by
      have := HOj.out
      rw [List.drop_eq_nil_of_le (Nat.le_of_eq HLM.out), List.map_nil, List.append_nil] at this
      exact this
    have HOd := bx hOd
    have HR4 := bx (show R = locK done from by rw [HRj.out, List.drop_eq_nil_of_le (Nat.le_of_eq HLM.out), locR_nil])
    have HWr := bx (HB7.out.trans ((HBa.out.trans HWj.out).mono hwB))
    clear hOd HOj HPj HRj hjm hj HOV HOP HAP HOK HSM HR3 HBa
    obtain ⟨wb, rfl⟩ : ∃ wb, wb = wr := ⟨_, rfl⟩
    go_wp2_with fail
    go_loopw [12] (fun iv wx => ∃ i q : Nat, i ≤ j ∧ iv = .int .i64 (i : Int) ∧ wx = wb.drewN q ∧ Bx (∀ (s t : Nat) (x y : Rec × Nat), s < i → done[s]? = some x → done[t]? = some y → t < s → overA x y = false)) (fun iv _ => j - (intOf iv).toNat)
    case atStart => exact ⟨0, 0, by omega, rfl, rfl, bx (fun s _ _ _ h => absurd h (by omega))⟩
    case round =>
      obtain ⟨i, q, hi, rfl, rfl, HV⟩ := hrel
      by_cases hij : i < j
      · have hiI : (i : Int) < (j : Int) := by omega
        have hiK : decide (i < j) = true := decide_eq_true hij
        go_wp2_with fail
        go_loopw [13] (fun kv wx => ∃ k q : Nat, k ≤ i ∧ kv = .int .i64 (k : Int) ∧ wx = wb.drewN q ∧ Bx (∀ (t : Nat) (x y : Rec × Nat), t < k → done[i]? = some x → done[t]? = some y → overA x y = false)) (fun kv _ => i - (intOf kv).toNat)
        case atStart => exact ⟨0, q, by omega, rfl, rfl, bx (fun t _ _ h => absurd h (by omega))⟩
        case round =>
          obtain ⟨k, q2, hk, rfl, rfl, HU⟩ := hrel
          by_cases hki : k < i
          · have hkI : (k : Int) < (i : Int) := by omega
            have hkK : decide (k < i) = true := decide_eq_true hki
            obtain ⟨gl, cc, hv, _⟩ := HOd.out.form (by rw [HLj.out]; omega)
            injection hv with hv1 hv2 hv3
            subst hv1
            obtain ⟨x, hx⟩ : ∃ x, done[i]? = some x := ⟨_, List.getElem?_eq_getElem (by rw [HLj.out]; omega)⟩
            obtain ⟨y, hy⟩ : ∃ y, done[k]? = some y := ⟨_, List.getElem?_eq_getElem (by rw [HLj.out]; omega)⟩
            have hX := HTj.out x (List.mem_of_getElem? hx)
            have hY := HTj.out y (List.mem_of_getElem? hy)
            unfold DonOk at hX hY
            obtain ⟨xh, hxh⟩ : ∃ z, x.1.head = z := ⟨_, rfl⟩
            obtain ⟨xp, hxp⟩ : ∃ z, x.1.packed = z := ⟨_, rfl⟩
            obtain ⟨xa, hxa⟩ : ∃ z, x.2 = z := ⟨_, rfl⟩
            obtain ⟨yh, hyh⟩ : ∃ z, y.1.head = z := ⟨_, rfl⟩
            obtain ⟨yp, hyp⟩ : ∃ z, y.1.packed = z := ⟨_, rfl⟩
            obtain ⟨ya, hya⟩ : ∃ z, y.2 = z := ⟨_, rfl⟩
            have p6 : wb.cell? ⟨gl, i * 7 + 6, none⟩ = some (.int .i64 (xh : Int)) := by rw [← hxh]; exact HOd.out.cell recCels (j := 6) hx rfl
            have p5 : wb.cell? ⟨gl, i * 7 + 5, none⟩ = some (.int .i64 (xa : Int)) := by rw [← hxa]; exact HOd.out.cell recCels (j := 5) hx rfl
            have p2 : wb.cell? ⟨gl, i * 7 + 2, none⟩ = some (.int .i64 (xp : Int)) := by rw [← hxp]; exact HOd.out.cell recCels (j := 2) hx rfl
            have r6 : wb.cell? ⟨gl, k * 7 + 6, none⟩ = some (.int .i64 (yh : Int)) := by rw [← hyh]; exact HOd.out.cell recCels (j := 6) hy rfl
            have r5 : wb.cell? ⟨gl, k * 7 + 5, none⟩ = some (.int .i64 (ya : Int)) := by rw [← hya]; exact HOd.out.cell recCels (j := 5) hy rfl
            have r2 : wb.cell? ⟨gl, k * 7 + 2, none⟩ = some (.int .i64 (yp : Int)) := by rw [← hyp]; exact HOd.out.cell recCels (j := 2) hy rfl
            rw [hxh, hxp, hxa] at hX
            rw [hyh, hyp, hya] at hY
            have b1 : xh < 4294967296 := hX.1
            have b2 : xa ≤ 70000 := by have := hX.2.2.2.2.2.2.2; omega
            have b3 : xp < 4294967296 := hX.2.1
            have b4 : yh < 4294967296 := hY.1
            have b5 : ya ≤ 70000 := by have := hY.2.2.2.2.2.2.2; omega
            have b6 : yp < 4294967296 := hY.2.1
            have HOVR : Bx (overA x y = decide (xh < ya + yp ∧ yh < xa + xp)) := bx (by unfold overA; rw [hxh, hxp, hxa, hyh, hyp, hya])
            have HXY := bx (And.intro hx hy)
            have z1 : IntKind.i64.wrap ((ya : Int) + (yp : Int)) = (ya : Int) + (yp : Int) := IntWalk.i64_in _ (by omega)
            have z2 : IntKind.i64.wrap ((xa : Int) + (xp : Int)) = (xa : Int) + (xp : Int) := IntWalk.i64_in _ (by omega)
            have z3 : (k : Int) < (j : Int) := by omega
            have HV2 : overA x y = false → Bx (∀ (t : Nat) (x y : Rec × Nat), t < k + 1 → done[i]? = some x → done[t]? = some y → overA x y = false) := fun ho => bx (fun t x' y' ht h1 h2 => by
              by_cases e : t = k
              · subst e
                rw [HXY.out.1] at h1; rw [HXY.out.2] at h2
                injection h1 with h1; injection h2 with h2
                rw [← h1, ← h2]; exact ho
              · exact HU.out t x' y' (by omega) h1 h2)
            have HV3 := bx HV2
            clear hv2 hv3 hx hy hX hY hxh hxp hxa hyh hyp hya HV2
            by_cases o1 : xh < ya + yp
            · have o1I : (xh : Int) < (ya : Int) + (yp : Int) := by omega
              have o1K : decide ((xh : Int) < (ya : Int) + (yp : Int)) = true := decide_eq_true o1I
              by_cases o2 : yh < xa + xp
              · have o2I : (yh : Int) < (xa : Int) + (xp : Int) := by omega
                have o2K : decide ((yh : Int) < (xa : Int) + (xp : Int)) = true := decide_eq_true o2I
                have HRk := bx (show R = .err 16 from by
                  rw [HR4.out]; unfold locK
                  rw [over_hit HXY.out.1 HXY.out.2 hki (by rw [HOVR.out]; exact decide_eq_true ⟨o1, o2⟩)]; rfl)
                clear o1 o2
                go_wp2
                go_quiet (fail)
                go_wp2
                go_ret2
                exact DirPost.bad HRk.out (below_drewN (below_drewN HWr.out _) _)
              · have o2I : ¬ (yh : Int) < (xa : Int) + (xp : Int) := by omega
                have o2K : decide ((yh : Int) < (xa : Int) + (xp : Int)) = false := decide_eq_false o2I
                have HU2 := HV3.out (by rw [HOVR.out]; exact decide_eq_false (by rintro ⟨_, h⟩; exact o2 h))
                clear o1 o2
                go_wp2
                go_quiet (fail)
                go_wp2
                go_roundw
                case rel => exact ⟨k + 1, q2 + nq, by omega, by go_num, rfl, HU2⟩
                case measure => simp [intOf]; omega
            · have o1I : ¬ (xh : Int) < (ya : Int) + (yp : Int) := by omega
              have o1K : decide ((xh : Int) < (ya : Int) + (yp : Int)) = false := decide_eq_false o1I
              have HU2 := HV3.out (by rw [HOVR.out]; exact decide_eq_false (by rintro ⟨h, _⟩; exact o1 h))
              clear o1
              go_wp2
              go_quiet (fail)
              go_wp2
              go_roundw
              case rel => exact ⟨k + 1, q2 + nq, by omega, by go_num, rfl, HU2⟩
              case measure => simp [intOf]; omega
          · have hkI : ¬ (k : Int) < (i : Int) := by omega
            have hkK : decide (k < i) = false := decide_eq_false hki
            have hke : k = i := by omega
            have HV2 : Bx (∀ (s t : Nat) (x y : Rec × Nat), s < i + 1 → done[s]? = some x → done[t]? = some y → t < s → overA x y = false) := bx (fun s t x y hs h1 h2 hts => by
              by_cases e : s = i
              · subst e; exact HU.out t x y (by omega) h1 h2
              · exact HV.out s t x y (by omega) h1 h2 hts)
            clear hke
            go_wp2
            go_roundw
            case rel => exact ⟨i + 1, q2, by omega, by go_num, rfl, HV2⟩
            case measure => simp [intOf]; omega
      · have hiI : ¬ (i : Int) < (j : Int) := by omega
        have hiK : decide (i < j) = false := decide_eq_false hij
        have HRk := bx (show R = .ok done from by
          rw [HR4.out]; unfold locK
          rw [over_all (fun s t x y h1 h2 h3 => HV.out s t x y (by
            have := (List.getElem?_eq_some_iff.1 h1).1
            rw [HLj.out] at this; omega) h1 h2 h3)]; rfl)
        go_wp2
        go_ret2
        exact DirPost.good HRk.out (below_drewN HWr.out _) (OwS.drewN (OwS.low HOd.out hwB) _)
end Go.Proofs.YtokojichjliieaaDoor
namespace Go.Proofs.YtokojichjliieaaDoor
open Go.RowKit
theorem rs_take {α : Type} {l : List α} {k : Nat} {x : α} (h : l[k]? = some x) : l.take (k + 1) = l.take k ++ [x] := by
  rw [List.take_add_one, h]; rfl
theorem int_ne {x y : Nat} (h : ¬ x = y) : ((x : Int) == (y : Int)) = false ∧ ((x : Int) != (y : Int)) = true ∧ ¬ (x : Int) = (y : Int) ∧ decide ((x : Int) = (y : Int)) = false := by
  have h' : ¬ (x : Int) = (y : Int) := by omega
  exact ⟨by rw [beq_eq_false_iff_ne]; exact h', by rw [bne_iff_ne]; exact h', h', decide_eq_false h'⟩
set_option maxRecDepth 100000 in
set_option maxHeartbeats 8000000 in
theorem sameRecs_any (A C : Option Addr) (n c m d : Nat) (l r : List (Rec × Nat)) (w : World) (hn : l.length = n) (hm : r.length = m) (hz : n ≤ 1000000) (hz2 : m ≤ 1000000) (hl : RS recL w w.heap.size A l) (hr : RS recL w w.heap.size C r) :
    Calls Tryd.prog 15 #[.slice A n c, .slice C m d] w fun e w' => e = .returned (.bool (decide (l = r))) ∧ Below w.heap.size w w' := by
  have HL := bx hn
  have HR := bx hm
  by_cases he : n = m
  case neg =>
    have HN : Bx (decide (l = r) = false) := bx (decide_eq_false (fun e => he (by rw [← hn, ← hm, e])))
    have heI : ((n : Int) != (m : Int)) = true := by rw [bne_iff_ne]; omega
    have HB := bx (Below.refl w.heap.size w)
    clear he hn hm hl hr
    go_enter Tryd.func15, Tryd.ntmps15
    go_wp2
    go_ret
    exact ⟨ret_bool HN.out.symm, HB.out⟩
  subst he
  clear hn hm
  go_enter Tryd.func15, Tryd.ntmps15
  go_wp2
  go_loopw [5] (fun i wr => ∃ k q : Nat, k ≤ n ∧ i = .int .i64 (k : Int) ∧ Bx (l.take k = r.take k) ∧ wr = w.drewN q) (fun i _ => n - (intOf i).toNat)
  case atStart => exact ⟨0, 0, by omega, rfl, bx rfl, rfl⟩
  case round =>
    obtain ⟨k, q, hk, rfl, heq, rfl⟩ := hrel
    by_cases hk0 : k < n
    · have i1 : (0 : Int) ≤ (k : Int) := by omega
      have i2 : (k : Int) < (n : Int) := by omega
      have i3 : (k : Int).toNat = k := by omega
      obtain ⟨ad, x, rfl, hlt, hx, hc0, hc1⟩ := hl.at_ recCels (by rw [HL.out]; exact hk0)
      obtain ⟨ad2, y, rfl, hlt2, hy, hd0, hd1⟩ := hr.at_ recCels (by rw [HR.out]; exact hk0)
      have HX := bx hx.out
      have HY := bx hy.out
      clear hx hy
      obtain ⟨⟨n1, m1, p1, s1, u1, h1⟩, a1⟩ := x
      obtain ⟨⟨n2, m2, p2, s2, u2, h2⟩, a2⟩ := y
      have HNE : Bx (¬ ((⟨n1, m1, p1, s1, u1, h1⟩, a1) : Rec × Nat) = (⟨n2, m2, p2, s2, u2, h2⟩, a2) → decide (l = r) = false) := bx (fun h => decide_eq_false (by
        rintro rfl
        have := HX.out.symm.trans HY.out
        exact h (by injection this)))
      have HTK : Bx (((⟨n1, m1, p1, s1, u1, h1⟩, a1) : Rec × Nat) = (⟨n2, m2, p2, s2, u2, h2⟩, a2) → l.take (k + 1) = r.take (k + 1)) := bx (fun h => by rw [rs_take HX.out, rs_take HY.out, heq.out, h])
      obtain ⟨x1, hx1⟩ : ∃ s : ByteArray, (⟨n1.toArray⟩ : ByteArray) = s := ⟨_, rfl⟩
      obtain ⟨x2, hx2⟩ : ∃ s : ByteArray, (⟨n2.toArray⟩ : ByteArray) = s := ⟨_, rfl⟩
      have HS1 : Bx (strV n1 = .string x1) := bx (by unfold strV; rw [hx1])
      have HS2 : Bx (strV n2 = .string x2) := bx (by unfold strV; rw [hx2])
      have e1 : x1.data.toList = n1 := by rw [← hx1]
      have e2 : x2.data.toList = n2 := by rw [← hx2]
      have c0 := hc0 _ rfl
      have d0 := hd0 _ rfl
      rw [HS1.out] at c0
      rw [HS2.out] at d0
      have c1 := hc1 0 _ rfl
      have d1 := hd1 0 _ rfl
      have c2 := hc1 1 _ rfl
      have d2 := hd1 1 _ rfl
      have c3 := hc1 2 _ rfl
      have d3 := hd1 2 _ rfl
      have c4 := hc1 3 _ rfl
      have d4 := hd1 3 _ rfl
      have c5 := hc1 4 _ rfl
      have d5 := hd1 4 _ rfl
      have c6 := hc1 5 _ rfl
      have d6 := hd1 5 _ rfl
      rw [Nat.zero_add] at c1 d1
      try rw [show 1 + 1 = 2 from rfl] at c2 d2
      try rw [show 2 + 1 = 3 from rfl] at c3 d3
      try rw [show 3 + 1 = 4 from rfl] at c4 d4
      try rw [show 4 + 1 = 5 from rfl] at c5 d5
      try rw [show 5 + 1 = 6 from rfl] at c6 d6
      clear hc0 hc1 hd0 hd1 hx1 hx2
      by_cases hnn : n1 = n2
      case neg =>
        have g1 : (x1.toList == x2.toList) = false := tl_diff (by rw [e1, e2]; exact hnn)
        have g2 : ¬ x1 = x2 := fun e => hnn (by rw [← e1, ← e2, e])
        have HN := bx (HNE.out (fun e => hnn (by injection e with e; injection e)))
        clear hnn e1 e2
        go_wp2
        go_quiet (fail)
        go_wp2
        go_ret
        exact ⟨ret_bool HN.out.symm, below_drewN (below_drewN (Below.refl _ _) _) _⟩
      subst hnn
      obtain rfl : x1 = x2 := ba_eq (by rw [e1, e2])
      by_cases hmm : m1 = m2
      case neg =>
        obtain ⟨g1, g2, g3, g4⟩ := int_ne hmm
        have HN := bx (HNE.out (fun e => hmm (by injection e with e; injection e)))
        clear hmm e1 e2
        go_wp2
        go_quiet (fail)
        go_wp2
        go_ret
        exact ⟨ret_bool HN.out.symm, below_drewN (below_drewN (Below.refl _ _) _) _⟩
      subst hmm
      by_cases hpp : p1 = p2
      case neg =>
        obtain ⟨g1, g2, g3, g4⟩ := int_ne hpp
        have HN := bx (HNE.out (fun e => hpp (by injection e with e; injection e)))
        clear hpp e1 e2
        go_wp2
        go_quiet (fail)
        go_wp2
        go_ret
        exact ⟨ret_bool HN.out.symm, below_drewN (below_drewN (Below.refl _ _) _) _⟩
      subst hpp
      by_cases hss : s1 = s2
      case neg =>
        obtain ⟨g1, g2, g3, g4⟩ := int_ne hss
        have HN := bx (HNE.out (fun e => hss (by injection e with e; injection e)))
        clear hss e1 e2
        go_wp2
        go_quiet (fail)
        go_wp2
        go_ret
        exact ⟨ret_bool HN.out.symm, below_drewN (below_drewN (Below.refl _ _) _) _⟩
      subst hss
      by_cases huu : u1 = u2
      case neg =>
        obtain ⟨g1, g2, g3, g4⟩ := int_ne huu
        have HN := bx (HNE.out (fun e => huu (by injection e with e; injection e)))
        clear huu e1 e2
        go_wp2
        go_quiet (fail)
        go_wp2
        go_ret
        exact ⟨ret_bool HN.out.symm, below_drewN (below_drewN (Below.refl _ _) _) _⟩
      subst huu
      by_cases haa : a1 = a2
      case neg =>
        obtain ⟨g1, g2, g3, g4⟩ := int_ne haa
        have HN := bx (HNE.out (fun e => haa (by injection e)))
        clear haa e1 e2
        go_wp2
        go_quiet (fail)
        go_wp2
        go_ret
        exact ⟨ret_bool HN.out.symm, below_drewN (below_drewN (Below.refl _ _) _) _⟩
      subst haa
      by_cases hhh : h1 = h2
      case neg =>
        obtain ⟨g1, g2, g3, g4⟩ := int_ne hhh
        have HN := bx (HNE.out (fun e => hhh (by injection e with e; injection e)))
        clear hhh e1 e2
        go_wp2
        go_quiet (fail)
        go_wp2
        go_ret
        exact ⟨ret_bool HN.out.symm, below_drewN (below_drewN (Below.refl _ _) _) _⟩
      subst hhh
      have HT := bx (HTK.out rfl)
      clear e1 e2
      go_wp2
      go_quiet (fail)
      rename_i nq
      go_wp2
      go_roundw
      case rel => exact ⟨k + 1, q + nq, by omega, by go_num, HT, rfl⟩
      case measure => simp [intOf]; omega
    · obtain rfl : k = n := by omega
      have HN : Bx (decide (l = r) = true) := bx (by
        have h1 := heq.out
        rw [List.take_of_length_le (by rw [HL.out]; exact Nat.le_refl _), List.take_of_length_le (by rw [HR.out]; exact Nat.le_refl _)] at h1
        exact decide_eq_true h1)
      have i2 : ¬ (k : Int) < (k : Int) := by omega
      go_wp2
      go_ret
      exact ⟨ret_bool HN.out.symm, below_drewN (Below.refl _ _) _⟩
end Go.Proofs.YtokojichjliieaaDoor
namespace Go.Proofs.YtokojichjliieaaDoor
open Go.RowKit
section
variable {P : Program} (w : World)
theorem run_append_mk (t u ty e : TypeId) (i : TypeInfo) (z : Value) (ht : P.underlying t = some (.slice e)) (hu : P.underlying u = some (.int .i64)) (hi : P.info? e = some i) (hz : i.zero = some z) (hs1 : i.size = 1)
    (b : Addr) (sLen sCap : Nat) (olds : List Value) (hlo : olds.length = sLen * i.size) (holds : ∀ j v, olds[j]? = some v → w.cell? (b.add j) = some v)
    (k : Nat) (hk : 0 < k) (hkb : k ≤ 1000000000) (hby : i.bytes ≤ 1000) (hg : sCap < sLen + k) (h63 : ((sLen + k : Nat) : Int) ≤ 9223372036854775807) (hfit : Builtin.nextslicecap (sLen + k) sCap * i.bytes ≤ 281474976710656) :
    (Builtin.append_ #[t, u] ty #[.slice (some b) sLen sCap, .int .i64 (k : Int)]).run P w =
      .ok (.slice (some ⟨w.heap.size, 0, none⟩) (sLen + k) (grownCap w (sLen + k) sCap e))
        (w.drew.alloc (.cells (olds.toArray ++ Builtin.zeroCells z.cells k ++ Builtin.zeroCells z.cells (grownCap w (sLen + k) sCap e - (sLen + k))) e)) := by
  have hn : ¬ (sLen + k ≤ sCap) := by omega
  have h63' : ¬ (9223372036854775807 < ((sLen : Int) + (k : Int))) := by omega
  have h48' : ¬ (281474976710656 < Builtin.nextslicecap (sLen + k) sCap * i.bytes) := by omega
  have hwr : IntKind.i64.wrap (k : Int) = (k : Int) := IntWalk.i64_in _ (by omega)
  have hneg : ¬ (k : Int) < 0 := by omega
  have hkk : (k : Int) * (i.bytes : Int) ≤ 281474976710656 := by
    have : k * i.bytes ≤ 1000000000 * 1000 := Nat.mul_le_mul hkb hby
    have h2 : ((k * i.bytes : Nat) : Int) ≤ 1000000000000 := by omega
    rw [Int.natCast_mul] at h2; omega
  have hkk' : ¬ (281474976710656 < (k : Int) * (i.bytes : Int)) := by omega
  have hk0 : ¬ k = 0 := by omega
  have hmax : max (k : Int) 0 = (k : Int) := by omega
  have hfo := run_firstCells_some (P := P) w.drew i.size sLen b sLen sCap olds hlo (by simpa using holds)
  rw [hs1] at hfo
  simp [Builtin.append_, run_underlying ht, run_underlying hu, sizeOf, typeInfo, zeroValue, hi, hz, hs1, asInt, asIntOf, hmax, hwr, hneg, hkk', hk0, hn, h63', h48', Question.forced, hfo, newRow, grownCap]
theorem zeroCells_one (z : Value) (n : Nat) : (Builtin.zeroCells #[z] n).toList = List.replicate n z := by
  unfold Builtin.zeroCells
  apply List.ext_getElem?
  intro i
  by_cases h : i < n
  · simp [h, Nat.mod_one]
  · simp [h]
theorem wpList_appMk {ops : Array Oper} {rest : List Oper} {o : Oper} {a : Act} {Q : Exit → Act → World → Prop} (hgd : o.guard = none) (s x : Operand) {t u e : TypeId}
    (ho : o.op = .call { callee := .builtin .append, args := #[s, x], argTypes := #[t, u] }) (hE : ETy P t e (.int .u8 0) 1 1) (hu : P.underlying u = some (.int .i64))
    (l : List UInt8) (ad : Addr) (n : Nat) (hl : l.length = n) (hs : a.eval s = .slice (some ad) n n) (B : Nat) (hr : RB w B (some ad) l) (k : Nat) (hk : 0 < k) (hkb : k ≤ 1000000) (hn : n ≤ 1000000) (hx : a.eval x = .int .i64 (k : Int))
    (h : ∀ v' w', OwB w' w.heap.size e v' (l ++ List.replicate k 0) → Below w.heap.size w w' → wpList P ops Q rest (a.put o.dst v') w') : wpList P ops Q (o :: rest) a w :=
  wpList_plain hgd fun K hK => by
    obtain ⟨i, hi, hz, hsz, hb⟩ := hE.info
    have hcells : ∀ j v, (l.map bV)[j]? = some v → w.cell? (ad.add j) = some v := fun j v hv => by
      obtain ⟨ad', h1, _, hc⟩ := hr (fun e => by simp at e; subst e; simp at hv)
      injection h1 with h1
      subst h1
      exact hc j v hv
    have hrun := run_append_mk (P := P) w t u o.type e i (.int .u8 0) hE.sl hu hi hz hsz ad n n (l.map bV) (by rw [hsz]; simpa using hl) hcells k hk (by omega) (by omega) (by omega) (by omega) (growslice_fits (by omega) (by rw [hb]; omega))
    unfold Oper.wp execOp
    simp only [ho, resolve, invoke, builtin, Sem.run_bind, Sem.run_pure, Result.andThen_ok, List.map_toArray, List.map_cons, List.map_nil, hs, hx, hrun]
    have hge := grownCap_ge w (n + k) n e
    have hcm : grownCap w (n + k) n e ≤ maxLen := grownCap_le_maxLen w (n + k) n e (by unfold maxLen; omega)
    have hzc : (Value.cells (.int .u8 0)) = #[.int .u8 0] := rfl
    refine hK _ _ (h _ _ ⟨by simp, .inr ⟨w.heap.size, _, _, by rw [List.length_append, List.length_replicate, hl], Nat.le_refl _, heap_alloc_new w.drew _, by rw [List.length_append, List.length_replicate, hl]; exact hge, hcm, ?_, ?_⟩⟩ (bl_alloc (below_drewN (Below.refl _ _) 1) (Nat.le_refl _) _))
    · simp only [Array.size_append, List.size_toArray, size_zeroCells, List.length_map, hl, hzc]
      simp; omega
    · simp only [Array.toList_append, hzc, zeroCells_one, List.map_append, List.map_replicate]
      rw [List.take_append_of_le_length (by simp [hl])]
      rw [List.take_of_length_le (by simp [hl])]
      rfl
end
end Go.Proofs.YtokojichjliieaaDoor
namespace Go.Proofs.YtokojichjliieaaDoor
open Go.RowKit
def fz0 : List UInt8 := [80, 75, 5, 6, 0, 0, 0, 0, 0, 0, 0, 0, 0, 0, 0, 0, 0, 0, 0, 0, 0, 0]
def fz1 : List UInt8 := [80, 75, 5, 6, 0, 0, 0, 0, 0, 0, 0, 0, 0, 0, 0, 0, 0, 0, 0, 0, 0, 0, 0]
def fz2 : List UInt8 := [80, 75, 5, 6, 1, 0, 0, 0, 0, 0, 0, 0, 0, 0, 0, 0, 0, 0, 0, 0, 0, 0]
theorem fzd0 : dirA fz0 = .ok [] := by kernel_rfl
theorem fzd1 : dirA fz1 = .err 9 := by kernel_rfl
theorem fzd2 : dirA fz2 = .err 10 := by kernel_rfl
theorem fzd3 : dirA [] = .err 9 := by kernel_rfl
theorem fzn1 : nameA [97, 47, 98] = true := by decide +kernel
theorem fzn2 : nameA [97, 47] = true := by decide +kernel
theorem fzn3 : nameA [47, 97] = false := by decide +kernel
theorem fzn4 : nameA [97, 47, 47, 98] = false := by decide +kernel
theorem fzn5 : nameA [46, 46, 47, 97] = false := by decide +kernel
theorem fzn6 : nameA [] = false := by decide +kernel
theorem cell_old {W w1 : World} {p : Addr} {v : Value} (hb : Below W.heap.size W w1) (h : W.cell? p = some v) : w1.cell? p = some v := (hb.cell (World.block_lt_of_cell? _ _ h)).trans h
theorem dirpost_err {R : Rz (List (Rec × Nat))} {k : Int} {w w' : World} {e : Ending} (h : DirPost R w e w') (hR : R = .err k) : e = .returned (.tuple #[.slice none 0 0, .int .i64 k]) ∧ Below w.heap.size w w' := by
  subst hR; exact ⟨h.2, h.1⟩
theorem dirpost_ok {R : Rz (List (Rec × Nat))} {l : List (Rec × Nat)} {w w' : World} {e : Ending} (h : DirPost R w e w') (hR : R = .ok l) : ∃ A c, e = .returned (.tuple #[.slice A l.length c, .int .i64 0]) ∧ OwS recL 7 w' w.heap.size 33 (.slice A l.length c) l ∧ RS recL w' w'.heap.size A l ∧ l.length ≤ c ∧ Below w.heap.size w w' := by
  subst hR
  obtain ⟨v, rfl, ho⟩ := h.2
  obtain ⟨A, c, rfl, hr, hc⟩ := ho.rd
  exact ⟨A, c, rfl, ho, hr, hc, h.1⟩
set_option maxRecDepth 100000 in
set_option maxHeartbeats 8000000 in
theorem fixed09_any (mx : Int) (w : World) (hm : w.cell? ⟨0, 0, none⟩ = some (.int .i64 mx)) :
    Calls Tryd.prog 12 #[] w fun e w' => e = .returned (.bool true) ∧ Below w.heap.size w w' := by
  have HM := bx hm
  have hbw := bl_alloc (Below.refl w.heap.size w) (Nat.le_refl _) (.cells #[.int .u8 80, .int .u8 75, .int .u8 5, .int .u8 6] 5)
  have HBW := bx hbw
  clear hm hbw
  go_enter Tryd.func12, Tryd.ntmps12
  go_wp2_with (at_builtin; refine wpList_appMk _ rfl (.tmp 11) (.const (.int .i64 18)) rfl byteTy Tryd.underlying3 [80, 75, 5, 6] ⟨w.heap.size, 0, none⟩ 4 rfl rfl _ (RL.news w [80, 75, 5, 6] _ rfl 5 (0, 0)) 18 (by omega) (by omega) (by omega) rfl ?_; intro v1 w1 own1 hb1)
  have hx1 : ([80, 75, 5, 6] ++ List.replicate 18 0 : List UInt8) = fz0 := rfl
  rw [hx1] at own1
  have HB1 := bx (HBW.out.trans (hb1.mono HBW.out.size))
  obtain ⟨A1, c1, rfl, hr1, hc1, hc1'⟩ := own1.rd
  have HO1 := bx own1
  have HR1 := bx hr1
  clear hb1 hr1 own1 HBW
  refine (dir_any A1 22 c1 fz0 w1 mx rfl (by omega) hc1 hc1' HR1.out (cell_old HB1.out HM.out)).mono ?_
  intro e1 w2 hp
  obtain ⟨A2, c2, rfl, _, _, _, hb2⟩ := dirpost_ok hp fzd0
  have HB2 := bx (HB1.out.trans (hb2.mono HB1.out.size))
  have HR2 := bx (HR1.out.step hb2)
  clear hp hb2
  go_wp2_with (first
    | (at_builtin; refine wpList_appL _ bV_one rfl (.tmp 19) (.tmp 20) rfl byteTy (by decide) w2.heap.size _ [] rfl (OwL.lit0 w2 (Nat.le_refl _)) _ A1 22 c1 fz0 rfl rfl (HR2.out.alloc (Nat.le_refl _) _) (by decide) (le_alloc0 (Nat.le_refl _) _) ?_
       intro v3 w3 own3 g3 k3 hb3
       have HO3 := bx own3
       have hz3 : w2.heap.size ≤ w3.heap.size := Nat.le_trans (le_alloc0 (Nat.le_refl _) _) hb3.size
       have HB3 := bx ((bl_alloc (Below.refl w2.heap.size w2) (Nat.le_refl _) (.cells #[] 5)).trans hb3)
       clear own3 g3 k3 hb3)
    | (at_builtin; refine wpList_appL _ bV_one rfl (.tmp 21) (.tmp 22) rfl byteTy (by decide) w2.heap.size _ ([] ++ fz0) rfl (HO3.out.alloc _) _ _ 1 1 [0] rfl rfl (RL.freshe _ _ rfl _) (by decide) (le_alloc0 hz3 _) ?_
       intro v4 w4 own4 g4 k4 hb4))
  have HB4 := bx (HB3.out.trans ((bl_alloc (Below.refl w2.heap.size w3) hz3 (.cells #[.int .u8 0] 5)).trans hb4))
  obtain ⟨A4, c4, rfl, hr4, hc4, hc4'⟩ := own4.rd
  have HR4 : Bx (RB w4 w4.heap.size A4 fz1) := bx hr4
  have HBw4 := bx (HB2.out.trans (HB4.out.mono HB2.out.size))
  clear g4 k4 hb4 own4 hr4 HO3 hz3 HB3
  refine (dir_any A4 23 c4 fz1 w4 mx rfl (by omega) hc4 hc4' HR4.out (cell_old HBw4.out HM.out)).mono ?_
  intro e1 w5 hp
  obtain ⟨rfl, hb5⟩ := dirpost_err hp fzd1
  have HB5 := bx (HBw4.out.trans (hb5.mono HBw4.out.size))
  have HR5 : Bx (RB w5 w5.heap.size A1 fz0) := bx ((HR2.out.below (HB4.out.trans (hb5.mono HB4.out.size)) (Nat.le_refl _)).more (Nat.le_trans HB4.out.size hb5.size))
  clear hp hb5 HR2 HB4 HBw4 HR4
  go_wp2_with (first
    | (at_builtin; refine wpList_appL _ bV_one rfl (.tmp 27) (.tmp 28) rfl byteTy (by decide) w5.heap.size _ [] rfl (OwL.lit0 w5 (Nat.le_refl _)) _ A1 22 c1 fz0 rfl rfl (HR5.out.alloc (Nat.le_refl _) _) (by decide) (le_alloc0 (Nat.le_refl _) _) ?_
       intro v6 w6 own6 g6 k6 hb6
       have hz6 : w5.heap.size ≤ w6.heap.size := Nat.le_trans (le_alloc0 (Nat.le_refl _) _) hb6.size
       have HB6 := bx ((bl_alloc (Below.refl w5.heap.size w5) (Nat.le_refl _) (.cells #[] 5)).trans hb6)
       obtain ⟨gc, cc, hv6, hgc, hgc2⟩ := World.ownsRow.form own6 (by decide)
       have hv6' : v6 = .slice (some ⟨gc, 0, none⟩) 22 cc := hv6
       subst hv6'
       have hcell : w6.cell? ⟨gc, 4, none⟩ = some (.int .u8 0) := OwL.cell own6 (k := 4) (x := 0) rfl
       have hfr := OwL.frz own6 4
       have HO6 := bx own6
       clear own6 g6 k6 hb6 hv6))
  have hset := HO6.out.set 4 1
  have HO7 : Bx (OwB (w6.setCell ⟨gc, 4, none⟩ (.int .u8 1)) w5.heap.size 5 (.slice (some ⟨gc, 0, none⟩) 22 cc) fz2) := bx hset
  have HB7 := bx (HB5.out.trans ((HB6.out.setCell (p := ⟨gc, 4, none⟩) hgc (.int .u8 1)).mono HB5.out.size))
  obtain ⟨w7, hw7⟩ : ∃ w7, w6.setCell ⟨gc, 4, none⟩ (.int .u8 1) = w7 := ⟨_, rfl⟩
  rw [hw7] at HO7 HB7
  rw [hw7]
  obtain ⟨A7, c7, hv7, hr7, hc7, hc7'⟩ := HO7.out.rd
  injection hv7 with hv7a hv7b hv7c
  subst hv7a
  subst hv7c
  have HR7 := bx hr7
  clear hset hw7 hr7 HO6 HB6 hcell hfr
  refine (dir_any (some ⟨gc, 0, none⟩) 22 cc fz2 w7 mx rfl (by omega) hc7 hc7' HR7.out (cell_old HB7.out HM.out)).mono ?_
  intro e1 w8 hp
  obtain ⟨rfl, hb8⟩ := dirpost_err hp fzd2
  have HB8 := bx (HB7.out.trans (hb8.mono HB7.out.size))
  clear hp hb8 HB7 HR7 HO7
  go_wp2_with fail
  refine (dir_any none 0 0 [] w8 mx rfl (by omega) (Nat.le_refl _) (by decide) RL.nil (cell_old HB8.out HM.out)).mono ?_
  intro e1 w9 hp
  obtain ⟨rfl, hb9⟩ := dirpost_err hp fzd3
  have HB9 := bx (HB8.out.trans (hb9.mono HB8.out.size))
  clear hp hb9 HB8
  go_wp2_with fail
  refine (name_any ⟨#[97, 47, 98]⟩ mx w9 (by decide) (cell_old HB9.out HM.out)).mono ?_
  rintro e wa ⟨rfl, hbn⟩
  rw [show nameA (⟨#[97, 47, 98]⟩ : ByteArray).data.toList = true from fzn1]
  have HBa := bx (HB9.out.trans (hbn.mono HB9.out.size))
  clear hbn HB9
  go_wp2_with fail
  refine (name_any ⟨#[97, 47]⟩ mx wa (by decide) (cell_old HBa.out HM.out)).mono ?_
  rintro e wb ⟨rfl, hbn⟩
  rw [show nameA (⟨#[97, 47]⟩ : ByteArray).data.toList = true from fzn2]
  have HBb := bx (HBa.out.trans (hbn.mono HBa.out.size))
  clear hbn HBa
  go_wp2_with fail
  refine (name_any ⟨#[47, 97]⟩ mx wb (by decide) (cell_old HBb.out HM.out)).mono ?_
  rintro e wc1 ⟨rfl, hbn⟩
  rw [show nameA (⟨#[47, 97]⟩ : ByteArray).data.toList = false from fzn3]
  have HBc := bx (HBb.out.trans (hbn.mono HBb.out.size))
  clear hbn HBb
  go_wp2_with fail
  refine (name_any ⟨#[97, 47, 47, 98]⟩ mx wc1 (by decide) (cell_old HBc.out HM.out)).mono ?_
  rintro e wd1 ⟨rfl, hbn⟩
  rw [show nameA (⟨#[97, 47, 47, 98]⟩ : ByteArray).data.toList = false from fzn4]
  have HBd := bx (HBc.out.trans (hbn.mono HBc.out.size))
  clear hbn HBc
  go_wp2_with fail
  refine (name_any ⟨#[46, 46, 47, 97]⟩ mx wd1 (by decide) (cell_old HBd.out HM.out)).mono ?_
  rintro e we1 ⟨rfl, hbn⟩
  rw [show nameA (⟨#[46, 46, 47, 97]⟩ : ByteArray).data.toList = false from fzn5]
  have HBe := bx (HBd.out.trans (hbn.mono HBd.out.size))
  clear hbn HBd
  go_wp2_with fail
  refine (name_any ⟨#[]⟩ mx we1 (by decide) (cell_old HBe.out HM.out)).mono ?_
  rintro e wf1 ⟨rfl, hbn⟩
  rw [show nameA (⟨#[]⟩ : ByteArray).data.toList = false from fzn6]
  have HBf := bx (HBe.out.trans (hbn.mono HBe.out.size))
  clear hbn HBe
  go_wp2
  go_ret
  exact ⟨rfl, HBf.out⟩
end Go.Proofs.YtokojichjliieaaDoor
namespace Go.Proofs.YtokojichjliieaaDoor
open Go.RowKit

theorem take_snocS {α : Type} {l : List α} {k : Nat} {x : α} (h : l[k]? = some x) : l.take (k + 1) = l.take k ++ [x] := by
  rw [List.take_add_one, h]; rfl
set_option maxHeartbeats 400000 in
theorem same_any (A C : Option Addr) (n c m d : Nat) (w : World) (l r : List UInt8) (hn : l.length = n) (hm : r.length = m) (hl : (n : Int) ≤ 140737488355328) (hr : (m : Int) ≤ 140737488355328)
    (ha : RB w w.heap.size A l) (hc : RB w w.heap.size C r) :
    Calls Tryd.prog 16 #[.slice A n c, .slice C m d] w fun e w' => e = .returned (.bool (decide (l = r))) ∧ Below w.heap.size w w' := by
  subst hn
  subst hm
  by_cases he : l.length = r.length
  · go_enter Tryd.func16, Tryd.ntmps16
    have he1 : ((l.length : Int) != (r.length : Int)) = false := by simp [he]
    have HE := Lib.hid he
    clear he
    go_wp2
    go_loopw [5] (fun i wr => ∃ k m : Nat, k ≤ l.length ∧ i = .int .i64 (k : Int) ∧ l.take k = r.take k ∧ wr = w.drewN m) (fun i _ => l.length - (intOf i).toNat)
    case atStart => exact ⟨0, 0, by omega, rfl, rfl, rfl⟩
    case round =>
      obtain ⟨k, m, hk, rfl, heq, rfl⟩ := hrel
      have HQ := Lib.hid heq
      clear heq
      by_cases hk0 : k < l.length
      · have hk1 : k < r.length := by have := HE.out; omega
        obtain ⟨ad, x, rfl, _, hx, hcx⟩ := ha.byte hk0
        obtain ⟨bd, y, rfl, _, hy, hcy⟩ := hc.byte hk1
        by_cases hxy : x = y
        · subst hxy
          have hb1 : ((x.toNat : Int) != (x.toNat : Int)) = false := by simp
          go_wp2
          go_quiet (fail)
          go_wp2
          go_roundw
          case rel => exact ⟨k + 1, _, by omega, by go_num, by rw [take_snocS hx.out, take_snocS hy.out, HQ.out], rfl⟩
          case measure => simp [intOf]; omega
        · have hb1 : ((x.toNat : Int) != (y.toNat : Int)) = true := by
            simp only [bne_iff_ne, ne_eq, Int.natCast_inj]
            exact fun e => hxy (UInt8.toNat_inj.1 e)
          have HN : Hid (decide (l = r) = false) := by
            unfold Hid
            simp only [decide_eq_false_iff_not]
            rintro rfl
            have := hx.out.symm.trans hy.out
            exact hxy (by injection this)
          clear hxy
          go_wp2
          go_quiet (fail)
          go_wp2
          go_ret
          exact ⟨by rw [HN.out]; rfl, below_drewN (below_drewN (Below.refl _ _) _) _⟩
      · obtain rfl : k = l.length := by omega
        have HN : Hid (decide (l = r) = true) := by
          have h1 := HQ.out
          rw [List.take_length, List.take_of_length_le (by have := HE.out; omega)] at h1
          unfold Hid; simp [h1]
        go_wp2
        go_ret
        exact ⟨by rw [HN.out]; rfl, below_drewN (Below.refl _ _) _⟩
  · have he1 : ((l.length : Int) != (r.length : Int)) = true := by simp; omega
    have hne : decide (l = r) = false := by simp; rintro rfl; exact he rfl
    rw [hne]
    go_enter Tryd.func16, Tryd.ntmps16
    go_wp2
    go_ret
    exact ⟨rfl, Below.refl _ _⟩
end Go.Proofs.YtokojichjliieaaDoor
namespace Go.Proofs.YtokojichjliieaaDoor
open Go.RowKit
/-- The answer as a pair: the error, the records. -/
def dirKL : Rz (List (Rec × Nat)) → Int × List (Rec × Nat)
  | .err k => (k, [])
  | .ok l => (0, l)
theorem dirKL_len (b : List UInt8) : (dirKL (dirA b)).2.length ≤ 64 := by
  cases h : dirA b with
  | err k => exact Nat.zero_le _
  | ok l => obtain ⟨_, _, _, D⟩ := dirA_ok h; exact D.len
theorem dirpost_any {R : Rz (List (Rec × Nat))} {w w' : World} {e : Ending} {k : Int} {L : List (Rec × Nat)} (h : DirPost R w e w') (hR : dirKL R = (k, L)) : ∃ A c, e = .returned (.tuple #[.slice A L.length c, .int .i64 k]) ∧ RS recL w' w'.heap.size A L ∧ L.length ≤ c ∧ Below w.heap.size w w' := by
  cases R with
  | err j =>
    injection hR with h1 h2
    subst h1; subst h2
    exact ⟨none, 0, h.2, RS.nil, Nat.le_refl _, h.1⟩
  | ok l =>
    injection hR with h1 h2
    subst h1; subst h2
    obtain ⟨v, rfl, ho⟩ := h.2
    obtain ⟨A, c, rfl, hr, hc⟩ := ho.rd
    exact ⟨A, c, rfl, hr, hc, h.1⟩
set_option maxRecDepth 100000 in
set_option maxHeartbeats 4000000 in
theorem archiveNames_walk (mx : Int) (w : World) (hm : w.cell? ⟨0, 0, none⟩ = some (.int .i64 mx)) (s0 : ByteArray) (b0 : s0.size ≤ 140737488351232) :
    Calls Tryd.prog 4 #[.string s0] w fun e w' => e = .returned (.bool true) ∧ Below w.heap.size w w' := by
  have HM := bx hm
  clear hm
  go_enter Tryd.func4, Tryd.ntmps4
  go_wp2_with fail
  refine (fixed09_any mx w HM.out).mono ?_
  rintro e w1 ⟨rfl, hb1⟩
  have HB1 := bx hb1
  clear hb1
  go_wp2_with fail
  refine (name_any s0 mx w1 b0 (cell_old HB1.out HM.out)).mono ?_
  rintro e w2 ⟨rfl, hb2⟩
  have HB2 := bx (HB1.out.trans (hb2.mono HB1.out.size))
  clear hb2
  go_wp2_with fail
  refine (rname_any s0 w2 b0).mono ?_
  rintro e w3 ⟨rfl, hb3⟩
  have HB3 := bx (HB2.out.trans (hb3.mono HB2.out.size))
  clear hb3
  generalize nameA s0.data.toList = nb
  go_wp2
  go_ret
  exact ⟨ret_bool (by simp), HB3.out⟩
set_option maxRecDepth 100000 in
set_option maxHeartbeats 8000000 in
theorem archiveReads_walk (mx : Int) (w : World) (hm : w.cell? ⟨0, 0, none⟩ = some (.int .i64 mx)) (A0 : Option Addr) (n0 c0 : Nat) (l0 : List UInt8) (e0 : l0.length = n0) (hc0 : n0 ≤ c0) (hm0 : (c0 : Int) ≤ 9223372036854775807) (r0 : RB w w.heap.size A0 l0) (b0 : n0 ≤ 140737488351232) :
    Calls Tryd.prog 3 #[.slice A0 n0 c0] w fun e w' => e = .returned (.bool true) ∧ Below w.heap.size w w' := by
  have HM := bx hm
  have HE := bx e0
  have HR0 := bx r0
  obtain ⟨k, L, hKL⟩ : ∃ k L, dirKL (dirA l0) = (k, L) := ⟨_, _, rfl⟩
  have hL := dirKL_len l0
  rw [hKL] at hL
  have HL : Bx (L.length ≤ 64) := bx hL
  have HKL := bx hKL
  obtain ⟨nL, hnL⟩ : ∃ nL, L.length = nL := ⟨_, rfl⟩
  have HNL := bx hnL
  clear hm e0 r0 hL hKL hnL
  go_enter Tryd.func3, Tryd.ntmps3
  go_wp2_with fail
  refine (fixed09_any mx w HM.out).mono ?_
  rintro e w1 ⟨rfl, hb1⟩
  have HB1 := bx hb1
  have HR1 := bx ((HR0.out.below hb1 (Nat.le_refl _)).top)
  clear hb1
  by_cases hz : 70000 < n0
  · have hzI : (70000 : Int) < (n0 : Int) := by omega
    go_wp2
    go_ret
    exact ⟨rfl, HB1.out⟩
  have hzI : ¬ (70000 : Int) < (n0 : Int) := by omega
  have HN : Bx ((([] : List UInt8).length + l0.length) * 1 ≤ 140737488355328) := bx (by have := HE.out; simp; omega)
  go_wp2_with (at_builtin; refine wpList_appL _ bV_one rfl (.tmp 13) (.tmp 14) rfl byteTy (by decide) w1.heap.size _ [] rfl (OwL.lit0 w1 (Nat.le_refl _)) _ A0 n0 c0 l0 rfl HE.out (HR1.out.alloc (Nat.le_refl _) _) HN.out (le_alloc0 (Nat.le_refl _) _) ?_; intro v2 w2 own2 _ _ hb2)
  rw [List.nil_append] at own2
  have HB2 := bx ((bl_alloc (Below.refl w1.heap.size w1) (Nat.le_refl _) (.cells #[] 5)).trans hb2)
  obtain ⟨A2, c2, rfl, hr2, hc2, hc2'⟩ := own2.rd
  rw [HE.out]
  rw [HE.out] at hc2
  have HR2 := bx hr2
  have HW2 := bx (HB1.out.trans (HB2.out.mono HB1.out.size))
  clear hb2 own2 hr2
  refine (dir_any A2 n0 c2 l0 w2 mx HE.out b0 hc2 hc2' HR2.out (cell_old HW2.out HM.out)).mono ?_
  intro e3 w3 hp
  obtain ⟨A3, c3, rfl, hr3, hc3, hb3⟩ := dirpost_any hp HKL.out
  have HR3 := bx hr3
  have HB3 := bx hb3
  have HW3 := bx (HW2.out.trans (hb3.mono HW2.out.size))
  have HO3 := bx (HR2.out.step hb3)
  have HI3 := bx ((HR0.out.below HW3.out (Nat.le_refl _)).more HW3.out.size)
  clear hp hr3 hb3
  rw [HNL.out]
  go_wp2_with fail
  refine (rdir_any A0 n0 c0 l0 w3 HE.out b0 hc0 hm0 HI3.out).mono ?_
  intro e4 w4 hp
  obtain ⟨A4, c4, rfl, hr4, hc4, hb4⟩ := dirpost_any hp HKL.out
  have HR4 := bx hr4
  have HR34 := bx (HR3.out.step hb4)
  have HO4 := bx (HO3.out.step hb4)
  have HW4 := bx (HW3.out.trans (hb4.mono HW3.out.size))
  clear hp hr4 hb4 HR3 HO3 HR2
  rw [HNL.out]
  have hkk : (k == k) = true := by simp
  go_wp2_with fail
  refine (sameRecs_any A3 A4 nL c3 nL c4 L L w4 HNL.out HNL.out (by have := HL.out; have := HNL.out; omega) (by have := HL.out; have := HNL.out; omega) HR34.out HR4.out).mono ?_
  rintro e w5 ⟨rfl, hb5⟩
  rw [show decide (L = L) = true from decide_eq_true rfl]
  have HO5 := bx (HO4.out.step hb5)
  have HW5 := bx (HW4.out.trans (hb5.mono HW4.out.size))
  have HI5 := bx ((HR0.out.below HW5.out (Nat.le_refl _)).more HW5.out.size)
  clear hb5
  go_wp2_with fail
  refine (same_any A2 A0 n0 c2 n0 c0 w5 l0 l0 HE.out HE.out (by omega) (by omega) HO5.out HI5.out).mono ?_
  rintro e w6 ⟨rfl, hb6⟩
  rw [show decide (l0 = l0) = true from decide_eq_true rfl]
  have HW6 := bx (HW5.out.trans (hb6.mono HW5.out.size))
  clear hb6
  go_wp2
  go_ret
  exact ⟨rfl, HW6.out⟩
end Go.Proofs.YtokojichjliieaaDoor
namespace Go.Proofs.YtokojichjliieaaDoor
open Go.RowKit
theorem dirA_pos {b : List UInt8} {k : Int} (h : dirA b = .err k) : 8 ≤ k ∧ k ≤ 16 := by
  unfold dirA at h
  split at h
  · injection h with h; omega
  cases he : endP b with
  | none => rw [he] at h; injection h with h; omega
  | some p =>
    rw [he] at h
    dsimp only at h
    split at h
    · injection h with h; omega
    · rw [book_cenR] at h
      cases hc : cenR b (numA b (p + 16) 4) p (numA b (p + 8) 2) with
      | err j => rw [hc] at h; injection h with h; have := cenR_pos hc; omega
      | ok l =>
        rw [hc] at h
        have h : locR b (numA b (p + 16) 4) [] l = .err k := h
        unfold locR at h
        split at h
        · injection h with h; omega
        · unfold locK at h
          split at h
          · injection h with h; omega
          · cases h
structure ApOk (b : List UInt8) (L : List (Rec × Nat)) : Prop where
  len : L.length ≤ 64
  one : ∀ (i : Nat) (x : Rec × Nat), L[i]? = some x → nameA x.1.name = true ∧ (x.1.method = 0 ∨ x.1.method = 8) ∧ x.1.head + 30 + x.1.name.length ≤ x.2 ∧ x.2 + x.1.packed + 22 ≤ b.length ∧ (b.drop (x.1.head + 30)).take x.1.name.length = x.1.name
  two : ∀ (k i : Nat) (x y : Rec × Nat), k < i → L[k]? = some x → L[i]? = some y → x.1.name ≠ y.1.name ∧ overA x y = false
theorem apOk {b : List UInt8} {L : List (Rec × Nat)} (h : dirA b = .ok L) : ApOk b L := by
  obtain ⟨_, p, dir, D⟩ := dirA_ok h
  have hp := (endP_some D.fin).1
  have hn := D.nums.2.2.2.2
  refine ⟨D.len, fun i x hx => ?_, fun k i x y hk hx hy => ⟨fun e => ?_, ?_⟩⟩
  · obtain ⟨a1, a2, a3, a4, a5⟩ := D.good x (List.mem_of_getElem? hx)
    exact ⟨a1, a2, a3, by omega, a5⟩
  · have h1 : (L.map (·.1.name))[k]? = some x.1.name := by rw [List.getElem?_map, hx]; rfl
    have h2 : (L.map (·.1.name))[i]? = some y.1.name := by rw [List.getElem?_map, hy]; rfl
    obtain ⟨hk1, e1⟩ := List.getElem?_eq_some_iff.1 h1
    obtain ⟨hi1, e2⟩ := List.getElem?_eq_some_iff.1 h2
    have := (List.nodup_iff_pairwise_ne.1 D.names)
    rw [List.pairwise_iff_getElem] at this
    exact this k i hk1 hi1 hk (by rw [e1, e2, e])
  · have := (anyOver_iff L).1 D.apart
    rw [List.pairwise_iff_getElem] at this
    obtain ⟨hk1, e1⟩ := List.getElem?_eq_some_iff.1 hx
    obtain ⟨hi1, e2⟩ := List.getElem?_eq_some_iff.1 hy
    have := this k i hk1 hi1 hk
    rwa [e1, e2] at this
def z7 : Array Value := #[.string ⟨#[]⟩, .int .i64 0, .int .i64 0, .int .i64 0, .int .i64 0, .int .i64 0, .int .i64 0]
theorem z7_eq : (#[.string ⟨#[]⟩, .int .i64 0, .int .i64 0, .int .i64 0, .int .i64 0, .int .i64 0, .int .i64 0] : Array Value) = z7 := rfl
theorem info_rec : (Tryd.prog.info? 33).map (·.size) = some 7 := by kernel_rfl
/-- A record's seven cells, the name as a text. -/
def recA7 (s : ByteArray) (me pk si su at_ hd : Nat) : Array Value := #[.string s, .int .i64 me, .int .i64 pk, .int .i64 si, .int .i64 su, .int .i64 at_, .int .i64 hd]
theorem recA7_one (s : ByteArray) (me pk si su at_ hd : Nat) : (recA7 s me pk si su at_ hd).all (·.oneCell') = true := by simp [recA7, Value.oneCell']
end Go.Proofs.YtokojichjliieaaDoor
namespace Go.Proofs.YtokojichjliieaaDoor
open Go.RowKit
/-- The first record of that name, unpacked. -/
def findL (b nm : List UInt8) : List (Rec × Nat) → Rz (List UInt8)
  | [] => .err 21
  | x :: r => if x.1.name = nm then unpA x.1.method x.1.packed x.1.size x.1.sum ((b.drop x.2).take x.1.packed) else findL b nm r
def findP (b nm : List UInt8) : Rz (List UInt8) := (dirA b).bind (findL b nm)
theorem findL_at {b nm : List UInt8} {L : List (Rec × Nat)} {t : Nat} {x : Rec × Nat} (h : L[t]? = some x) : findL b nm (L.drop t) = if x.1.name = nm then unpA x.1.method x.1.packed x.1.size x.1.sum ((b.drop x.2).take x.1.packed) else findL b nm (L.drop (t + 1)) := by
  obtain ⟨h1, h2⟩ := List.getElem?_eq_some_iff.1 h
  rw [List.drop_eq_getElem_cons h1, h2, findL]
set_option maxRecDepth 100000 in
set_option maxHeartbeats 8000000 in
theorem find_any (A0 : Option Addr) (n0 c0 : Nat) (l0 : List UInt8) (s : ByteArray) (w : World) (mx : Int) (e0 : l0.length = n0) (b0 : n0 ≤ 140737488351232) (hc0 : n0 ≤ c0) (hm0 : (c0 : Int) ≤ 9223372036854775807) (r0 : RB w w.heap.size A0 l0) (hm : w.cell? ⟨0, 0, none⟩ = some (.int .i64 mx)) :
    Calls Tryd.prog 23 #[.slice A0 n0 c0, .string s] w (UnpPost (findP l0 s.data.toList) w) := by
  obtain ⟨R, hRR⟩ : ∃ R, findP l0 s.data.toList = R := ⟨_, rfl⟩
  rw [hRR]
  have HRR : Bx ((dirA l0).bind (findL l0 s.data.toList) = R) := bx hRR
  have HE := bx e0
  have HR0 := bx r0
  obtain ⟨X, hX⟩ : ∃ X, dirA l0 = X := ⟨_, rfl⟩
  have HD := bx (dir_any A0 n0 c0 l0 w mx e0 b0 hc0 hm0 r0 hm)
  rw [hX] at HD HRR
  clear e0 r0 hm hRR
  go_enter Tryd.func23, Tryd.ntmps23
  cases X with
  | err k =>
    have hk := dirA_pos hX
    have hkI : (k != 0) = true := by rw [bne_iff_ne]; omega
    have HF : Bx (R = .err k) := bx (HRR.out.symm)
    have HK : Bx (k ≠ 0) := bx (by omega)
    clear hX HRR
    go_wp2_with fail
    refine HD.out.mono ?_
    intro e w2 hp
    obtain ⟨rfl, hb2⟩ := dirpost_err hp rfl
    have HB2 := bx hb2
    clear hp hb2 hk
    go_wp2
    go_ret2
    exact unpPost_err HF.out HB2.out HK.out
  | ok L =>
  have HOK := bx (apOk hX)
  have h64 := (dirA_ok hX).1
  obtain ⟨nL, hnL⟩ : ∃ nL, L.length = nL := ⟨_, rfl⟩
  have hnl64 : nL ≤ 64 := by rw [← hnL]; exact HOK.out.len
  have HNL := bx hnL
  have hn64 : n0 ≤ 65536 := by rw [← HE.out]; exact h64
  have HRF : Bx (findL l0 s.data.toList (L.drop 0) = R) := bx HRR.out
  clear hX hnL HRR h64
  go_wp2_with fail
  refine HD.out.mono ?_
  intro e w2 hp
  obtain ⟨A2, c2, rfl, _, hr2, hc2, hb2⟩ := dirpost_ok hp rfl
  have HR2 := bx hr2
  have HB2 := bx hb2
  rw [HNL.out] at hc2
  clear hp hb2 hr2
  rw [HNL.out]
  obtain ⟨B2, hB2⟩ : ∃ B2, w2.heap.size = B2 := ⟨_, rfl⟩
  have HBB := bx hB2
  have hwB : w.heap.size ≤ B2 := by rw [← hB2]; exact HB2.out.size
  have HCc := bx (show Below B2 w2 w2 from Below.refl _ _)
  clear hB2
  go_wp2_with fail
  go_loopw [20] (fun iv wx => ∃ t : Nat, t ≤ nL ∧ iv = .int .i64 (t : Int) ∧ Bx (Below B2 w2 wx) ∧ Bx (findL l0 s.data.toList (L.drop t) = R)) (fun i _ => nL - (intOf i).toNat)
  case atStart => exact ⟨0, by omega, rfl, HCc, HRF⟩
  case round =>
    clear HRF
    obtain ⟨t, ht, rfl, HW, HT⟩ := hrel
    have hszw : B2 ≤ wr.heap.size := by have := HW.out.size; have := HBB.out; omega
    by_cases htn : t < nL
    · have htI : (t : Int) < (nL : Int) := by omega
      have hrr : RS recL wr wr.heap.size A2 L := (HR2.out.below (HBB.out ▸ HW.out) (Nat.le_refl _)).more (by rw [HBB.out]; exact hszw)
      obtain ⟨ad, x, hA, _, hx, hc, hcs⟩ := hrr.at_ recCels (k := t) (by rw [HNL.out]; exact htn)
      subst hA
      have HX2 := bx (findL_at (b := l0) (nm := s.data.toList) hx.out)
      have HO := bx (HOK.out.one t _ hx.out)
      obtain ⟨⟨nm, me, pk, si, su, hd⟩, at2⟩ := x
      obtain ⟨o1, o2, o3, o4, o5⟩ := HO.out
      dsimp only at o1 o2 o3 o4 o5
      rw [HE.out] at o4
      obtain ⟨sn, hsn⟩ : ∃ s : ByteArray, (⟨nm.toArray⟩ : ByteArray) = s := ⟨_, rfl⟩
      have HSV : Bx (strV nm = .string sn) := bx (by unfold strV; rw [hsn])
      have HSL : Bx (sn.data.toList = nm) := bx (by rw [← hsn])
      have k0 := hc _ rfl
      have k1 := hcs 0 _ rfl
      have k2 := hcs 1 _ rfl
      have k3 := hcs 2 _ rfl
      have k4 := hcs 3 _ rfl
      have k5 := hcs 4 _ rfl
      have k6 := hcs 5 _ rfl
      rw [Nat.zero_add] at k1
      rw [HSV.out] at k0
      obtain ⟨gi, hgi⟩ : ∃ gi, wr.heap.size = gi := ⟨_, rfl⟩
      obtain ⟨w4, hw4⟩ : ∃ w4, (wr.alloc (.cells z7 33)).setRow wr.heap.size #[.string sn, .int .i64 (me : Int), .int .i64 (pk : Int), .int .i64 (si : Int), .int .i64 (su : Int), .int .i64 (at2 : Int), .int .i64 (hd : Int)] = w4 := ⟨_, rfl⟩
      have hK4 : Bk w4 gi 33 #[.string sn, .int .i64 (me : Int), .int .i64 (pk : Int), .int .i64 (si : Int), .int .i64 (su : Int), .int .i64 (at2 : Int), .int .i64 (hd : Int)] := by rw [← hw4, ← hgi]; exact ((Bk.new wr _ z7).setRow _)
      have hB4 : Below B2 w2 w4 := HW.out.trans (by rw [← hw4]; exact (bl_setRow (bl_alloc (Below.refl wr.heap.size wr) (Nat.le_refl _) _) (Nat.le_refl _) _).mono hszw)
      have hone : (#[.string sn, .int .i64 (me : Int), .int .i64 (pk : Int), .int .i64 (si : Int), .int .i64 (su : Int), .int .i64 (at2 : Int), .int .i64 (hd : Int)] : Array Value).all (·.oneCell') = true := by simp [Value.oneCell']
      have HONE := bx hone
      have HK4 := bx hK4
      have HB4 := bx hB4
      have n0c : w4.cell? ⟨gi, 0, none⟩ = some (.string sn) := (hK4.cell 0).trans rfl
      have HW4e := bx hw4
      have HGI := bx hgi
      have htc : (t : Int) ≤ (c2 : Int) := by omega
      have HME := bx o2
      clear hw4 hK4 hB4 hone hc hcs hx hrr hsn o1 o2 o5 hgi HO
      by_cases hnm : nm = s.data.toList
      · have hst : (sn.toList == s.toList) = true := tl_same (by rw [HSL.out]; exact hnm)
        have HF : Bx (unpA me pk si su ((l0.drop at2).take pk) = R) := bx (by rw [← HT.out, HX2.out]; exact (if_pos hnm).symm)
        clear hnm HX2 HT
        go_upto_region 8 with (refine wpList_store_row rfl 33 (.tmp 9) (.tmp 23) rfl wr.heap.size #[.string sn, .int .i64 (me : Int), .int .i64 (pk : Int), .int .i64 (si : Int), .int .i64 (su : Int), .int .i64 (at2 : Int), .int .i64 (hd : Int)] rfl rfl 33 z7 (Bk.new _ _ _) info_rec rfl HONE.out ?_; rw [z7_eq, HW4e.out, HGI.out])
        clear k0 k1 k2 k3 k4 k5 k6 HW4e HONE n0c
        have q0 : w4.cell? ⟨gi, 0, none⟩ = some (.string sn) := (HK4.out.cell 0).trans rfl
        have q1 : w4.cell? ⟨gi, 1, none⟩ = some (.int .i64 (me : Int)) := (HK4.out.cell 1).trans rfl
        have q2 : w4.cell? ⟨gi, 2, none⟩ = some (.int .i64 (pk : Int)) := (HK4.out.cell 2).trans rfl
        have q3 : w4.cell? ⟨gi, 3, none⟩ = some (.int .i64 (si : Int)) := (HK4.out.cell 3).trans rfl
        have q4 : w4.cell? ⟨gi, 4, none⟩ = some (.int .i64 (su : Int)) := (HK4.out.cell 4).trans rfl
        have q5 : w4.cell? ⟨gi, 5, none⟩ = some (.int .i64 (at2 : Int)) := (HK4.out.cell 5).trans rfl
        have q6 : w4.cell? ⟨gi, 6, none⟩ = some (.int .i64 (hd : Int)) := (HK4.out.cell 6).trans rfl
        have HW4 : Bx (Below w.heap.size w w4) := bx (HB2.out.trans (HB4.out.mono hwB))
        have HI4 : Bx (RB w4 w4.heap.size A0 l0) := bx ((HR0.out.below HW4.out (Nat.le_refl _)).more HW4.out.size)
        have u1 : IntKind.i64.wrap ((at2 : Int) + (pk : Int)) = (at2 : Int) + (pk : Int) := IntWalk.i64_in _ (by omega)
        have v1 : (0 : Int) ≤ (at2 : Int) := by omega
        have v2 : (at2 : Int) ≤ (at2 : Int) + (pk : Int) := by omega
        have v3 : (at2 : Int) + (pk : Int) ≤ (c0 : Int) := by omega
        have v4 : ((at2 : Int)).toNat = at2 := Int.toNat_natCast at2
        have v5 : ((at2 : Int) + (pk : Int)).toNat = at2 + pk := Int.toNat_natCast (at2 + pk)
        have v6 : ¬ c0 = at2 := by omega
        have hS5 : w4.drew.cell? ⟨gi, 0, none⟩ = some (.string sn) ∧ w4.drew.cell? ⟨gi, 1, none⟩ = some (.int .i64 (me : Int)) ∧ w4.drew.cell? ⟨gi, 2, none⟩ = some (.int .i64 (pk : Int)) ∧ w4.drew.cell? ⟨gi, 3, none⟩ = some (.int .i64 (si : Int)) ∧ w4.drew.cell? ⟨gi, 4, none⟩ = some (.int .i64 (su : Int)) ∧ w4.drew.cell? ⟨gi, 5, none⟩ = some (.int .i64 (at2 : Int)) ∧ w4.drew.cell? ⟨gi, 6, none⟩ = some (.int .i64 (hd : Int)) := ⟨q0, q1, q2, q3, q4, q5, q6⟩
        have HK5 : Bx (Bk w4.drew gi 33 #[.string sn, .int .i64 (me : Int), .int .i64 (pk : Int), .int .i64 (si : Int), .int .i64 (su : Int), .int .i64 (at2 : Int), .int .i64 (hd : Int)]) := bx (HK4.out.drewN 1)
        have HW5 : Bx (Below w.heap.size w w4.drew) := bx (below_drewN HW4.out 1)
        have HP : Bx (RB w4.drew w4.drew.heap.size (A0.map (·.add at2)) ((l0.drop at2).take pk)) := bx (((HI4.out.drewN 1).drop at2).take pk)
        have HPL : Bx (((l0.drop at2).take pk).length = pk) := bx (by rw [List.length_take, List.length_drop, HE.out]; omega)
        have HME1 : Bx (-9223372036854775808 ≤ (me : Int)) := bx (by omega)
        have HME2 : Bx ((me : Int) ≤ 9223372036854775807) := bx (by have := HME.out; omega)
        clear q0 q1 q2 q3 q4 q5 q6
        go_region_held3 (fun w' => w'.cell? ⟨gi, 0, none⟩ = some (.string sn) ∧ w'.cell? ⟨gi, 1, none⟩ = some (.int .i64 (me : Int)) ∧ w'.cell? ⟨gi, 2, none⟩ = some (.int .i64 (pk : Int)) ∧ w'.cell? ⟨gi, 3, none⟩ = some (.int .i64 (si : Int)) ∧ w'.cell? ⟨gi, 4, none⟩ = some (.int .i64 (su : Int)) ∧ w'.cell? ⟨gi, 5, none⟩ = some (.int .i64 (at2 : Int)) ∧ w'.cell? ⟨gi, 6, none⟩ = some (.int .i64 (hd : Int))) (first | exact hS5 | exact hS6) ((go_at_call 21; refine (unp_any sn me pk si su at2 hd (A0.map (·.add at2)) pk (c0 - at2) ((l0.drop at2).take pk) w4.drew HPL.out (by omega) HP.out HME1.out HME2.out).mono ?_; intro e w6 hp6; obtain ⟨v6, k6, rfl⟩ := unp_form hp6; have hS6 : w6.cell? ⟨gi, 0, none⟩ = some (.string sn) ∧ w6.cell? ⟨gi, 1, none⟩ = some (.int .i64 (me : Int)) ∧ w6.cell? ⟨gi, 2, none⟩ = some (.int .i64 (pk : Int)) ∧ w6.cell? ⟨gi, 3, none⟩ = some (.int .i64 (si : Int)) ∧ w6.cell? ⟨gi, 4, none⟩ = some (.int .i64 (su : Int)) ∧ w6.cell? ⟨gi, 5, none⟩ = some (.int .i64 (at2 : Int)) ∧ w6.cell? ⟨gi, 6, none⟩ = some (.int .i64 (hd : Int)) := ⟨(hp6.1.cell HK5.out.lt).trans hS5.1, (hp6.1.cell HK5.out.lt).trans hS5.2.1, (hp6.1.cell HK5.out.lt).trans hS5.2.2.1, (hp6.1.cell HK5.out.lt).trans hS5.2.2.2.1, (hp6.1.cell HK5.out.lt).trans hS5.2.2.2.2.1, (hp6.1.cell HK5.out.lt).trans hS5.2.2.2.2.2.1, (hp6.1.cell HK5.out.lt).trans hS5.2.2.2.2.2.2⟩))
        go_wp2
        go_ret2
        have hu := unp_low hp6 HW5.out
        rw [HF.out] at hu
        exact hu
      · have hst : (sn.toList == s.toList) = false := tl_diff (fun e => hnm (by rw [← HSL.out]; exact e))
        have HF : Bx (findL l0 s.data.toList (L.drop (t + 1)) = R) := bx (by rw [← HT.out, HX2.out]; exact (if_neg hnm).symm)
        clear hnm HX2 HT
        go_wp2_with (refine wpList_store_row rfl 33 (.tmp 9) (.tmp 23) rfl wr.heap.size #[.string sn, .int .i64 (me : Int), .int .i64 (pk : Int), .int .i64 (si : Int), .int .i64 (su : Int), .int .i64 (at2 : Int), .int .i64 (hd : Int)] rfl rfl 33 z7 (Bk.new _ _ _) info_rec rfl HONE.out ?_; rw [z7_eq, HW4e.out, HGI.out])
        go_roundw
        case rel => exact ⟨t + 1, by omega, by go_num, HB4, HF⟩
        case measure => simp [intOf]; omega
    have htI : ¬ (t : Int) < (nL : Int) := by omega
    have HF : Bx (R = .err 21) := bx (by rw [← HT.out, List.drop_eq_nil_of_le (by have := HNL.out; omega), findL])
    have HWr := bx (HB2.out.trans (HW.out.mono hwB))
    go_wp2
    go_ret2
    exact unpPost_err HF.out HWr.out
end Go.Proofs.YtokojichjliieaaDoor
namespace Go.Proofs.YtokojichjliieaaDoor
open Go.RowKit
theorem fxu1 : unpA 0 1 1 3904355907 [97] = .ok [97] := by kernel_rfl
theorem fxu2 : unpA 0 1 2 3904355907 [97] = .err 18 := by kernel_rfl
theorem fxu3 : unpA 0 1 1 0 [97] = .err 19 := by kernel_rfl
theorem fxu4 : unpA 0 1 40000 0 [97] = .err 17 := by kernel_rfl
theorem fxu5 : findP [] [97] = .err 9 := by kernel_rfl
set_option maxRecDepth 100000 in
set_option maxHeartbeats 8000000 in
theorem fixed10_any (mx : Int) (w : World) (hm : w.cell? ⟨0, 0, none⟩ = some (.int .i64 mx)) :
    Calls Tryd.prog 20 #[] w fun e w' => e = .returned (.bool true) ∧ Below w.heap.size w w' := by
  have HM := bx hm
  have hR0 : ∀ w : World, RB (w.alloc (.cells #[.int .u8 97] 5 (1, 2))) (w.alloc (.cells #[.int .u8 97] 5 (1, 2))).heap.size (some ⟨w.heap.size, 0, none⟩) [97] := fun w => (RL.news w [97] #[.int .u8 97] rfl 5 (1, 2)).top
  have HR0 := bx hR0
  have hA0 : ∀ W w : World, Below W.heap.size W w → Below W.heap.size W (w.alloc (.cells #[.int .u8 97] 5 (1, 2))) := fun W w h => bl_alloc h (Nat.le_refl _) _
  have HA0 := bx hA0
  have kc := fun (w : World) (C : Array Value) (n c : Nat) => Lib.run_convert_bytes_const (P := Tryd.prog) w 22 5 C n c Tryd.underlying22 Tryd.underlying5
  have HB0 := bx (Below.refl w.heap.size w)
  clear hm hR0 hA0
  go_enter Tryd.func20, Tryd.ntmps20
  go_wp2_with fail
  have hk := unp_any ⟨#[]⟩ 0 1 1 3904355907 0 0 (some ⟨w.heap.size, 0, none⟩) 1 1 [97] _ rfl (by omega) (HR0.out w) (by omega) (by omega)
  refine hk.mono ?_
  clear hk
  intro e w1 hp
  obtain ⟨A1, n1, c1, rfl, hn1, hr1, _, _, hb1, _⟩ := unpOk hp fxu1
  obtain rfl : n1 = 1 := hn1.out
  have HR1 := bx hr1
  have HB1 := bx ((HA0.out _ _ HB0.out).trans (hb1.mono (HA0.out _ _ HB0.out).size))
  clear hp hr1 hb1 hn1
  go_wp2_with fail
  have hk := unp_any ⟨#[]⟩ 0 1 2 3904355907 0 0 (some ⟨w1.heap.size, 0, none⟩) 1 1 [97] _ rfl (by omega) (HR0.out w1) (by omega) (by omega)
  refine hk.mono ?_
  clear hk
  intro e w2 hp
  obtain ⟨rfl, hb1, _⟩ := unpErr hp fxu2
  have HB2 := bx ((HA0.out _ _ HB1.out).trans (hb1.mono (HA0.out _ _ HB1.out).size))
  have HR2 := bx (HR1.out.step ((bl_alloc (Below.refl w1.heap.size w1) (Nat.le_refl _) (.cells #[.int .u8 97] 5 (1, 2))).trans (hb1.mono (by simp))))
  clear hp hb1
  go_wp2_with fail
  have hk := unp_any ⟨#[]⟩ 0 1 1 0 0 0 (some ⟨w2.heap.size, 0, none⟩) 1 1 [97] _ rfl (by omega) (HR0.out w2) (by omega) (by omega)
  refine hk.mono ?_
  clear hk
  intro e w3 hp
  obtain ⟨rfl, hb1, _⟩ := unpErr hp fxu3
  have HB3 := bx ((HA0.out _ _ HB2.out).trans (hb1.mono (HA0.out _ _ HB2.out).size))
  have HR3 := bx (HR2.out.step ((bl_alloc (Below.refl w2.heap.size w2) (Nat.le_refl _) (.cells #[.int .u8 97] 5 (1, 2))).trans (hb1.mono (by simp))))
  clear hp hb1
  go_wp2_with fail
  have hk := unp_any ⟨#[]⟩ 0 1 40000 0 0 0 (some ⟨w3.heap.size, 0, none⟩) 1 1 [97] _ rfl (by omega) (HR0.out w3) (by omega) (by omega)
  refine hk.mono ?_
  clear hk
  intro e w4 hp
  obtain ⟨rfl, hb1, _⟩ := unpErr hp fxu4
  have HB4 := bx ((HA0.out _ _ HB3.out).trans (hb1.mono (HA0.out _ _ HB3.out).size))
  have HR4 := bx (HR3.out.step ((bl_alloc (Below.refl w3.heap.size w3) (Nat.le_refl _) (.cells #[.int .u8 97] 5 (1, 2))).trans (hb1.mono (by simp))))
  clear hp hb1
  go_wp2_with fail
  refine (find_any none 0 0 [] ⟨#[97]⟩ w4 mx rfl (by omega) (Nat.le_refl _) (by decide) RL.nil (cell_old HB4.out HM.out)).mono ?_
  intro e w5 hp
  obtain ⟨rfl, hb1, _⟩ := unpErr hp fxu5
  have HB5 := bx (HB4.out.trans (hb1.mono HB4.out.size))
  have hr5 := HR4.out.step hb1
  have hcs := run_conv_str (P := Tryd.prog) (c := c1) (n := 1) Tryd.underlying22 Tryd.underlying5 Tryd.underlying9 rfl hr5
  clear hp hb1 hr5
  go_wp2
  go_ret
  exact ⟨rfl, HB5.out⟩
end Go.Proofs.YtokojichjliieaaDoor
namespace Go.Proofs.YtokojichjliieaaDoor
open Go.RowKit

/-- The document's reader in block g: its bytes, how many bits were passed. -/
def RRd (w : World) (g : Nat) (b : List UInt8) (p : Nat) : Prop :=
  ∃ A c, Bk w g 97 #[.slice A b.length c, .int .i64 (p : Int)] ∧ RB w g A b ∧ b.length ≤ c ∧ p ≤ 8 * b.length ∧ b.length ≤ 1000000000
theorem RRd.lt {w : World} {g : Nat} {b : List UInt8} {p : Nat} (h : RRd w g b p) : g < w.heap.size := by obtain ⟨A, c, h1, _⟩ := h; exact h1.lt
theorem RRd.le {w : World} {g : Nat} {b : List UInt8} {p : Nat} (h : RRd w g b p) : p ≤ 8 * b.length ∧ b.length ≤ 1000000000 := by obtain ⟨A, c, _, _, _, h1⟩ := h; exact h1
theorem RRd.keep {w w' : World} {g : Nat} {b : List UInt8} {p : Nat} (h : RRd w g b p) (hk : ∀ i, i ≤ g → w'.heap[i]? = w.heap[i]?) : RRd w' g b p := by
  obtain ⟨A, c, h1, h2, r⟩ := h
  exact ⟨A, c, (hk g (Nat.le_refl _)).trans h1, Rd.keep h2 fun q hq => World.cell?_of_block (hk _ (by omega)), r⟩
theorem RRd.below {w w' : World} {g B : Nat} {b : List UInt8} {p : Nat} (h : RRd w g b p) (hb : Below B w w') (hB : g < B) : RRd w' g b p := h.keep fun i hi => hb.block i (by omega)
theorem RRd.step {w w' : World} {g : Nat} {b : List UInt8} {p : Nat} (h : RRd w g b p) (hb : Below w.heap.size w w') : RRd w' g b p := h.below hb h.lt
theorem RRd.grown {w w' : World} {g : Nat} {b : List UInt8} {p : Nat} {row : Option Nat} (h : RRd w g b p) (hb : w.grownBy w' row) (hr : ∀ k, row = some k → g < k) : RRd w' g b p :=
  h.keep fun i hi => hb.block i (by have := h.lt; omega) (fun e => by have := hr i e.symm; omega)
theorem RRd.set {w : World} {g : Nat} {b : List UInt8} {p q : Nat} (h : RRd w g b p) (hq : q ≤ 8 * b.length) : RRd (w.setCell ⟨g, 1, none⟩ (.int .i64 (q : Int))) g b q := by
  obtain ⟨A, c, h1, h2, h3, _, h5⟩ := h
  refine ⟨A, c, ?_, h2.setCell (by exact Nat.le_refl _) _, h3, hq, h5⟩
  have := h1.set 1 (.int .i64 (q : Int))
  simpa using this
set_option maxHeartbeats 1000000 in
theorem rleft_any (g : Nat) (b : List UInt8) (p : Nat) (w : World) (h : RRd w g b p) :
    Calls Tryd.prog 86 #[.pointer (some ⟨g, 0, none⟩)] w fun e w' => e = .returned (.int .i64 ((8 * b.length - p : Nat) : Int)) ∧ ∃ q, w' = w.drewN q := by
  have hle := h.le
  obtain ⟨A, c, h1, _⟩ := h
  have c0 : w.cell? ⟨g, 0, none⟩ = some (.slice A b.length c) := (h1.cell 0).trans rfl
  have c1 : w.cell? ⟨g, 1, none⟩ = some (.int .i64 (p : Int)) := (h1.cell 1).trans rfl
  have i1 : IntKind.i64.wrap (8 * (b.length : Int)) = 8 * (b.length : Int) := IntWalk.i64_in _ (by omega)
  have i2 : IntKind.i64.wrap (8 * (b.length : Int) - (p : Int)) = 8 * (b.length : Int) - (p : Int) := IntWalk.i64_in _ (by omega)
  clear h1
  go_enter Tryd.func86, Tryd.ntmps86
  go_wp2
  go_quiet (fail)
  rename_i nq
  go_wp2
  go_ret
  have hh : (8 * (b.length : Int) - (p : Int)) = ((8 * b.length - p : Nat) : Int) := by omega
  exact ⟨ret_v (by rw [← hh]; rfl), nq, rfl⟩
set_option maxHeartbeats 2000000 in
theorem rtake_short (g : Nat) (b : List UInt8) (p n : Nat) (w : World) (h : RRd w g b p) (hn : n ≤ 16) (hp : 8 * b.length < p + n) :
    Calls Tryd.prog 56 #[.pointer (some ⟨g, 0, none⟩), .int .i64 (n : Int)] w fun e w' => e = .returned (.tuple #[.int .i64 0, .int .i64 2]) ∧ Below w.heap.size w w' := by
  have hle := h.le
  have hgt : ((8 * b.length - p : Nat) : Int) < (n : Int) := by omega
  go_enter Tryd.func56, Tryd.ntmps56
  go_wp2_with fail
  refine (rleft_any g b p w h).mono ?_
  rintro e w1 ⟨rfl, q, rfl⟩
  go_wp2
  go_ret2
  exact ⟨rfl, below_drewN (Below.refl _ _) _⟩
set_option maxHeartbeats 4000000 in
theorem rtake_ok (g : Nat) (b : List UInt8) (p n : Nat) (w : World) (h : RRd w g b p) (hn : n ≤ 16) (hp : p + n ≤ 8 * b.length) :
    Calls Tryd.prog 56 #[.pointer (some ⟨g, 0, none⟩), .int .i64 (n : Int)] w fun e w' => e = .returned (.tuple #[.int .i64 (takeN b p n : Int), .int .i64 0]) ∧ RRd w' g b (p + n) ∧ w.grownBy w' (some g) := by
  have hle := h.le
  have hgt : ¬ ((8 * b.length - p : Nat) : Int) < (n : Int) := by omega
  go_enter Tryd.func56, Tryd.ntmps56
  go_wp2_with fail
  refine (rleft_any g b p w h).mono ?_
  rintro e w1 ⟨rfl, q0, rfl⟩
  have h0 : RRd (w.drewN q0) g b p := h
  have hg0 : w.grownBy (w.drewN q0) (some g) := gb_drewN (World.grownBy.refl w (some g)) q0
  clear h
  go_wp2_with fail
  clear hgt
  generalize w.drewN q0 = w1 at h0 hg0 ⊢
  go_loopg [6, 7, 8] n (fun κ v6 v7 v8 wr => ∃ i : Nat, κ = n - i ∧ i ≤ n ∧ v6 = .int .i64 (takeN b p i : Int) ∧ v7 = .int .i64 ((2 ^ i : Nat) : Int) ∧ v8 = .int .i64 (i : Int) ∧ RRd wr g b (p + i) ∧ w.grownBy wr (some g))
  case atStart => exact ⟨0, by omega, by omega, rfl, rfl, rfl, h0, hg0⟩
  case round =>
    clear h0 hg0
    obtain ⟨i, hgk, hi, rfl, rfl, rfl, hR, hG⟩ := hrel
    by_cases hin : i < n
    · obtain ⟨P, hP⟩ : ∃ P, p + i = P := ⟨_, rfl⟩
      have hP8 : P < 8 * b.length := by omega
      have hT : takeN b p (i + 1) = takeN b p i + 2 ^ i * bitAt b P := by rw [takeN, hP]
      have hlt := takeN_lt b p (i + 1)
      have hpw : (2 : Nat) ^ (i + 1) = 2 ^ i * 2 := Nat.pow_succ _ _
      have hp16 : (2 : Nat) ^ (i + 1) ≤ 2 ^ 16 := Nat.pow_le_pow_right (by decide) (by omega)
      rw [hP] at hR
      have HS := bx (hR.set (q := P + 1) (by omega))
      obtain ⟨A, c, h1, h2, _⟩ := id hR
      have c0 : wr.cell? ⟨g, 0, none⟩ = some (.slice A b.length c) := (h1.cell 0).trans rfl
      have c1 : wr.cell? ⟨g, 1, none⟩ = some (.int .i64 (P : Int)) := (h1.cell 1).trans rfl
      have f1 : wr.frozen? ⟨g, 1, none⟩ = false := h1.frz 1
      obtain ⟨ad, x, rfl, _, hx, hc⟩ := h2.byte (k := P / 8) (by omega)
      have hx8 := x.toNat_lt
      have j0 : IntKind.i64.wrap (x.toNat : Int) = (x.toNat : Int) := IntWalk.i64_in _ (by omega)
      go_upto_region 9 with (fail)
      go_quiet (fail)
      rename Nat => nq
      have hbit : bitAt b P = x.toNat / 2 ^ (P % 8) % 2 := by unfold bitAt; rw [List.getD_eq_getElem?_getD, hx.out]; rfl
      have HV : wrap64 ((takeN b p i : Int) + wrap64 (2 ^ i * ((x.toNat : Int) / 2 ^ (P % 8)).tmod 2)) = (takeN b p (i + 1) : Int) := by
        have e1 : ((x.toNat : Int) / 2 ^ (P % 8)).tmod 2 = (bitAt b P : Int) := by
          rw [hbit, Int.tmod_eq_emod_of_nonneg (Int.ediv_nonneg (by omega) (Int.le_of_lt (Int.pow_pos (by decide))))]
          simp
        have e2 : ((2 : Int) ^ i * (bitAt b P : Int)) = ((2 ^ i * bitAt b P : Nat) : Int) := by simp
        have hb1 := bitAt_lt b P
        have e3 : 2 ^ i * bitAt b P ≤ 2 ^ i * 1 := Nat.mul_le_mul (Nat.le_refl _) (by omega)
        rw [e1, e2, hT]
        obtain ⟨Q, hQ⟩ : ∃ Q, 2 ^ i * bitAt b P = Q := ⟨_, rfl⟩
        rw [hQ] at e3 hT ⊢
        rw [IntWalk.wrap64_in (Q : Int) (by omega), IntWalk.wrap64_in _ (by omega), Int.natCast_add]
      rw [HV]
      have hG1 := bx (gb_set (gb_drewN hG nq) 1 (.int .i64 ((P + 1 : Nat) : Int)))
      have HS2 : Bx (RRd ((wr.drewN nq).setCell ⟨g, 1, none⟩ (.int .i64 ((P + 1 : Nat) : Int))) g b (p + (i + 1))) := bx (by rw [show p + (i + 1) = P + 1 by omega]; exact HS.out)
      have c1' : (wr.drewN nq).cell? ⟨g, 1, none⟩ = some (.int .i64 (P : Int)) := c1
      have f1' : (wr.drewN nq).frozen? ⟨g, 1, none⟩ = false := f1
      have hP1 : ((P + 1 : Nat) : Int) = (P : Int) + 1 := by omega
      rw [hP1] at hG1 HS2
      have hpw2 : wrap64 (2 * 2 ^ i) = ((2 ^ (i + 1) : Nat) : Int) := by
        have e : ((2 : Int) * 2 ^ i) = ((2 ^ (i + 1) : Nat) : Int) := by
          rw [hpw, Nat.mul_comm]; simp
        rw [e]; exact IntWalk.wrap64_in _ (by omega)
      have HPW := bx hpw2
      clear HV hbit hT hlt HS hR h1 h2 c0 c1 f1 hx hc hG hpw2
      generalize wr.drewN nq = wz at hG1 HS2 c1' f1' ⊢
      go_wp2
      go_roundg (n - (i + 1))
      case rel => exact ⟨i + 1, rfl, by omega, rfl, by rw [HPW.out], by go_num, HS2.out, hG1.out⟩
      case measure => omega
    · obtain rfl : i = n := by omega
      go_wp2
      go_ret2
      exact ⟨rfl, hR, hG⟩
set_option maxHeartbeats 1000000 in
theorem rbytes_short (g : Nat) (b : List UInt8) (p n : Nat) (w : World) (h : RRd w g b p) (hn : n ≤ 100000) (hp : b.length < (p + 7) / 8 + n) :
    Calls Tryd.prog 57 #[.pointer (some ⟨g, 0, none⟩), .int .i64 (n : Int)] w fun e w' => e = .returned (.tuple #[.slice none 0 0, .int .i64 2]) ∧ w = w' := by
  have hle := h.le
  obtain ⟨A, c, h1, _⟩ := h
  have c0 : w.cell? ⟨g, 0, none⟩ = some (.slice A b.length c) := (h1.cell 0).trans rfl
  have c1 : w.cell? ⟨g, 1, none⟩ = some (.int .i64 (p : Int)) := (h1.cell 1).trans rfl
  have hgt : (b.length : Int) - ((p : Int) + 7) / 8 < (n : Int) := by omega
  have hgt2 : (b.length : Int) - (((p + 7) / 8 : Nat) : Int) < (n : Int) := by omega
  clear h1
  go_enter Tryd.func57, Tryd.ntmps57
  go_wp2
  go_ret2
  exact ⟨rfl, rfl⟩
set_option maxHeartbeats 2000000 in
theorem rbytes_ok (g : Nat) (b : List UInt8) (p n f : Nat) (w : World) (h : RRd w g b p) (hn : n ≤ 100000) (hf : (p + 7) / 8 = f) (hp : f + n ≤ b.length) :
    Calls Tryd.prog 57 #[.pointer (some ⟨g, 0, none⟩), .int .i64 (n : Int)] w fun e w' => ∃ A c, e = .returned (.tuple #[.slice A n c, .int .i64 0]) ∧ n ≤ c ∧ RB w' w'.heap.size A ((b.drop f).take n) ∧
      (∀ ad, A = some ad → w.heap.size ≤ ad.block) ∧ RRd w' g b (8 * (f + n)) ∧ w.grownBy w' (some g) := by
  have hle := h.le
  obtain ⟨A, c, h1, h2, h3, _⟩ := id h
  have c0 : w.cell? ⟨g, 0, none⟩ = some (.slice A b.length c) := (h1.cell 0).trans rfl
  have c1 : w.cell? ⟨g, 1, none⟩ = some (.int .i64 (p : Int)) := (h1.cell 1).trans rfl
  have f1 : w.frozen? ⟨g, 1, none⟩ = false := h1.frz 1
  have hff : ((p : Int) + 7) / 8 = (f : Int) := by omega
  have hfl : (f : Int) ≤ (b.length : Int) := by omega
  have hgl := h.lt
  have hS : RRd (w.setCell ⟨g, 1, none⟩ (.int .i64 (8 * ((f : Int) + (n : Int))))) g b (8 * (f + n)) := by
    have := h.set (q := 8 * (f + n)) (by omega)
    rwa [show (((8 * (f + n) : Nat)) : Int) = 8 * ((f : Int) + (n : Int)) by omega] at this
  have HG := Lib.hid (gb_set (World.grownBy.refl w (some g)) 1 (.int .i64 (8 * ((f : Int) + (n : Int)))))
  have c2 : ((w.setCell ⟨g, 1, none⟩ (.int .i64 (8 * ((f : Int) + (n : Int))))).alloc (.cells #[] 5)).cell? ⟨g, 0, none⟩ = some (.slice A b.length c) := by
    rw [World.cell?_alloc_lt _ _ _ (by show g < _; simpa [World.setCell] using hgl)]
    exact (World.cell?_setCell_other w ⟨g, 1, none⟩ ⟨g, 0, none⟩ _ (by simp)).trans c0
  have hr2 : RB (w.setCell ⟨g, 1, none⟩ (.int .i64 (8 * ((f : Int) + (n : Int))))) g A b := h2.setCell (by exact Nat.le_refl _) _
  have hsz : (w.setCell ⟨g, 1, none⟩ (.int .i64 (8 * ((f : Int) + (n : Int))))).heap.size = w.heap.size := by simp [World.setCell]
  have hcut := (hr2.cut (k := f) (cap := c) (by omega)).take n
  have HN : Hid ((([] : List UInt8).length + ((b.drop f).take n).length) * 1 ≤ 140737488355328) := Lib.hid (by simp; omega)
  have HL : Hid (((b.drop f).take n).length = n) := Lib.hid (by simp; omega)
  have HSZ := Lib.hid hsz
  clear h1 hr2 hsz
  have HL2 : Hid (((b.drop f).take n).length = f + n - f) := Lib.hid (by simp; omega)
  have HE : Hid (f + n - f = n) := Lib.hid (by omega)
  have hdisj : (c = f ∧ RL bV (w.setCell ⟨g, 1, none⟩ (.int .i64 (8 * ((f : Int) + (n : Int))))) g A ((b.drop f).take n)) ∨ (¬ c = f ∧ RL bV (w.setCell ⟨g, 1, none⟩ (.int .i64 (8 * ((f : Int) + (n : Int))))) g (A.map (·.add f)) ((b.drop f).take n)) := by
    by_cases e : c = f
    · rw [if_pos e] at hcut; exact .inl ⟨e, hcut⟩
    · rw [if_neg e] at hcut; exact .inr ⟨e, hcut⟩
  clear hcut
  have fin : ∀ (v1 : Value) (w1 : World), OwL bV w1 w.heap.size 5 v1 ([] ++ (b.drop f).take n) → Below w.heap.size ((w.setCell ⟨g, 1, none⟩ (.int .i64 (8 * ((f : Int) + (n : Int))))).alloc (.cells #[] 5)) w1 →
      ∃ A c, v1 = .slice A n c ∧ n ≤ c ∧ RB w1 w1.heap.size A ((b.drop f).take n) ∧ (∀ ad, A = some ad → w.heap.size ≤ ad.block) ∧ RRd w1 g b (8 * (f + n)) ∧ w.grownBy w1 (some g) := by
    intro v1 w1 hown hb1
    rw [List.nil_append] at hown
    obtain ⟨A1, c1, rfl, hr1, hc1, _⟩ := OwL.rd hown
    refine ⟨A1, c1, by rw [HL.out], by rw [← HL.out]; exact hc1, hr1, fun ad had => ?_, ?_, ?_⟩
    · subst had; exact (World.ownsRow.lt hown ad.block rfl).1
    · refine RRd.below ?_ hb1 hgl
      exact hS.keep fun i hi => Below.heap_alloc _ _ i (by rw [HSZ.out]; omega)
    · exact gb_past (gb_alloc HG.out _) hb1 (Nat.le_refl _)
  rcases hdisj with ⟨hcf, hcut⟩ | ⟨hcf, hcut⟩
  · go_enter Tryd.func57, Tryd.ntmps57
    go_wp2_with (at_builtin; refine wpList_appL _ bV_one rfl (.tmp 31) (.tmp 40) rfl byteTy (by decide) w.heap.size _ [] rfl ?c0 g _ (f + n - f) _ ((b.drop f).take n) rfl HL2.out ?c1 HN.out ?c2 ?_)
    case c0 => have := OwL.lit0 (f := bV) (e := 5) (base := w.heap.size) (w.setCell ⟨g, 1, none⟩ (.int .i64 (8 * ((f : Int) + (n : Int))))) (by rw [HSZ.out]; exact Nat.le_refl _); rw [HSZ.out] at this; exact this
    case c1 => exact RL.alloc hcut (by rw [HSZ.out]; omega) _
    case c2 => exact le_alloc0 (by rw [HSZ.out]; exact Nat.le_refl _) _
    intro v1 w1 hown _ _ hb1
    obtain ⟨A1, c1, rfl, r⟩ := fin v1 w1 hown hb1
    go_wp2
    go_ret2
    exact ⟨A1, c1, rfl, r⟩
  · go_enter Tryd.func57, Tryd.ntmps57
    go_wp2_with (at_builtin; refine wpList_appL _ bV_one rfl (.tmp 31) (.tmp 40) rfl byteTy (by decide) w.heap.size _ [] rfl ?c3 g _ (f + n - f) _ ((b.drop f).take n) rfl HL2.out ?c4 HN.out ?c5 ?_)
    case c3 => have := OwL.lit0 (f := bV) (e := 5) (base := w.heap.size) (w.setCell ⟨g, 1, none⟩ (.int .i64 (8 * ((f : Int) + (n : Int))))) (by rw [HSZ.out]; exact Nat.le_refl _); rw [HSZ.out] at this; exact this
    case c4 => exact RL.alloc hcut (by rw [HSZ.out]; omega) _
    case c5 => exact le_alloc0 (by rw [HSZ.out]; exact Nat.le_refl _) _
    intro v1 w1 hown _ _ hb1
    obtain ⟨A1, c1, rfl, r⟩ := fin v1 w1 hown hb1
    go_wp2
    go_ret2
    exact ⟨A1, c1, rfl, r⟩
end Go.Proofs.YtokojichjliieaaDoor
namespace Go.Proofs.YtokojichjliieaaDoor

/-- How much of the code's room one length takes. -/
def kOne (a n : Nat) : Nat := if 0 < a ∧ a ≤ n then 2 ^ (n - a) else 0
def kSum (l : List Nat) : Nat := (l.map fun a => kOne a 15).sum
theorem cnt_snoc (l : List Nat) (a n : Nat) : cntP (l ++ [a]) n = cntP l n + (if n = a ∧ 0 < a then 1 else 0) := by
  unfold cntP
  by_cases h0 : n = 0
  · rw [if_pos h0, if_pos h0, if_neg (by omega)]
  · rw [if_neg h0, if_neg h0, List.count_append, List.count_singleton]
    by_cases h : n = a
    · subst h; simp; omega
    · have h' : ¬ a = n := fun e => h e.symm
      simp [h, h']
theorem kraft_snoc (l : List Nat) (a : Nat) : ∀ n, kraftTo (l ++ [a]) n = kraftTo l n + kOne a n := by
  intro n
  induction n with
  | zero => unfold kOne; rw [if_neg (by omega)]; rfl
  | succ n ih =>
    simp only [kraftTo]
    rw [ih, cnt_snoc]
    unfold kOne
    by_cases h1 : 0 < a ∧ a ≤ n
    · rw [if_pos h1, if_neg (by omega), if_pos (by omega), show n + 1 - a = (n - a) + 1 by omega, Nat.pow_succ]; omega
    · rw [if_neg h1]
      by_cases h2 : n + 1 = a
      · subst h2; rw [if_pos (by omega), if_pos (by omega), Nat.sub_self, Nat.pow_zero]; omega
      · rw [if_neg (by omega), if_neg (by omega)]; omega
theorem kraft_nil : ∀ n, kraftTo [] n = 0 := by
  intro n
  induction n with
  | zero => rfl
  | succ n ih => simp only [kraftTo, ih]; unfold cntP; split <;> simp
theorem kSum_snoc (l : List Nat) (a : Nat) : kSum (l ++ [a]) = kSum l + kOne a 15 := by
  unfold kSum; rw [List.map_append, List.sum_append]; simp
theorem kSum_take {l : List Nat} {k m : Nat} (hk : l[k]? = some m) : kSum (l.take (k + 1)) = kSum (l.take k) + kOne m 15 := by
  rw [List.take_add_one, hk, Option.toList_some, kSum_snoc]
theorem kSum_eq (l : List Nat) : kSum l = kraftTo l 15 := by
  suffices ∀ k, kSum (l.take k) = kraftTo (l.take k) 15 by have := this l.length; rwa [List.take_length] at this
  intro k
  induction k with
  | zero => rw [List.take_zero, kraft_nil]; rfl
  | succ k ih =>
    cases hk : l[k]? with
    | none => rw [List.take_add_one, hk, Option.toList_none, List.append_nil]; exact ih
    | some m => rw [List.take_add_one, hk, Option.toList_some, kSum_snoc, kraft_snoc, ih]
theorem kSum_le (l : List Nat) : kSum l ≤ l.length * 16384 := by
  suffices ∀ k, k ≤ l.length → kSum (l.take k) ≤ k * 16384 by have := this l.length (Nat.le_refl _); rwa [List.take_length] at this
  intro k
  induction k with
  | zero => intro _; rw [List.take_zero]; exact Nat.le_refl _
  | succ k ih =>
    intro h
    rw [kSum_take (List.getElem?_eq_getElem (by omega : k < l.length))]
    have := ih (by omega)
    have h1 : kOne l[k] 15 ≤ 16384 := by
      unfold kOne; split
      · have : 2 ^ (15 - l[k]) ≤ 2 ^ 14 := Nat.pow_le_pow_right (by decide) (by omega)
        omega
      · omega
    omega
theorem ones_take {l : List Nat} {k m : Nat} (hk : l[k]? = some m) : (l.take (k + 1)).count 1 = (l.take k).count 1 + (if m = 1 then 1 else 0) := by
  rw [List.take_add_one, hk, Option.toList_some, List.count_append, List.count_singleton]
  by_cases h : m = 1
  · subst h; simp
  · have : ¬ 1 = m := fun e => h e.symm
    simp [h]
/-- The symbols that have words of n bits; none has a word of none. -/
def synV (l : List Nat) (n : Nat) : List Nat := if n = 0 then [] else symsP l l.length n
def synK (l : List Nat) (k n : Nat) : List Nat := if n = 0 then [] else symsP l k n
theorem syn_len (l : List Nat) (n : Nat) : (synV l n).length = cntP l n := by
  unfold synV cntP
  split
  · rfl
  · rw [symsP_len]
theorem syn_at {l : List Nat} {n c : Nat} : symAt l n c = if firstP l n ≤ c then (synV l n)[c - firstP l n]? else none := by
  unfold symAt symK synV
  by_cases h : n = 0
  · rw [if_pos h, if_pos h]; split <;> simp
  · rw [if_neg h, if_neg h]
theorem first_fits {l : List Nat} (h : kraftTo l 15 ≤ 32768) {n : Nat} (hn : n ≤ 15) : firstP l n ≤ 32768 := by
  have h1 := first_bound h hn
  have h2 : (2 : Nat) ^ n ≤ 2 ^ 15 := Nat.pow_le_pow_right (by decide) hn
  omega
theorem mem_le_most {l : List Nat} {x : Nat} (hx : x ∈ l) : x ≤ mostP l := by
  unfold mostP
  suffices ∀ a, a ≤ List.foldl max a l ∧ ∀ x ∈ l, x ≤ List.foldl max a l from (this 0).2 x hx
  clear hx
  induction l with
  | nil => intro a; exact ⟨Nat.le_refl _, fun x hx => by cases hx⟩
  | cons b l ih =>
    intro a
    rw [List.foldl_cons]
    have h := ih (max a b)
    refine ⟨by omega, fun x hx => ?_⟩
    rcases List.mem_cons.1 hx with e | e
    · subst e; omega
    · exact h.2 x e
theorem most_le {l : List Nat} {k : Nat} (h : ∀ x ∈ l, x ≤ k) : mostP l ≤ k := by
  unfold mostP
  suffices ∀ a, a ≤ k → List.foldl max a l ≤ k from this 0 (by omega)
  induction l with
  | nil => intro a ha; exact ha
  | cons b l ih =>
    intro a ha
    rw [List.foldl_cons]
    exact ih (fun x hx => h x (List.mem_cons_of_mem _ hx)) _ (by have := h b List.mem_cons_self; omega)
theorem most_is {l : List Nat} (h15 : ∀ x ∈ l, x ≤ 15) {k : Nat} (hk : ∀ j, k < j → j ≤ 15 → (synV l j).length = 0) (h : k = 0 ∨ (synV l k).length ≠ 0) : mostP l = k := by
  apply Nat.le_antisymm
  · refine most_le fun x hx => ?_
    rcases Nat.lt_or_ge k x with hlt | hge
    · have h1 := hk x hlt (h15 x hx)
      rw [syn_len] at h1
      unfold cntP at h1
      rw [if_neg (by omega)] at h1
      exact absurd hx (List.count_eq_zero.1 h1)
    · exact hge
  · rcases h with rfl | h
    · exact Nat.zero_le _
    · rw [syn_len] at h
      unfold cntP at h
      split at h
      · exact absurd rfl h
      · exact mem_le_most (List.count_pos_iff.1 (by omega))
theorem len_step : ∀ k, 257 ≤ k → k < 284 → (lenP (k + 1)).1 = (lenP k).1 + 2 ^ (lenP k).2 := by
  have key : ∀ k, k < 284 → 257 ≤ k → (lenP (k + 1)).1 = (lenP k).1 + 2 ^ (lenP k).2 := by decide +kernel
  exact fun k h1 h2 => key k h2 h1
theorem len_more : ∀ k, 257 ≤ k → k < 285 → (lenP k).2 = if 265 ≤ k then 1 + (k - 265) / 4 else 0 := by
  have key : ∀ k, k < 285 → 257 ≤ k → (lenP k).2 = if 265 ≤ k then 1 + (k - 265) / 4 else 0 := by decide +kernel
  exact fun k h1 h2 => key k h2 h1
theorem len_bd : ∀ k, 257 ≤ k → k < 286 → (lenP k).1 ≤ 258 ∧ (lenP k).2 ≤ 5 ∧ 3 ≤ (lenP k).1 := by
  have key : ∀ k, k < 286 → 257 ≤ k → (lenP k).1 ≤ 258 ∧ (lenP k).2 ≤ 5 ∧ 3 ≤ (lenP k).1 := by decide +kernel
  exact fun k h1 h2 => key k h2 h1
theorem dst_step : ∀ k, k < 29 → (dstP (k + 1)).1 = (dstP k).1 + 2 ^ (dstP k).2 := by decide +kernel
theorem dst_more : ∀ k, k < 30 → (dstP k).2 = if 4 ≤ k then 1 + (k - 4) / 2 else 0 := by decide +kernel
theorem dst_bd : ∀ k, k < 30 → (dstP k).1 ≤ 24577 ∧ (dstP k).2 ≤ 13 ∧ 1 ≤ (dstP k).1 := by decide +kernel
end Go.Proofs.YtokojichjliieaaDoor
namespace Go.Proofs.YtokojichjliieaaDoor
open Go.RowKit

/-- The document's code, as the cells cs: its rows lie in the blocks from lo to hi. -/
def RCd (w : World) (lo hi : Nat) (cs : Array Value) (l : List Nat) : Prop :=
  cs.size = 32 ∧ (lo ≤ hi ∧ hi ≤ w.heap.size) ∧ (∀ i, i < 16 → cs[i]? = some (.int .i64 (firstP l i : Int))) ∧
    (∀ i, i < 16 → ∃ A c, cs[16 + i]? = some (.slice A (synV l i).length c) ∧ RN w hi A (synV l i) ∧ (∀ ad, A = some ad → lo ≤ ad.block)) ∧ mostP l ≤ 15 ∧ kraftTo l 15 ≤ 32768 ∧ (∀ x ∈ l, x ≤ 15) ∧ l.length ≤ 288
section
variable {w w' : World} {lo hi : Nat} {cs : Array Value} {l : List Nat}
theorem RCd.keep (h : RCd w lo hi cs l) (hk : ∀ i, lo ≤ i → i < hi → w'.heap[i]? = w.heap[i]?) (hs : w.heap.size ≤ w'.heap.size) : RCd w' lo hi cs l := by
  obtain ⟨h1, h2, h3, h4, h5⟩ := h
  refine ⟨h1, ⟨h2.1, by omega⟩, h3, fun i hi' => ?_, h5⟩
  obtain ⟨A, c, a1, a2, a3⟩ := h4 i hi'
  refine ⟨A, c, a1, fun hn => ?_, a3⟩
  obtain ⟨ad, e, hb, hc⟩ := a2 hn
  exact ⟨ad, e, hb, fun j u hu => (World.cell?_of_block (by rw [blk_add]; exact hk _ (a3 ad e) hb)).trans (hc j u hu)⟩
theorem RCd.below {B : Nat} (h : RCd w lo hi cs l) (hb : Below B w w') (hB : hi ≤ B) : RCd w' lo hi cs l := h.keep (fun i _ h2 => hb.block i (by omega)) hb.size
theorem RCd.step (h : RCd w lo hi cs l) (hb : Below w.heap.size w w') : RCd w' lo hi cs l := h.below hb h.2.1.2
theorem RCd.grown {row : Option Nat} (h : RCd w lo hi cs l) (hb : w.grownBy w' row) (hr : ∀ k, row = some k → k < lo ∨ hi ≤ k) : RCd w' lo hi cs l :=
  h.keep (fun i h1 h2 => hb.block i (by have := h.2.1; omega) (fun e => by have := hr i e.symm; omega)) hb.size
theorem RCd.drewN (h : RCd w lo hi cs l) (n : Nat) : RCd (w.drewN n) lo hi cs l := h
end
set_option maxRecDepth 100000 in
set_option maxHeartbeats 1000000 in
theorem rlongest_any (lo hi : Nat) (cs : Array Value) (l : List Nat) (w : World) (hC : RCd w lo hi cs l) :
    Calls Tryd.prog 103 #[.agg cs] w fun e w' => e = .returned (.int .i64 (mostP l : Int)) ∧ Below w.heap.size w w' := by
  obtain ⟨h1, h2, h3, h4, h5, h6, h7, h8⟩ := hC
  obtain ⟨M, hM⟩ : ∃ M, mostP l = M := ⟨_, rfl⟩
  have HMOST := fun (k : Nat) (a : ∀ j, k < j → j ≤ 15 → (synV l j).length = 0) (b : k = 0 ∨ (synV l k).length ≠ 0) => (most_is h7 a b).symm.trans hM
  rw [hM]
  have HM := bx HMOST
  have H4 := bx h4
  obtain ⟨g, hg⟩ : ∃ g, w.heap.size = g := ⟨_, rfl⟩
  have hK : Bk (w.alloc (.cells cs 108)) g 108 cs := Bk.newAt _ _ _ hg
  have hB : Below w.heap.size w (w.alloc (.cells cs 108)) := bl_alloc (Below.refl _ _) (Nat.le_refl _) _
  clear h3 h4 h5 h6 h7 h8 HMOST hM
  go_enter Tryd.func103, Tryd.ntmps103
  go_wp2_with fail
  clear hg
  generalize w.alloc (.cells cs 108) = w1 at hK hB ⊢
  go_loopg [3] 15 (fun κ v3 wr => ∃ k : Nat, κ = k ∧ k ≤ 15 ∧ v3 = .int .i64 (k : Int) ∧ Bx (∀ j, k < j → j ≤ 15 → (synV l j).length = 0) ∧ w1 = wr)
  case atStart => exact ⟨15, by omega, by omega, rfl, ⟨fun j a b => by omega⟩, rfl⟩
  case round =>
    obtain ⟨k, hgk, hk, rfl, HZ, rfl⟩ := hrel
    by_cases h0 : k = 0
    · subst h0
      have HF : Bx (M = 0) := bx (HM.out 0 HZ.out (.inl rfl)).symm
      go_wp2
      go_ret
      exact ⟨by rw [HF.out]; rfl, hB⟩
    · obtain ⟨A, c, hcs, _, _⟩ := H4.out k (by omega)
      have c0 : w1.cell? ⟨g, 16 + k, none⟩ = some (.slice A (synV l k).length c) := (hK.cell (16 + k)).trans hcs
      have hk0 : (0 : Int) < (k : Int) := by omega
      clear hcs
      obtain ⟨L, hL⟩ : ∃ L, (synV l k).length = L := ⟨_, rfl⟩
      rw [hL] at c0
      by_cases hz : L = 0
      · have hzb : ((L : Int) == 0) = true := by rw [hz]; rfl
        have HZ2 : Bx (∀ j, k - 1 < j → j ≤ 15 → (synV l j).length = 0) := bx (fun j a b => by
          rcases Nat.lt_or_ge k j with h | h
          · exact HZ.out j h b
          · obtain rfl : j = k := by omega
            rw [hL, hz])
        clear hz hL HZ
        go_wp2
        go_roundg (k - 1)
        case rel => exact ⟨k - 1, rfl, by omega, by go_num, HZ2, rfl⟩
        case measure => omega
      · have hzb : ((L : Int) == 0) = false := by rw [beq_eq_false_iff_ne]; omega
        have HF : Bx (M = k) := bx (HM.out k HZ.out (.inr (by rw [hL]; exact hz))).symm
        clear hL HZ
        go_wp2
        go_ret
        exact ⟨by rw [HF.out]; rfl, hB⟩
theorem info_code : (Tryd.prog.info? 108).map (·.size) = some 32 := by kernel_rfl
/-- What Next answers. -/
def RNxPost (R : Rz (Nat × Nat)) (w : World) (gr : Nat) (b : List UInt8) (e : Ending) (w' : World) : Prop :=
  w.grownBy w' (some gr) ∧ match R with
    | .ok x => e = .returned (.tuple #[.int .i64 (x.1 : Int), .int .i64 0]) ∧ RRd w' gr b x.2
    | .err k => e = .returned (.tuple #[.int .i64 0, .int .i64 k])
theorem rnxPost_ok {R : Rz (Nat × Nat)} {w w' : World} {gr : Nat} {b : List UInt8} {s p : Nat} (h : R = .ok (s, p)) (hg : w.grownBy w' (some gr)) (hB : RRd w' gr b p) : RNxPost R w gr b (.returned (.tuple #[.int .i64 (s : Int), .int .i64 0])) w' := by
  subst h; exact ⟨hg, rfl, hB⟩
theorem rnxPost_err {R : Rz (Nat × Nat)} {w w' : World} {gr : Nat} {b : List UInt8} {k : Int} (h : R = .err k) (hg : w.grownBy w' (some gr)) : RNxPost R w gr b (.returned (.tuple #[.int .i64 0, .int .i64 k])) w' := by
  subst h; exact ⟨hg, rfl⟩
set_option maxRecDepth 100000 in
set_option maxHeartbeats 4000000 in
theorem rnext_any (lo hi gr : Nat) (cs : Array Value) (l : List Nat) (b : List UInt8) (p : Nat) (w : World) (hC : RCd w lo hi cs l) (hR : RRd w gr b p) (hlo : gr < lo) :
    Calls Tryd.prog 87 #[.agg cs, .pointer (some ⟨gr, 0, none⟩)] w (RNxPost (nextP l b p) w gr b) := by
  obtain ⟨R, hRR⟩ : ∃ R, nextP l b p = R := ⟨_, rfl⟩
  rw [hRR]
  have HR : Bx (R = nextF l b (mostP l - 0) 0 0 p) := bx (by rw [← hRR]; rfl)
  obtain ⟨g, hg⟩ : ∃ g, w.heap.size = g := ⟨_, rfl⟩
  have hcz := hC.1
  have hK : Bk (w.alloc (.cells cs 108)) g 108 cs := Bk.newAt _ _ _ hg
  have hB := bl_alloc (Below.refl w.heap.size w) (Nat.le_refl _) (.cells cs 108)
  have hC1 := hC.step hB
  have hR1 := hR.step hB
  have hG1 := gb_alloc (World.grownBy.refl w (some gr)) (.cells cs 108)
  have hgg : gr < g := by rw [← hg]; exact hR.lt
  clear hRR hC hR hB
  go_enter Tryd.func87, Tryd.ntmps87
  go_wp2_with (refine wpList_load_row rfl 108 (.tmp 2) rfl g rfl _ cs _ _ hK Tryd.underlying108 rfl (by rw [hcz]; exact info_code) ?_)
  refine (rlongest_any lo hi cs l _ hC1).mono ?_
  rintro e w2 ⟨rfl, hB2⟩
  obtain ⟨M, hM⟩ : ∃ M, mostP l = M := ⟨_, rfl⟩
  obtain ⟨q1, q2, q3, q4, q5, q6, q7, q8⟩ := id hC1
  rw [hM] at q5
  have HM := bx hM
  have H3 := bx q3
  have H6 := bx q6
  have HR2 : Bx (R = nextF l b (M - 0) 0 0 p) := bx (by rw [← HM.out]; exact HR.out)
  have hC2 := hC1.step hB2
  have hR2 := hR1.step hB2
  have hK2 := hK.below hB2 hK.lt
  have hG2 := gb_then hG1 hB2
  rw [hM]
  clear q1 q2 q3 q4 q6 q7 q8 hC1 hR1 hK hG1 hB2 hg hM HR
  go_wp2_with fail
  go_loopg [7, 8, 9, 10] M (fun κ v7 v8 _ _ wr => ∃ n c q : Nat, κ = M - n ∧ n ≤ M ∧ c < 2 ^ n ∧ v7 = .int .i64 (c : Int) ∧ v8 = .int .i64 (n : Int) ∧ Bk wr g 108 cs ∧ RRd wr gr b q ∧ RCd wr lo hi cs l ∧ w.grownBy wr (some gr) ∧ Bx (R = nextF l b (M - n) n c q))
  case atStart => exact ⟨0, 0, p, by omega, by omega, by decide, rfl, rfl, hK2, hR2, hC2, hG2, HR2⟩
  case round =>
    clear hK2 hR2 hC2 hG2 HR2
    obtain ⟨n, c, q, hgk, hn, hc, rfl, rfl, hK, hR, hC, hG, hgo⟩ := hrel
    by_cases hnm : n < M
    · have hf : M - n = (M - (n + 1)) + 1 := by omega
      have HGO : Bx (R = nextF l b ((M - (n + 1)) + 1) n c q) := bx (hf ▸ hgo.out)
      clear hf hgo
      have hnI : (n : Int) < (M : Int) := by omega
      by_cases hq : q + 1 ≤ 8 * b.length
      · have hp15 : (2 : Nat) ^ n ≤ 2 ^ 15 := Nat.pow_le_pow_right (by decide) (by omega)
        go_wp2_with fail
        refine (rtake_ok gr b q 1 wr hR (by omega) hq).mono ?_
        rintro e w3 ⟨rfl, hR3, hg3⟩
        have hK3 := hK.grown hg3 (fun e => by injection e; omega)
        have hC3 := hC.grown hg3 (fun k hk => by injection hk; omega)
        have hG3 := gb_trans hG hg3
        obtain ⟨d, hd⟩ : ∃ d, bitAt b q = d := ⟨_, rfl⟩
        have ht1 : takeN b q 1 = d := by rw [takeN, takeN, Nat.add_zero, hd]; omega
        have hd2 : d < 2 := by rw [← hd]; exact bitAt_lt _ _
        rw [ht1]
        obtain ⟨W, hW⟩ : ∃ W, 2 * c + d = W := ⟨_, rfl⟩
        obtain ⟨N, hN⟩ : ∃ N, n + 1 = N := ⟨_, rfl⟩
        have hN16 : N < 16 := by omega
        obtain ⟨F, hF⟩ : ∃ F, firstP l N = F := ⟨_, rfl⟩
        have hFb := first_fits H6.out (n := N) (by omega)
        rw [hF] at hFb
        obtain ⟨_, _, q3, q4, _⟩ := id hC3
        obtain ⟨A, cc, hcs, hrow, _⟩ := q4 N hN16
        have c0 : w3.cell? ⟨g, N, none⟩ = some (.int .i64 (F : Int)) := by rw [hK3.cell N, q3 N hN16, hF]
        have c1 : w3.cell? ⟨g, 16 + N, none⟩ = some (.slice A (synV l N).length cc) := (hK3.cell (16 + N)).trans hcs
        obtain ⟨L, hL⟩ : ∃ L, (synV l N).length = L := ⟨_, rfl⟩
        rw [hL] at c1
        have hWI : 2 * (c : Int) + (d : Int) = (W : Int) := by omega
        have hNI : (n : Int) + 1 = (N : Int) := by omega
        have HWI := bx hWI
        have HNI := bx hNI
        have HWc := bx hW
        have HNc := bx hN
        have hWb : W < 65536 := by omega
        have hsym : symAt l (n + 1) (2 * c + bitAt b q) = if F ≤ W then (synV l N)[W - F]? else none := by rw [hN, hd, hW, syn_at, hF]
        clear q3 q4 hcs hK hR hC hG hg3 ht1 hF hWI hNI hW hN
        go_upto_region 8 with (fail)
        rw [HWI.out, HNI.out]
        by_cases hFW : F ≤ W
        · rw [if_pos hFW] at hsym
          have hFI : (F : Int) ≤ (W : Int) := by omega
          obtain ⟨X, hX⟩ : ∃ X, W - F = X := ⟨_, rfl⟩
          rw [hX] at hsym
          have iX : IntKind.i64.wrap ((W : Int) - (F : Int)) = (X : Int) := by rw [show (W : Int) - (F : Int) = (X : Int) by omega]; exact IntWalk.i64_in _ (by omega)
          by_cases hXL : X < L
          · obtain ⟨ad, s, rfl, _, hs, hcs⟩ := RL.atl hrow (k := X) (by rw [hL]; exact hXL)
            have hcs' : w3.cell? (ad.add X) = some (.int .i64 (s : Int)) := hcs
            rw [hs.out] at hsym
            have HF : Bx (R = .ok (s, q + 1)) := bx (by rw [HGO.out, nextF_hit hq hsym])
            have hXI : (X : Int) < (L : Int) := by omega
            have hX0 : (0 : Int) ≤ (X : Int) := by omega
            clear hsym HGO hcs hL hX hs
            go_quiet (fail)
            rename Nat => nq
            have c0' : (w3.drewN nq).cell? ⟨g, N, none⟩ = some (.int .i64 (F : Int)) := c0
            have c1' : (w3.drewN nq).cell? ⟨g, 16 + N, none⟩ = some (.slice (some ad) L cc) := c1
            have hcs2 : (w3.drewN nq).cell? (ad.add X) = some (.int .i64 (s : Int)) := hcs'
            have hR4 : RRd (w3.drewN nq) gr b (q + 1) := hR3
            have hG4 := gb_drewN hG3 nq
            clear c0 c1 hcs' hR3 hG3 hK3 hC3 hrow
            generalize w3.drewN nq = w4 at c0' c1' hcs2 hR4 hG4 ⊢
            go_upto_region 9 with (fail)
            go_quiet (fail)
            rename Nat => nq2
            have hR5 : RRd (w4.drewN nq2) gr b (q + 1) := hR4
            have hG5 := gb_drewN hG4 nq2
            clear c0' c1' hcs2 hR4 hG4
            go_wp2
            go_ret2
            exact rnxPost_ok HF.out hG5 hR5
          · have hXI : ¬ (X : Int) < (L : Int) := by omega
            have hnone : (synV l N)[X]? = none := List.getElem?_eq_none (by rw [hL]; omega)
            rw [hnone] at hsym
            have HF : Bx (R = nextF l b (M - (n + 1)) (n + 1) (2 * c + bitAt b q) (q + 1)) := bx (by rw [HGO.out, nextF_miss hq hsym])
            clear hsym HGO hL hX hnone
            go_quiet (fail)
            rename Nat => nq
            have hR4 : RRd (w3.drewN nq) gr b (q + 1) := hR3
            have hG4 := gb_drewN hG3 nq
            have hK4 := hK3.drewN nq
            have hC4 := hC3.drewN nq
            clear c0 c1 hR3 hG3 hK3 hC3 hrow iX
            generalize w3.drewN nq = w4 at hR4 hG4 hK4 hC4 ⊢
            go_wp2
            go_roundg (M - (n + 1))
            case rel => exact ⟨n + 1, 2 * c + bitAt b q, q + 1, rfl, by omega, by rw [hd, HWc.out]; have := HWc.out; rw [Nat.pow_succ]; omega, by rw [hd, HWc.out], by rw [HNc.out], hK4, hR4, hC4, hG4, HF⟩
            case measure => omega
        · rw [if_neg hFW] at hsym
          have hFI : ¬ (F : Int) ≤ (W : Int) := by omega
          have HF : Bx (R = nextF l b (M - (n + 1)) (n + 1) (2 * c + bitAt b q) (q + 1)) := bx (by rw [HGO.out, nextF_miss hq hsym])
          clear hsym HGO hL
          go_quiet (fail)
          rename Nat => nq
          have hR4 : RRd (w3.drewN nq) gr b (q + 1) := hR3
          have hG4 := gb_drewN hG3 nq
          have hK4 := hK3.drewN nq
          have hC4 := hC3.drewN nq
          clear c0 c1 hR3 hG3 hK3 hC3 hrow
          generalize w3.drewN nq = w4 at hR4 hG4 hK4 hC4 ⊢
          go_wp2
          go_roundg (M - (n + 1))
          case rel => exact ⟨n + 1, 2 * c + bitAt b q, q + 1, rfl, by omega, by rw [hd, HWc.out]; have := HWc.out; rw [Nat.pow_succ]; omega, by rw [hd, HWc.out], by rw [HNc.out], hK4, hR4, hC4, hG4, HF⟩
          case measure => omega
      · have HF : Bx (R = .err 2) := bx (by rw [HGO.out, nextF_short (by omega)])
        go_wp2_with fail
        refine (rtake_short gr b q 1 wr hR (by omega) (by omega)).mono ?_
        rintro e w3 ⟨rfl, hb3⟩
        have hG3 := gb_then hG hb3
        go_wp2
        go_ret2
        exact rnxPost_err HF.out hG3
    · obtain rfl : n = M := by omega
      have HF : Bx (R = .err 6) := bx (by rw [hgo.out, Nat.sub_self]; rfl)
      go_wp2
      go_ret2
      exact rnxPost_err HF.out hG
end Go.Proofs.YtokojichjliieaaDoor
namespace Go.Proofs.YtokojichjliieaaDoor
open Go.RowKit

theorem results_code (tmps : Array Value) (w : World) (g : Nat) (cs : Array Value) (h4 : tmps.getD 4 undef = .pointer (some ⟨g, 0, none⟩)) (hk : Bk w g 108 cs) (hs : cs.size = 32) :
    (results Tryd.f60 tmps).run Tryd.prog w = .ok (.tuple #[.agg cs, tmps.getD 5 undef]) w := by
  rw [results_cell_tmp (p := 4) (u := 5) (ty := 108) Tryd.results60]
  have h4' : tmps[4]?.getD undef = .pointer (some ⟨g, 0, none⟩) := by simpa using h4
  have hl := run_loadVar_row (P := Tryd.prog) w g 108 108 cs (0, 0) _ hk Tryd.underlying108 rfl (by rw [hs]; exact info_code)
  simp [h4', asAddr, hl, Result.andThen]
def RNewPost (l : List Nat) (lone : Bool) (w : World) (e : Ending) (w' : World) : Prop :=
  Below w.heap.size w w' ∧ ∃ cs, cs.size = 32 ∧ cs.all (·.oneCell') = true ∧ if codeB l lone = true then ∃ lo hi, e = .returned (.tuple #[.agg cs, .int .i64 0]) ∧ RCd w' lo hi cs l ∧ w.heap.size ≤ lo else e = .returned (.tuple #[.agg cs, .int .i64 5])
def z32 : Array Value := #[.int .i64 0, .int .i64 0, .int .i64 0, .int .i64 0, .int .i64 0, .int .i64 0, .int .i64 0, .int .i64 0, .int .i64 0, .int .i64 0, .int .i64 0, .int .i64 0, .int .i64 0, .int .i64 0, .int .i64 0, .int .i64 0, .slice none 0 0, .slice none 0 0, .slice none 0 0, .slice none 0 0, .slice none 0 0, .slice none 0 0, .slice none 0 0, .slice none 0 0, .slice none 0 0, .slice none 0 0, .slice none 0 0, .slice none 0 0, .slice none 0 0, .slice none 0 0, .slice none 0 0, .slice none 0 0]
theorem z32_size : z32.size = 32 := rfl
theorem z32_one : z32.all (·.oneCell') = true := by kernel_rfl
theorem z32_at : ∀ i, i < 32 → z32[i]? = some (if i < 16 then .int .i64 0 else .slice none 0 0) := by
  intro i hi
  match i, hi with
  | 0, _ => rfl
  | 1, _ => rfl
  | 2, _ => rfl
  | 3, _ => rfl
  | 4, _ => rfl
  | 5, _ => rfl
  | 6, _ => rfl
  | 7, _ => rfl
  | 8, _ => rfl
  | 9, _ => rfl
  | 10, _ => rfl
  | 11, _ => rfl
  | 12, _ => rfl
  | 13, _ => rfl
  | 14, _ => rfl
  | 15, _ => rfl
  | 16, _ => rfl
  | 17, _ => rfl
  | 18, _ => rfl
  | 19, _ => rfl
  | 20, _ => rfl
  | 21, _ => rfl
  | 22, _ => rfl
  | 23, _ => rfl
  | 24, _ => rfl
  | 25, _ => rfl
  | 26, _ => rfl
  | 27, _ => rfl
  | 28, _ => rfl
  | 29, _ => rfl
  | 30, _ => rfl
  | 31, _ => rfl
  | i + 32, h => omega
/-- The code while it is made: of the bits up to k all words stand. -/
def nwC (l : List Nat) (k : Nat) (V : Nat → Value) (i : Nat) : Value := if i < 16 then (if i ≤ k then nV (firstP l i) else nV 0) else (if i - 16 ≤ k then V (i - 16) else .slice none 0 0)
def NwR (w : World) (g B : Nat) (l : List Nat) (k : Nat) (V : Nat → Value) : Prop := ∀ j, j ≤ k → ∃ A c, V j = .slice A (synV l j).length c ∧ RN w B A (synV l j) ∧ ∀ ad, A = some ad → g + 2 ≤ ad.block
theorem NwR.keep {w w' : World} {g B B' : Nat} {l : List Nat} {k : Nat} {V : Nat → Value} (h : NwR w g B l k V) (hk : ∀ i, g + 2 ≤ i → i < B → w'.heap[i]? = w.heap[i]?) (hB : B ≤ B') : NwR w' g B' l k V := fun j hj => by
  obtain ⟨A, c, h1, h2, h3⟩ := h j hj
  refine ⟨A, c, h1, fun hn => ?_, h3⟩
  obtain ⟨ad, e, hb, hc⟩ := h2 hn
  exact ⟨ad, e, by omega, fun j u hu => (World.cell?_of_block (by rw [blk_add]; exact hk _ (h3 ad e) hb)).trans (hc j u hu)⟩
set_option maxRecDepth 100000 in
set_option maxHeartbeats 8000000 in
theorem rnew_any (A : Option Addr) (n c : Nat) (l : List Nat) (lone : Bool) (w : World) (hn : l.length = n) (hz : n ≤ 288) (h15 : ∀ x ∈ l, x ≤ 15) (hr : RN w w.heap.size A l) :
    Calls Tryd.prog 60 #[.slice A n c, .bool lone] w (RNewPost l lone w) := by
  have HL := bx hn
  have H15 := bx h15
  clear hn h15
  obtain ⟨g, hg⟩ : ∃ g, w.heap.size = g := ⟨_, rfl⟩
  have hB0 := bl_alloc (bl_alloc (Below.refl w.heap.size w) (Nat.le_refl _) (.cells z32 108)) (Nat.le_refl _) (.cells z32 108)
  have hK0 : Bk ((w.alloc (.cells z32 108)).alloc (.cells z32 108)) g 108 z32 := (Bk.newAt _ _ _ hg).alloc _
  have hR0 : Rw ((w.alloc (.cells z32 108)).alloc (.cells z32 108)) (g + 1) 108 32 (nwC l 0 (fun _ => .slice none 0 0)) := Rw.of (Bk.newAt _ _ _ (by simp [hg])) rfl (fun i hi => by
    rw [z32_at i hi]
    unfold nwC
    congr 1
    split
    · split
      · rename_i h; obtain rfl : i = 0 := by omega
        rfl
      · rfl
    · split <;> rfl)
  go_enter Tryd.func60, Tryd.ntmps60
  go_wp2_with fail
  change Code.wp _ _ _ _ ((w.alloc (.cells z32 108)).alloc (.cells z32 108))
  generalize ((w.alloc (.cells z32 108)).alloc (.cells z32 108)) = w1 at hB0 hK0 hR0 ⊢
  have hr1 : RN w1 w.heap.size A l := RL.below hr hB0 (Nat.le_refl _)
  go_loopg [7, 8, 9, 10] n (fun κ v7 v8 v9 v10 wr => ∃ j : Nat, κ = n - j ∧ j ≤ n ∧ v10 = .int .i64 (j : Int) ∧ v7 = .int .i64 (kSum (l.take j) : Int) ∧ v8 = .int .i64 ((l.take j).count 1 : Int) ∧ v9 = .int .i64 (usedP (l.take j) : Int) ∧ w1 = wr)
  case atStart => exact ⟨0, by omega, by omega, rfl, rfl, rfl, rfl, rfl⟩
  case round =>
    obtain ⟨j, hgk, hj, rfl, rfl, rfl, rfl, rfl⟩ := hrel
    by_cases hjn : j < n
    · obtain ⟨ad, m, rfl, hadb, hm, hc⟩ := RL.atl hr1 (k := j) (by rw [HL.out]; exact hjn)
      have hc' : w1.cell? (ad.add j) = some (.int .i64 (m : Int)) := hc
      have hm15 : m ≤ 15 := H15.out m (List.mem_of_getElem? hm.out)
      have e1 := kSum_take hm.out
      have e2 := ones_take hm.out
      have e3 := usedP_take hm.out
      have b1 := kSum_le (l.take j)
      have b2 := usedP_le (l.take j)
      have b3 : (l.take j).count 1 ≤ (l.take j).length := List.count_le_length
      have hlj : (l.take j).length ≤ 288 := by rw [List.length_take]; omega
      have m0 : ¬ (m : Int) < 0 := by omega
      have m15 : ¬ (15 : Int) < (m : Int) := by omega
      obtain ⟨K, hK⟩ : ∃ K, kSum (l.take j) = K := ⟨_, rfl⟩
      obtain ⟨O, hO⟩ : ∃ O, (l.take j).count 1 = O := ⟨_, rfl⟩
      obtain ⟨U, hU⟩ : ∃ U, usedP (l.take j) = U := ⟨_, rfl⟩
      rw [hK] at e1 b1 ⊢
      rw [hO] at e2 b3 ⊢
      rw [hU] at e3 b2 ⊢
      have hK9 : K ≤ 5000000 := by omega
      by_cases hmz : m = 0
      · subst hmz
        have E1 : Bx (kSum (l.take (j + 1)) = K) := bx (by rw [e1]; rfl)
        have E2 : Bx ((l.take (j + 1)).count 1 = O) := bx (by rw [e2]; rfl)
        have E3 : Bx (usedP (l.take (j + 1)) = U) := bx (by rw [e3]; rfl)
        clear e1 e2 e3 hK hO hU hc
        go_wp2
        go_roundg (n - (j + 1))
        case rel => exact ⟨j + 1, rfl, by omega, by go_num, by rw [E1.out], by rw [E2.out], by rw [E3.out], rfl⟩
        case measure => omega
      · have hm1 : (0 : Int) < (m : Int) := by omega
        obtain ⟨s, hs⟩ : ∃ s, 15 - m = s := ⟨_, rfl⟩
        have hsI : (15 : Int) - (m : Int) = (s : Int) := by omega
        have hs14 : s ≤ 14 := by omega
        have hp : (2 : Nat) ^ s ≤ 2 ^ 14 := Nat.pow_le_pow_right (by decide) hs14
        have E1 : Bx (kSum (l.take (j + 1)) = K + 2 ^ s) := bx (by rw [e1]; unfold kOne; rw [if_pos (by omega), hs])
        have E3 : Bx (usedP (l.take (j + 1)) = U + 1) := bx (by rw [e3, if_pos hmz])
        have E2 : Bx ((l.take (j + 1)).count 1 = O + (if m = 1 then 1 else 0)) := bx e2
        clear e1 e2 e3 hK hO hU hc hs
        have HV : Bx (wrap64 ((K : Int) + wrap64 (2 ^ s)) = ((K + 2 ^ s : Nat) : Int)) := bx (by
          have e : ((2 : Int) ^ s) = ((2 ^ s : Nat) : Int) := by simp
          rw [e]
          obtain ⟨Q, hQ⟩ : ∃ Q, 2 ^ s = Q := ⟨_, rfl⟩
          rw [hQ] at hp ⊢
          rw [IntWalk.wrap64_in (Q : Int) (by omega), IntWalk.wrap64_in _ (by omega), Int.natCast_add])
        by_cases hm2 : m = 1
        · have hmb : ((m : Int) == 1) = true := by rw [hm2]; rfl
          have E2' : Bx ((l.take (j + 1)).count 1 = O + 1) := bx (by rw [E2.out, if_pos hm2])
          clear E2 hm2
          go_wp2
          go_roundg (n - (j + 1))
          case rel => exact ⟨j + 1, rfl, by omega, by go_num, by rw [E1.out, ← HV.out], by rw [E2'.out]; go_num, by rw [E3.out]; go_num, rfl⟩
          case measure => omega
        · have hmb : ((m : Int) == 1) = false := by rw [beq_eq_false_iff_ne]; omega
          have E2' : Bx ((l.take (j + 1)).count 1 = O) := bx (by rw [E2.out, if_neg hm2]; rfl)
          clear E2 hm2
          go_wp2
          go_roundg (n - (j + 1))
          case rel => exact ⟨j + 1, rfl, by omega, by go_num, by rw [E1.out, ← HV.out], by rw [E2'.out], by rw [E3.out]; go_num, rfl⟩
          case measure => omega
    · obtain rfl : j = n := by omega
      have htk : l.take j = l := List.take_of_length_le (by rw [HL.out]; exact Nat.le_refl _)
      rw [htk]
      have hkl := kSum_le l
      rw [HL.out] at hkl
      have hcb : codeB l lone = (decide (kSum l = 32768) || (lone && (decide (usedP l = 0) || (decide (usedP l = 1) && decide (l.count 1 = 1))))) := by rw [kSum_eq]; rfl
      obtain ⟨K, hK⟩ : ∃ K, kSum l = K := ⟨_, rfl⟩
      obtain ⟨O, hO⟩ : ∃ O, l.count 1 = O := ⟨_, rfl⟩
      obtain ⟨U, hU⟩ : ∃ U, usedP l = U := ⟨_, rfl⟩
      obtain ⟨b, hb⟩ : ∃ b, codeB l lone = b := ⟨_, rfl⟩
      rw [hK, hO, hU, hb] at hcb
      rw [hK, hO, hU]
      have HCB := bx hb
      have HKR : Bx (b = true → kraftTo l 15 ≤ 32768) := bx (fun h => code_kraft (hb.trans h))
      have hnj : ¬ j < j := by omega
      clear hK hO hU hb htk hkl
      go_upto_region 17 with (fail)
      go_cut [67] (fun v wx => v = .bool (!b) ∧ w1 = wx)
      case first =>
        by_cases hk : K = 32768
        · have hkb : ((K : Int) != 32768) = false := by rw [hk]; rfl
          have hbt : b = true := by rw [hcb, decide_eq_true hk]; rfl
          subst hbt
          clear hk hcb
          go_wp2
          go_meet
          case rel => exact ⟨rfl, rfl⟩
        · have hkb : ((K : Int) != 32768) = true := by rw [bne_iff_ne]; omega
          rw [decide_eq_false hk, Bool.false_or] at hcb
          cases lone with
          | false =>
            have hbt : b = false := hcb
            subst hbt
            clear hk hcb
            go_wp2
            go_meet
            case rel => exact ⟨rfl, rfl⟩
          | true =>
            rw [Bool.true_and] at hcb
            by_cases hu : U = 0
            · have hub : ((U : Int) == 0) = true := by rw [hu]; rfl
              have hbt : b = true := by rw [hcb, decide_eq_true hu]; rfl
              subst hbt
              clear hk hcb hu
              go_wp2
              go_meet
              case rel => exact ⟨rfl, rfl⟩
            · have hub : ((U : Int) == 0) = false := by rw [beq_eq_false_iff_ne]; omega
              rw [decide_eq_false hu, Bool.false_or] at hcb
              by_cases hu1 : U = 1
              · have hub1 : ((U : Int) == 1) = true := by rw [hu1]; rfl
                rw [decide_eq_true hu1, Bool.true_and] at hcb
                by_cases ho : O = 1
                · have hob : ((O : Int) == 1) = true := by rw [ho]; rfl
                  have hbt : b = true := by rw [hcb, decide_eq_true ho]
                  subst hbt
                  clear hk hcb hu hu1 ho
                  go_wp2
                  go_meet
                  case rel => exact ⟨rfl, rfl⟩
                · have hob : ((O : Int) == 1) = false := by rw [beq_eq_false_iff_ne]; omega
                  have hbt : b = false := by rw [hcb, decide_eq_false ho]
                  subst hbt
                  clear hk hcb hu hu1 ho
                  go_wp2
                  go_meet
                  case rel => exact ⟨rfl, rfl⟩
              · have hub1 : ((U : Int) == 1) = false := by rw [beq_eq_false_iff_ne]; omega
                have hbt : b = false := by rw [hcb, decide_eq_false hu1]; rfl
                subst hbt
                clear hk hcb hu hu1
                go_wp2
                go_meet
                case rel => exact ⟨rfl, rfl⟩
      case rest =>
        obtain ⟨rfl, rfl⟩ := hcut
        cases b with
        | false =>
          go_wp2_with (refine wpList_store_row rfl 108 (.tmp 4) (.tmp 68) rfl g z32 rfl rfl 108 z32 hK0 (by rw [z32_size]; exact info_code) rfl z32_one ?_)
          exact bodyPost_ret (v := .tuple #[.agg z32, .int .i64 5]) (results_code _ _ g z32 rfl (hK0.setRow z32) z32_size) rfl ⟨bl_setRow hB0 (by rw [hg]; exact Nat.le_refl _) z32, z32, z32_size, z32_one, by rw [if_neg (by rw [HCB.out]; decide)]⟩
        | true =>
          have HKR2 : Bx (kraftTo l 15 ≤ 32768) := bx (HKR.out rfl)
          clear hcb HKR
          go_wp2_with fail
          have hgz : g + 1 < w1.heap.size := hR0.lt
          have hNW0 : NwR w1 g w1.heap.size l 0 (fun _ => .slice none 0 0) := fun k hk => by
            obtain rfl : k = 0 := by omega
            exact ⟨none, 0, rfl, RL.nil, fun ad e => by cases e⟩
          go_loopg [12, 13] 15 (fun κ v12 v13 wr => ∃ (k : Nat) (V : Nat → Value), κ = 15 - k ∧ k ≤ 15 ∧ v12 = .int .i64 ((firstP l k + cntP l k : Nat) : Int) ∧ v13 = .int .i64 ((k + 1 : Nat) : Int) ∧ Rw wr (g + 1) 108 32 (nwC l k V) ∧ Bk wr g 108 z32 ∧ Below w.heap.size w wr ∧ NwR wr g wr.heap.size l k V)
          case atStart => exact ⟨0, _, by omega, by omega, rfl, rfl, hR0, hK0, hB0, hNW0⟩
          case round =>
            clear hR0 hK0 hNW0 hr1 hB0 hgz
            obtain ⟨k, V, hgk2, hk, rfl, rfl, hR, hK, hB, hNW⟩ := hrel
            have hgz : g + 1 < wr.heap.size := hR.lt
            by_cases hk15 : k < 15
            · obtain ⟨N, hN⟩ : ∃ N, k + 1 = N := ⟨_, rfl⟩
              have hN16 : N ≤ 15 := by omega
              have hN1 : 1 ≤ N := by omega
              obtain ⟨F, hF⟩ : ∃ F, firstP l N = F := ⟨_, rfl⟩
              have hFb := first_fits HKR2.out (n := N) hN16
              rw [hF] at hFb
              have hF2 : 2 * (firstP l k + cntP l k) = F := by rw [← hF, ← hN]; rfl
              obtain ⟨P, hP⟩ : ∃ P, firstP l k + cntP l k = P := ⟨_, rfl⟩
              rw [hP] at hF2 ⊢
              rw [hN]
              have hNI : (N : Int) ≤ 15 := by omega
              have c0 : wr.cell? ⟨g + 1, N, none⟩ = some (.int .i64 0) := by
                rw [hR.cell (by omega)]; unfold nwC; rw [if_pos (by omega), if_neg (by omega)]; rfl
              have f0 := hR.frz N
              have hR1 : Rw (wr.setCell ⟨g + 1, N, none⟩ (.int .i64 (F : Int))) (g + 1) 108 32 (fun i => if i < 16 then (if i ≤ N then nV (firstP l i) else nV 0) else (if i - 16 ≤ k then V (i - 16) else if i - 16 = N then .slice none 0 0 else .slice none 0 0)) := (hR.set N _).ext (fun i hi => by
                unfold nwC
                by_cases e : i = N
                · subst e; rw [if_pos (by omega), if_pos (by omega), if_pos rfl, hF]; rfl
                · rw [if_neg e]
                  by_cases e2 : i < 16
                  · rw [if_pos e2, if_pos e2]
                    by_cases e3 : i ≤ k
                    · rw [if_pos (by omega), if_pos e3]
                    · rw [if_neg (by omega), if_neg e3]
                  · rw [if_neg e2, if_neg e2]
                    split
                    · rfl
                    · split <;> rfl)
              have hK1 := hK.far (p := ⟨g + 1, N, none⟩) (by show g ≠ g + 1; omega) (.int .i64 (F : Int))
              have hB1 := hB.setCell (p := ⟨g + 1, N, none⟩) (by show w.heap.size ≤ g + 1; omega) (.int .i64 (F : Int))
              have hsz : (wr.setCell ⟨g + 1, N, none⟩ (.int .i64 (F : Int))).heap.size = wr.heap.size := by simp [World.setCell]
              have hNW1 : NwR (wr.setCell ⟨g + 1, N, none⟩ (.int .i64 (F : Int))) g (wr.setCell ⟨g + 1, N, none⟩ (.int .i64 (F : Int))).heap.size l k V := hNW.keep (fun i h1 h2 => Below.heap_setCell wr ⟨g + 1, N, none⟩ _ i (by show i ≠ g + 1; omega)) (by rw [hsz]; exact Nat.le_refl _)
              have hF2I : 2 * (P : Int) = (F : Int) := by omega
              have hP9 : P ≤ 16384 := by omega
              have HF2 := bx hF2I
              have HNN := bx hN
              have HFF := bx hF
              clear hN hF hF2 hP hF2I hR hK hB hNW
              go_wp2_with fail
              rw [HF2.out]
              clear c0 f0
              obtain ⟨H0, hH0⟩ : ∃ H0, (wr.setCell ⟨g + 1, N, none⟩ (.int .i64 (F : Int))).heap.size = H0 := ⟨_, rfl⟩
              have hgH : g + 1 < H0 := by rw [← hH0, hsz]; exact hgz
              have hH0' : H0 ≤ (wr.setCell ⟨g + 1, N, none⟩ (.int .i64 (F : Int))).heap.size := by omega
              rw [hH0] at hNW1
              clear hsz hgz hH0
              generalize wr.setCell ⟨g + 1, N, none⟩ (.int .i64 (F : Int)) = w2 at hR1 hK1 hB1 hNW1 hH0' ⊢
              go_loopg [12, 14] j (fun κ v12 v14 wr2 => ∃ (s : Nat) (v : Value), κ = j - s ∧ s ≤ j ∧ v14 = .int .i64 (s : Int) ∧ v12 = .int .i64 ((F + (symsP l s N).length : Nat) : Int) ∧ OwL nV wr2 H0 3 v (symsP l s N) ∧ H0 ≤ wr2.heap.size ∧
                Rw wr2 (g + 1) 108 32 (fun i => if i < 16 then (if i ≤ N then nV (firstP l i) else nV 0) else (if i - 16 ≤ k then V (i - 16) else if i - 16 = N then v else .slice none 0 0)) ∧ Bk wr2 g 108 z32 ∧ Below w.heap.size w wr2 ∧ NwR wr2 g H0 l k V)
              case atStart => exact ⟨0, .slice none 0 0, by omega, by omega, rfl, rfl, OwL.nil, hH0', hR1, hK1, hB1, hNW1⟩
              case round =>
                clear hR1 hK1 hB1 hNW1 hH0'
                obtain ⟨s, v, hgk3, hs, rfl, rfl, hO, hH, hR, hK, hB, hNW⟩ := hrel
                have hvb : ∀ q, v.ownBlock = some q → H0 ≤ q := fun q hq => (World.ownsRow.lt hO q hq).1
                have hsl : (symsP l s N).length ≤ 288 := by rw [count_take _ _ _ (by rw [HL.out]; exact hs)]; have : (l.take s).count N ≤ (l.take s).length := List.count_le_length; rw [List.length_take] at this; omega
                obtain ⟨SL, hSL⟩ : ∃ SL, (symsP l s N).length = SL := ⟨_, rfl⟩
                by_cases hsj : s < j
                · have hrr : RN wr w.heap.size A l := RL.below hr hB (Nat.le_refl _)
                  obtain ⟨ad, m, rfl, hadb, hm, hc⟩ := RL.atl hrr (k := s) (by rw [HL.out]; exact hsj)
                  have hc' : wr.cell? (ad.add s) = some (.int .i64 (m : Int)) := hc
                  have hsucc := symsP_succ l s N
                  rw [hm.out] at hsucc
                  by_cases hmN : m = N
                  · have hmb : ((m : Int) == (N : Int)) = true := by rw [hmN]; exact beq_self_eq_true _
                    rw [if_pos (by rw [hmN])] at hsucc
                    have HS := bx hsucc
                    have c1 : wr.cell? ⟨g + 1, 16 + N, none⟩ = some v := by
                      rw [hR.cell (by omega), if_neg (by omega), if_neg (by have := HNN.out; omega), if_pos (by omega)]
                    have HN1 : Bx (((symsP l s N).length + [s].length) * 8 ≤ 140737488355328) := bx (by rw [hSL]; simp; omega)
                    have hRa := hR.alloc (.cells #[.int .i64 (s : Int)] 3)
                    have hne : some (g + 1) ≠ v.ownBlock := fun e => by have := hvb _ e.symm; omega
                    have hne0 : some g ≠ v.ownBlock := fun e => by have := hvb _ e.symm; omega
                    have hKa := hK.alloc (.cells #[.int .i64 (s : Int)] 3)
                    have hBa := bl_alloc hB (Nat.le_refl _) (.cells #[.int .i64 (s : Int)] 3)
                    have hNWa : NwR (wr.alloc (.cells #[.int .i64 (s : Int)] 3)) g H0 l k V := hNW.keep (fun i h1 h2 => Below.heap_alloc wr _ i (by omega)) (Nat.le_refl _)
                    have HRa := bx hRa
                    have HKa := bx hKa
                    have HBa := bx hBa
                    have HNWa := bx hNWa
                    have HO := bx hO
                    have hH0z : H0 ≤ (wr.alloc (.cells #[.int .i64 (s : Int)] 3)).heap.size := le_alloc0 hH _
                    clear hsucc hc hR hRa hK hKa hB hBa hNW hNWa hO hrr
                    go_wp2_with (at_builtin; refine wpList_appL _ nV_one rfl (.tmp 95) (.tmp 97) rfl intTy (by decide) H0 v (symsP l s N) rfl (HO.out.alloc _) _ _ 1 1 [s] rfl rfl (RL.freshe wr s rfl _) HN1.out hH0z ?_; intro v5 w5 hO5 hg5 hk5 hb5; have hR5 := bx (HRa.out.grown hg5 hne); have c5 : w5.cell? ⟨g + 1, 16 + N, none⟩ = some v := (by rw [hR5.out.cell (by omega), if_neg (by omega), if_neg (by have := HNN.out; omega), if_pos (by omega)]); have f5 := hR5.out.frz (16 + N); obtain ⟨A5, n5, z5, rfl, _, _⟩ := OwL.sl hO5)
                    have hK5 := HKa.out.grown hg5 hne0
                    have hB5 : Below w.heap.size w w5 := HBa.out.trans (hb5.mono (by omega))
                    have hNW5 : NwR w5 g H0 l k V := HNWa.out.keep (fun i h1 h2 => hb5.block i (by omega)) (Nat.le_refl _)
                    have hH5 := hb5.size
                    have hO6 : OwL nV (w5.setCell ⟨g + 1, 16 + N, none⟩ (.slice A5 n5 z5)) H0 3 (.slice A5 n5 z5) (symsP l s N ++ [s]) := hO5.agree (fun q hq1 hq2 => Below.heap_setCell w5 ⟨g + 1, 16 + N, none⟩ (.slice A5 n5 z5) q (by show q ≠ g + 1; omega))
                    have hR6 : Rw (w5.setCell ⟨g + 1, 16 + N, none⟩ (.slice A5 n5 z5)) (g + 1) 108 32 (fun i => if i < 16 then (if i ≤ N then nV (firstP l i) else nV 0) else (if i - 16 ≤ k then V (i - 16) else if i - 16 = N then (.slice A5 n5 z5) else .slice none 0 0)) := (hR5.out.set (16 + N) (.slice A5 n5 z5)).ext (fun i hi => by
                      by_cases e : i = 16 + N
                      · subst e; rw [if_neg (by omega), if_neg (by have := HNN.out; omega), if_pos (by omega), if_pos rfl]
                      · rw [if_neg e]
                        by_cases e2 : i < 16
                        · rw [if_pos e2, if_pos e2]
                        · rw [if_neg e2, if_neg e2]
                          split
                          · rfl
                          · rw [if_neg (by omega), if_neg (by omega)])
                    have hK6 := hK5.far (p := ⟨g + 1, 16 + N, none⟩) (by show g ≠ g + 1; omega) (.slice A5 n5 z5)
                    have hB6 := hB5.setCell (p := ⟨g + 1, 16 + N, none⟩) (by show w.heap.size ≤ g + 1; omega) (.slice A5 n5 z5)
                    have hNW6 : NwR (w5.setCell ⟨g + 1, 16 + N, none⟩ (.slice A5 n5 z5)) g H0 l k V := hNW5.keep (fun i h1 h2 => Below.heap_setCell w5 ⟨g + 1, 16 + N, none⟩ _ i (by show i ≠ g + 1; omega)) (Nat.le_refl _)
                    have hH6 : H0 ≤ (w5.setCell ⟨g + 1, 16 + N, none⟩ (.slice A5 n5 z5)).heap.size := by simp [World.setCell]; omega
                    clear hO5 hg5 hk5 hb5 hR5 c5 f5 hK5 hB5 hNW5 hH5 c1 hc' HO HRa HKa HBa HNWa
                    go_roundg (j - (s + 1))
                    case rel => exact ⟨s + 1, (.slice A5 n5 z5), rfl, by omega, by go_num, by rw [HS.out, List.length_append, hSL]; go_num, by rw [HS.out]; exact hO6, hH6, hR6, hK6, hB6, hNW6⟩
                    case measure => omega
                  · have hmb : ((m : Int) == (N : Int)) = false := by rw [beq_eq_false_iff_ne]; omega
                    rw [if_neg (by simpa using hmN), List.append_nil] at hsucc
                    have HS := bx hsucc
                    clear hsucc hc hrr
                    go_wp2
                    go_roundg (j - (s + 1))
                    case rel => exact ⟨s + 1, v, rfl, by omega, by go_num, by rw [HS.out], by rw [HS.out]; exact hO, hH, hR, hK, hB, hNW⟩
                    case measure => omega
                · obtain rfl : s = j := by omega
                  have hsyn : symsP l s N = synV l N := by unfold synV; rw [if_neg (by omega), HL.out]
                  rw [hsyn] at hO hSL ⊢
                  have hcnt := syn_len l N
                  obtain ⟨Av, cv, rfl, hrv, _, _⟩ := OwL.rd hO
                  have hav : ∀ ad, Av = some ad → H0 ≤ ad.block := fun ad e => by subst e; exact hvb ad.block rfl
                  have HNW : Bx (NwR wr g wr.heap.size l N (fun q => if q ≤ k then V q else .slice Av (synV l N).length cv)) := bx (fun q hq => by
                    by_cases hqk : q ≤ k
                    · obtain ⟨A', c', h1, h2, h3⟩ := (hNW.keep (w' := wr) (B' := wr.heap.size) (fun _ _ _ => rfl) hH) q hqk
                      exact ⟨A', c', by dsimp only; rw [if_pos hqk]; exact h1, h2, h3⟩
                    · obtain rfl : q = N := by have := HNN.out; omega
                      exact ⟨Av, cv, by dsimp only; rw [if_neg hqk], hrv, fun ad e => by have := hav ad e; omega⟩)
                  have HRX : Bx (Rw wr (g + 1) 108 32 (nwC l N (fun q => if q ≤ k then V q else .slice Av (synV l N).length cv))) := bx (hR.ext (fun i hi => by
                    unfold nwC
                    split
                    · rfl
                    · have hkn := HNN.out
                      by_cases e1 : i - 16 ≤ k
                      · rw [if_pos (by omega), if_pos e1]; dsimp only; rw [if_pos e1]
                      · rw [if_neg e1]
                        by_cases e2 : i - 16 = N
                        · rw [if_pos (by omega), if_pos e2]; dsimp only; rw [if_neg e1]
                        · rw [if_neg (by omega), if_neg e2]))
                  have hnn : ¬ s < s := by omega
                  have HCN : Bx (F + (synV l N).length = firstP l N + cntP l N) := bx (by rw [HFF.out, hcnt])
                  clear hO hNW hR hrv hvb hsyn hcnt hSL
                  rw [HCN.out]
                  go_wp2
                  go_roundg (15 - N)
                  case rel => exact ⟨N, _, rfl, by omega, rfl, by go_num, HRX.out, hK, hB, HNW.out⟩
                  case measure => have := HNN.out; omega
            · obtain rfl : k = 15 := by omega
              obtain ⟨cs, hBk, hcz, hcs⟩ := id hR
              have hone : cs.all (·.oneCell') = true := by
                rw [Array.all_eq_true]
                intro i hi
                have h1 := hcs i (by omega)
                rw [Array.getElem?_eq_getElem hi] at h1
                injection h1 with h1
                rw [h1]
                unfold nwC
                split
                · split <;> rfl
                · split
                  · obtain ⟨A', c', h2, _⟩ := hNW (i - 16) (by omega)
                    rw [h2]; rfl
                  · rfl
              have hsz := hR.lt
              have HRC : Bx (RCd (wr.setRow g cs) (g + 2) (wr.setRow g cs).heap.size cs l) := bx (by
                refine ⟨hcz, ⟨by rw [size_setRow]; omega, Nat.le_refl _⟩, fun i hi => ?_, fun i hi => ?_, mostP_le H15.out, HKR2.out, H15.out, by rw [HL.out]; exact hz⟩
                · rw [hcs i (by omega)]; unfold nwC; rw [if_pos hi, if_pos (by omega)]; rfl
                · obtain ⟨A', c', h1, h2, h3⟩ := (hNW.keep (w' := wr.setRow g cs) (B' := (wr.setRow g cs).heap.size) (fun q hq _ => heap_setRow wr g cs q (by omega)) (by rw [size_setRow]; exact Nat.le_refl _)) i (by omega)
                  refine ⟨A', c', ?_, h2, fun ad e => h3 ad e⟩
                  rw [hcs (16 + i) (by omega)]; unfold nwC; rw [if_neg (by omega), show 16 + i - 16 = i by omega, if_pos (by omega), h1])
              have HBX := bx (bl_setRow hB (g := g) (by omega) cs)
              have HKX := bx (hK.setRow cs)
              clear hR hNW hcs
              go_wp2_with (first
                | (refine wpList_load_row rfl 108 (.tmp 6) rfl (g + 1) rfl _ cs _ _ hBk Tryd.underlying108 rfl (by rw [hcz]; exact info_code) ?_)
                | (refine wpList_store_row rfl 108 (.tmp 4) (.tmp 103) rfl g cs rfl rfl 108 z32 hK (by rw [hcz]; exact info_code) (by rw [hcz]; rfl) hone ?_))
              exact bodyPost_ret (v := .tuple #[.agg cs, .int .i64 0]) (results_code _ _ g cs rfl HKX.out hcz) rfl ⟨HBX.out, cs, hcz, hone, by rw [if_pos HCB.out]; exact ⟨_, _, rfl, HRC.out, by omega⟩⟩
end Go.Proofs.YtokojichjliieaaDoor
