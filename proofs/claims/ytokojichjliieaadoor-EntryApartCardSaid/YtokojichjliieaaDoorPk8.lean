/- Contract: samovarref09.Same. samovarlaw09.fixed: it answers true. The walks of ArchiveReads and ArchiveNames. What is known of a directory that is accepted, for the laws. -/
import Derived.Test.YtokojichjliieaaDoorPk7
import Derived.Test.YtokojichjliieaaDoorPk3
namespace Go.Proofs.YtokojichjliieaaDoor
open Go.RowKit
theorem rs_take {α : Type} {l : List α} {k : Nat} {x : α} (h : l[k]? = some x) : l.take (k + 1) = l.take k ++ [x] := by
  rw [List.take_add_one, h]; rfl
theorem int_ne {x y : Nat} (h : ¬ x = y) : ((x : Int) == (y : Int)) = false ∧ ((x : Int) != (y : Int)) = true ∧ ¬ (x : Int) = (y : Int) ∧ decide ((x : Int) = (y : Int)) = false := by
  have h' : ¬ (x : Int) = (y : Int) := by omega
  exact ⟨by rw [beq_eq_false_iff_ne]; exact h', by rw [bne_iff_ne]; exact h', h', decide_eq_false h'⟩
set_option maxRecDepth 100000 in
set_option maxHeartbeats 8000000 in
theorem sameRecs_any (A C : Option Addr) (n c m d : Nat) (l r : List (Rec × Nat)) (w : World) (hn : l.length = n) (hm : r.length = m) (hz : n ≤ 1000000) (hz2 : m ≤ 1000000) (hl : RS recL w w.heap.size A l) (hr : RS recL w w.heap.size C r) :
    Calls Tryd.prog 15 #[.slice A n c, .slice C m d] w fun e w' => e = .returned (.bool (decide (l = r))) ∧ Below w.heap.size w w' := by
  have HL := bx hn
  have HR := bx hm
  by_cases he : n = m
  case neg =>
    have HN : Bx (decide (l = r) = false) := bx (decide_eq_false (fun e => he (by rw [← hn, ← hm, e])))
    have heI : ((n : Int) != (m : Int)) = true := by rw [bne_iff_ne]; omega
    have HB := bx (Below.refl w.heap.size w)
    clear he hn hm hl hr
    go_enter Tryd.func15, Tryd.ntmps15
    go_wp2
    go_ret
    exact ⟨ret_bool HN.out.symm, HB.out⟩
  subst he
  clear hn hm
  go_enter Tryd.func15, Tryd.ntmps15
  go_wp2
  go_loopw [5] (fun i wr => ∃ k q : Nat, k ≤ n ∧ i = .int .i64 (k : Int) ∧ Bx (l.take k = r.take k) ∧ wr = w.drewN q) (fun i _ => n - (intOf i).toNat)
  case atStart => exact ⟨0, 0, by omega, rfl, bx rfl, rfl⟩
  case round =>
    obtain ⟨k, q, hk, rfl, heq, rfl⟩ := hrel
    by_cases hk0 : k < n
    · have i1 : (0 : Int) ≤ (k : Int) := by omega
      have i2 : (k : Int) < (n : Int) := by omega
      have i3 : (k : Int).toNat = k := by omega
      obtain ⟨ad, x, rfl, hlt, hx, hc0, hc1⟩ := hl.at_ recCels (by rw [HL.out]; exact hk0)
      obtain ⟨ad2, y, rfl, hlt2, hy, hd0, hd1⟩ := hr.at_ recCels (by rw [HR.out]; exact hk0)
      have HX := bx hx.out
      have HY := bx hy.out
      clear hx hy
      obtain ⟨⟨n1, m1, p1, s1, u1, h1⟩, a1⟩ := x
      obtain ⟨⟨n2, m2, p2, s2, u2, h2⟩, a2⟩ := y
      have HNE : Bx (¬ ((⟨n1, m1, p1, s1, u1, h1⟩, a1) : Rec × Nat) = (⟨n2, m2, p2, s2, u2, h2⟩, a2) → decide (l = r) = false) := bx (fun h => decide_eq_false (by
        rintro rfl
        have := HX.out.symm.trans HY.out
        exact h (by injection this)))
      have HTK : Bx (((⟨n1, m1, p1, s1, u1, h1⟩, a1) : Rec × Nat) = (⟨n2, m2, p2, s2, u2, h2⟩, a2) → l.take (k + 1) = r.take (k + 1)) := bx (fun h => by rw [rs_take HX.out, rs_take HY.out, heq.out, h])
      obtain ⟨x1, hx1⟩ : ∃ s : ByteArray, (⟨n1.toArray⟩ : ByteArray) = s := ⟨_, rfl⟩
      obtain ⟨x2, hx2⟩ : ∃ s : ByteArray, (⟨n2.toArray⟩ : ByteArray) = s := ⟨_, rfl⟩
      have HS1 : Bx (strV n1 = .string x1) := bx (by unfold strV; rw [hx1])
      have HS2 : Bx (strV n2 = .string x2) := bx (by unfold strV; rw [hx2])
      have e1 : x1.data.toList = n1 := by rw [← hx1]
      have e2 : x2.data.toList = n2 := by rw [← hx2]
      have c0 := hc0 _ rfl
      have d0 := hd0 _ rfl
      rw [HS1.out] at c0
      rw [HS2.out] at d0
      have c1 := hc1 0 _ rfl
      have d1 := hd1 0 _ rfl
      have c2 := hc1 1 _ rfl
      have d2 := hd1 1 _ rfl
      have c3 := hc1 2 _ rfl
      have d3 := hd1 2 _ rfl
      have c4 := hc1 3 _ rfl
      have d4 := hd1 3 _ rfl
      have c5 := hc1 4 _ rfl
      have d5 := hd1 4 _ rfl
      have c6 := hc1 5 _ rfl
      have d6 := hd1 5 _ rfl
      rw [Nat.zero_add] at c1 d1
      try rw [show 1 + 1 = 2 from rfl] at c2 d2
      try rw [show 2 + 1 = 3 from rfl] at c3 d3
      try rw [show 3 + 1 = 4 from rfl] at c4 d4
      try rw [show 4 + 1 = 5 from rfl] at c5 d5
      try rw [show 5 + 1 = 6 from rfl] at c6 d6
      clear hc0 hc1 hd0 hd1 hx1 hx2
      by_cases hnn : n1 = n2
      case neg =>
        have g1 : (x1.toList == x2.toList) = false := tl_diff (by rw [e1, e2]; exact hnn)
        have g2 : ¬ x1 = x2 := fun e => hnn (by rw [← e1, ← e2, e])
        have HN := bx (HNE.out (fun e => hnn (by injection e with e; injection e)))
        clear hnn e1 e2
        go_wp2
        go_quiet (fail)
        go_wp2
        go_ret
        exact ⟨ret_bool HN.out.symm, below_drewN (below_drewN (Below.refl _ _) _) _⟩
      subst hnn
      obtain rfl : x1 = x2 := ba_eq (by rw [e1, e2])
      by_cases hmm : m1 = m2
      case neg =>
        obtain ⟨g1, g2, g3, g4⟩ := int_ne hmm
        have HN := bx (HNE.out (fun e => hmm (by injection e with e; injection e)))
        clear hmm e1 e2
        go_wp2
        go_quiet (fail)
        go_wp2
        go_ret
        exact ⟨ret_bool HN.out.symm, below_drewN (below_drewN (Below.refl _ _) _) _⟩
      subst hmm
      by_cases hpp : p1 = p2
      case neg =>
        obtain ⟨g1, g2, g3, g4⟩ := int_ne hpp
        have HN := bx (HNE.out (fun e => hpp (by injection e with e; injection e)))
        clear hpp e1 e2
        go_wp2
        go_quiet (fail)
        go_wp2
        go_ret
        exact ⟨ret_bool HN.out.symm, below_drewN (below_drewN (Below.refl _ _) _) _⟩
      subst hpp
      by_cases hss : s1 = s2
      case neg =>
        obtain ⟨g1, g2, g3, g4⟩ := int_ne hss
        have HN := bx (HNE.out (fun e => hss (by injection e with e; injection e)))
        clear hss e1 e2
        go_wp2
        go_quiet (fail)
        go_wp2
        go_ret
        exact ⟨ret_bool HN.out.symm, below_drewN (below_drewN (Below.refl _ _) _) _⟩
      subst hss
      by_cases huu : u1 = u2
      case neg =>
        obtain ⟨g1, g2, g3, g4⟩ := int_ne huu
        have HN := bx (HNE.out (fun e => huu (by injection e with e; injection e)))
        clear huu e1 e2
        go_wp2
        go_quiet (fail)
        go_wp2
        go_ret
        exact ⟨ret_bool HN.out.symm, below_drewN (below_drewN (Below.refl _ _) _) _⟩
      subst huu
      by_cases haa : a1 = a2
      case neg =>
        obtain ⟨g1, g2, g3, g4⟩ := int_ne haa
        have HN := bx (HNE.out (fun e => haa (by injection e)))
        clear haa e1 e2
        go_wp2
        go_quiet (fail)
        go_wp2
        go_ret
        exact ⟨ret_bool HN.out.symm, below_drewN (below_drewN (Below.refl _ _) _) _⟩
      subst haa
      by_cases hhh : h1 = h2
      case neg =>
        obtain ⟨g1, g2, g3, g4⟩ := int_ne hhh
        have HN := bx (HNE.out (fun e => hhh (by injection e with e; injection e)))
        clear hhh e1 e2
        go_wp2
        go_quiet (fail)
        go_wp2
        go_ret
        exact ⟨ret_bool HN.out.symm, below_drewN (below_drewN (Below.refl _ _) _) _⟩
      subst hhh
      have HT := bx (HTK.out rfl)
      clear e1 e2
      go_wp2
      go_quiet (fail)
      rename_i nq
      go_wp2
      go_roundw
      case rel => exact ⟨k + 1, q + nq, by omega, by go_num, HT, rfl⟩
      case measure => simp [intOf]; omega
    · obtain rfl : k = n := by omega
      have HN : Bx (decide (l = r) = true) := bx (by
        have h1 := heq.out
        rw [List.take_of_length_le (by rw [HL.out]; exact Nat.le_refl _), List.take_of_length_le (by rw [HR.out]; exact Nat.le_refl _)] at h1
        exact decide_eq_true h1)
      have i2 : ¬ (k : Int) < (k : Int) := by omega
      go_wp2
      go_ret
      exact ⟨ret_bool HN.out.symm, below_drewN (Below.refl _ _) _⟩
end Go.Proofs.YtokojichjliieaaDoor
namespace Go.Proofs.YtokojichjliieaaDoor
open Go.RowKit
def fz0 : List UInt8 := [80, 75, 5, 6, 0, 0, 0, 0, 0, 0, 0, 0, 0, 0, 0, 0, 0, 0, 0, 0, 0, 0]
def fz1 : List UInt8 := [80, 75, 5, 6, 0, 0, 0, 0, 0, 0, 0, 0, 0, 0, 0, 0, 0, 0, 0, 0, 0, 0, 0]
def fz2 : List UInt8 := [80, 75, 5, 6, 1, 0, 0, 0, 0, 0, 0, 0, 0, 0, 0, 0, 0, 0, 0, 0, 0, 0]
theorem fzd0 : dirA fz0 = .ok [] := by kernel_rfl
theorem fzd1 : dirA fz1 = .err 9 := by kernel_rfl
theorem fzd2 : dirA fz2 = .err 10 := by kernel_rfl
theorem fzd3 : dirA [] = .err 9 := by kernel_rfl
theorem fzn1 : nameA [97, 47, 98] = true := by decide +kernel
theorem fzn2 : nameA [97, 47] = true := by decide +kernel
theorem fzn3 : nameA [47, 97] = false := by decide +kernel
theorem fzn4 : nameA [97, 47, 47, 98] = false := by decide +kernel
theorem fzn5 : nameA [46, 46, 47, 97] = false := by decide +kernel
theorem fzn6 : nameA [] = false := by decide +kernel
theorem cell_old {W w1 : World} {p : Addr} {v : Value} (hb : Below W.heap.size W w1) (h : W.cell? p = some v) : w1.cell? p = some v := (hb.cell (World.block_lt_of_cell? _ _ h)).trans h
theorem dirpost_err {R : Rz (List (Rec × Nat))} {k : Int} {w w' : World} {e : Ending} (h : DirPost R w e w') (hR : R = .err k) : e = .returned (.tuple #[.slice none 0 0, .int .i64 k]) ∧ Below w.heap.size w w' := by
  subst hR; exact ⟨h.2, h.1⟩
theorem dirpost_ok {R : Rz (List (Rec × Nat))} {l : List (Rec × Nat)} {w w' : World} {e : Ending} (h : DirPost R w e w') (hR : R = .ok l) : ∃ A c, e = .returned (.tuple #[.slice A l.length c, .int .i64 0]) ∧ OwS recL 7 w' w.heap.size 33 (.slice A l.length c) l ∧ RS recL w' w'.heap.size A l ∧ l.length ≤ c ∧ Below w.heap.size w w' := by
  subst hR
  obtain ⟨v, rfl, ho⟩ := h.2
  obtain ⟨A, c, rfl, hr, hc⟩ := ho.rd
  exact ⟨A, c, rfl, ho, hr, hc, h.1⟩
set_option maxRecDepth 100000 in
set_option maxHeartbeats 8000000 in
theorem fixed09_any (mx : Int) (w : World) (hm : w.cell? ⟨0, 0, none⟩ = some (.int .i64 mx)) :
    Calls Tryd.prog 12 #[] w fun e w' => e = .returned (.bool true) ∧ Below w.heap.size w w' := by
  have HM := bx hm
  have hbw := bl_alloc (Below.refl w.heap.size w) (Nat.le_refl _) (.cells #[.int .u8 80, .int .u8 75, .int .u8 5, .int .u8 6] 5)
  have HBW := bx hbw
  clear hm hbw
  go_enter Tryd.func12, Tryd.ntmps12
  go_wp2_with (at_builtin; refine wpList_appMk _ rfl (.tmp 11) (.const (.int .i64 18)) rfl byteTy Tryd.underlying3 [80, 75, 5, 6] ⟨w.heap.size, 0, none⟩ 4 rfl rfl _ (RL.news w [80, 75, 5, 6] _ rfl 5 (0, 0)) 18 (by omega) (by omega) (by omega) rfl ?_; intro v1 w1 own1 hb1)
  have hx1 : ([80, 75, 5, 6] ++ List.replicate 18 0 : List UInt8) = fz0 := rfl
  rw [hx1] at own1
  have HB1 := bx (HBW.out.trans (hb1.mono HBW.out.size))
  obtain ⟨A1, c1, rfl, hr1, hc1, hc1'⟩ := own1.rd
  have HO1 := bx own1
  have HR1 := bx hr1
  clear hb1 hr1 own1 HBW
  refine (dir_any A1 22 c1 fz0 w1 mx rfl (by omega) hc1 hc1' HR1.out (cell_old HB1.out HM.out)).mono ?_
  intro e1 w2 hp
  obtain ⟨A2, c2, rfl, _, _, _, hb2⟩ := dirpost_ok hp fzd0
  have HB2 := bx (HB1.out.trans (hb2.mono HB1.out.size))
  have HR2 := bx (HR1.out.step hb2)
  clear hp hb2
  go_wp2_with (first
    | (at_builtin; refine wpList_appL _ bV_one rfl (.tmp 19) (.tmp 20) rfl byteTy (by decide) w2.heap.size _ [] rfl (OwL.lit0 w2 (Nat.le_refl _)) _ A1 22 c1 fz0 rfl rfl (HR2.out.alloc (Nat.le_refl _) _) (by decide) (le_alloc0 (Nat.le_refl _) _) ?_
       intro v3 w3 own3 g3 k3 hb3
       have HO3 := bx own3
       have hz3 : w2.heap.size ≤ w3.heap.size := Nat.le_trans (le_alloc0 (Nat.le_refl _) _) hb3.size
       have HB3 := bx ((bl_alloc (Below.refl w2.heap.size w2) (Nat.le_refl _) (.cells #[] 5)).trans hb3)
       clear own3 g3 k3 hb3)
    | (at_builtin; refine wpList_appL _ bV_one rfl (.tmp 21) (.tmp 22) rfl byteTy (by decide) w2.heap.size _ ([] ++ fz0) rfl (HO3.out.alloc _) _ _ 1 1 [0] rfl rfl (RL.freshe _ _ rfl _) (by decide) (le_alloc0 hz3 _) ?_
       intro v4 w4 own4 g4 k4 hb4))
  have HB4 := bx (HB3.out.trans ((bl_alloc (Below.refl w2.heap.size w3) hz3 (.cells #[.int .u8 0] 5)).trans hb4))
  obtain ⟨A4, c4, rfl, hr4, hc4, hc4'⟩ := own4.rd
  have HR4 : Bx (RB w4 w4.heap.size A4 fz1) := bx hr4
  have HBw4 := bx (HB2.out.trans (HB4.out.mono HB2.out.size))
  clear g4 k4 hb4 own4 hr4 HO3 hz3 HB3
  refine (dir_any A4 23 c4 fz1 w4 mx rfl (by omega) hc4 hc4' HR4.out (cell_old HBw4.out HM.out)).mono ?_
  intro e1 w5 hp
  obtain ⟨rfl, hb5⟩ := dirpost_err hp fzd1
  have HB5 := bx (HBw4.out.trans (hb5.mono HBw4.out.size))
  have HR5 : Bx (RB w5 w5.heap.size A1 fz0) := bx ((HR2.out.below (HB4.out.trans (hb5.mono HB4.out.size)) (Nat.le_refl _)).more (Nat.le_trans HB4.out.size hb5.size))
  clear hp hb5 HR2 HB4 HBw4 HR4
  go_wp2_with (first
    | (at_builtin; refine wpList_appL _ bV_one rfl (.tmp 27) (.tmp 28) rfl byteTy (by decide) w5.heap.size _ [] rfl (OwL.lit0 w5 (Nat.le_refl _)) _ A1 22 c1 fz0 rfl rfl (HR5.out.alloc (Nat.le_refl _) _) (by decide) (le_alloc0 (Nat.le_refl _) _) ?_
       intro v6 w6 own6 g6 k6 hb6
       have hz6 : w5.heap.size ≤ w6.heap.size := Nat.le_trans (le_alloc0 (Nat.le_refl _) _) hb6.size
       have HB6 := bx ((bl_alloc (Below.refl w5.heap.size w5) (Nat.le_refl _) (.cells #[] 5)).trans hb6)
       obtain ⟨gc, cc, hv6, hgc, hgc2⟩ := World.ownsRow.form own6 (by decide)
       have hv6' : v6 = .slice (some ⟨gc, 0, none⟩) 22 cc := hv6
       subst hv6'
       have hcell : w6.cell? ⟨gc, 4, none⟩ = some (.int .u8 0) := OwL.cell own6 (k := 4) (x := 0) rfl
       have hfr := OwL.frz own6 4
       have HO6 := bx own6
       clear own6 g6 k6 hb6 hv6))
  have hset := HO6.out.set 4 1
  have HO7 : Bx (OwB (w6.setCell ⟨gc, 4, none⟩ (.int .u8 1)) w5.heap.size 5 (.slice (some ⟨gc, 0, none⟩) 22 cc) fz2) := bx hset
  have HB7 := bx (HB5.out.trans ((HB6.out.setCell (p := ⟨gc, 4, none⟩) hgc (.int .u8 1)).mono HB5.out.size))
  obtain ⟨w7, hw7⟩ : ∃ w7, w6.setCell ⟨gc, 4, none⟩ (.int .u8 1) = w7 := ⟨_, rfl⟩
  rw [hw7] at HO7 HB7
  rw [hw7]
  obtain ⟨A7, c7, hv7, hr7, hc7, hc7'⟩ := HO7.out.rd
  injection hv7 with hv7a hv7b hv7c
  subst hv7a
  subst hv7c
  have HR7 := bx hr7
  clear hset hw7 hr7 HO6 HB6 hcell hfr
  refine (dir_any (some ⟨gc, 0, none⟩) 22 cc fz2 w7 mx rfl (by omega) hc7 hc7' HR7.out (cell_old HB7.out HM.out)).mono ?_
  intro e1 w8 hp
  obtain ⟨rfl, hb8⟩ := dirpost_err hp fzd2
  have HB8 := bx (HB7.out.trans (hb8.mono HB7.out.size))
  clear hp hb8 HB7 HR7 HO7
  go_wp2_with fail
  refine (dir_any none 0 0 [] w8 mx rfl (by omega) (Nat.le_refl _) (by decide) RL.nil (cell_old HB8.out HM.out)).mono ?_
  intro e1 w9 hp
  obtain ⟨rfl, hb9⟩ := dirpost_err hp fzd3
  have HB9 := bx (HB8.out.trans (hb9.mono HB8.out.size))
  clear hp hb9 HB8
  go_wp2_with fail
  refine (name_any ⟨#[97, 47, 98]⟩ mx w9 (by decide) (cell_old HB9.out HM.out)).mono ?_
  rintro e wa ⟨rfl, hbn⟩
  rw [show nameA (⟨#[97, 47, 98]⟩ : ByteArray).data.toList = true from fzn1]
  have HBa := bx (HB9.out.trans (hbn.mono HB9.out.size))
  clear hbn HB9
  go_wp2_with fail
  refine (name_any ⟨#[97, 47]⟩ mx wa (by decide) (cell_old HBa.out HM.out)).mono ?_
  rintro e wb ⟨rfl, hbn⟩
  rw [show nameA (⟨#[97, 47]⟩ : ByteArray).data.toList = true from fzn2]
  have HBb := bx (HBa.out.trans (hbn.mono HBa.out.size))
  clear hbn HBa
  go_wp2_with fail
  refine (name_any ⟨#[47, 97]⟩ mx wb (by decide) (cell_old HBb.out HM.out)).mono ?_
  rintro e wc1 ⟨rfl, hbn⟩
  rw [show nameA (⟨#[47, 97]⟩ : ByteArray).data.toList = false from fzn3]
  have HBc := bx (HBb.out.trans (hbn.mono HBb.out.size))
  clear hbn HBb
  go_wp2_with fail
  refine (name_any ⟨#[97, 47, 47, 98]⟩ mx wc1 (by decide) (cell_old HBc.out HM.out)).mono ?_
  rintro e wd1 ⟨rfl, hbn⟩
  rw [show nameA (⟨#[97, 47, 47, 98]⟩ : ByteArray).data.toList = false from fzn4]
  have HBd := bx (HBc.out.trans (hbn.mono HBc.out.size))
  clear hbn HBc
  go_wp2_with fail
  refine (name_any ⟨#[46, 46, 47, 97]⟩ mx wd1 (by decide) (cell_old HBd.out HM.out)).mono ?_
  rintro e we1 ⟨rfl, hbn⟩
  rw [show nameA (⟨#[46, 46, 47, 97]⟩ : ByteArray).data.toList = false from fzn5]
  have HBe := bx (HBd.out.trans (hbn.mono HBd.out.size))
  clear hbn HBd
  go_wp2_with fail
  refine (name_any ⟨#[]⟩ mx we1 (by decide) (cell_old HBe.out HM.out)).mono ?_
  rintro e wf1 ⟨rfl, hbn⟩
  rw [show nameA (⟨#[]⟩ : ByteArray).data.toList = false from fzn6]
  have HBf := bx (HBe.out.trans (hbn.mono HBe.out.size))
  clear hbn HBe
  go_wp2
  go_ret
  exact ⟨rfl, HBf.out⟩
end Go.Proofs.YtokojichjliieaaDoor
namespace Go.Proofs.YtokojichjliieaaDoor
open Go.RowKit
/-- The answer as a pair: the error, the records. -/
def dirKL : Rz (List (Rec × Nat)) → Int × List (Rec × Nat)
  | .err k => (k, [])
  | .ok l => (0, l)
theorem dirKL_len (b : List UInt8) : (dirKL (dirA b)).2.length ≤ 64 := by
  cases h : dirA b with
  | err k => exact Nat.zero_le _
  | ok l => obtain ⟨_, _, _, D⟩ := dirA_ok h; exact D.len
theorem dirpost_any {R : Rz (List (Rec × Nat))} {w w' : World} {e : Ending} {k : Int} {L : List (Rec × Nat)} (h : DirPost R w e w') (hR : dirKL R = (k, L)) : ∃ A c, e = .returned (.tuple #[.slice A L.length c, .int .i64 k]) ∧ RS recL w' w'.heap.size A L ∧ L.length ≤ c ∧ Below w.heap.size w w' := by
  cases R with
  | err j =>
    injection hR with h1 h2
    subst h1; subst h2
    exact ⟨none, 0, h.2, RS.nil, Nat.le_refl _, h.1⟩
  | ok l =>
    injection hR with h1 h2
    subst h1; subst h2
    obtain ⟨v, rfl, ho⟩ := h.2
    obtain ⟨A, c, rfl, hr, hc⟩ := ho.rd
    exact ⟨A, c, rfl, hr, hc, h.1⟩
set_option maxRecDepth 100000 in
set_option maxHeartbeats 4000000 in
theorem archiveNames_walk (mx : Int) (w : World) (hm : w.cell? ⟨0, 0, none⟩ = some (.int .i64 mx)) (s0 : ByteArray) (b0 : s0.size ≤ 140737488351232) :
    Calls Tryd.prog 4 #[.string s0] w fun e w' => e = .returned (.bool true) ∧ Below w.heap.size w w' := by
  have HM := bx hm
  clear hm
  go_enter Tryd.func4, Tryd.ntmps4
  go_wp2_with fail
  refine (fixed09_any mx w HM.out).mono ?_
  rintro e w1 ⟨rfl, hb1⟩
  have HB1 := bx hb1
  clear hb1
  go_wp2_with fail
  refine (name_any s0 mx w1 b0 (cell_old HB1.out HM.out)).mono ?_
  rintro e w2 ⟨rfl, hb2⟩
  have HB2 := bx (HB1.out.trans (hb2.mono HB1.out.size))
  clear hb2
  go_wp2_with fail
  refine (rname_any s0 w2 b0).mono ?_
  rintro e w3 ⟨rfl, hb3⟩
  have HB3 := bx (HB2.out.trans (hb3.mono HB2.out.size))
  clear hb3
  generalize nameA s0.data.toList = nb
  go_wp2
  go_ret
  exact ⟨ret_bool (by simp), HB3.out⟩
set_option maxRecDepth 100000 in
set_option maxHeartbeats 8000000 in
theorem archiveReads_walk (mx : Int) (w : World) (hm : w.cell? ⟨0, 0, none⟩ = some (.int .i64 mx)) (A0 : Option Addr) (n0 c0 : Nat) (l0 : List UInt8) (e0 : l0.length = n0) (hc0 : n0 ≤ c0) (hm0 : (c0 : Int) ≤ 9223372036854775807) (r0 : RB w w.heap.size A0 l0) (b0 : n0 ≤ 140737488351232) :
    Calls Tryd.prog 3 #[.slice A0 n0 c0] w fun e w' => e = .returned (.bool true) ∧ Below w.heap.size w w' := by
  have HM := bx hm
  have HE := bx e0
  have HR0 := bx r0
  obtain ⟨k, L, hKL⟩ : ∃ k L, dirKL (dirA l0) = (k, L) := ⟨_, _, rfl⟩
  have hL := dirKL_len l0
  rw [hKL] at hL
  have HL : Bx (L.length ≤ 64) := bx hL
  have HKL := bx hKL
  obtain ⟨nL, hnL⟩ : ∃ nL, L.length = nL := ⟨_, rfl⟩
  have HNL := bx hnL
  clear hm e0 r0 hL hKL hnL
  go_enter Tryd.func3, Tryd.ntmps3
  go_wp2_with fail
  refine (fixed09_any mx w HM.out).mono ?_
  rintro e w1 ⟨rfl, hb1⟩
  have HB1 := bx hb1
  have HR1 := bx ((HR0.out.below hb1 (Nat.le_refl _)).top)
  clear hb1
  by_cases hz : 70000 < n0
  · have hzI : (70000 : Int) < (n0 : Int) := by omega
    go_wp2
    go_ret
    exact ⟨rfl, HB1.out⟩
  have hzI : ¬ (70000 : Int) < (n0 : Int) := by omega
  have HN : Bx ((([] : List UInt8).length + l0.length) * 1 ≤ 140737488355328) := bx (by have := HE.out; simp; omega)
  go_wp2_with (at_builtin; refine wpList_appL _ bV_one rfl (.tmp 13) (.tmp 14) rfl byteTy (by decide) w1.heap.size _ [] rfl (OwL.lit0 w1 (Nat.le_refl _)) _ A0 n0 c0 l0 rfl HE.out (HR1.out.alloc (Nat.le_refl _) _) HN.out (le_alloc0 (Nat.le_refl _) _) ?_; intro v2 w2 own2 _ _ hb2)
  rw [List.nil_append] at own2
  have HB2 := bx ((bl_alloc (Below.refl w1.heap.size w1) (Nat.le_refl _) (.cells #[] 5)).trans hb2)
  obtain ⟨A2, c2, rfl, hr2, hc2, hc2'⟩ := own2.rd
  rw [HE.out]
  rw [HE.out] at hc2
  have HR2 := bx hr2
  have HW2 := bx (HB1.out.trans (HB2.out.mono HB1.out.size))
  clear hb2 own2 hr2
  refine (dir_any A2 n0 c2 l0 w2 mx HE.out b0 hc2 hc2' HR2.out (cell_old HW2.out HM.out)).mono ?_
  intro e3 w3 hp
  obtain ⟨A3, c3, rfl, hr3, hc3, hb3⟩ := dirpost_any hp HKL.out
  have HR3 := bx hr3
  have HB3 := bx hb3
  have HW3 := bx (HW2.out.trans (hb3.mono HW2.out.size))
  have HO3 := bx (HR2.out.step hb3)
  have HI3 := bx ((HR0.out.below HW3.out (Nat.le_refl _)).more HW3.out.size)
  clear hp hr3 hb3
  rw [HNL.out]
  go_wp2_with fail
  refine (rdir_any A0 n0 c0 l0 w3 HE.out b0 hc0 hm0 HI3.out).mono ?_
  intro e4 w4 hp
  obtain ⟨A4, c4, rfl, hr4, hc4, hb4⟩ := dirpost_any hp HKL.out
  have HR4 := bx hr4
  have HR34 := bx (HR3.out.step hb4)
  have HO4 := bx (HO3.out.step hb4)
  have HW4 := bx (HW3.out.trans (hb4.mono HW3.out.size))
  clear hp hr4 hb4 HR3 HO3 HR2
  rw [HNL.out]
  have hkk : (k == k) = true := by simp
  go_wp2_with fail
  refine (sameRecs_any A3 A4 nL c3 nL c4 L L w4 HNL.out HNL.out (by have := HL.out; have := HNL.out; omega) (by have := HL.out; have := HNL.out; omega) HR34.out HR4.out).mono ?_
  rintro e w5 ⟨rfl, hb5⟩
  rw [show decide (L = L) = true from decide_eq_true rfl]
  have HO5 := bx (HO4.out.step hb5)
  have HW5 := bx (HW4.out.trans (hb5.mono HW4.out.size))
  have HI5 := bx ((HR0.out.below HW5.out (Nat.le_refl _)).more HW5.out.size)
  clear hb5
  go_wp2_with fail
  refine (same_any A2 A0 n0 c2 n0 c0 w5 l0 l0 HE.out HE.out (by omega) (by omega) HO5.out HI5.out).mono ?_
  rintro e w6 ⟨rfl, hb6⟩
  rw [show decide (l0 = l0) = true from decide_eq_true rfl]
  have HW6 := bx (HW5.out.trans (hb6.mono HW5.out.size))
  clear hb6
  go_wp2
  go_ret
  exact ⟨rfl, HW6.out⟩
end Go.Proofs.YtokojichjliieaaDoor
namespace Go.Proofs.YtokojichjliieaaDoor
open Go.RowKit
theorem dirA_pos {b : List UInt8} {k : Int} (h : dirA b = .err k) : 8 ≤ k ∧ k ≤ 16 := by
  unfold dirA at h
  split at h
  · injection h with h; omega
  cases he : endP b with
  | none => rw [he] at h; injection h with h; omega
  | some p =>
    rw [he] at h
    dsimp only at h
    split at h
    · injection h with h; omega
    · rw [book_cenR] at h
      cases hc : cenR b (numA b (p + 16) 4) p (numA b (p + 8) 2) with
      | err j => rw [hc] at h; injection h with h; have := cenR_pos hc; omega
      | ok l =>
        rw [hc] at h
        have h : locR b (numA b (p + 16) 4) [] l = .err k := h
        unfold locR at h
        split at h
        · injection h with h; omega
        · unfold locK at h
          split at h
          · injection h with h; omega
          · cases h
structure ApOk (b : List UInt8) (L : List (Rec × Nat)) : Prop where
  len : L.length ≤ 64
  one : ∀ (i : Nat) (x : Rec × Nat), L[i]? = some x → nameA x.1.name = true ∧ (x.1.method = 0 ∨ x.1.method = 8) ∧ x.1.head + 30 + x.1.name.length ≤ x.2 ∧ x.2 + x.1.packed + 22 ≤ b.length ∧ (b.drop (x.1.head + 30)).take x.1.name.length = x.1.name
  two : ∀ (k i : Nat) (x y : Rec × Nat), k < i → L[k]? = some x → L[i]? = some y → x.1.name ≠ y.1.name ∧ overA x y = false
theorem apOk {b : List UInt8} {L : List (Rec × Nat)} (h : dirA b = .ok L) : ApOk b L := by
  obtain ⟨_, p, dir, D⟩ := dirA_ok h
  have hp := (endP_some D.fin).1
  have hn := D.nums.2.2.2.2
  refine ⟨D.len, fun i x hx => ?_, fun k i x y hk hx hy => ⟨fun e => ?_, ?_⟩⟩
  · obtain ⟨a1, a2, a3, a4, a5⟩ := D.good x (List.mem_of_getElem? hx)
    exact ⟨a1, a2, a3, by omega, a5⟩
  · have h1 : (L.map (·.1.name))[k]? = some x.1.name := by rw [List.getElem?_map, hx]; rfl
    have h2 : (L.map (·.1.name))[i]? = some y.1.name := by rw [List.getElem?_map, hy]; rfl
    obtain ⟨hk1, e1⟩ := List.getElem?_eq_some_iff.1 h1
    obtain ⟨hi1, e2⟩ := List.getElem?_eq_some_iff.1 h2
    have := (List.nodup_iff_pairwise_ne.1 D.names)
    rw [List.pairwise_iff_getElem] at this
    exact this k i hk1 hi1 hk (by rw [e1, e2, e])
  · have := (anyOver_iff L).1 D.apart
    rw [List.pairwise_iff_getElem] at this
    obtain ⟨hk1, e1⟩ := List.getElem?_eq_some_iff.1 hx
    obtain ⟨hi1, e2⟩ := List.getElem?_eq_some_iff.1 hy
    have := this k i hk1 hi1 hk
    rwa [e1, e2] at this
def z7 : Array Value := #[.string ⟨#[]⟩, .int .i64 0, .int .i64 0, .int .i64 0, .int .i64 0, .int .i64 0, .int .i64 0]
theorem z7_eq : (#[.string ⟨#[]⟩, .int .i64 0, .int .i64 0, .int .i64 0, .int .i64 0, .int .i64 0, .int .i64 0] : Array Value) = z7 := rfl
theorem info_rec : (Tryd.prog.info? 33).map (·.size) = some 7 := by kernel_rfl
/-- A record's seven cells, the name as a text. -/
def recA7 (s : ByteArray) (me pk si su at_ hd : Nat) : Array Value := #[.string s, .int .i64 me, .int .i64 pk, .int .i64 si, .int .i64 su, .int .i64 at_, .int .i64 hd]
theorem recA7_one (s : ByteArray) (me pk si su at_ hd : Nat) : (recA7 s me pk si su at_ hd).all (·.oneCell') = true := by simp [recA7, Value.oneCell']
end Go.Proofs.YtokojichjliieaaDoor
