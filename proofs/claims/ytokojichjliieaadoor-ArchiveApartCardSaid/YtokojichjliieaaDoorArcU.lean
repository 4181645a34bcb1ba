/- samovarlaw09.fixed: it answers true. -/
import Derived.Test.YtokojichjliieaaDoorArcR
import Derived.Test.YtokojichjliieaaDoorApM
namespace Go.Proofs.YtokojichjliieaaDoor
open Go.RowKit
def fz0 : List UInt8 := [80, 75, 5, 6, 0, 0, 0, 0, 0, 0, 0, 0, 0, 0, 0, 0, 0, 0, 0, 0, 0, 0]
def fz1 : List UInt8 := [80, 75, 5, 6, 0, 0, 0, 0, 0, 0, 0, 0, 0, 0, 0, 0, 0, 0, 0, 0, 0, 0, 0]
def fz2 : List UInt8 := [80, 75, 5, 6, 1, 0, 0, 0, 0, 0, 0, 0, 0, 0, 0, 0, 0, 0, 0, 0, 0, 0]
theorem fzd0 : dirA fz0 = .ok [] := by kernel_rfl
theorem fzd1 : dirA fz1 = .err 9 := by kernel_rfl
theorem fzd2 : dirA fz2 = .err 10 := by kernel_rfl
theorem fzd3 : dirA [] = .err 9 := by kernel_rfl
theorem fzn1 : nameA [97, 47, 98] = true := by decide +kernel
theorem fzn2 : nameA [97, 47] = true := by decide +kernel
theorem fzn3 : nameA [47, 97] = false := by decide +kernel
theorem fzn4 : nameA [97, 47, 47, 98] = false := by decide +kernel
theorem fzn5 : nameA [46, 46, 47, 97] = false := by decide +kernel
theorem fzn6 : nameA [] = false := by decide +kernel
theorem cell_old {W w1 : World} {p : Addr} {v : Value} (hb : Below W.heap.size W w1) (h : W.cell? p = some v) : w1.cell? p = some v := (hb.cell (World.block_lt_of_cell? _ _ h)).trans h
theorem dirpost_err {R : Rz (List (Rec × Nat))} {k : Int} {w w' : World} {e : Ending} (h : DirPost R w e w') (hR : R = .err k) : e = .returned (.tuple #[.slice none 0 0, .int .i64 k]) ∧ Below w.heap.size w w' := by
  subst hR; exact ⟨h.2, h.1⟩
theorem dirpost_ok {R : Rz (List (Rec × Nat))} {l : List (Rec × Nat)} {w w' : World} {e : Ending} (h : DirPost R w e w') (hR : R = .ok l) : ∃ A c, e = .returned (.tuple #[.slice A l.length c, .int .i64 0]) ∧ OwS recL 7 w' w.heap.size 33 (.slice A l.length c) l ∧ RS recL w' w'.heap.size A l ∧ l.length ≤ c ∧ Below w.heap.size w w' := by
  subst hR
  obtain ⟨v, rfl, ho⟩ := h.2
  obtain ⟨A, c, rfl, hr, hc⟩ := ho.rd
  exact ⟨A, c, rfl, ho, hr, hc, h.1⟩
set_option maxRecDepth 100000 in
set_option maxHeartbeats 8000000 in
theorem fixed09_any (mx : Int) (w : World) (hm : w.cell? ⟨0, 0, none⟩ = some (.int .i64 mx)) :
    Calls Tryd.prog 12 #[] w fun e w' => e = .returned (.bool true) ∧ Below w.heap.size w w' := by
  have HM := bx hm
  have hbw := bl_alloc (Below.refl w.heap.size w) (Nat.le_refl _) (.cells #[.int .u8 80, .int .u8 75, .int .u8 5, .int .u8 6] 5)
  have HBW := bx hbw
  clear hm hbw
  go_enter Tryd.func12, Tryd.ntmps12
  go_wp2_with (at_builtin; refine wpList_appMk _ rfl (.tmp 11) (.const (.int .i64 18)) rfl byteTy Tryd.underlying3 [80, 75, 5, 6] ⟨w.heap.size, 0, none⟩ 4 rfl rfl _ (RL.news w [80, 75, 5, 6] _ rfl 5 (0, 0)) 18 (by omega) (by omega) (by omega) rfl ?_; intro v1 w1 own1 hb1)
  have hx1 : ([80, 75, 5, 6] ++ List.replicate 18 0 : List UInt8) = fz0 := rfl
  rw [hx1] at own1
  have HB1 := bx (HBW.out.trans (hb1.mono HBW.out.size))
  obtain ⟨A1, c1, rfl, hr1, hc1, hc1'⟩ := own1.rd
  have HO1 := bx own1
  have HR1 := bx hr1
  clear hb1 hr1 own1 HBW
  refine (dir_any A1 22 c1 fz0 w1 mx rfl (by omega) hc1 hc1' HR1.out (cell_old HB1.out HM.out)).mono ?_
  intro e1 w2 hp
  obtain ⟨A2, c2, rfl, _, _, _, hb2⟩ := dirpost_ok hp fzd0
  have HB2 := bx (HB1.out.trans (hb2.mono HB1.out.size))
  have HR2 := bx (HR1.out.step hb2)
  clear hp hb2
  go_wp2_with (first
    | (at_builtin; refine wpList_appL _ bV_one rfl (.tmp 19) (.tmp 20) rfl byteTy (by decide) w2.heap.size _ [] rfl (OwL.lit0 w2 (Nat.le_refl _)) _ A1 22 c1 fz0 rfl rfl (HR2.out.alloc (Nat.le_refl _) _) (by decide) (le_alloc0 (Nat.le_refl _) _) ?_
       intro v3 w3 own3 g3 k3 hb3
       have HO3 := bx own3
       have hz3 : w2.heap.size ≤ w3.heap.size := Nat.le_trans (le_alloc0 (Nat.le_refl _) _) hb3.size
       have HB3 := bx ((bl_alloc (Below.refl w2.heap.size w2) (Nat.le_refl _) (.cells #[] 5)).trans hb3)
       clear own3 g3 k3 hb3)
    | (at_builtin; refine wpList_appL _ bV_one rfl (.tmp 21) (.tmp 22) rfl byteTy (by decide) w2.heap.size _ ([] ++ fz0) rfl (HO3.out.alloc _) _ _ 1 1 [0] rfl rfl (RL.freshe _ _ rfl _) (by decide) (le_alloc0 hz3 _) ?_
       intro v4 w4 own4 g4 k4 hb4))
  have HB4 := bx (HB3.out.trans ((bl_alloc (Below.refl w2.heap.size w3) hz3 (.cells #[.int .u8 0] 5)).trans hb4))
  obtain ⟨A4, c4, rfl, hr4, hc4, hc4'⟩ := own4.rd
  have HR4 : Bx (RB w4 w4.heap.size A4 fz1) := bx hr4
  have HBw4 := bx (HB2.out.trans (HB4.out.mono HB2.out.size))
  clear g4 k4 hb4 own4 hr4 HO3 hz3 HB3
  refine (dir_any A4 23 c4 fz1 w4 mx rfl (by omega) hc4 hc4' HR4.out (cell_old HBw4.out HM.out)).mono ?_
  intro e1 w5 hp
  obtain ⟨rfl, hb5⟩ := dirpost_err hp fzd1
  have HB5 := bx (HBw4.out.trans (hb5.mono HBw4.out.size))
  have HR5 : Bx (RB w5 w5.heap.size A1 fz0) := bx ((HR2.out.below (HB4.out.trans (hb5.mono HB4.out.size)) (Nat.le_refl _)).more (Nat.le_trans HB4.out.size hb5.size))
  clear hp hb5 HR2 HB4 HBw4 HR4
  go_wp2_with (first
    | (at_builtin; refine wpList_appL _ bV_one rfl (.tmp 27) (.tmp 28) rfl byteTy (by decide) w5.heap.size _ [] rfl (OwL.lit0 w5 (Nat.le_refl _)) _ A1 22 c1 fz0 rfl rfl (HR5.out.alloc (Nat.le_refl _) _) (by decide) (le_alloc0 (Nat.le_refl _) _) ?_
       intro v6 w6 own6 g6 k6 hb6
       have hz6 : w5.heap.size ≤ w6.heap.size := Nat.le_trans (le_alloc0 (Nat.le_refl _) _) hb6.size
       have HB6 := bx ((bl_alloc (Below.refl w5.heap.size w5) (Nat.le_refl _) (.cells #[] 5)).trans hb6)
       obtain ⟨gc, cc, hv6, hgc, hgc2⟩ := World.ownsRow.form own6 (by decide)
       have hv6' : v6 = .slice (some ⟨gc, 0, none⟩) 22 cc := hv6
       subst hv6'
       have hcell : w6.cell? ⟨gc, 4, none⟩ = some (.int .u8 0) := OwL.cell own6 (k := 4) (x := 0) rfl
       have hfr := OwL.frz own6 4
       have HO6 := bx own6
       clear own6 g6 k6 hb6 hv6))
  have hset := HO6.out.set 4 1
  have HO7 : Bx (OwB (w6.setCell ⟨gc, 4, none⟩ (.int .u8 1)) w5.heap.size 5 (.slice (some ⟨gc, 0, none⟩) 22 cc) fz2) := bx hset
  have HB7 := bx (HB5.out.trans ((HB6.out.setCell (p := ⟨gc, 4, none⟩) hgc (.int .u8 1)).mono HB5.out.size))
  obtain ⟨w7, hw7⟩ : ∃ w7, w6.setCell ⟨gc, 4, none⟩ (.int .u8 1) = w7 := ⟨_, rfl⟩
  rw [hw7] at HO7 HB7
  rw [hw7]
  obtain ⟨A7, c7, hv7, hr7, hc7, hc7'⟩ := HO7.out.rd
  injection hv7 with hv7a hv7b hv7c
  subst hv7a
  subst hv7c
  have HR7 := bx hr7
  clear hset hw7 hr7 HO6 HB6 hcell hfr
  refine (dir_any (some ⟨gc, 0, none⟩) 22 cc fz2 w7 mx rfl (by omega) hc7 hc7' HR7.out (cell_old HB7.out HM.out)).mono ?_
  intro e1 w8 hp
  obtain ⟨rfl, hb8⟩ := dirpost_err hp fzd2
  have HB8 := bx (HB7.out.trans (hb8.mono HB7.out.size))
  clear hp hb8 HB7 HR7 HO7
  go_wp2_with fail
  refine (dir_any none 0 0 [] w8 mx rfl (by omega) (Nat.le_refl _) (by decide) RL.nil (cell_old HB8.out HM.out)).mono ?_
  intro e1 w9 hp
  obtain ⟨rfl, hb9⟩ := dirpost_err hp fzd3
  have HB9 := bx (HB8.out.trans (hb9.mono HB8.out.size))
  clear hp hb9 HB8
  go_wp2_with fail
  refine (name_any ⟨#[97, 47, 98]⟩ mx w9 (by decide) (cell_old HB9.out HM.out)).mono ?_
  rintro e wa ⟨rfl, hbn⟩
  rw [show nameA (⟨#[97, 47, 98]⟩ : ByteArray).data.toList = true from fzn1]
  have HBa := bx (HB9.out.trans (hbn.mono HB9.out.size))
  clear hbn HB9
  go_wp2_with fail
  refine (name_any ⟨#[97, 47]⟩ mx wa (by decide) (cell_old HBa.out HM.out)).mono ?_
  rintro e wb ⟨rfl, hbn⟩
  rw [show nameA (⟨#[97, 47]⟩ : ByteArray).data.toList = true from fzn2]
  have HBb := bx (HBa.out.trans (hbn.mono HBa.out.size))
  clear hbn HBa
  go_wp2_with fail
  refine (name_any ⟨#[47, 97]⟩ mx wb (by decide) (cell_old HBb.out HM.out)).mono ?_
  rintro e wc1 ⟨rfl, hbn⟩
  rw [show nameA (⟨#[47, 97]⟩ : ByteArray).data.toList = false from fzn3]
  have HBc := bx (HBb.out.trans (hbn.mono HBb.out.size))
  clear hbn HBb
  go_wp2_with fail
  refine (name_any ⟨#[97, 47, 47, 98]⟩ mx wc1 (by decide) (cell_old HBc.out HM.out)).mono ?_
  rintro e wd1 ⟨rfl, hbn⟩
  rw [show nameA (⟨#[97, 47, 47, 98]⟩ : ByteArray).data.toList = false from fzn4]
  have HBd := bx (HBc.out.trans (hbn.mono HBc.out.size))
  clear hbn HBc
  go_wp2_with fail
  refine (name_any ⟨#[46, 46, 47, 97]⟩ mx wd1 (by decide) (cell_old HBd.out HM.out)).mono ?_
  rintro e we1 ⟨rfl, hbn⟩
  rw [show nameA (⟨#[46, 46, 47, 97]⟩ : ByteArray).data.toList = false from fzn5]
  have HBe := bx (HBd.out.trans (hbn.mono HBd.out.size))
  clear hbn HBd
  go_wp2_with fail
  refine (name_any ⟨#[]⟩ mx we1 (by decide) (cell_old HBe.out HM.out)).mono ?_
  rintro e wf1 ⟨rfl, hbn⟩
  rw [show nameA (⟨#[]⟩ : ByteArray).data.toList = false from fzn6]
  have HBf := bx (HBe.out.trans (hbn.mono HBe.out.size))
  clear hbn HBe
  go_wp2
  go_ret
  exact ⟨rfl, HBf.out⟩
end Go.Proofs.YtokojichjliieaaDoor
