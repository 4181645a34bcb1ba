/- Contracts: manifest.Main and samovarref12.Main. -/
import Derived.Test.YthkgnidafdiolaaDoorManJ
import Derived.Test.YthkgnidafdiolaaDoorManK
import Derived.Test.YthkgnidafdiolaaDoorManH
namespace Go.Proofs.YthkgnidafdiolaaDoor
open Go.RowKit

def MainPost (R : List UInt8 × Int) (w : World) (e : Ending) (w' : World) : Prop := e = .returned (.tuple #[.string ⟨R.1.toArray⟩, .int .i64 R.2]) ∧ Below w.heap.size w w'
theorem mainPost_err {R : List UInt8 × Int} {k : Int} {w w' : World} (h : R = ([], k)) (hb : Below w.heap.size w w') : MainPost R w (.returned (.tuple #[.string ⟨#[]⟩, .int .i64 k])) w' := by
  subst h; exact ⟨rfl, hb⟩
theorem mainPost_ok {R : List UInt8 × Int} {k : Int} {l : List UInt8} {s : ByteArray} {w w' : World} (h : R = (l, k)) (hs : s.data.toList = l) (hb : Below w.heap.size w w') : MainPost R w (.returned (.tuple #[.string s, .int .i64 k])) w' := by
  subst h; subst hs; exact ⟨rfl, hb⟩
section
variable {M : List Attr} {k : Nat} {a : Attr} (hx : M[k]? = some a)
include hx
theorem drop_attr : M.drop k = a :: M.drop (k + 1) := by
  have hk := (List.getElem?_eq_some_iff.1 hx).1
  rw [List.drop_eq_getElem_cons hk]
  rw [List.getElem?_eq_getElem hk] at hx; injection hx with hx; rw [hx]
theorem mp_skip (h : ¬ smallL a.1 = mcL) : mainP (M.drop k) = mainP (M.drop (k + 1)) := by
  rw [drop_attr hx, mainP, if_neg h]
theorem mp_bad (h : smallL a.1 = mcL) (h2 : a.2.contains 47 = true ∨ classB (a.2.map slashB) = false) : mainP (M.drop k) = ([], 22) := by
  rw [drop_attr hx, mainP, if_pos h, if_pos h2]
theorem mp_ok (h : smallL a.1 = mcL) (h2 : a.2.contains 47 = false) (h3 : classB (a.2.map slashB) = true) : mainP (M.drop k) = (a.2.map slashB, 0) := by
  rw [drop_attr hx, mainP, if_pos h, if_neg (by rw [h2, h3]; simp)]
end
theorem mp_end {M : List Attr} : mainP (M.drop M.length) = ([], 22) := by rw [List.drop_length]; rfl
theorem bytes_ne {s : ByteArray} {l : List UInt8} (h : ¬ s.data.toList = l) : (s.toList != l) = true := by rw [Lib.toList_data]; simpa using h
theorem bytes_eq {s : ByteArray} {l : List UInt8} (h : s.data.toList = l) : (s.toList != l) = false := by rw [Lib.toList_data]; simpa using h
theorem slash_map (v : List UInt8) : (v.map fun c => if c = 46 then (47 : UInt8) else c) = v.map slashB := rfl
set_option maxRecDepth 100000 in
set_option maxHeartbeats 4000000 in
theorem main_any (A : Option Addr) (n c : Nat) (l : List UInt8) (m : Int) (w : World) (hn : l.length = n) (hz : n ≤ 140737488355328) (hr : RB w w.heap.size A l) (hm : w.cell? ⟨0, 0, none⟩ = some (.int .i64 m)) :
    Calls Tryd.prog 10 #[.slice A n c] w (MainPost (mainM l) w) := by
  have HL := Lib.hid hn
  obtain ⟨R, hR⟩ : ∃ R, mainM l = R := ⟨_, rfl⟩
  rw [hR]
  have hok := readM_ok l
  have hm0 : 0 < w.heap.size := World.block_lt_of_cell? _ _ hm
  have HM := Lib.hid hm
  obtain ⟨C, M, hCM⟩ : ∃ C M, readM l = (C, M) := ⟨_, _, rfl⟩
  have HR : Hid (R = if C = 0 then mainP M else ([], C)) := Lib.hid (by rw [← hR]; unfold mainM; rw [hCM])
  rw [hCM] at hok
  have HOK := Lib.hid hok
  have HCM := Lib.hid hCM
  clear hn hR hok hm hCM
  go_enter Tryd.func10, Tryd.ntmps10
  go_wp2_with fail
  refine (read_any A n c l m w HL.out hz hr HM.out).mono ?_
  rw [HCM.out]
  rintro e w1 ⟨A2, c2, rfl, hrow, hb1⟩
  by_cases hC : C = 0
  · have HRM : Hid (R = mainP M) := Lib.hid (by rw [HR.out, if_pos hC])
    subst hC
    have hml : M.length ≤ 32769 := HOK.out.1
    go_wp2
    go_loopw [7, 8, 19] (fun _ _ i wr => ∃ k : Nat, k ≤ M.length ∧ i = .int .i64 (k : Int) ∧ Below w1.heap.size w1 wr ∧ Hid (R = mainP (M.drop k))) (fun _ _ i _ => M.length - (intOf i).toNat)
    case atStart => exact ⟨0, by omega, rfl, Below.refl _ _, HRM⟩
    case round =>
      obtain ⟨k, hk, rfl, hbel, hgo⟩ := hrel
      have hfb := hb1.trans (hbel.mono hb1.size)
      by_cases hk0 : k < M.length
      · obtain ⟨ad, a, rfl, hlt, hx, hc0, hc1⟩ := (hrow.below hbel (Nat.le_refl _)).at_ pairK hk0
        have ha := HOK.out.2 a (List.mem_of_getElem? hx.out)
        have hd0 := hc0 _ rfl
        have hd1 := hc1 0 _ rfl
        obtain ⟨nb, hnb⟩ : ∃ nb : ByteArray, (⟨a.1.toArray⟩ : ByteArray) = nb := ⟨_, rfl⟩
        obtain ⟨vb, hvb⟩ : ∃ vb : ByteArray, (⟨a.2.toArray⟩ : ByteArray) = vb := ⟨_, rfl⟩
        unfold sV at hd0 hd1
        rw [hnb] at hd0
        rw [hvb] at hd1
        have hnd : nb.data.toList = a.1 := by rw [← hnb]
        have hvd : vb.data.toList = a.2 := by rw [← hvb]
        have hns : nb.size ≤ 70 := by rw [← size_len, hnd]; exact (nameB_all ha.1).2.1
        have hvs : vb.size ≤ 2359368 := by rw [← size_len, hvd]; exact ha.2
        have HND := Lib.hid hnd
        have HVD := Lib.hid hvd
        obtain ⟨tb, htb⟩ : ∃ tb : ByteArray, (⟨(smallL nb.data.toList).toArray⟩ : ByteArray) = tb := ⟨_, rfl⟩
        have htd : tb.data.toList = smallL a.1 := by rw [← htb, ← hnd]
        have HTB := Lib.hid htb
        have HTD := Lib.hid htd
        clear hc0 hc1 hnb hvb hnd hvd ha htb htd
        go_wp2_with fail
        have hB : Bk (wr.alloc (.cells #[.string nb, .string vb] 44)) wr.heap.size 44 #[.string nb, .string vb] := Bk.new _ _ _
        have hbA := bl_alloc hbel (Nat.le_refl _) (.cells #[.string nb, .string vb] 44)
        have hrw : w1.heap.size ≤ wr.heap.size := hbel.size
        refine (small_any nb _ (by omega)).mono ?_
        rintro e w2 ⟨rfl, hb2⟩
        have hB2 := hB.below hb2 hB.lt
        have hc1 : w2.cell? ⟨wr.heap.size, 1, none⟩ = some (.string vb) := (hB2.cell 1).trans rfl
        have hb2' := hbA.trans (hb2.mono (by have := hB.lt; omega))
        have hf2 := hb1.trans (hb2'.mono hb1.size)
        have hm2 : w2.cell? ⟨0, 0, none⟩ = some (.int .i64 m) := (hf2.cell (p := ⟨0, 0, none⟩) hm0).trans HM.out
        have HM2 := Lib.hid hm2
        have hw2 : 0 < w2.heap.size := World.block_lt_of_cell? _ _ hm2
        rw [HTB.out]
        clear hB hb2 hbA hm2
        by_cases hmc : tb.data.toList = mcL
        · have e1 := bytes_eq hmc
          have e2 := tl_eq hmc
          have HMC : Hid (smallL a.1 = mcL) := Lib.hid (by rw [← HTD.out]; exact hmc)
          unfold mcL at e1 e2
          clear hmc
          go_wp2_with fail
          refine (Tryd.strings_ReplaceAll vb ⟨#[46]⟩ ⟨#[47]⟩ m _ (by omega) HM2.out (by decide) (by have := Lib.countB_le ⟨#[46]⟩ (by decide) _ vb (Nat.le_refl _); have h2 : (⟨#[47]⟩ : ByteArray).size = 1 := rfl; rw [h2]; omega)).mono ?_
          rintro e w3 ⟨rfl, hb3⟩
          obtain ⟨sb, hsb⟩ : ∃ sb : ByteArray, (⟨(Lib.replaceAll vb.data.toList (⟨#[46]⟩ : ByteArray).data.toList (⟨#[47]⟩ : ByteArray).data.toList).toArray⟩ : ByteArray) = sb := ⟨_, rfl⟩
          have hsd : sb.data.toList = a.2.map slashB := by
            rw [← hsb, ← HVD.out]
            show Lib.replaceAll vb.data.toList [46] [47] = _
            rw [rep_one 46 47 (by decide)]; rfl
          have hss : sb.size ≤ 2359368 := by rw [← size_len, hsd, List.length_map, ← HVD.out, size_len]; exact hvs
          rw [hsb]
          have HSD := Lib.hid hsd
          have hc3 : w3.cell? ⟨wr.heap.size, 1, none⟩ = some (.string vb) := (hb3.cell (p := ⟨wr.heap.size, 1, none⟩) (World.block_lt_of_cell? _ _ hc1)).trans hc1
          have hf3 := hf2.trans (hb3.mono hf2.size)
          have hm3 : w3.cell? ⟨0, 0, none⟩ = some (.int .i64 m) := (hb3.cell (p := ⟨0, 0, none⟩) hw2).trans HM2.out
          have HM3 := Lib.hid hm3
          clear hsb hsd e1 e2 hc1 hb2' hb3 hB2 hm3
          go_wp2_with fail
          refine (Tryd.strings_Contains_one vb 47 _).mono ?_
          rintro e w4 ⟨rfl, rfl⟩
          by_cases h47 : vb.data.toList.contains 47 = true
          · rw [decide_eq_true (idx_has h47)]
            have HF := Lib.hid (hgo.out.trans (mp_bad hx.out HMC.out (.inl (by rw [← HVD.out]; exact h47))))
            clear h47
            go_wp2
            go_ret2
            exact mainPost_err HF.out hf3
          · have h47' : vb.data.toList.contains 47 = false := by simpa using h47
            rw [decide_eq_false (by rw [idx_lacks h47']; decide)]
            have HV47 : Hid (a.2.contains 47 = false) := Lib.hid (by rw [← HVD.out]; exact h47')
            clear h47 h47'
            go_wp2_with fail
            refine (class_any sb m _ (by omega) HM3.out).mono ?_
            rintro e w5 ⟨rfl, hb5⟩
            rw [HSD.out]
            have hf5 := hf3.trans (hb5.mono hf3.size)
            cases hcb : classB (a.2.map slashB)
            · have HF := Lib.hid (hgo.out.trans (mp_bad hx.out HMC.out (.inr hcb)))
              go_wp2
              go_ret2
              exact mainPost_err HF.out hf5
            · have HF := Lib.hid (hgo.out.trans (mp_ok hx.out HMC.out HV47.out hcb))
              go_wp2
              go_ret2
              exact mainPost_ok HF.out HSD.out hf5
        · have e1 := bytes_ne hmc
          have e2 := tl_ne hmc
          have HF := Lib.hid (hgo.out.trans (mp_skip hx.out (by rw [← HTD.out]; exact hmc)))
          unfold mcL at e1 e2
          clear hmc
          go_wp2
          go_roundw
          case rel => exact ⟨k + 1, by omega, by go_num, hb2', HF⟩
          case measure => simp [intOf]; omega
      · obtain rfl : k = M.length := by omega
        have HF := Lib.hid (hgo.out.trans mp_end)
        go_wp2
        go_ret2
        exact mainPost_err HF.out hfb
  · have HF : Hid (R = ([], C)) := Lib.hid (by rw [HR.out, if_neg hC])
    have e1 : (C != 0) = true := by simpa using hC
    clear hC
    go_wp2
    go_ret2
    exact mainPost_err HF.out hb1

def mcU : List UInt8 := [77, 97, 105, 110, 45, 67, 108, 97, 115, 115]
theorem byteTy : ETy Tryd.prog 22 5 (.int .u8 0) 1 1 := ⟨Tryd.underlying22, info_parts (by kernel_rfl), rfl, by decide⟩
theorem slash_take {v : List UInt8} {j : Nat} {x : UInt8} (hx : v[j]? = some x) : (v.map slashB).take (j + 1) = (v.map slashB).take j ++ [slashB x] := by
  rw [List.take_add_one]; simp [hx]
set_option maxRecDepth 100000 in
set_option maxHeartbeats 4000000 in
theorem refMain_any (A : Option Addr) (n c : Nat) (l : List UInt8) (w : World) (hn : l.length = n) (hz : n ≤ 140737488355328) (hcap : n ≤ c) (hr : RB w w.heap.size A l) :
    Calls Tryd.prog 11 #[.slice A n c] w (MainPost (mainM l) w) := by
  have HL := Lib.hid hn
  obtain ⟨R, hR⟩ : ∃ R, mainM l = R := ⟨_, rfl⟩
  rw [hR]
  have hok := readM_ok l
  obtain ⟨C, M, hCM⟩ : ∃ C M, readM l = (C, M) := ⟨_, _, rfl⟩
  have HR : Hid (R = if C = 0 then mainP M else ([], C)) := Lib.hid (by rw [← hR]; unfold mainM; rw [hCM])
  rw [hCM] at hok
  have HOK := Lib.hid hok
  have HCM := Lib.hid hCM
  clear hn hR hok hCM
  go_enter Tryd.func11, Tryd.ntmps11
  go_wp2_with fail
  refine (refRead_any A n c l w HL.out hz hcap hr).mono ?_
  rw [HCM.out]
  rintro e w1 ⟨A2, c2, rfl, hrow, hb1⟩
  by_cases hC : C = 0
  · have HRM : Hid (R = mainP M) := Lib.hid (by rw [HR.out, if_pos hC])
    subst hC
    have hml : M.length ≤ 32769 := HOK.out.1
    go_wp2
    go_loopw [6, 7, 8, 9] (fun i _ _ _ wr => ∃ k : Nat, k ≤ M.length ∧ i = .int .i64 (k : Int) ∧ Below w1.heap.size w1 wr ∧ Hid (R = mainP (M.drop k))) (fun i _ _ _ _ => M.length - (intOf i).toNat)
    case atStart => exact ⟨0, by omega, rfl, Below.refl _ _, HRM⟩
    case round =>
      obtain ⟨k, hk, rfl, hbel, hgo⟩ := hrel
      have hfb := hb1.trans (hbel.mono hb1.size)
      by_cases hk0 : k < M.length
      · obtain ⟨ad, a, rfl, hlt, hx, hc0, hc1⟩ := (hrow.below hbel (Nat.le_refl _)).at_ pairK hk0
        have ha := HOK.out.2 a (List.mem_of_getElem? hx.out)
        have hd0 := hc0 _ rfl
        have hd1 := hc1 0 _ rfl
        obtain ⟨nb, hnb⟩ : ∃ nb : ByteArray, (⟨a.1.toArray⟩ : ByteArray) = nb := ⟨_, rfl⟩
        obtain ⟨vb, hvb⟩ : ∃ vb : ByteArray, (⟨a.2.toArray⟩ : ByteArray) = vb := ⟨_, rfl⟩
        unfold sV at hd0 hd1
        rw [hnb] at hd0
        rw [hvb] at hd1
        have hnd : nb.data.toList = a.1 := by rw [← hnb]
        have hvd : vb.data.toList = a.2 := by rw [← hvb]
        have hns : nb.size ≤ 70 := by rw [← size_len, hnd]; exact (nameB_all ha.1).2.1
        have hvs : vb.size ≤ 2359368 := by rw [← size_len, hvd]; exact ha.2
        have HND := Lib.hid hnd
        have HVD := Lib.hid hvd
        clear hc0 hc1 hnb hvb hnd hvd ha
        go_wp2_with fail
        refine (one_any nb _ _ (by omega) (by decide)).mono ?_
        rintro e w2 ⟨rfl, hb2⟩
        rw [HND.out, show smallL (⟨#[77, 97, 105, 110, 45, 67, 108, 97, 115, 115]⟩ : ByteArray).data.toList = mcL by decide]
        have hrw := hbel.size
        have hb2' := hbel.trans (hb2.mono hbel.size)
        have hf2 := hb1.trans (hb2'.mono hb1.size)
        have hd2 : w2.cell? ⟨(ad.add (k * 2)).block, (ad.add (k * 2)).off + 1, none⟩ = some (.string vb) := (hb2.cell (by exact World.block_lt_of_cell? _ _ hd1)).trans hd1
        clear hd0 hd1 hb2 hfb hbel
        by_cases hmc : smallL a.1 = mcL
        · rw [decide_eq_true hmc]
          have HMC := Lib.hid hmc
          clear hmc
          go_wp2
          obtain ⟨g2, hg2⟩ : ∃ g2, w2.heap.size = g2 := ⟨_, rfl⟩
          have hlt2 : ad.block < g2 := by have := hb2'.size; omega
          go_loopw [7, 8, 9] (fun v i _ wr => ∃ j : Nat, j ≤ vb.size ∧ i = .int .i64 (j : Int) ∧ OwB wr g2 5 v ((a.2.map slashB).take j) ∧ Below g2 w2 wr ∧ Hid (∀ (q : Nat) (y : UInt8), q < j → a.2[q]? = some y → ¬ y = 47)) (fun _ i _ _ => vb.size - (intOf i).toNat)
          case atStart => exact ⟨0, by omega, rfl, OwL.nil, Below.refl _ _, Lib.hid (fun q y h => by omega)⟩
          case round =>
            obtain ⟨j, hj, rfl, hown, hb3, hno⟩ := hrel
            have hd3 : wr.cell? ⟨(ad.add (k * 2)).block, (ad.add (k * 2)).off + 1, none⟩ = some (.string vb) := (hb3.cell (by show (ad.add (k * 2)).block < g2; rw [blk_add]; exact hlt2)).trans hd2
            have hf3 : Below w.heap.size w wr := hf2.trans (hb3.mono (by have := hf2.size; omega))
            have hs3 := hb3.size
            by_cases hj0 : j < vb.size
            · have HX2 := Lib.hid (byte_at hj0)
              obtain ⟨x, hxe⟩ : ∃ x, vb[j] = x := ⟨_, rfl⟩
              have HXE : Hid (a.2[j]? = some x) := Lib.hid (by rw [← HVD.out, HX2.out, hxe])
              have HVX := Lib.hid hxe
              by_cases h47 : x = 47
              · have e1 : (vb[j].toNat : Int) = 47 := by rw [hxe, h47]; rfl
                have HF := Lib.hid (hgo.out.trans (mp_bad hx.out HMC.out (.inl (List.contains_iff_mem.2 (by rw [← h47]; exact List.mem_of_getElem? HXE.out)))))
                clear hxe h47
                go_wp2
                go_ret2
                exact mainPost_err HF.out hf3
              · have e1 : ¬ (vb[j].toNat : Int) = 47 := by rw [hxe]; exact u8_ne (y := 47) h47
                have e2 : ((vb[j].toNat : Int) == 47) = false := by simpa using e1
                have hnx : Hid (∀ (q : Nat) (y : UInt8), q < j + 1 → a.2[q]? = some y → ¬ y = 47) := Lib.hid (fun q y hq hy => by
                  rcases Nat.lt_or_ge q j with h | h
                  · exact hno.out q y h hy
                  · obtain rfl : q = j := by omega
                    rw [HXE.out] at hy; injection hy with hy; subst hy; exact h47)
                have HTK := Lib.hid (slash_take HXE.out)
                clear h47
                by_cases h46 : x = 46
                · have e3 : (vb[j].toNat : Int) = 46 := by rw [hxe, h46]; rfl
                  have HSL : Hid (slashB x = 47) := Lib.hid (by rw [h46]; rfl)
                  clear hxe h46
                  go_wp2_with (at_builtin; refine wpList_appL _ bV_one rfl (.tmp 52) (.tmp 54) rfl byteTy (by decide) g2 _ _ rfl (hown.alloc _) _ _ 1 1 [slashB x] rfl rfl (RL.freshe _ _ ?c0 _) ?c1 ?c2 ?_)
                  case c0 => rw [HSL.out]; rfl
                  case c1 => simp; omega
                  case c2 => simp; omega
                  intro v4 w4 own4 _ _ hb4
                  have hb4' := (bl_alloc hb3 (by omega) _).trans hb4
                  go_wp2
                  go_roundw
                  case rel => exact ⟨j + 1, by omega, by go_num, by rw [HTK.out]; exact own4, hb4', hnx⟩
                  case measure => simp [intOf]; omega
                · have e3 : ¬ (vb[j].toNat : Int) = 46 := by rw [hxe]; exact u8_ne (y := 46) h46
                  have e4 : ((vb[j].toNat : Int) == 46) = false := by simpa using e3
                  have HSL : Hid (slashB x = x) := Lib.hid (by unfold slashB; rw [if_neg h46])
                  clear hxe h46
                  go_wp2_with (at_builtin; refine wpList_appL _ bV_one rfl (.tmp 52) (.tmp 54) rfl byteTy (by decide) g2 _ _ rfl (hown.alloc _) _ _ 1 1 [slashB x] rfl rfl (RL.freshe _ _ ?c0 _) ?c1 ?c2 ?_)
                  case c0 => rw [HSL.out, ← HVX.out]; rfl
                  case c1 => simp; omega
                  case c2 => simp; omega
                  intro v4 w4 own4 _ _ hb4
                  have hb4' := (bl_alloc hb3 (by omega) _).trans hb4
                  go_wp2
                  go_roundw
                  case rel => exact ⟨j + 1, by omega, by go_num, by rw [HTK.out]; exact own4, hb4', hnx⟩
                  case measure => simp [intOf]; omega
            · obtain rfl : j = vb.size := by omega
              have HTA : Hid ((a.2.map slashB).take vb.size = a.2.map slashB) := Lib.hid (List.take_of_length_le (by rw [List.length_map, ← HVD.out]; exact Nat.le_refl _))
              rw [HTA.out] at hown
              have HV47 : Hid (a.2.contains 47 = false) := Lib.hid (by
                rw [List.contains_eq_mem]
                refine decide_eq_false fun hm => ?_
                obtain ⟨q, hq⟩ := List.getElem?_of_mem hm
                exact hno.out q 47 (by have := (List.getElem?_eq_some_iff.1 hq).1; rw [← HVD.out] at this; exact this) hq rfl)
              obtain ⟨A4, c4, rfl, hr4, _⟩ := hown.rd
              obtain ⟨z, hze⟩ : ∃ z, a.2.map slashB = z := ⟨_, rfl⟩
              rw [hze] at hr4 ⊢
              have hzl : z.length ≤ 2359368 := by rw [← hze, List.length_map, ← HVD.out, size_len]; exact hvs
              have hcs := run_conv_str (P := Tryd.prog) (c := c4) (n := z.length) Tryd.underlying22 Tryd.underlying5 Tryd.underlying9 rfl hr4
              obtain ⟨sb, hsb⟩ : ∃ sb : ByteArray, (⟨z.toArray⟩ : ByteArray) = sb := ⟨_, rfl⟩
              rw [hsb] at hcs
              have hsd : sb.data.toList = a.2.map slashB := by rw [← hsb, hze]
              have hss : sb.size ≤ 2359368 := by rw [← size_len, ← hsb]; exact hzl
              have HSD := Lib.hid hsd
              have HZE := Lib.hid hze
              clear hsb hsd hze hown
              go_wp2_with fail
              refine (refClass_any sb _ (by omega)).mono ?_
              rintro e w5 ⟨rfl, hb5⟩
              rw [HSD.out]
              have hf5 := hf3.trans (hb5.mono hf3.size)
              cases hcb : classB (a.2.map slashB)
              · have HF := Lib.hid (hgo.out.trans (mp_bad hx.out HMC.out (.inr hcb)))
                go_wp2
                go_ret2
                exact mainPost_err HF.out hf5
              · have HF := Lib.hid (hgo.out.trans (mp_ok hx.out HMC.out HV47.out hcb))
                have hr5 := hr4.step hb5
                have hcs5 := run_conv_str (P := Tryd.prog) (c := c4) (n := z.length) Tryd.underlying22 Tryd.underlying5 Tryd.underlying9 rfl hr5
                obtain ⟨sc, hsc⟩ : ∃ sc : ByteArray, (⟨z.toArray⟩ : ByteArray) = sc := ⟨_, rfl⟩
                rw [hsc] at hcs5
                have HSC : Hid (sc.data.toList = a.2.map slashB) := Lib.hid (by rw [← hsc, HZE.out])
                clear hsc hcs
                go_wp2
                go_ret2
                exact mainPost_ok HF.out HSC.out hf5
        · rw [decide_eq_false hmc]
          have HF := Lib.hid (hgo.out.trans (mp_skip hx.out hmc))
          clear hmc
          go_wp2
          go_roundw
          case rel => exact ⟨k + 1, by omega, by go_num, hb2', HF⟩
          case measure => simp [intOf]; omega
      · obtain rfl : k = M.length := by omega
        have HF := Lib.hid (hgo.out.trans mp_end)
        go_wp2
        go_ret2
        exact mainPost_err HF.out hfb
  · have HF : Hid (R = ([], C)) := Lib.hid (by rw [HR.out, if_neg hC])
    have e1 : (C != 0) = true := by simpa using hC
    clear hC
    go_wp2
    go_ret2
    exact mainPost_err HF.out hb1
end Go.Proofs.YthkgnidafdiolaaDoor
