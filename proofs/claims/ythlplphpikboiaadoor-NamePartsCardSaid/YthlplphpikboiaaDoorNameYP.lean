/- The walk of NameParts. -/
import Derived.Test.YthlplphpikboiaaDoorNameX
import Derived.Test.YthlplphpikboiaaDoorNameZ
namespace Go.Proofs.YthlplphpikboiaaDoor
open Go.RowKit

set_option maxRecDepth 100000 in
set_option maxHeartbeats 4000000 in
theorem nameParts_walk (m : Int) (w : World) (hm : w.cell? ⟨0, 0, none⟩ = some (.int .i64 m))
    (A0 : Option Addr) (n0 c0 : Nat) (l0 : List (List UInt8)) (e0 : l0.length = n0) (r0 : RL strV w w.heap.size A0 l0) (hl0 : ∀ p ∈ l0, p.length ≤ 140737488351232) (b0 : n0 ≤ 140737488351232) (r : ByteArray) (br : r.size ≤ 140737488351232) :
    Calls Tryd.prog 5 #[.slice A0 n0 c0, .string r] w fun e w' => e = .returned (.bool true) ∧ Below w.heap.size w w' := by
  have E0 := Lib.hid e0
  clear e0
  go_enter Tryd.func5, Tryd.ntmps5
  go_wp2_with fail
  refine (fixed13_any m _ hm).mono ?_
  rintro e w1 ⟨rfl, hb1⟩
  have hm1 := cell_old hb1 hm
  go_wp2
  go_loopw [5, 6, 16] (fun v sl i wr => ∃ (k : Nat) (t : ByteArray) (z : Int), k ≤ n0 ∧ k ≤ 200 ∧ i = .int .i64 (k : Int) ∧ v = .string t ∧ t.size ≤ 1 + 68 * k ∧ sl = .int .i64 z ∧ 0 ≤ z ∧ z ≤ 2 * k ∧ Hid (z = slotSum (l0.take k)) ∧
      Hid (t.data.toList = 40 :: (l0.take k).flatten) ∧ Hid (∀ p ∈ l0.take k, descB p = true) ∧ Below w.heap.size w wr) (fun _ _ i _ => n0 - (intOf i).toNat)
  case atStart => exact ⟨0, ⟨#[40]⟩, 0, by omega, by omega, rfl, rfl, by decide, rfl, by omega, by omega, Lib.hid (by simp [slotSum]), Lib.hid (by simp), Lib.hid (by simp), hb1⟩
  case round =>
    clear hb1 hm1
    obtain ⟨k, t, z, hk, hk2, rfl, rfl, htz, rfl, hz0, hz1, hz, ht, hd, hb⟩ := hrel
    have hmr := cell_old hb hm
    by_cases hk0 : k < n0
    · obtain ⟨ad, x, rfl, hl, hx, hc⟩ := (r0.below hb (Nat.le_refl _)).atl (k := k) (by rw [E0.out]; exact hk0)
      have hxl := hl0 x (List.mem_of_getElem? hx.out)
      obtain ⟨p, hp⟩ : ∃ p : ByteArray, (⟨x.toArray⟩ : ByteArray) = p := ⟨_, rfl⟩
      have hpx := Lib.hid (show p.data.toList = x by rw [← hp])
      have hpz : p.size ≤ 140737488351232 := by rw [← size_len, hpx.out]; exact hxl
      have hc' : wr.cell? (ad.add k) = some (.string p) := by rw [hc, ← hp]
      clear hc hp
      cases hds : descB p.data.toList
      · have HD := Lib.hid hds
        clear hds
        go_wp2_with (go_at_call 13; refine (desc_any _ m _ (by omega) hmr).mono ?_; rintro e w2 ⟨rfl, hb2⟩; rw [HD.out])
        go_ret
        exact ⟨rfl, hb.trans (hb2.mono hb.size)⟩
      · have HD := Lib.hid hds
        have hp68 : p.size ≤ 68 := by rw [← size_len]; exact descB_bound hds
        clear hds
        by_cases h200 : 200 ≤ k
        · go_wp2_with (go_at_call 13; refine (desc_any _ m _ (by omega) hmr).mono ?_; rintro e w2 ⟨rfl, hb2⟩; rw [HD.out])
          go_ret
          exact ⟨rfl, hb.trans (hb2.mono hb.size)⟩
        · have h200' : k < 200 := by omega
          obtain ⟨u1, u2⟩ := slotsN_range p.data.toList
          go_wp2_with fail
          refine (desc_any _ m _ (by omega) hmr).mono ?_
          rintro e w2 ⟨rfl, hb2⟩
          rw [HD.out]
          go_wp2_with fail
          refine (slots_any _ _).mono ?_
          rintro e w' ⟨rfl, rfl⟩
          go_wp2
          go_roundw
          case rel =>
            refine ⟨k + 1, t ++ p, z + slotsN p.data.toList, by omega, by omega, by go_num, rfl, ?_, rfl, by omega, by omega, Lib.hid ?_, Lib.hid ?_, Lib.hid ?_, hb.trans (hb2.mono hb.size)⟩
            · rw [ByteArray.size_append]; omega
            · rw [List.take_add_one, hx.out, hz.out, ← hpx.out]; exact (slotSum_snoc _ _).symm
            · rw [List.take_add_one, hx.out, ← hpx.out]; simp [ht.out]
            · rw [List.take_add_one, hx.out, ← hpx.out]
              intro q hq
              rcases List.mem_append.1 hq with h | h
              · exact hd.out q h
              · simp at h; subst h; exact HD.out
          case measure => simp [intOf]; omega
    · obtain rfl : k = n0 := by omega
      have hall : l0.take k = l0 := by rw [← E0.out]; exact List.take_length
      have ht2 := Lib.hid (show t.data.toList = 40 :: l0.flatten by rw [ht.out, hall])
      have hd2 := Lib.hid (show ∀ p ∈ l0, descB p = true by rw [← hall]; exact hd.out)
      have hz2 := Lib.hid (show z = slotSum l0 by rw [hz.out, hall])
      clear hall
      cases hres : resB r.data.toList
      · have hne : (r.toList == [86]) = false := tl_ne (fun e => by rw [e] at hres; revert hres; decide)
        have hd9 : descB r.data.toList = false := by unfold resB at hres; simp only [Bool.or_eq_false_iff] at hres; exact hres.2
        have HD := Lib.hid hd9
        clear hd9 hres
        go_wp2_with (go_at_call 13; refine (desc_any _ m _ (by omega) hmr).mono ?_; rintro e w2 ⟨rfl, hb2⟩; rw [HD.out])
        go_ret
        exact ⟨rfl, hb.trans (hb2.mono hb.size)⟩
      · have hmv := Lib.hid (show methV (t ++ ⟨#[41]⟩ ++ r).data.toList = if slotSum l0 < 64 then (l0, r.data.toList, 0) else ([], [], 24) by
          rw [← methV_parts l0 r.data.toList hd2.out hres]
          congr 1
          simp [ht2.out])
        have hr68 : r.size ≤ 68 := by
          rw [← size_len]
          unfold resB at hres
          simp only [Bool.or_eq_true, decide_eq_true_eq] at hres
          rcases hres with h | h
          · rw [h]; decide
          · exact descB_bound h
        by_cases hv : r.data.toList = [86]
        · have hne : (r.toList == [86]) = true := tl_eq hv
          clear hv hres
          go_wp2_with fail
          refine (method_post _ m _ (by rw [ByteArray.size_append, ByteArray.size_append]; show t.size + 1 + r.size ≤ _; omega) hmr).mono ?_
          rintro e w3 ⟨A1, n1, c1, rfl, hn1, hr1, hb3⟩
          rw [hmv.out] at hn1 hr1 ⊢
          have hb3' := hb.trans (hb3.mono hb.size)
          by_cases h64 : slotSum l0 < 64
          · rw [if_pos h64] at hn1 hr1 ⊢
            simp only at hn1 hr1 ⊢
            obtain rfl : k = n1 := by rw [← E0.out]; exact hn1
            have h64' : z < 64 := by rw [hz2.out]; exact h64
            have hrr : (⟨r.data.toList.toArray⟩ : ByteArray) = r := rfl
            clear h64 hn1
            go_wp2_with fail
            refine (sameTexts_any _ _ _ _ _ _ l0 l0 _ E0.out E0.out (by omega) (by omega) hr1 ((r0.below hb3' (Nat.le_refl _)).top)).mono ?_
            rintro e w4 ⟨rfl, hb4⟩
            go_wp2
            go_ret
            exact ⟨ret_bool (by simp), hb3'.trans (hb4.mono hb3'.size)⟩
          · rw [if_neg h64] at hn1 hr1 ⊢
            simp only at hn1 hr1 ⊢
            obtain rfl : 0 = n1 := hn1
            have h64' : 64 ≤ z := by rw [hz2.out]; omega
            clear h64
            go_wp2
            go_ret
            exact ⟨rfl, hb3'⟩
        · have hne : (r.toList == [86]) = false := tl_ne hv
          have HD := Lib.hid (show descB r.data.toList = true by rw [← resB_d hv]; exact hres)
          clear hv hres
          go_wp2_with fail
          refine (desc_any _ m _ (by omega) hmr).mono ?_
          rintro e w2 ⟨rfl, hb2⟩
          rw [HD.out]
          have hb2' := hb.trans (hb2.mono hb.size)
          go_wp2_with fail
          refine (method_post _ m _ (by rw [ByteArray.size_append, ByteArray.size_append]; show t.size + 1 + r.size ≤ _; omega) (cell_old hb2' hm)).mono ?_
          rintro e w3 ⟨A1, n1, c1, rfl, hn1, hr1, hb3⟩
          rw [hmv.out] at hn1 hr1 ⊢
          have hb3' := hb2'.trans (hb3.mono hb2'.size)
          by_cases h64 : slotSum l0 < 64
          · rw [if_pos h64] at hn1 hr1 ⊢
            simp only at hn1 hr1 ⊢
            obtain rfl : k = n1 := by rw [← E0.out]; exact hn1
            have h64' : z < 64 := by rw [hz2.out]; exact h64
            have hrr : (⟨r.data.toList.toArray⟩ : ByteArray) = r := rfl
            clear h64 hn1
            go_wp2_with fail
            refine (sameTexts_any _ _ _ _ _ _ l0 l0 _ E0.out E0.out (by omega) (by omega) hr1 ((r0.below hb3' (Nat.le_refl _)).top)).mono ?_
            rintro e w4 ⟨rfl, hb4⟩
            go_wp2
            go_ret
            exact ⟨ret_bool (by simp), hb3'.trans (hb4.mono hb3'.size)⟩
          · rw [if_neg h64] at hn1 hr1 ⊢
            simp only at hn1 hr1 ⊢
            obtain rfl : 0 = n1 := hn1
            have h64' : 64 ≤ z := by rw [hz2.out]; omega
            clear h64
            go_wp2
            go_ret
            exact ⟨rfl, hb3'⟩
end Go.Proofs.YthlplphpikboiaaDoor
