/- Contract: (*archive.book).record, whole. -/
import Derived.Test.YtokojichjliieaaDoorArcF
namespace Go.Proofs.YtokojichjliieaaDoor
open Go.RowKit
set_option maxRecDepth 100000 in
set_option maxHeartbeats 8000000 in
theorem record_any (g m n : Nat) (b : List UInt8) (p border : Nat) (seen : List (List UInt8)) (w : World) (mx : Int) (h : BookD w g b) (hm : MapT strV w Tryd.prog 9 m n (seenG seen)) (hmx : w.cell? ⟨0, 0, none⟩ = some (.int .i64 mx)) (hn : n ≤ 1000) (hb : border + 22 ≤ b.length) (hz : b.length ≤ 70000) (hp : p ≤ 9000000000) :
    Calls Tryd.prog 30 #[.pointer (some ⟨g, 0, none⟩), .int .i64 (p : Int), .int .i64 (border : Int), .map (some m)] w (RecPost (recA b p border seen) p w m n seen) := by
  by_cases hL : p + 46 ≤ border ∧ signA b p 1 2 = true ∧ (¬ border < p + 46 + numA b (p + 28) 2 + numA b (p + 30) 2 + numA b (p + 32) 2) ∧ numA b (p + 34) 2 = 0
  · exact record_long g m n b p border seen w mx h hm hmx hn hb hz hL.1 hL.2.1 hL.2.2.1 hL.2.2.2
  have HL := bx hL
  clear hL hm hmx hn
  obtain ⟨R, hR⟩ : ∃ R, recA b p border seen = R := ⟨_, rfl⟩
  rw [hR]
  unfold recA at hR
  obtain ⟨wz, hwz⟩ : ∃ wz, (w.alloc (.cells z8 57)).alloc (.cells z8 57) = wz := ⟨_, rfl⟩
  have hbl : Below w.heap.size w wz := by rw [← hwz]; exact bl_alloc (bl_alloc (Below.refl w.heap.size w) (Nat.le_refl _) _) (by simp) _
  have hZ0 : Bk wz w.heap.size 57 z8 := by rw [← hwz]; exact (Bk.new w _ z8).alloc _
  have hZ1 : Bk wz (w.heap.size + 1) 57 z8 := by rw [← hwz]; exact Bk.newAt _ _ _ (by simp)
  have hD : BookD wz g b := h.below hbl
  have HWZ := bx hwz
  have HBL := bx hbl
  have HZ0 := bx hZ0
  have HZ1 := bx hZ1
  clear hwz hbl hZ0 hZ1
  by_cases c1 : border < p + 46 ∨ signA b p 1 2 = false
  · rw [if_pos c1] at hR
    have HR := bx hR.symm
    have hf : (decide (p + 46 ≤ border) && signA b p 1 2) = false := by
      rcases c1 with c | c
      · rw [decide_eq_false (by omega)]; rfl
      · rw [c, Bool.and_false]
    have his := is_any g b p 46 border 2 1 2 wz hD (.inr (.inl ⟨rfl, rfl, rfl⟩)) (by omega) (by omega) (by omega) (by omega)
    rw [hf] at his
    have HIS := bx his
    clear his hf c1 hR
    go_enter Tryd.func30, Tryd.ntmps30
    go_wp2_with fail
    rw [z8_eq, HWZ.out]
    refine HIS.out.mono ?_
    rintro e w1 ⟨rfl, hb1⟩
    have hK0 := HZ0.out.below hb1 HZ0.out.lt
    have hK1 := HZ1.out.below hb1 HZ1.out.lt
    have HB1 := bx (HBL.out.trans (hb1.mono HBL.out.size))
    clear hb1
    go_wp2_with (first
      | (refine wpList_load_row rfl 57 (.tmp 11) rfl (w.heap.size + 1) rfl _ z8 _ _ hK1 Tryd.underlying57 rfl (by rw [z8_size]; exact info_found) ?_)
      | (refine wpList_store_row rfl 57 (.tmp 8) (.tmp 21) rfl w.heap.size z8 rfl rfl 57 z8 hK0 (by rw [z8_size]; exact info_found) rfl z8_one ?_))
    exact bodyPost_ret (v := .tuple #[.agg z8, .int .i64 0, .int .i64 11]) (results_record _ _ w.heap.size z8 rfl (hK0.setRow z8) rfl) rfl (RecPost.bad HR.out (bl_setRow HB1.out (Nat.le_refl _) z8))
  rw [if_neg c1] at hR
  have hin : p + 46 ≤ border := by omega
  have hsg : signA b p 1 2 = true := by
    cases h : signA b p 1 2 with
    | true => rfl
    | false => exact absurd (.inr h) c1
  have his := is_any g b p 46 border 2 1 2 wz hD (.inr (.inl ⟨rfl, rfl, rfl⟩)) (by omega) (by omega) (by omega) (by omega)
  rw [hsg, decide_eq_true hin] at his
  have HIS := bx his
  have HSG := bx hsg
  obtain ⟨sz, hsz⟩ : ∃ sz, numA b (p + 28) 2 = sz := ⟨_, rfl⟩
  obtain ⟨ex, hex⟩ : ∃ sz, numA b (p + 30) 2 = sz := ⟨_, rfl⟩
  obtain ⟨cm, hcm⟩ : ∃ sz, numA b (p + 32) 2 = sz := ⟨_, rfl⟩
  obtain ⟨dk, hdk⟩ : ∃ sz, numA b (p + 34) 2 = sz := ⟨_, rfl⟩
  have l1 : sz < 65536 := by rw [← hsz]; exact numA_2 _ _
  have l2 : ex < 65536 := by rw [← hex]; exact numA_2 _ _
  have l3 : cm < 65536 := by rw [← hcm]; exact numA_2 _ _
  have HSZ := bx hsz
  have HEX := bx hex
  have HCM := bx hcm
  have HDK := bx hdk
  rw [hsz, hex, hcm, hdk] at hR
  have HDD := bx hD
  clear his hsg c1 hsz hex hcm hdk hD
  by_cases c2 : border < p + 46 + sz + ex + cm
  · rw [if_pos (.inl c2)] at hR
    have HR := bx hR.symm
    have hcI : (border : Int) < (p : Int) + 46 + (sz : Int) + (ex : Int) + (cm : Int) := by omega
    clear hR c2
    go_enter Tryd.func30, Tryd.ntmps30
    go_wp2_with fail
    rw [z8_eq, HWZ.out]
    refine HIS.out.mono ?_
    rintro e w1 ⟨rfl, hb1⟩
    have hK0 := HZ0.out.below hb1 HZ0.out.lt
    have hK1 := HZ1.out.below hb1 HZ1.out.lt
    have HD1 := bx (HDD.out.below hb1)
    have HB1 := bx (HBL.out.trans (hb1.mono HBL.out.size))
    clear hb1
    go_wp2_with fail
    refine (num_at g b p 28 2 28 2 w1 HD1.out rfl rfl (by omega) (by omega) (by omega) HSZ.out).mono ?_
    rintro e w2 ⟨rfl, rfl⟩
    go_wp2_with fail
    refine (num_at g b p 30 2 30 2 w2 HD1.out rfl rfl (by omega) (by omega) (by omega) HEX.out).mono ?_
    rintro e w3 ⟨rfl, rfl⟩
    go_wp2_with fail
    refine (num_at g b p 32 2 32 2 w3 HD1.out rfl rfl (by omega) (by omega) (by omega) HCM.out).mono ?_
    rintro e w4 ⟨rfl, rfl⟩
    go_wp2_with (first
      | (refine wpList_load_row rfl 57 (.tmp 11) rfl (w.heap.size + 1) rfl _ z8 _ _ hK1 Tryd.underlying57 rfl (by rw [z8_size]; exact info_found) ?_)
      | (refine wpList_store_row rfl 57 (.tmp 8) (.tmp 50) rfl w.heap.size z8 rfl rfl 57 z8 hK0 (by rw [z8_size]; exact info_found) rfl z8_one ?_))
    exact bodyPost_ret (v := .tuple #[.agg z8, .int .i64 0, .int .i64 11]) (results_record _ _ w.heap.size z8 rfl (hK0.setRow z8) rfl) rfl (RecPost.bad HR.out (bl_setRow HB1.out (Nat.le_refl _) z8))
  have hcI : ¬ (border : Int) < (p : Int) + 46 + (sz : Int) + (ex : Int) + (cm : Int) := by omega
  by_cases c3 : dk = 0
  case neg =>
    rw [if_pos (.inr c3)] at hR
    have HR := bx hR.symm
    have hdI : ((dk : Int) != 0) = true := by rw [bne_iff_ne]; omega
    clear hR c2 c3
    go_enter Tryd.func30, Tryd.ntmps30
    go_wp2_with fail
    rw [z8_eq, HWZ.out]
    refine HIS.out.mono ?_
    rintro e w1 ⟨rfl, hb1⟩
    have hK0 := HZ0.out.below hb1 HZ0.out.lt
    have hK1 := HZ1.out.below hb1 HZ1.out.lt
    have HD1 := bx (HDD.out.below hb1)
    have HB1 := bx (HBL.out.trans (hb1.mono HBL.out.size))
    clear hb1
    go_wp2_with fail
    refine (num_at g b p 28 2 28 2 w1 HD1.out rfl rfl (by omega) (by omega) (by omega) HSZ.out).mono ?_
    rintro e w2 ⟨rfl, rfl⟩
    go_wp2_with fail
    refine (num_at g b p 30 2 30 2 w2 HD1.out rfl rfl (by omega) (by omega) (by omega) HEX.out).mono ?_
    rintro e w3 ⟨rfl, rfl⟩
    go_wp2_with fail
    refine (num_at g b p 32 2 32 2 w3 HD1.out rfl rfl (by omega) (by omega) (by omega) HCM.out).mono ?_
    rintro e w4 ⟨rfl, rfl⟩
    go_wp2_with fail
    refine (num_at g b p 34 2 34 2 w4 HD1.out rfl rfl (by omega) (by omega) (by omega) HDK.out).mono ?_
    rintro e w5 ⟨rfl, rfl⟩
    go_wp2_with (first
      | (refine wpList_load_row rfl 57 (.tmp 11) rfl (w.heap.size + 1) rfl _ z8 _ _ hK1 Tryd.underlying57 rfl (by rw [z8_size]; exact info_found) ?_)
      | (refine wpList_store_row rfl 57 (.tmp 8) (.tmp 50) rfl w.heap.size z8 rfl rfl 57 z8 hK0 (by rw [z8_size]; exact info_found) rfl z8_one ?_))
    exact bodyPost_ret (v := .tuple #[.agg z8, .int .i64 0, .int .i64 11]) (results_record _ _ w.heap.size z8 rfl (hK0.setRow z8) rfl) rfl (RecPost.bad HR.out (bl_setRow HB1.out (Nat.le_refl _) z8))
  exact (HL.out ⟨hin, HSG.out, by rw [HSZ.out, HEX.out, HCM.out]; exact c2, HDK.out.trans c3⟩).elim
end Go.Proofs.YtokojichjliieaaDoor
