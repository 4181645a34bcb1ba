/- The walk of VtypeArrays. -/
import Derived.Test.YthblilhdjabhnaaDoorVtX
namespace Go.Proofs.YthblilhdjabhnaaDoor
open Go.RowKit

theorem brack_zero (s : List UInt8) : brack 0 s = [76] ++ s ++ [59] := rfl
theorem brack_succ (n : Nat) (s : List UInt8) : brack (n + 1) s = 91 :: brack n s := by unfold brack; rw [List.replicate_succ]; rfl
theorem brack_len (n : Nat) (s : List UInt8) : (brack n s).length = n + s.length + 2 := by unfold brack; simp; omega
theorem obj_tl (t : ByteArray) : decide (t.data.toList = objL) = (t.toList == [106, 97, 118, 97, 47, 108, 97, 110, 103, 47, 79, 98, 106, 101, 99, 116]) := by
  rw [Lib.toList_data, Bool.eq_iff_iff]; simp only [objL, beq_iff_eq]; exact decide_eq_true_iff
set_option maxRecDepth 100000 in
set_option maxHeartbeats 4000000 in
theorem vtypeArrays_walk (m : Int) (w : World) (hm : w.cell? ⟨0, 0, none⟩ = some (.int .i64 m)) (A0 : Option Addr) (n0 c0 : Nat) (l0 : List Hdr) (e0 : l0.length = n0) (r0 : RH w w.heap.size A0 l0) (q0 : ∀ h ∈ l0, h.1.length ≤ maxLen ∧ h.2.1.length ≤ maxLen) (_b0 : n0 ≤ 140737488351232)
    (f : ByteArray) (_bf : f.size ≤ 140737488351232) (t : ByteArray) (_bt : t.size ≤ 140737488351232) (x : Int) (hx : 0 ≤ x ∧ x ≤ 255) :
    Calls Tryd.prog 6 #[.slice A0 n0 c0, .string f, .string t, .int .u8 x] w fun e w' => e = .returned (.bool true) ∧ Below w.heap.size w w' := by
  have E0 := Lib.hid e0
  have Q0 := Lib.hid q0
  clear e0 q0
  obtain ⟨r, hr5, hr⟩ : ∃ r : Nat, r ≤ 5 ∧ x.tmod 6 = (r : Int) := ⟨(x.tmod 6).toNat, by rw [Int.tmod_eq_emod_of_nonneg hx.1]; omega, by rw [Int.tmod_eq_emod_of_nonneg hx.1]; omega⟩
  go_enter Tryd.func6, Tryd.ntmps6
  go_wp2_with fail
  refine (fixed17_any m _ hm).mono ?_
  rintro e w1 ⟨rfl, hb1⟩
  by_cases hz : n0 ≤ 300
  · by_cases hz1 : f.size ≤ 3000
    · by_cases hz2 : t.size ≤ 3000
      · cases hA : isArr f.data.toList
        · have HA := Lib.hid hA
          clear hA
          cases hB : isArr t.data.toList
          · have HB := Lib.hid hB
            clear hB
            go_wp2_with fail
            refine (array_any f _).mono ?_
            rintro e w' ⟨rfl, rfl⟩
            rw [HA.out]
            go_wp2_with fail
            refine (array_any t _).mono ?_
            rintro e w' ⟨rfl, rfl⟩
            rw [HB.out]
            go_wp2_with fail
            refine (under_any A0 n0 c0 l0 E0.out (by omega) Q0.out (f.size + 1) f t _ (by omega) ((r0.below hb1 (Nat.le_refl _)).top) (by omega) (by omega)).mono ?_
            rintro e w2 ⟨rfl, hb2⟩
            have hb2' := hb1.trans (hb2.mono hb1.size)
            obtain ⟨⟨ra, rn⟩, hR⟩ : ∃ R, underV l0 f.data.toList t.data.toList = R := ⟨_, rfl⟩
            have HR := Lib.hid hR
            rw [hR]
            clear hR
            go_wp2
            go_loop [11, 12, 13] (fun a b i => ∃ (k : Nat) (x y : ByteArray), k ≤ r + 1 ∧ a = .string x ∧ b = .string y ∧ i = .int .i64 (k : Int) ∧ Hid (x.data.toList = brack k f.data.toList ∧ y.data.toList = brack k t.data.toList)) (fun _ _ i => r + 1 - (intOf i).toNat)
            case atStart => exact ⟨0, _, _, by omega, rfl, rfl, rfl, Lib.hid ⟨by simp [brack_zero], by simp [brack_zero]⟩⟩
            case round =>
              obtain ⟨k, u, v, hk, rfl, rfl, rfl, hs⟩ := hrel
              have hs1 : u.size = k + f.size + 2 := by rw [← size_len, hs.out.1, brack_len, size_len]
              have hs2 : v.size = k + t.size + 2 := by rw [← size_len, hs.out.2, brack_len, size_len]
              have hw1 : IntKind.i64.wrap ((k : Int) + 1) = (k : Int) + 1 := IntWalk.i64_in _ (by omega)
              by_cases hk0 : k ≤ r
              · go_wp2
                go_round
                case rel => exact ⟨k + 1, _, _, by omega, rfl, rfl, by go_num, Lib.hid ⟨by rw [brack_succ, ← hs.out.1]; simp, by rw [brack_succ, ← hs.out.2]; simp⟩⟩
                case measure => simp [intOf]; omega
              · obtain rfl : k = r + 1 := by omega
                go_wp2_with fail
                refine (under_any A0 n0 c0 l0 E0.out (by omega) Q0.out (u.size + 1) u v _ (by omega) ((r0.below hb2' (Nat.le_refl _)).top) (by omega) (by omega)).mono ?_
                rintro e w3 ⟨rfl, hb3⟩
                have hb3' := hb2'.trans (hb3.mono hb2'.size)
                rw [hs.out.1, hs.out.2, under_brack, HR.out]
                go_wp2_with fail
                refine (under_any A0 n0 c0 l0 E0.out (by omega) Q0.out (u.size + 1) u t _ (by omega) ((r0.below hb3' (Nat.le_refl _)).top) (by omega) (by omega)).mono ?_
                rintro e w4 ⟨rfl, hb4⟩
                have hb4' := hb3'.trans (hb4.mono hb3'.size)
                rw [hs.out.1, under_mixed _ _ _ _ HB.out, obj_tl]
                go_wp2
                all_goals
                  go_ret
                  exact ⟨ret_bool (by simp), hb4'⟩
          · have HB := Lib.hid hB
            clear hB
            go_wp2_with fail
            refine (array_any f _).mono ?_
            rintro e w' ⟨rfl, rfl⟩
            rw [HA.out]
            go_wp2_with fail
            refine (array_any t _).mono ?_
            rintro e w' ⟨rfl, rfl⟩
            rw [HB.out]
            go_wp2
            go_ret
            exact ⟨rfl, hb1⟩
        · have HA := Lib.hid hA
          clear hA
          go_wp2_with fail
          refine (array_any f _).mono ?_
          rintro e w' ⟨rfl, rfl⟩
          rw [HA.out]
          go_wp2
          go_ret
          exact ⟨rfl, hb1⟩
      · have hz' : 3000 < t.size := by omega
        go_wp2
        go_ret
        exact ⟨rfl, hb1⟩
    · have hz' : 3000 < f.size := by omega
      go_wp2
      go_ret
      exact ⟨rfl, hb1⟩
  · have hz' : 300 < n0 := by omega
    go_wp2
    go_ret
    exact ⟨rfl, hb1⟩
end Go.Proofs.YthblilhdjabhnaaDoor
