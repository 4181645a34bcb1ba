/- Contracts: samovarref06.Length, Distance, fixed. -/
import Derived.Test.YtbhljigppljjbaaRfB
import Derived.Test.YtbhljigppljjbaaInfB
namespace Go.Proofs.Ytbhljigppljjbaa
open Go.RowKit

theorem two_mul_wrap {i : Nat} (h : i < 30) : wrap64 (2 * 2 ^ i) = ((2 ^ (i + 1) : Nat) : Int) := by
  have hp : (2 : Nat) ^ (i + 1) ≤ 2 ^ 30 := Nat.pow_le_pow_right (by decide) (by omega)
  have e : ((2 : Int) * 2 ^ i) = ((2 ^ (i + 1) : Nat) : Int) := by
    rw [Nat.pow_succ, Nat.mul_comm]; simp
  rw [e]
  obtain ⟨Q, hQ⟩ : ∃ Q, (2 : Nat) ^ (i + 1) = Q := ⟨_, rfl⟩
  rw [hQ] at hp ⊢
  exact IntWalk.wrap64_in _ (by omega)
set_option maxHeartbeats 2000000 in
theorem rdist_any (s : Nat) (w : World) (hs : s ≤ 29) : Calls Try.prog 41 #[.int .i64 (s : Int)] w fun e w' => e = .returned (.tuple #[.int .i64 ((dstP s).1 : Int), .int .i64 ((dstP s).2 : Int)]) ∧ w = w' := by
  go_enter Try.func41, Try.ntmps41
  go_wp2_with fail
  go_loopg [4, 5] s (fun κ v4 v5 wr => ∃ k : Nat, κ = s - k ∧ k ≤ s ∧ v4 = .int .i64 ((dstP k).1 : Int) ∧ v5 = .int .i64 (k : Int) ∧ w = wr)
  case atStart => exact ⟨0, by omega, by omega, rfl, rfl, rfl⟩
  case round =>
    obtain ⟨k, hgk, hk, rfl, rfl, rfl⟩ := hrel
    have hm := dst_more k (by omega)
    have hbd := dst_bd k (by omega)
    have HST := bx (fun h : k < 29 => dst_step k h)
    obtain ⟨L, hL⟩ : ∃ L, (dstP k).1 = L := ⟨_, rfl⟩
    obtain ⟨M, hM⟩ : ∃ M, (dstP k).2 = M := ⟨_, rfl⟩
    rw [hM] at hm hbd
    rw [hL] at hbd ⊢
    rw [hL, hM] at HST
    have HLx := bx hL
    have HMx := bx hM
    have HMM := bx hm
    clear hL hM hm
    go_upto_if 12 with (fail)
    go_cut [6] (fun v6 wx => v6 = .int .i64 (M : Int) ∧ w = wx)
    case first =>
      have hm := HMM.out
      by_cases h4 : 4 ≤ k
      · rw [if_pos h4] at hm
        have hkI : (4 : Int) ≤ (k : Int) := by omega
        have hq : ((k : Int) - 4) / 2 = ((M - 1 : Nat) : Int) := by omega
        have hM1 : 1 ≤ M := by omega
        clear h4 hm
        go_wp2
        go_meet
        case rel => exact ⟨by congr 1; first | omega | (rw [Int.tdiv_eq_ediv_of_nonneg (by omega)]; omega), rfl⟩
      · rw [if_neg h4] at hm
        have hkI : ¬ (4 : Int) ≤ (k : Int) := by omega
        subst hm
        go_wp2
        go_meet
        case rel => exact ⟨rfl, rfl⟩
    case rest =>
      obtain ⟨rfl, rfl⟩ := hcut
      by_cases hks : k = s
      · have hb : ((k : Int) == (s : Int)) = true := by rw [hks]; exact beq_self_eq_true _
        have H1 : Bx ((dstP s).1 = L ∧ (dstP s).2 = M) := bx (by rw [← hks]; exact ⟨HLx.out, HMx.out⟩)
        clear hks HLx HMx HST
        go_wp2
        go_ret2
        exact ⟨by rw [H1.out.1, H1.out.2]; rfl, rfl⟩
      · have hb : ((k : Int) == (s : Int)) = false := by rw [beq_eq_false_iff_ne]; omega
        go_wp2_with fail
        go_loopg [7, 8] M (fun κ v7 v8 wr => ∃ i : Nat, κ = M - i ∧ i ≤ M ∧ v7 = .int .i64 ((2 ^ i : Nat) : Int) ∧ v8 = .int .i64 (i : Int) ∧ w = wr)
        case atStart => exact ⟨0, by omega, by omega, rfl, rfl, rfl⟩
        case round =>
          obtain ⟨i, hgi, hi, rfl, rfl, rfl⟩ := hrel
          by_cases hiM : i < M
          · have HP := bx (two_mul_wrap (i := i) (by omega))
            go_wp2
            go_roundg (M - (i + 1))
            case rel => exact ⟨i + 1, rfl, by omega, by rw [← HP.out], by go_num, rfl⟩
            case measure => omega
          · obtain rfl : i = M := by omega
            have hp : (2 : Nat) ^ i ≤ 2 ^ 13 := Nat.pow_le_pow_right (by decide) hbd.2.1
            have HS : Bx ((dstP (k + 1)).1 = L + 2 ^ i) := bx (HST.out (by omega))
            have HW : Bx (wrap64 ((L : Int) + 2 ^ i) = ((L + 2 ^ i : Nat) : Int)) := bx (by
              have e : ((L : Int) + (2 : Int) ^ i) = ((L + 2 ^ i : Nat) : Int) := by simp
              rw [e]
              obtain ⟨Q, hQ⟩ : ∃ Q, (2 : Nat) ^ i = Q := ⟨_, rfl⟩
              rw [hQ] at hp ⊢
              exact IntWalk.wrap64_in _ (by omega))
            clear HST HLx HMx
            go_wp2
            go_roundg (s - (k + 1))
            case rel => exact ⟨k + 1, rfl, by omega, by rw [HS.out, ← HW.out], by go_num, rfl⟩
            case measure => omega
set_option maxRecDepth 100000 in
set_option maxHeartbeats 4000000 in
theorem rlen_any (s : Nat) (w : World) (hs1 : 257 ≤ s) (hs : s ≤ 285) : Calls Try.prog 40 #[.int .i64 (s : Int)] w fun e w' => e = .returned (.tuple #[.int .i64 ((lenP s).1 : Int), .int .i64 ((lenP s).2 : Int)]) ∧ w = w' := by
  by_cases h285 : s = 285
  · subst h285
    have h1 : (lenP 285).1 = 258 ∧ (lenP 285).2 = 0 := ⟨rfl, rfl⟩
    rw [h1.1, h1.2]
    go_enter Try.func40, Try.ntmps40
    go_wp2
    go_ret2
    exact ⟨rfl, rfl⟩
  have hsb : ((s : Int) == 285) = false := by rw [beq_eq_false_iff_ne]; omega
  have hs2 : s ≤ 284 := by omega
  clear h285
  go_enter Try.func40, Try.ntmps40
  go_wp2_with fail
  go_loopg [4, 5, 6] (s - 257) (fun κ v4 _ v6 wr => ∃ k : Nat, κ = s - k ∧ 257 ≤ k ∧ k ≤ s ∧ v4 = .int .i64 ((lenP k).1 : Int) ∧ v6 = .int .i64 (k : Int) ∧ w = wr)
  case atStart => exact ⟨257, by omega, by omega, by omega, rfl, rfl, rfl⟩
  case round =>
    obtain ⟨k, hgk, hk1, hk, rfl, rfl, rfl⟩ := hrel
    have HMM := bx (len_more k hk1 (by omega))
    have hbd := len_bd k hk1 (by omega)
    have HST := bx (fun h : k < 284 => len_step k hk1 h)
    obtain ⟨L, hL⟩ : ∃ L, (lenP k).1 = L := ⟨_, rfl⟩
    obtain ⟨M, hM⟩ : ∃ M, (lenP k).2 = M := ⟨_, rfl⟩
    rw [hM] at HMM hbd
    rw [hL] at hbd ⊢
    rw [hL, hM] at HST
    have HLx := bx hL
    have HMx := bx hM
    clear hL hM
    go_upto_if 14 with (fail)
    go_cut [5] (fun v5 wx => v5 = .int .i64 (M : Int) ∧ w = wx)
    case first =>
      have hm := HMM.out
      by_cases h4 : 265 ≤ k
      · rw [if_pos h4] at hm
        have hkI : (265 : Int) ≤ (k : Int) := by omega
        have hq : ((k : Int) - 265) / 4 = ((M - 1 : Nat) : Int) := by omega
        have hM1 : 1 ≤ M := by omega
        clear h4 hm
        go_wp2
        go_meet
        case rel => exact ⟨by congr 1; first | omega | (rw [Int.tdiv_eq_ediv_of_nonneg (by omega)]; omega), rfl⟩
      · rw [if_neg h4] at hm
        have hkI : ¬ (265 : Int) ≤ (k : Int) := by omega
        subst hm
        go_wp2
        go_meet
        case rel => exact ⟨rfl, rfl⟩
    case rest =>
      obtain ⟨rfl, rfl⟩ := hcut
      by_cases hks : k = s
      · have hb : ((k : Int) == (s : Int)) = true := by rw [hks]; exact beq_self_eq_true _
        have H1 : Bx ((lenP s).1 = L ∧ (lenP s).2 = M) := bx (by rw [← hks]; exact ⟨HLx.out, HMx.out⟩)
        clear hks HLx HMx HST
        go_wp2
        go_ret2
        exact ⟨by rw [H1.out.1, H1.out.2]; rfl, rfl⟩
      · have hb : ((k : Int) == (s : Int)) = false := by rw [beq_eq_false_iff_ne]; omega
        go_wp2_with fail
        go_loopg [4, 7, 8] (M + 1) (fun κ v4 v7 v8 wr => ∃ (i l2 : Nat), κ = M + 1 - i ∧ i ≤ M + 1 ∧ v7 = .int .i64 (i : Int) ∧ v8 = .int .i64 ((2 ^ i : Nat) : Int) ∧ v4 = .int .i64 (l2 : Int) ∧ Bx (l2 = if i ≤ M then L else L + 2 ^ M) ∧ w = wr)
        case atStart => exact ⟨0, L, by omega, by omega, rfl, rfl, rfl, bx (by rw [if_pos (by omega)]), rfl⟩
        case round =>
          obtain ⟨i, l2, hgi, hi, rfl, rfl, rfl, HL2, rfl⟩ := hrel
          by_cases hiM : i ≤ M
          · have HP := bx (two_mul_wrap (i := i) (by omega))
            obtain rfl : l2 = L := by rw [HL2.out, if_pos hiM]
            by_cases hie : i = M
            · have hib : ((i : Int) == (M : Int)) = true := by rw [hie]; exact beq_self_eq_true _
              have hp : (2 : Nat) ^ i ≤ 2 ^ 5 := Nat.pow_le_pow_right (by decide) (by omega)
              have HW : Bx (wrap64 ((l2 : Int) + 2 ^ i) = ((l2 + 2 ^ i : Nat) : Int)) := bx (by
                have e : ((l2 : Int) + (2 : Int) ^ i) = ((l2 + 2 ^ i : Nat) : Int) := by simp
                rw [e]
                obtain ⟨Q, hQ⟩ : ∃ Q, (2 : Nat) ^ i = Q := ⟨_, rfl⟩
                rw [hQ] at hp ⊢
                exact IntWalk.wrap64_in _ (by omega))
              have HN : Bx (l2 + 2 ^ i = if i + 1 ≤ M then l2 else l2 + 2 ^ M) := bx (by rw [if_neg (by omega), hie])
              clear hie
              go_wp2
              go_roundg (M + 1 - (i + 1))
              case rel => exact ⟨i + 1, l2 + 2 ^ i, rfl, by omega, by go_num, by rw [← HP.out], by rw [← HW.out], HN, rfl⟩
              case measure => omega
            · have hib : ((i : Int) == (M : Int)) = false := by rw [beq_eq_false_iff_ne]; omega
              have HN : Bx (l2 = if i + 1 ≤ M then l2 else l2 + 2 ^ M) := bx (by rw [if_pos (by omega)])
              go_wp2
              go_roundg (M + 1 - (i + 1))
              case rel => exact ⟨i + 1, l2, rfl, by omega, by go_num, by rw [← HP.out], rfl, HN, rfl⟩
              case measure => omega
          · obtain rfl : i = M + 1 := by omega
            have HS : Bx ((lenP (k + 1)).1 = l2) := bx (by rw [HL2.out, if_neg (by omega)]; exact HST.out (by omega))
            have hnl : ¬ ((M + 1 : Nat) : Int) ≤ (M : Int) := by omega
            clear HST HLx HMx HL2
            go_wp2
            go_roundg (s - (k + 1))
            case rel => exact ⟨k + 1, rfl, by omega, by omega, by rw [HS.out], by go_num, rfl⟩
            case measure => omega
theorem litV_step {j : Nat} (hj : j < 288) : fixLit.take (j + 1) = fixLit.take j ++ [litV j] := by
  rw [List.take_add_one, fixLit_all j hj]; rfl
set_option maxRecDepth 100000 in
set_option maxHeartbeats 4000000 in
theorem rfixed_any (w : World) : Calls Try.prog 24 #[] w fun e w' => ∃ A A' c c', e = .returned (.tuple #[.slice A 288 c, .slice A' 32 c']) ∧ RN w' w'.heap.size A fixLit ∧ RN w' w'.heap.size A' fixDist ∧ Below w.heap.size w w' := by
  go_enter Try.func24, Try.ntmps24
  go_wp2_with fail
  go_loopg [2, 4] 288 (fun κ v2 v4 wr => ∃ j : Nat, κ = 288 - j ∧ j ≤ 288 ∧ v4 = .int .i64 (j : Int) ∧ OwL nV wr w.heap.size 3 v2 (fixLit.take j) ∧ Below w.heap.size w wr)
  case atStart => exact ⟨0, by omega, by omega, rfl, OwL.nil, Below.refl _ _⟩
  case round =>
    obtain ⟨j, hgk, hj, rfl, hO, hB⟩ := hrel
    have hlen : (fixLit.take j).length = j := by rw [List.length_take, fixLit_len]; omega
    by_cases hjn : j < 288
    · have HN1 : Bx (((fixLit.take j).length + [litV j].length) * 8 ≤ 140737488355328) := bx (by rw [hlen]; simp; omega)
      have HST := bx (litV_step hjn)
      have hBz := hB.size
      have key : ∀ x : Nat, litV j = x → Bx (RL nV (wr.alloc (.cells #[.int .i64 (x : Int)] 3)) (wr.heap.size + 1) (some ⟨wr.heap.size, 0, none⟩) [litV j]) := fun x hx => bx (RL.freshe _ _ (by rw [hx]; rfl) _)
      have hBa : ∀ x : Nat, Below w.heap.size w (wr.alloc (.cells #[.int .i64 (x : Int)] 3)) := fun x => bl_alloc hB (Nat.le_refl _) _
      have KEY := bx key
      have HBA := bx hBa
      clear key hBa hlen
      by_cases h1 : j < 144
      · have K8 := KEY.out 8 (by unfold litV; rw [if_pos h1])
        clear KEY
        go_wp2_with (at_builtin; refine wpList_appL _ nV_one rfl (.tmp 23) (.tmp 25) rfl intTy (by decide) w.heap.size _ (fixLit.take j) rfl (hO.alloc _) _ _ 1 1 [litV j] rfl rfl K8.out HN1.out (le_alloc0 hBz _) ?_; intro v5 w5 hO5 hg5 hk5 hb5)
        have hB5 := (HBA.out 8).trans hb5
        rw [← HST.out] at hO5
        go_roundg (288 - (j + 1))
        case rel => exact ⟨j + 1, rfl, by omega, by go_num, hO5, hB5⟩
        case measure => omega
      · by_cases h2 : j < 256
        · have K8 := KEY.out 9 (by unfold litV; rw [if_neg h1, if_pos h2])
          clear KEY
          go_wp2_with (at_builtin; refine wpList_appL _ nV_one rfl (.tmp 23) (.tmp 25) rfl intTy (by decide) w.heap.size _ (fixLit.take j) rfl (hO.alloc _) _ _ 1 1 [litV j] rfl rfl K8.out HN1.out (le_alloc0 hBz _) ?_; intro v5 w5 hO5 hg5 hk5 hb5)
          have hB5 := (HBA.out 9).trans hb5
          rw [← HST.out] at hO5
          go_roundg (288 - (j + 1))
          case rel => exact ⟨j + 1, rfl, by omega, by go_num, hO5, hB5⟩
          case measure => omega
        · by_cases h3 : j < 280
          · have K8 := KEY.out 7 (by unfold litV; rw [if_neg h1, if_neg h2, if_pos h3])
            clear KEY
            go_wp2_with (at_builtin; refine wpList_appL _ nV_one rfl (.tmp 23) (.tmp 25) rfl intTy (by decide) w.heap.size _ (fixLit.take j) rfl (hO.alloc _) _ _ 1 1 [litV j] rfl rfl K8.out HN1.out (le_alloc0 hBz _) ?_; intro v5 w5 hO5 hg5 hk5 hb5)
            have hB5 := (HBA.out 7).trans hb5
            rw [← HST.out] at hO5
            go_roundg (288 - (j + 1))
            case rel => exact ⟨j + 1, rfl, by omega, by go_num, hO5, hB5⟩
            case measure => omega
          · have K8 := KEY.out 8 (by unfold litV; rw [if_neg h1, if_neg h2, if_neg h3])
            clear KEY
            go_wp2_with (at_builtin; refine wpList_appL _ nV_one rfl (.tmp 23) (.tmp 25) rfl intTy (by decide) w.heap.size _ (fixLit.take j) rfl (hO.alloc _) _ _ 1 1 [litV j] rfl rfl K8.out HN1.out (le_alloc0 hBz _) ?_; intro v5 w5 hO5 hg5 hk5 hb5)
            have hB5 := (HBA.out 8).trans hb5
            rw [← HST.out] at hO5
            go_roundg (288 - (j + 1))
            case rel => exact ⟨j + 1, rfl, by omega, by go_num, hO5, hB5⟩
            case measure => omega
    · obtain rfl : j = 288 := by omega
      have htk : fixLit.take 288 = fixLit := List.take_of_length_le (by rw [fixLit_len]; exact Nat.le_refl _)
      rw [htk] at hO
      obtain ⟨A, c, rfl, hr, _, _⟩ := OwL.rd hO
      rw [fixLit_len]
      clear hO htk hlen
      obtain ⟨wo, rfl⟩ : ∃ wo : World, wo = wr := ⟨_, rfl⟩
      go_wp2_with fail
      go_loopg [3, 6] 32 (fun κ v3 v6 wr2 => ∃ j : Nat, κ = 32 - j ∧ j ≤ 32 ∧ v6 = .int .i64 (j : Int) ∧ OwL nV wr2 wo.heap.size 3 v3 (List.replicate j 5) ∧ Below wo.heap.size wo wr2)
      case atStart => exact ⟨0, by omega, by omega, rfl, OwL.nil, Below.refl _ _⟩
      case round =>
        obtain ⟨i, hgi, hi, rfl, hO, hB2⟩ := hrel
        by_cases hin : i < 32
        · have HN1 : Bx (((List.replicate i 5).length + [5].length) * 8 ≤ 140737488355328) := bx (by simp; omega)
          have hBz := hB2.size
          have HBA := bx (bl_alloc hB2 (Nat.le_refl _) (.cells #[.int .i64 5] 3))
          go_wp2_with (at_builtin; refine wpList_appL _ nV_one rfl (.tmp 31) (.tmp 32) rfl intTy (by decide) wo.heap.size _ (List.replicate i 5) rfl (hO.alloc _) _ _ 1 1 [5] rfl rfl (RL.freshe _ 5 rfl _) HN1.out (le_alloc0 hBz _) ?_; intro v5 w5 hO5 hg5 hk5 hb5)
          have hB5 := HBA.out.trans hb5
          have hO6 : OwL nV w5 wo.heap.size 3 v5 (List.replicate (i + 1) 5) := by rw [List.replicate_succ']; exact hO5
          go_roundg (32 - (i + 1))
          case rel => exact ⟨i + 1, rfl, by omega, by go_num, hO6, hB5⟩
          case measure => omega
        · obtain rfl : i = 32 := by omega
          obtain ⟨A', c', rfl, hr', _, _⟩ := OwL.rd hO
          have hrx := hr.step hB2
          have HB := bx (hB.trans (hB2.mono hB.size))
          rw [List.length_replicate]
          clear hO
          go_wp2
          go_ret2
          exact ⟨A, A', c, c', rfl, hrx, hr', HB.out⟩
end Go.Proofs.Ytbhljigppljjbaa
