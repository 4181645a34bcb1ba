/- Contracts: samovarref06.Length, Distance, fixed. Contract: samovarref06.told. Contract: samovarref06.symbols. Contract: samovarref06.All. Contracts: samovarref10.Unpack. Contract: samovarref10.Find. Arguments of more kinds opened: rows of one-cell elements, of 16-bit numbers, of texts. What a row that lists variables wants of its witness. Arguments: a record of an archive by value, an array of four bytes. The walk of EntryHolds. -/
import Derived.Test.YtokojichjliieaaDoorPk6
import Derived.Test.YtokojichjliieaaDoorPk2
import Derived.Deep.WholeRow
import Derived.Test.YtokojichjliieaaDoorPk3
import Derived.Test.YtokojichjliieaaDoorPk4
import Derived.Test.YtokojichjliieaaDoorPk1
import Derived.Lib.SmallJoins
import Derived.Laws.IdiomArrays
import Derived.Outline
namespace Go.Proofs.YtokojichjliieaaDoor
open Go.RowKit

theorem two_mul_wrap {i : Nat} (h : i < 30) : wrap64 (2 * 2 ^ i) = ((2 ^ (i + 1) : Nat) : Int) := by
  have hp : (2 : Nat) ^ (i + 1) ≤ 2 ^ 30 := Nat.pow_le_pow_right (by decide) (by omega)
  have e : ((2 : Int) * 2 ^ i) = ((2 ^ (i + 1) : Nat) : Int) := by
    rw [Nat.pow_succ, Nat.mul_comm]; simp
  rw [e]
  obtain ⟨Q, hQ⟩ : ∃ Q, (2 : Nat) ^ (i + 1) = Q := ⟨_, rfl⟩
  rw [hQ] at hp ⊢
  exact IntWalk.wrap64_in _ (by omega)
set_option maxHeartbeats 2000000 in
theorem rdist_any (s : Nat) (w : World) (hs : s ≤ 29) : Calls Tryd.prog 89 #[.int .i64 (s : Int)] w fun e w' => e = .returned (.tuple #[.int .i64 ((dstP s).1 : Int), .int .i64 ((dstP s).2 : Int)]) ∧ w = w' := by
  go_enter Tryd.func89, Tryd.ntmps89
  go_wp2_with fail
  go_loopg [4, 5] s (fun κ v4 v5 wr => ∃ k : Nat, κ = s - k ∧ k ≤ s ∧ v4 = .int .i64 ((dstP k).1 : Int) ∧ v5 = .int .i64 (k : Int) ∧ w = wr)
  case atStart => exact ⟨0, by omega, by omega, rfl, rfl, rfl⟩
  case round =>
    obtain ⟨k, hgk, hk, rfl, rfl, rfl⟩ := hrel
    have hm := dst_more k (by omega)
    have hbd := dst_bd k (by omega)
    have HST := bx (fun h : k < 29 => dst_step k h)
    obtain ⟨L, hL⟩ : ∃ L, (dstP k).1 = L := ⟨_, rfl⟩
    obtain ⟨M, hM⟩ : ∃ M, (dstP k).2 = M := ⟨_, rfl⟩
    rw [hM] at hm hbd
    rw [hL] at hbd ⊢
    rw [hL, hM] at HST
    have HLx := bx hL
    have HMx := bx hM
    have HMM := bx hm
    clear hL hM hm
    go_upto_if 12 with (fail)
    go_cut [6] (fun v6 wx => v6 = .int .i64 (M : Int) ∧ w = wx)
    case first =>
      have hm := HMM.out
      by_cases h4 : 4 ≤ k
      · rw [if_pos h4] at hm
        have hkI : (4 : Int) ≤ (k : Int) := by omega
        have hq : ((k : Int) - 4) / 2 = ((M - 1 : Nat) : Int) := by omega
        have hM1 : 1 ≤ M := by omega
        clear h4 hm
        go_wp2
        go_meet
        case rel => exact ⟨by congr 1; first | omega | (rw [Int.tdiv_eq_ediv_of_nonneg (by omega)]; omega), rfl⟩
      · rw [if_neg h4] at hm
        have hkI : ¬ (4 : Int) ≤ (k : Int) := by omega
        subst hm
        go_wp2
        go_meet
        case rel => exact ⟨rfl, rfl⟩
    case rest =>
      obtain ⟨rfl, rfl⟩ := hcut
      by_cases hks : k = s
      · have hb : ((k : Int) == (s : Int)) = true := by rw [hks]; exact beq_self_eq_true _
        have H1 : Bx ((dstP s).1 = L ∧ (dstP s).2 = M) := bx (by rw [← hks]; exact ⟨HLx.out, HMx.out⟩)
        clear hks HLx HMx HST
        go_wp2
        go_ret2
        exact ⟨by rw [H1.out.1, H1.out.2]; rfl, rfl⟩
      · have hb : ((k : Int) == (s : Int)) = false := by rw [beq_eq_false_iff_ne]; omega
        go_wp2_with fail
        go_loopg [7, 8] M (fun κ v7 v8 wr => ∃ i : Nat, κ = M - i ∧ i ≤ M ∧ v7 = .int .i64 ((2 ^ i : Nat) : Int) ∧ v8 = .int .i64 (i : Int) ∧ w = wr)
        case atStart => exact ⟨0, by omega, by omega, rfl, rfl, rfl⟩
        case round =>
          obtain ⟨i, hgi, hi, rfl, rfl, rfl⟩ := hrel
          by_cases hiM : i < M
          · have HP := bx (two_mul_wrap (i := i) (by omega))
            go_wp2
            go_roundg (M - (i + 1))
            case rel => exact ⟨i + 1, rfl, by omega, by rw [← HP.out], by go_num, rfl⟩
            case measure => omega
          · obtain rfl : i = M := by omega
            have hp : (2 : Nat) ^ i ≤ 2 ^ 13 := Nat.pow_le_pow_right (by decide) hbd.2.1
            have HS : Bx ((dstP (k + 1)).1 = L + 2 ^ i) := bx (HST.out (by omega))
            have HW : Bx (wrap64 ((L : Int) + 2 ^ i) = ((L + 2 ^ i : Nat) : Int)) := bx (by
              have e : ((L : Int) + (2 : Int) ^ i) = ((L + 2 ^ i : Nat) : Int) := by simp
              rw [e]
              obtain ⟨Q, hQ⟩ : ∃ Q, (2 : Nat) ^ i = Q := ⟨_, rfl⟩
              rw [hQ] at hp ⊢
              exact IntWalk.wrap64_in _ (by omega))
            clear HST HLx HMx
            go_wp2
            go_roundg (s - (k + 1))
            case rel => exact ⟨k + 1, rfl, by omega, by rw [HS.out, ← HW.out], by go_num, rfl⟩
            case measure => omega
set_option maxRecDepth 100000 in
set_option maxHeartbeats 4000000 in
theorem rlen_any (s : Nat) (w : World) (hs1 : 257 ≤ s) (hs : s ≤ 285) : Calls Tryd.prog 88 #[.int .i64 (s : Int)] w fun e w' => e = .returned (.tuple #[.int .i64 ((lenP s).1 : Int), .int .i64 ((lenP s).2 : Int)]) ∧ w = w' := by
  by_cases h285 : s = 285
  · subst h285
    have h1 : (lenP 285).1 = 258 ∧ (lenP 285).2 = 0 := ⟨rfl, rfl⟩
    rw [h1.1, h1.2]
    go_enter Tryd.func88, Tryd.ntmps88
    go_wp2
    go_ret2
    exact ⟨rfl, rfl⟩
  have hsb : ((s : Int) == 285) = false := by rw [beq_eq_false_iff_ne]; omega
  have hs2 : s ≤ 284 := by omega
  clear h285
  go_enter Tryd.func88, Tryd.ntmps88
  go_wp2_with fail
  go_loopg [4, 5, 6] (s - 257) (fun κ v4 _ v6 wr => ∃ k : Nat, κ = s - k ∧ 257 ≤ k ∧ k ≤ s ∧ v4 = .int .i64 ((lenP k).1 : Int) ∧ v6 = .int .i64 (k : Int) ∧ w = wr)
  case atStart => exact ⟨257, by omega, by omega, by omega, rfl, rfl, rfl⟩
  case round =>
    obtain ⟨k, hgk, hk1, hk, rfl, rfl, rfl⟩ := hrel
    have HMM := bx (len_more k hk1 (by omega))
    have hbd := len_bd k hk1 (by omega)
    have HST := bx (fun h : k < 284 => len_step k hk1 h)
    obtain ⟨L, hL⟩ : ∃ L, (lenP k).1 = L := ⟨_, rfl⟩
    obtain ⟨M, hM⟩ : ∃ M, (lenP k).2 = M := ⟨_, rfl⟩
    rw [hM] at HMM hbd
    rw [hL] at hbd ⊢
    rw [hL, hM] at HST
    have HLx := bx hL
    have HMx := bx hM
    clear hL hM
    go_upto_if 14 with (fail)
    go_cut [5] (fun v5 wx => v5 = .int .i64 (M : Int) ∧ w = wx)
    case first =>
      have hm := HMM.out
      by_cases h4 : 265 ≤ k
      · rw [if_pos h4] at hm
        have hkI : (265 : Int) ≤ (k : Int) := by omega
        have hq : ((k : Int) - 265) / 4 = ((M - 1 : Nat) : Int) := by omega
        have hM1 : 1 ≤ M := by omega
        clear h4 hm
        go_wp2
        go_meet
        case rel => exact ⟨by congr 1; first | omega | (rw [Int.tdiv_eq_ediv_of_nonneg (by omega)]; omega), rfl⟩
      · rw [if_neg h4] at hm
        have hkI : ¬ (265 : Int) ≤ (k : Int) := by omega
        subst hm
        go_wp2
        go_meet
        case rel => exact ⟨rfl, rfl⟩
    case rest =>
      obtain ⟨rfl, rfl⟩ := hcut
      by_cases hks : k = s
      · have hb : ((k : Int) == (s : Int)) = true := by rw [hks]; exact beq_self_eq_true _
        have H1 : Bx ((lenP s).1 = L ∧ (lenP s).2 = M) := bx (by rw [← hks]; exact ⟨HLx.out, HMx.out⟩)
        clear hks HLx HMx HST
        go_wp2
        go_ret2
        exact ⟨by rw [H1.out.1, H1.out.2]; rfl, rfl⟩
      · have hb : ((k : Int) == (s : Int)) = false := by rw [beq_eq_false_iff_ne]; omega
        go_wp2_with fail
        go_loopg [4, 7, 8] (M + 1) (fun κ v4 v7 v8 wr => ∃ (i l2 : Nat), κ = M + 1 - i ∧ i ≤ M + 1 ∧ v7 = .int .i64 (i : Int) ∧ v8 = .int .i64 ((2 ^ i : Nat) : Int) ∧ v4 = .int .i64 (l2 : Int) ∧ Bx (l2 = if i ≤ M then L else L + 2 ^ M) ∧ w = wr)
        case atStart => exact ⟨0, L, by omega, by omega, rfl, rfl, rfl, bx (by rw [if_pos (by omega)]), rfl⟩
        case round =>
          obtain ⟨i, l2, hgi, hi, rfl, rfl, rfl, HL2, rfl⟩ := hrel
          by_cases hiM : i ≤ M
          · have HP := bx (two_mul_wrap (i := i) (by omega))
            obtain rfl : l2 = L := by rw [HL2.out, if_pos hiM]
            by_cases hie : i = M
            · have hib : ((i : Int) == (M : Int)) = true := by rw [hie]; exact beq_self_eq_true _
              have hp : (2 : Nat) ^ i ≤ 2 ^ 5 := Nat.pow_le_pow_right (by decide) (by omega)
              have HW : Bx (wrap64 ((l2 : Int) + 2 ^ i) = ((l2 + 2 ^ i : Nat) : Int)) := bx (by
                have e : ((l2 : Int) + (2 : Int) ^ i) = ((l2 + 2 ^ i : Nat) : Int) := by simp
                rw [e]
                obtain ⟨Q, hQ⟩ : ∃ Q, (2 : Nat) ^ i = Q := ⟨_, rfl⟩
                rw [hQ] at hp ⊢
                exact IntWalk.wrap64_in _ (by omega))
              have HN : Bx (l2 + 2 ^ i = if i + 1 ≤ M then l2 else l2 + 2 ^ M) := bx (by rw [if_neg (by omega), hie])
              clear hie
              go_wp2
              go_roundg (M + 1 - (i + 1))
              case rel => exact ⟨i + 1, l2 + 2 ^ i, rfl, by omega, by go_num, by rw [← HP.out], by rw [← HW.out], HN, rfl⟩
              case measure => omega
            · have hib : ((i : Int) == (M : Int)) = false := by rw [beq_eq_false_iff_ne]; omega
              have HN : Bx (l2 = if i + 1 ≤ M then l2 else l2 + 2 ^ M) := bx (by rw [if_pos (by omega)])
              go_wp2
              go_roundg (M + 1 - (i + 1))
              case rel => exact ⟨i + 1, l2, rfl, by omega, by go_num, by rw [← HP.out], rfl, HN, rfl⟩
              case measure => omega
          · obtain rfl : i = M + 1 := by omega
            have HS : Bx ((lenP (k + 1)).1 = l2) := bx (by rw [HL2.out, if_neg (by omega)]; exact HST.out (by omega))
            have hnl : ¬ ((M + 1 : Nat) : Int) ≤ (M : Int) := by omega
            clear HST HLx HMx HL2
            go_wp2
            go_roundg (s - (k + 1))
            case rel => exact ⟨k + 1, rfl, by omega, by omega, by rw [HS.out], by go_num, rfl⟩
            case measure => omega
theorem litV_step {j : Nat} (hj : j < 288) : fixLit.take (j + 1) = fixLit.take j ++ [litV j] := by
  rw [List.take_add_one, fixLit_all j hj]; rfl
set_option maxRecDepth 100000 in
set_option maxHeartbeats 4000000 in
theorem rfixed_any (w : World) : Calls Tryd.prog 58 #[] w fun e w' => ∃ A A' c c', e = .returned (.tuple #[.slice A 288 c, .slice A' 32 c']) ∧ RN w' w'.heap.size A fixLit ∧ RN w' w'.heap.size A' fixDist ∧ Below w.heap.size w w' := by
  go_enter Tryd.func58, Tryd.ntmps58
  go_wp2_with fail
  go_loopg [2, 4] 288 (fun κ v2 v4 wr => ∃ j : Nat, κ = 288 - j ∧ j ≤ 288 ∧ v4 = .int .i64 (j : Int) ∧ OwL nV wr w.heap.size 3 v2 (fixLit.take j) ∧ Below w.heap.size w wr)
  case atStart => exact ⟨0, by omega, by omega, rfl, OwL.nil, Below.refl _ _⟩
  case round =>
    obtain ⟨j, hgk, hj, rfl, hO, hB⟩ := hrel
    have hlen : (fixLit.take j).length = j := by rw [List.length_take, fixLit_len]; omega
    by_cases hjn : j < 288
    · have HN1 : Bx (((fixLit.take j).length + [litV j].length) * 8 ≤ 140737488355328) := bx (by rw [hlen]; simp; omega)
      have HST := bx (litV_step hjn)
      have hBz := hB.size
      have key : ∀ x : Nat, litV j = x → Bx (RL nV (wr.alloc (.cells #[.int .i64 (x : Int)] 3)) (wr.heap.size + 1) (some ⟨wr.heap.size, 0, none⟩) [litV j]) := fun x hx => bx (RL.freshe _ _ (by rw [hx]; rfl) _)
      have hBa : ∀ x : Nat, Below w.heap.size w (wr.alloc (.cells #[.int .i64 (x : Int)] 3)) := fun x => bl_alloc hB (Nat.le_refl _) _
      have KEY := bx key
      have HBA := bx hBa
      clear key hBa hlen
      by_cases h1 : j < 144
      · have K8 := KEY.out 8 (by unfold litV; rw [if_pos h1])
        clear KEY
        go_wp2_with (at_builtin; refine wpList_appL _ nV_one rfl (.tmp 23) (.tmp 25) rfl intTy (by decide) w.heap.size _ (fixLit.take j) rfl (hO.alloc _) _ _ 1 1 [litV j] rfl rfl K8.out HN1.out (le_alloc0 hBz _) ?_; intro v5 w5 hO5 hg5 hk5 hb5)
        have hB5 := (HBA.out 8).trans hb5
        rw [← HST.out] at hO5
        go_roundg (288 - (j + 1))
        case rel => exact ⟨j + 1, rfl, by omega, by go_num, hO5, hB5⟩
        case measure => omega
      · by_cases h2 : j < 256
        · have K8 := KEY.out 9 (by unfold litV; rw [if_neg h1, if_pos h2])
          clear KEY
          go_wp2_with (at_builtin; refine wpList_appL _ nV_one rfl (.tmp 23) (.tmp 25) rfl intTy (by decide) w.heap.size _ (fixLit.take j) rfl (hO.alloc _) _ _ 1 1 [litV j] rfl rfl K8.out HN1.out (le_alloc0 hBz _) ?_; intro v5 w5 hO5 hg5 hk5 hb5)
          have hB5 := (HBA.out 9).trans hb5
          rw [← HST.out] at hO5
          go_roundg (288 - (j + 1))
          case rel => exact ⟨j + 1, rfl, by omega, by go_num, hO5, hB5⟩
          case measure => omega
        · by_cases h3 : j < 280
          · have K8 := KEY.out 7 (by unfold litV; rw [if_neg h1, if_neg h2, if_pos h3])
            clear KEY
            go_wp2_with (at_builtin; refine wpList_appL _ nV_one rfl (.tmp 23) (.tmp 25) rfl intTy (by decide) w.heap.size _ (fixLit.take j) rfl (hO.alloc _) _ _ 1 1 [litV j] rfl rfl K8.out HN1.out (le_alloc0 hBz _) ?_; intro v5 w5 hO5 hg5 hk5 hb5)
            have hB5 := (HBA.out 7).trans hb5
            rw [← HST.out] at hO5
            go_roundg (288 - (j + 1))
            case rel => exact ⟨j + 1, rfl, by omega, by go_num, hO5, hB5⟩
            case measure => omega
          · have K8 := KEY.out 8 (by unfold litV; rw [if_neg h1, if_neg h2, if_neg h3])
            clear KEY
            go_wp2_with (at_builtin; refine wpList_appL _ nV_one rfl (.tmp 23) (.tmp 25) rfl intTy (by decide) w.heap.size _ (fixLit.take j) rfl (hO.alloc _) _ _ 1 1 [litV j] rfl rfl K8.out HN1.out (le_alloc0 hBz _) ?_; intro v5 w5 hO5 hg5 hk5 hb5)
            have hB5 := (HBA.out 8).trans hb5
            rw [← HST.out] at hO5
            go_roundg (288 - (j + 1))
            case rel => exact ⟨j + 1, rfl, by omega, by go_num, hO5, hB5⟩
            case measure => omega
    · obtain rfl : j = 288 := by omega
      have htk : fixLit.take 288 = fixLit := List.take_of_length_le (by rw [fixLit_len]; exact Nat.le_refl _)
      rw [htk] at hO
      obtain ⟨A, c, rfl, hr, _, _⟩ := OwL.rd hO
      rw [fixLit_len]
      clear hO htk hlen
      obtain ⟨wo, rfl⟩ : ∃ wo : World, wo = wr := ⟨_, rfl⟩
      go_wp2_with fail
      go_loopg [3, 6] 32 (fun κ v3 v6 wr2 => ∃ j : Nat, κ = 32 - j ∧ j ≤ 32 ∧ v6 = .int .i64 (j : Int) ∧ OwL nV wr2 wo.heap.size 3 v3 (List.replicate j 5) ∧ Below wo.heap.size wo wr2)
      case atStart => exact ⟨0, by omega, by omega, rfl, OwL.nil, Below.refl _ _⟩
      case round =>
        obtain ⟨i, hgi, hi, rfl, hO, hB2⟩ := hrel
        by_cases hin : i < 32
        · have HN1 : Bx (((List.replicate i 5).length + [5].length) * 8 ≤ 140737488355328) := bx (by simp; omega)
          have hBz := hB2.size
          have HBA := bx (bl_alloc hB2 (Nat.le_refl _) (.cells #[.int .i64 5] 3))
          go_wp2_with (at_builtin; refine wpList_appL _ nV_one rfl (.tmp 31) (.tmp 32) rfl intTy (by decide) wo.heap.size _ (List.replicate i 5) rfl (hO.alloc _) _ _ 1 1 [5] rfl rfl (RL.freshe _ 5 rfl _) HN1.out (le_alloc0 hBz _) ?_; intro v5 w5 hO5 hg5 hk5 hb5)
          have hB5 := HBA.out.trans hb5
          have hO6 : OwL nV w5 wo.heap.size 3 v5 (List.replicate (i + 1) 5) := by rw [List.replicate_succ']; exact hO5
          go_roundg (32 - (i + 1))
          case rel => exact ⟨i + 1, rfl, by omega, by go_num, hO6, hB5⟩
          case measure => omega
        · obtain rfl : i = 32 := by omega
          obtain ⟨A', c', rfl, hr', _, _⟩ := OwL.rd hO
          have hrx := hr.step hB2
          have HB := bx (hB.trans (hB2.mono hB.size))
          rw [List.length_replicate]
          clear hO
          go_wp2
          go_ret2
          exact ⟨A, A', c, c', rfl, hrx, hr', HB.out⟩
end Go.Proofs.YtokojichjliieaaDoor
namespace Go.Proofs.YtokojichjliieaaDoor
open Go.RowKit

def RToPost (R : Rz ((List Nat × List Nat) × Nat)) (w : World) (gr : Nat) (b : List UInt8) (e : Ending) (w' : World) : Prop :=
  w.grownBy w' (some gr) ∧ match R with
    | .ok x => ∃ A n c A' n' c', e = .returned (.tuple #[.slice A n c, .slice A' n' c', .int .i64 0]) ∧ x.1.1.length = n ∧ x.1.2.length = n' ∧ RN w' w'.heap.size A x.1.1 ∧ RN w' w'.heap.size A' x.1.2 ∧ RRd w' gr b x.2 ∧
        (∀ y ∈ x.1.1, y ≤ 15) ∧ (∀ y ∈ x.1.2, y ≤ 15) ∧ n ≤ 288 ∧ n' ≤ 288
    | .err k => e = .returned (.tuple #[.slice none 0 0, .slice none 0 0, .int .i64 k]) ∧ k ≠ 0
theorem rtoPost_err {R : Rz ((List Nat × List Nat) × Nat)} {w w' : World} {gr : Nat} {b : List UInt8} {k : Int} (h : R = .err k) (hg : w.grownBy w' (some gr)) (hk : k ≠ 0 := by decide) : RToPost R w gr b (.returned (.tuple #[.slice none 0 0, .slice none 0 0, .int .i64 k])) w' := by
  subst h; exact ⟨hg, rfl, hk⟩
theorem rtoPost_ok {R : Rz ((List Nat × List Nat) × Nat)} {w w' : World} {gr : Nat} {b : List UInt8} {l1 l2 : List Nat} {q n c n' c' : Nat} {A A' : Option Addr} (h : R = .ok ((l1, l2), q)) (hg : w.grownBy w' (some gr)) (h1 : l1.length = n) (h2 : l2.length = n') (h3 : RN w' w'.heap.size A l1) (h4 : RN w' w'.heap.size A' l2)
    (h5 : RRd w' gr b q) (h6 : ∀ y ∈ l1, y ≤ 15) (h7 : ∀ y ∈ l2, y ≤ 15) (h8 : n ≤ 288) (h9 : n' ≤ 288) : RToPost R w gr b (.returned (.tuple #[.slice A n c, .slice A' n' c', .int .i64 0])) w' := by
  subst h; exact ⟨hg, A, n, c, A', n', c', rfl, h1, h2, h3, h4, h5, h6, h7, h8, h9⟩
/-- What is kept while the lengths are read. -/
def RTo (w0 w : World) (gr : Nat) (b : List UInt8) (q : Nat) : Prop := w0.grownBy w (some gr) ∧ RRd w gr b q ∧ gr < w0.heap.size
section
variable {w0 w w' : World} {gr q q' : Nat} {b : List UInt8}
theorem RTo.next (h : RTo w0 w gr b q) (hg : w.grownBy w' (some gr)) (hR : RRd w' gr b q') : RTo w0 w' gr b q' := ⟨gb_trans h.1 hg, hR, h.2.2⟩
theorem RTo.step (h : RTo w0 w gr b q) {B : Nat} (hb : Below B w w') (hB : w0.heap.size ≤ B) : RTo w0 w' gr b q := ⟨gb_past h.1 hb hB, h.2.1.below hb (by have := h.2.2; omega), h.2.2⟩
theorem RTo.drewN (h : RTo w0 w gr b q) (n : Nat) : RTo w0 (w.drewN n) gr b q := h.step (below_drewN (Below.refl w0.heap.size w) n) (Nat.le_refl _)
theorem RTo.size (h : RTo w0 w gr b q) : w0.heap.size ≤ w.heap.size := h.1.size
end
theorem allF_small {lens : List Nat} {b : List UInt8} {total f p s q : Nat} {all : List Nat} (h : all.length < total) (hN : nextP lens b p = .ok (s, q)) (hs : s < 16) (hq : q ≤ 8 * b.length) : allF lens b total (f + 1) p all = allF lens b total f q (all ++ [s]) := by
  rw [allF_ok h hN, if_neg (by omega)]
  have e : runP s all = (s, 1, 0) := by unfold runP; rw [if_neg (by omega), if_neg (by omega), if_neg (by omega)]
  rw [e]
  show (tk b q 0).bind _ = _
  rw [tk, if_pos (by omega)]
  show (if total < all.length + (1 + takeN b q 0) then _ else allF lens b total f (q + 0) (all ++ List.replicate (1 + takeN b q 0) s)) = _
  have e0 : takeN b q 0 = 0 := rfl
  rw [e0, if_neg (by omega)]; rfl
theorem ord_cells2 : ∀ i, i < 19 → (#[Value.int .i64 16, .int .i64 17, .int .i64 18, .int .i64 0, .int .i64 8, .int .i64 7, .int .i64 9, .int .i64 6, .int .i64 10, .int .i64 5, .int .i64 11, .int .i64 4, .int .i64 12, .int .i64 3, .int .i64 13, .int .i64 2, .int .i64 14, .int .i64 1, .int .i64 15] : Array Value)[i]? = some (nV (ordL.getD i 0)) := by
  intro i hi
  match i, hi with
  | 0, _ => rfl
  | 1, _ => rfl
  | 2, _ => rfl
  | 3, _ => rfl
  | 4, _ => rfl
  | 5, _ => rfl
  | 6, _ => rfl
  | 7, _ => rfl
  | 8, _ => rfl
  | 9, _ => rfl
  | 10, _ => rfl
  | 11, _ => rfl
  | 12, _ => rfl
  | 13, _ => rfl
  | 14, _ => rfl
  | 15, _ => rfl
  | 16, _ => rfl
  | 17, _ => rfl
  | 18, _ => rfl
  | i + 19, h => omega
set_option maxRecDepth 100000 in
set_option maxHeartbeats 8000000 in
theorem rtold_any (gr : Nat) (b : List UInt8) (p : Nat) (w : World) (hR : RRd w gr b p) :
    Calls Tryd.prog 59 #[.pointer (some ⟨gr, 0, none⟩)] w (RToPost (toldP b p) w gr b) := by
  obtain ⟨R, hRR⟩ : ∃ R, toldP b p = R := ⟨_, rfl⟩
  rw [hRR]
  have hble := hR.le
  have hT0 : RTo w w gr b p := ⟨World.grownBy.refl w _, hR, hR.lt⟩
  have HR := bx hRR.symm
  obtain ⟨cs, hcs, hcz, hr1⟩ := mk_row (P := Tryd.prog) 65 3 (.int .i64 0) 8 Tryd.underlying65 info_int rfl 19 (by omega) (by omega)
  have hm1 : ∀ w : World, (Instr.makeSlice 65 (.int .i64 19) (.int .i64 19)).run Tryd.prog w = .ok (.slice (some ⟨w.heap.size, 0, none⟩) 19 19) (w.alloc (.cells cs 3)) := hr1
  have HCS := bx hcs
  have HCZ := bx hcz
  clear hcs hcz hr1 hR hRR
  go_enter Tryd.func59, Tryd.ntmps59
  by_cases hq1 : p + 5 ≤ 8 * b.length
  case neg =>
    have HF : Bx (R = .err 2) := bx (by rw [HR.out]; unfold toldP; rw [tk, if_neg hq1]; rfl)
    go_wp2_with fail
    refine (rtake_short gr b p 5 w hT0.2.1 (by omega) (by omega)).mono ?_
    rintro e w1 ⟨rfl, hb1⟩
    have hG := gb_then hT0.1 hb1
    go_wp2
    go_ret3
    exact rtoPost_err HF.out hG
  case pos =>
  go_wp2_with fail
  refine (rtake_ok gr b p 5 w hT0.2.1 (by omega) hq1).mono ?_
  rintro e w1 ⟨rfl, hR1, hg1⟩
  have hT1 := hT0.next hg1 hR1
  obtain ⟨x, hx⟩ : ∃ x, takeN b p 5 = x := ⟨_, rfl⟩
  have hx5 : x < 32 := by rw [← hx]; exact takeN_lt b p 5
  have HX := bx hx
  rw [hx]
  clear hT0 hg1 hR1 hx
  by_cases hq2 : p + 5 + 5 ≤ 8 * b.length
  case neg =>
    have HF : Bx (R = .err 2) := bx (by rw [HR.out]; unfold toldP; rw [tk, if_pos hq1]; show (tk b (p + 5) 5).bind _ = _; rw [tk, if_neg hq2]; rfl)
    go_wp2_with fail
    refine (rtake_short gr b (p + 5) 5 w1 hT1.2.1 (by omega) (by omega)).mono ?_
    rintro e w2 ⟨rfl, hb2⟩
    have hG := gb_then hT1.1 hb2
    go_wp2
    go_ret3
    exact rtoPost_err HF.out hG
  case pos =>
  go_wp2_with fail
  refine (rtake_ok gr b (p + 5) 5 w1 hT1.2.1 (by omega) hq2).mono ?_
  rintro e w2 ⟨rfl, hR2, hg2⟩
  have hT2 := hT1.next hg2 hR2
  obtain ⟨y, hy⟩ : ∃ y, takeN b (p + 5) 5 = y := ⟨_, rfl⟩
  have hy5 : y < 32 := by rw [← hy]; exact takeN_lt b (p + 5) 5
  have HY := bx hy
  rw [hy]
  clear hT1 hg2 hR2 hy
  by_cases hq3 : p + 5 + 5 + 4 ≤ 8 * b.length
  case neg =>
    have HF : Bx (R = .err 2) := bx (by rw [HR.out]; unfold toldP; rw [tk, if_pos hq1]; show (tk b (p + 5) 5).bind _ = _; rw [tk, if_pos hq2]; show (tk b (p + 5 + 5) 4).bind _ = _; rw [tk, if_neg hq3]; rfl)
    go_wp2_with fail
    refine (rtake_short gr b (p + 5 + 5) 4 w2 hT2.2.1 (by omega) (by omega)).mono ?_
    rintro e w3 ⟨rfl, hb3⟩
    have hG := gb_then hT2.1 hb3
    go_wp2
    go_ret3
    exact rtoPost_err HF.out hG
  case pos =>
  go_wp2_with fail
  refine (rtake_ok gr b (p + 5 + 5) 4 w2 hT2.2.1 (by omega) hq3).mono ?_
  rintro e w3 ⟨rfl, hR3, hg3⟩
  have hT3 := hT2.next hg3 hR3
  obtain ⟨z, hz9⟩ : ∃ z, takeN b (p + 5 + 5) 4 = z := ⟨_, rfl⟩
  have hz : z < 16 := by rw [← hz9]; exact takeN_lt b (p + 5 + 5) 4
  obtain ⟨q, hq9⟩ : ∃ q, p + 5 + 5 + 4 = q := ⟨_, rfl⟩
  have HG : Bx (R = toldG b x y z q) := bx (by
    rw [HR.out]; unfold toldP
    rw [tk, if_pos hq1]; show (tk b (p + 5) 5).bind _ = _
    rw [tk, if_pos hq2]; show (tk b (p + 5 + 5) 4).bind _ = _
    rw [tk, if_pos hq3, HX.out, HY.out, hz9, hq9]; rfl)
  rw [hz9]
  rw [hq9] at hT3
  clear hT2 hg3 hR3 hz9 hq9 HX HY HR hq1 hq2 hq3
  by_cases hbig : 286 < x + 257 ∨ 30 < y + 1
  · have HF : Bx (R = .err 5) := bx (by rw [HG.out, toldG, if_pos hbig])
    rcases Nat.lt_or_ge 286 (x + 257) with hb1 | hb1
    · go_wp2
      go_ret3
      exact rtoPost_err HF.out hT3.1
    · have hb2 : 30 < y + 1 := by omega
      go_wp2
      go_ret3
      exact rtoPost_err HF.out hT3.1
  · have HG2 : Bx (R = (lensF b (ordL.take (z + 4)) (List.replicate 19 0) q).bind (toldC b x y)) := bx (by rw [HG.out, toldG, if_neg hbig])
    have hb1 : x ≤ 29 ∧ y ≤ 29 := by omega
    clear hbig HG
    obtain ⟨go_, hgo_⟩ : ∃ go_, w3.heap.size = go_ := ⟨_, rfl⟩
    have hwz := hT3.size
    have hO3 : Rw ((w3.alloc (.cells #[.int .i64 16, .int .i64 17, .int .i64 18, .int .i64 0, .int .i64 8, .int .i64 7, .int .i64 9, .int .i64 6, .int .i64 10, .int .i64 5, .int .i64 11, .int .i64 4, .int .i64 12, .int .i64 3, .int .i64 13, .int .i64 2, .int .i64 14, .int .i64 1, .int .i64 15] 3)).alloc (.cells cs 3)) go_ 3 19 (fun i => nV (ordL.getD i 0)) := Rw.of ((Bk.newAt _ _ _ hgo_).alloc _) rfl ord_cells2
    have hL3 : Rw ((w3.alloc (.cells #[.int .i64 16, .int .i64 17, .int .i64 18, .int .i64 0, .int .i64 8, .int .i64 7, .int .i64 9, .int .i64 6, .int .i64 10, .int .i64 5, .int .i64 11, .int .i64 4, .int .i64 12, .int .i64 3, .int .i64 13, .int .i64 2, .int .i64 14, .int .i64 1, .int .i64 15] 3)).alloc (.cells cs 3)) (go_ + 1) 3 19 (fun i => nV ((List.replicate 19 0).getD i 0)) := Rw.of (Bk.newAt _ _ _ (by simp [hgo_])) HCS.out (fun i hi => by rw [HCZ.out i hi, rep0]; rfl)
    have hT4 := hT3.step (bl_alloc (bl_alloc (Below.refl w3.heap.size w3) (Nat.le_refl _) (.cells #[.int .i64 16, .int .i64 17, .int .i64 18, .int .i64 0, .int .i64 8, .int .i64 7, .int .i64 9, .int .i64 6, .int .i64 10, .int .i64 5, .int .i64 11, .int .i64 4, .int .i64 12, .int .i64 3, .int .i64 13, .int .i64 2, .int .i64 14, .int .i64 1, .int .i64 15] 3)) (Nat.le_refl _) (.cells cs 3)) hwz
    rw [hgo_] at hwz
    clear hT3
    go_wp2_with fail
    clear hgo_ hm1 HCS HCZ
    generalize ((w3.alloc (.cells #[.int .i64 16, .int .i64 17, .int .i64 18, .int .i64 0, .int .i64 8, .int .i64 7, .int .i64 9, .int .i64 6, .int .i64 10, .int .i64 5, .int .i64 11, .int .i64 4, .int .i64 12, .int .i64 3, .int .i64 13, .int .i64 2, .int .i64 14, .int .i64 1, .int .i64 15] 3)).alloc (.cells cs 3)) = w4 at hO3 hL3 hT4 ⊢
    go_loopg [11] (z + 4) (fun κ jj wr => ∃ (j q1 : Nat) (L : List Nat), κ = z + 4 - j ∧ j ≤ z + 4 ∧ jj = .int .i64 (j : Int) ∧ Bx (L.length = 19) ∧ Bx (∀ x ∈ L, x ≤ 7) ∧ Rw wr (go_ + 1) 3 19 (fun i => nV (L.getD i 0)) ∧
      Rw wr go_ 3 19 (fun i => nV (ordL.getD i 0)) ∧ RTo w wr gr b q1 ∧ Bx (R = (lensF b ((ordL.take (z + 4)).drop j) L q1).bind (toldC b x y)))
    case atStart => exact ⟨0, q, List.replicate 19 0, by omega, by omega, rfl, bx (List.length_replicate ..), bx (fun x hx => by rw [List.eq_of_mem_replicate hx]; omega), hL3, hO3, hT4, bx HG2.out⟩
    case round =>
      clear hL3 hO3 hT4 HG2
      obtain ⟨j, q1, L, hgk, hj, rfl, hLl, hL7, hL, hO, hT, hgo⟩ := hrel
      by_cases hjz : j < z + 4
      · have hjI : (j : Int) < (z : Int) + 4 := by omega
        obtain ⟨k, hk⟩ : ∃ k, ordL.getD j 0 = k := ⟨_, rfl⟩
        obtain ⟨ho1, ho2⟩ := ordL_at hz hjz
        rw [hk] at ho1 ho2
        have hglw : w.heap.size ≤ go_ + 1 := by omega
        have HO1 := bx ho1
        clear ho1
        by_cases hq3 : q1 + 3 ≤ 8 * b.length
        · obtain ⟨v, hv⟩ : ∃ v, takeN b q1 3 = v := ⟨_, rfl⟩
          have hv8 : v < 8 := by rw [← hv]; exact takeN_lt b q1 3
          have HGO : Bx (R = (lensF b ((ordL.take (z + 4)).drop (j + 1)) (L.set k v) (q1 + 3)).bind (toldC b x y)) := bx (by rw [hgo.out, lensF_step HO1.out hq3, hv])
          have HV := bx hv
          have HK := bx hk
          clear hv hk
          go_wp2_with fail
          refine (rtake_ok gr b q1 3 wr hT.2.1 (by omega) hq3).mono ?_
          rintro e w5 ⟨rfl, hR5, hg5⟩
          rw [HV.out]
          have hT5 := hT.next hg5 hR5
          have hgrl : gr < go_ := by have := hT.2.2; omega
          have hL5 := hL.grown hg5 (fun e => by injection e; omega)
          have hO5 := hO.grown hg5 (fun e => by injection e; omega)
          have ho5 : w5.cell? ⟨go_, j, none⟩ = some (.int .i64 (k : Int)) := by rw [hO5.cell (by omega), HK.out]; rfl
          have hl5 : w5.cell? ⟨go_ + 1, k, none⟩ = some (.int .i64 ((L.getD k 0 : Nat) : Int)) := hL5.cell ho2
          have hf5 := hL5.frz k
          have HL6 := bx (hL5.set k (.int .i64 (v : Int)))
          have HO6 := bx (hO5.far (p := ⟨go_ + 1, k, none⟩) (by show go_ ≠ go_ + 1; omega) (.int .i64 (v : Int)))
          have HT6 := bx (hT5.step ((Below.refl (go_ + 1) w5).setCell (p := ⟨go_ + 1, k, none⟩) (Nat.le_refl _) (.int .i64 (v : Int))) hglw)
          clear hL5 hO5 hT5 hg5 hR5 hL hO hT
          go_wp2
          go_roundg (z + 4 - (j + 1))
          case rel =>
            refine ⟨j + 1, q1 + 3, L.set k v, rfl, by omega, by go_num, bx (by rw [List.length_set, hLl.out]), bx ?_, HL6.out.ext fun i hi => ?_, HO6.out, HT6.out, HGO⟩
            · intro x hx
              rcases List.mem_or_eq_of_mem_set hx with h | h
              · exact hL7.out x h
              · omega
            · rw [List.getD_eq_getElem?_getD, List.getElem?_set]
              by_cases e : i = k
              · subst e; rw [if_pos rfl, if_pos rfl, if_pos (by rw [hLl.out]; exact hi)]; rfl
              · rw [if_neg (fun x => e x.symm), if_neg e, List.getD_eq_getElem?_getD]
          case measure => omega
        · have HF : Bx (R = .err 2) := bx (by rw [hgo.out, lensF_short HO1.out (by omega)]; rfl)
          clear hk
          go_wp2_with fail
          refine (rtake_short gr b q1 3 wr hT.2.1 (by omega) (by omega)).mono ?_
          rintro e w5 ⟨rfl, hb5⟩
          have HG6 := bx (gb_then hT.1 hb5)
          clear hb5 hL hO hT
          go_wp2
          go_ret3
          exact rtoPost_err HF.out HG6.out
      · obtain rfl : j = z + 4 := by omega
        have hjI : ¬ ((z + 4 : Nat) : Int) < (z : Int) + 4 := by omega
        have HGO : Bx (R = toldC b x y (L, q1)) := bx (by rw [hgo.out, List.drop_of_length_le (by rw [ordL_len hz]; exact Nat.le_refl _)]; rfl)
        have hLr : RN wr wr.heap.size (some ⟨go_ + 1, 0, none⟩) L := RL.more (Rw.read (l := L) (by rw [hLl.out]; exact hL) (fun i x hx => by rw [List.getD_eq_getElem?_getD, hx]; rfl)) (by have := hL.lt; omega)
        clear hgo hL hO
        go_wp2_with fail
        refine (rnew_any (some ⟨go_ + 1, 0, none⟩) 19 19 L false wr hLl.out (by omega) (fun x hx => by have := hL7.out x hx; omega) hLr).mono ?_
        rintro e w5 ⟨hb5, cc, hccz, hcc1, hp⟩
        have hT5 := hT.step hb5 hT.size
        cases hcb : codeB L false with
        | false =>
          have HF : Bx (R = .err 5) := bx (by rw [HGO.out, toldC, if_pos hcb])
          rw [hcb, if_neg (by simp)] at hp
          obtain rfl := hp
          have HG6 := bx (gb_alloc hT5.1 (.cells cc 108))
          clear hcb
          go_wp2_with (refine wpList_store_row rfl 108 (.tmp 14) (.tmp 83) rfl w5.heap.size cc rfl rfl 108 z32 (Bk.new w5 _ z32) (by rw [hccz]; exact info_code) (by rw [hccz]; rfl) hcc1 ?_; rw [World.setRow_alloc_new])
          go_ret3
          exact rtoPost_err HF.out HG6.out
        | true =>
          rw [hcb, if_pos rfl] at hp
          obtain ⟨lo, hi, rfl, hC, hlo⟩ := hp
          have HGO2 : Bx (R = toldA b x y (L, q1)) := bx (by rw [HGO.out, toldC, if_neg (by rw [hcb]; simp)])
          clear hcb HGO
          have hz6 := hT.size
          have hbA := bl_alloc (Below.refl w5.heap.size w5) (Nat.le_refl _) (.cells cc 108)
          obtain ⟨gc, hgc⟩ : ∃ gc, w5.heap.size = gc := ⟨_, rfl⟩
          have HKZ : Bx (Bk (w5.alloc (.cells z32 108)) gc 108 z32) := bx (Bk.newAt _ _ _ hgc)
          have HSR : Bx ((w5.alloc (.cells z32 108)).setRow gc cc = w5.alloc (.cells cc 108)) := bx (by rw [← hgc, World.setRow_alloc_new])
          have hgw : w.heap.size ≤ gc := by rw [← hgc]; exact hT5.size
          have hgrw : gr < w.heap.size := hT.2.2
          have hhi : hi ≤ gc := by rw [← hgc]; exact hC.2.1.2
          have hgrlo : gr < lo := by omega
          have HT6 := bx (hT5.step hbA hT5.size)
          have HC6 := bx (hC.step hbA)
          have HK6 : Bx (Bk (w5.alloc (.cells cc 108)) gc 108 cc) := bx (Bk.newAt _ _ _ hgc)
          have HSZ : Bx (gc + 1 ≤ (w5.alloc (.cells cc 108)).heap.size) := bx (by simp [hgc])
          obtain ⟨T, hT9⟩ : ∃ T, x + 257 + (y + 1) = T := ⟨_, rfl⟩
          have hTb : T ≤ 316 ∧ 258 ≤ T := by omega
          have HT9 := bx hT9
          have hq1 := hT5.2.1.le.1
          have hxT : x + 257 < T := by omega
          clear hT hT5 hb5 hC hlo hbA hT9
          go_wp2_with (refine wpList_store_row rfl 108 (.tmp 14) (.tmp 83) rfl gc cc rfl rfl 108 z32 HKZ.out (by rw [hccz]; exact info_code) (by rw [hccz]; rfl) hcc1 ?_; change wpList _ _ _ _ _ ((w5.alloc (.cells z32 108)).setRow gc cc); rw [HSR.out])
          have hT6 := HT6.out
          have hC6 := HC6.out
          have hK6 := HK6.out
          have hSZ := HSZ.out
          clear HT6 HC6 HK6 HSZ hgc
          generalize w5.alloc (.cells cc 108) = w6 at hT6 hC6 hK6 hSZ ⊢
          have HGO3 : Bx (R = (allF L b T (8 * b.length + 1) q1 []).bind fun v => if v.1.getD 256 0 = 0 then .err 5 else .ok ((v.1.take (x + 257), v.1.drop (x + 257)), v.2)) := bx (by rw [HGO2.out, toldA, HT9.out]; rfl)
          obtain ⟨B5, hB5⟩ : ∃ B5, gc + 1 = B5 := ⟨_, rfl⟩
          rw [hB5] at hSZ
          clear HGO2 hLr
          go_loopg [15] (8 * b.length + 1) (fun κ v wr => ∃ (q2 : Nat) (all : List Nat), OwL nV wr B5 3 v all ∧ B5 ≤ wr.heap.size ∧ RTo w wr gr b q2 ∧ RCd wr lo hi cc L ∧ Bk wr gc 108 cc ∧ all.length ≤ T ∧ Bx (∀ x ∈ all, x ≤ 15) ∧ 8 * b.length < q2 + κ ∧ q2 ≤ 8 * b.length ∧
            Bx (R = (allF L b T κ q2 all).bind fun v => if v.1.getD 256 0 = 0 then .err 5 else .ok ((v.1.take (x + 257), v.1.drop (x + 257)), v.2)))
          case atStart => exact ⟨q1, [], OwL.nil, hSZ, hT6, hC6, hK6, by simp, bx (by simp), by omega, hq1, HGO3⟩
          case round =>
            clear hT6 hC6 hK6 hSZ HGO3
            obtain ⟨q2, all, hO, hBz, hT, hC, hK, hal, h15, hgk, hq2, hgo⟩ := hrel
            obtain ⟨κ, rfl⟩ : ∃ κ, gk = κ + 1 := ⟨gk - 1, by omega⟩
            obtain ⟨Av, nv, cv, rfl, hnv, hrv⟩ := OwL.sl hO
            have hnvT : nv ≤ T := by rw [hnv.out]; exact hal
            by_cases hfull : T ≤ all.length
            · have hnvt : ¬ (nv : Int) < (x : Int) + 257 + ((y : Int) + 1) := by have := HT9.out; have := hnv.out; omega
              have HGO4 : Bx (R = if all.getD 256 0 = 0 then .err 5 else .ok ((all.take (x + 257), all.drop (x + 257)), q2)) := bx (by rw [hgo.out, allF_full hfull]; rfl)
              have hcap : nv ≤ cv := by
                obtain ⟨A', c', e, _, h, _⟩ := hO.rd
                injection e with e1 e2 e3
                subst e3
                rw [hnv.out]; exact h
              obtain ⟨ad9, e9, rfl, _, hx9, hc9⟩ := RL.atl hrv (k := 256) (by omega)
              have hc9' : wr.cell? ⟨ad9.block, ad9.off + 256, none⟩ = some (.int .i64 (e9 : Int)) := by rw [add_pos] at hc9; exact hc9
              have he9 : all.getD 256 0 = e9 := by rw [List.getD_eq_getElem?_getD, hx9.out]; rfl
              have hnvg : 256 < nv := by have := hnv.out; omega
              rw [he9] at HGO4
              have HG := bx hT.1
              clear hgo hc9 he9
              by_cases h0 : e9 = 0
              · have HF : Bx (R = .err 5) := bx (by rw [HGO4.out, if_pos h0])
                subst h0
                go_wp2
                go_ret3
                exact rtoPost_err HF.out HG.out
              · have HF : Bx (R = .ok ((all.take (x + 257), all.drop (x + 257)), q2)) := bx (by rw [HGO4.out, if_neg h0])
                have hb0 : ((e9 : Int) == 0) = false := by rw [beq_eq_false_iff_ne]; omega
                have hx1 : (x : Int) + 257 ≤ (cv : Int) := by have := hnv.out; omega
                have hx2 : (x : Int) + 257 ≤ (nv : Int) := by have := hnv.out; omega
                have hx3 : ¬ cv = x + 257 := by have := hnv.out; omega
                clear h0 HGO4
                go_wp2_with fail
                go_quiet (fail)
                rename Nat => nq
                go_wp2
                go_ret3
                have hl1 : (all.take (x + 257)).length = x + 257 := by rw [List.length_take]; have := hnv.out; omega
                have hl2 : (all.drop (x + 257)).length = nv - (x + 257) := by rw [List.length_drop, hnv.out]
                exact rtoPost_ok HF.out (gb_drewN HG.out nq) hl1 hl2 ((hrv.take _).drewN nq) (hrv.drop (x + 257)) (hT.drewN nq).2.1 (fun y hy => h15.out y (List.mem_of_mem_take hy)) (fun y hy => h15.out y (List.mem_of_mem_drop hy)) (by omega) (by have := HT9.out; have := hnv.out; omega)
            · have hnvt : nv < T := by rw [hnv.out]; omega
              have hlt9 : (nv : Int) < (x : Int) + 257 + ((y : Int) + 1) := by have := HT9.out; omega
              cases hN : nextP L b q2 with
              | err k =>
                have HF : Bx (R = .err k) := bx (by rw [hgo.out, allF_err (by omega) hN]; rfl)
                have HNX := bx hN
                have hk := nextP_errs hN
                clear hN
                go_wp2_with (refine wpList_load_row rfl 108 (.tmp 14) rfl gc rfl _ cc _ _ hK Tryd.underlying108 rfl (by rw [hccz]; exact info_code) ?_)
                refine (rnext_any lo hi gr cc L b q2 wr hC hT.2.1 hgrlo).mono ?_
                rintro e w7 ⟨hg7, hp⟩
                rw [HNX.out] at hp
                obtain rfl := hp
                have hG7 := gb_trans hT.1 hg7
                rcases hk with rfl | rfl
                · go_wp2
                  go_ret3
                  exact rtoPost_err HF.out hG7
                · go_wp2
                  go_ret3
                  exact rtoPost_err HF.out hG7
              | ok x7 =>
                obtain ⟨s, p1⟩ := x7
                have HNX := bx hN
                have hs19 : s < 19 := by have := nextP_lt hN; rw [hLl.out] at this; exact this
                have hmore := nextP_more hN
                have hokx := allF_ok (f := κ) (by omega : all.length < T) hN
                have hsm := fun h : s < 16 => allF_small (f := κ) (by omega : all.length < T) hN h hmore.2
                have HSM := bx (fun h : s < 16 => hgo.out.trans (by rw [hsm h]))
                have HGO := bx (hgo.out.trans (by rw [hokx]))
                clear hN hgo hokx hsm
                go_wp2_with (refine wpList_load_row rfl 108 (.tmp 14) rfl gc rfl _ cc _ _ hK Tryd.underlying108 rfl (by rw [hccz]; exact info_code) ?_)
                refine (rnext_any lo hi gr cc L b q2 wr hC hT.2.1 hgrlo).mono ?_
                rintro e w7 ⟨hg7, hp⟩
                rw [HNX.out] at hp
                obtain ⟨rfl, hR7⟩ := hp
                have hT7 := hT.next hg7 hR7
                have hC7 := hC.grown hg7 (fun k hk => by injection hk; omega)
                have hK7 := hK.grown hg7 (fun e => by injection e; omega)
                have hO7 := hO.keptAt hg7 (by omega)
                have hB7 : B5 ≤ w7.heap.size := Nat.le_trans hBz hg7.size
                have hrv7 : RN w7 w7.heap.size Av all := hO7.rl
                clear hT hC hO hBz hg7 hR7 hrv hK
                by_cases hs16 : s < 16
                · have HGO5 : Bx (R = (allF L b T κ p1 (all ++ [s])).bind fun v => if v.1.getD 256 0 = 0 then .err 5 else .ok ((v.1.take (x + 257), v.1.drop (x + 257)), v.2)) := bx (HSM.out hs16)
                  have hsI : (s : Int) < 16 := by omega
                  have HL : Bx ((all.length + [s].length) * 8 ≤ 140737488355328) := bx (by simp; omega)
                  have H15 : Bx (∀ x ∈ all ++ [s], x ≤ 15) := bx (fun x hx => by
                    rcases List.mem_append.1 hx with h | h
                    · exact h15.out x h
                    · simp at h; omega)
                  clear HSM HGO
                  go_wp2_with (at_builtin; refine wpList_appL _ nV_one rfl (.tmp 105) (.tmp 107) rfl intTy (by decide) B5 _ all rfl (hO7.alloc _) _ _ 1 1 [s] rfl rfl (RL.freshe _ s rfl _) HL.out (le_alloc0 hB7 _) ?_; intro v5 w9 hO5 hg5 _ hb5)
                  have hb9 : Below B5 w7 w9 := (bl_alloc (Below.refl B5 w7) hB7 _).trans hb5
                  have hB9 : B5 ≤ w9.heap.size := Nat.le_trans hB7 hb9.size
                  have hT9 := hT7.step hb9 (by omega)
                  have hC9 := hC7.below hb9 (by omega)
                  have hK9 := hK7.below hb9 (by omega)
                  go_roundg κ
                  case rel => exact ⟨p1, all ++ [s], hO5, hB9, hT9, hC9, hK9, by rw [List.length_append]; simp; omega, H15, by omega, by omega, HGO5⟩
                  case measure => omega
                · have hsI : ¬ (s : Int) < 16 := by omega
                  have hT7 : RTo w w7 gr b p1 := hT7
                  clear HSM
                  by_cases hbad : s = 16 ∧ all = []
                  · have HF : Bx (R = .err 6) := bx (by rw [HGO.out, if_pos hbad]; rfl)
                    have hnv0 : nv = 0 := by rw [hnv.out, hbad.2]; rfl
                    obtain ⟨rfl, _⟩ := hbad
                    subst hnv0
                    have HG7 := bx hT7.1
                    clear hsI hs16
                    go_wp2
                    go_ret3
                    exact rtoPost_err HF.out HG7.out
                  · have HGO := bx (HGO.out.trans (by rw [if_neg hbad]))
                    have hbd := runP_bd hs19 h15.out hbad
                    obtain ⟨vv, hvv⟩ : ∃ vv, (runP s all).1 = vv := ⟨_, rfl⟩
                    obtain ⟨nn, hnn⟩ : ∃ nn, (runP s all).2.1 = nn := ⟨_, rfl⟩
                    obtain ⟨ww, hww⟩ : ∃ ww, (runP s all).2.2 = ww := ⟨_, rfl⟩
                    rw [hvv, hnn, hww] at hbd HGO
                    have hrun : (s = 16 ∧ all ≠ [] ∧ vv = all.getLastD 0 ∧ nn = 3 ∧ ww = 2) ∨ (s = 17 ∧ vv = 0 ∧ nn = 3 ∧ ww = 3) ∨ (s = 18 ∧ vv = 0 ∧ nn = 11 ∧ ww = 7) := by
                      unfold runP at hvv hnn hww
                      by_cases e16 : s = 16
                      · rw [if_pos e16] at hvv hnn hww
                        exact .inl ⟨e16, fun e => hbad ⟨e16, e⟩, hvv.symm, hnn.symm, hww.symm⟩
                      · rw [if_neg e16] at hvv hnn hww
                        by_cases e17 : s = 17
                        · rw [if_pos e17] at hvv hnn hww
                          exact .inr (.inl ⟨e17, hvv.symm, hnn.symm, hww.symm⟩)
                        · rw [if_neg e17] at hvv hnn hww
                          have e18 : s = 18 := by omega
                          rw [if_pos e18] at hvv hnn hww
                          exact .inr (.inr ⟨e18, hvv.symm, hnn.symm, hww.symm⟩)
                    have HBAD := bx hbad
                    have HRUN := bx hrun
                    clear hvv hnn hww hbad hrun
                    go_upto_if 110 with (fail)
                    go_cut [18, 20] (fun a c wx => a = .int .i64 (vv : Int) ∧ c = .int .i64 (if s = 16 then 2 else 3) ∧ w7 = wx)
                    case first =>
                      rcases HRUN.out with ⟨hs, hne, hv9, _, _⟩ | ⟨hs, hv, _, _⟩ | ⟨hs, hv, _, _⟩
                      · have hsb : ((s : Int) == 16) = true := by rw [hs]; rfl
                        have hnv0 : 0 < nv := by rw [hnv.out]; exact List.length_pos_iff.2 hne
                        have hnvb : ((nv : Int) == 0) = false := by rw [beq_eq_false_iff_ne]; omega
                        obtain ⟨ad9, x9, rfl, _, hx9, hc9⟩ := RL.atl hrv7 (k := nv - 1) (by rw [← hnv.out]; omega)
                        have hxv : x9 = vv := by
                          rw [hv9, List.getLastD_eq_getLast?, List.getLast?_eq_getElem?, ← hnv.out, hx9.out]; rfl
                        have hc9' : w7.cell? (ad9.add (nv - 1)) = some (.int .i64 (vv : Int)) := by rw [hc9, hxv]; rfl
                        have hn1 : (1 : Int) ≤ (nv : Int) := by omega
                        have HS := bx hs
                        clear hc9 hxv hv9 hne hs
                        go_wp2
                        go_meet
                        case rel => exact ⟨rfl, by rw [if_pos HS.out], rfl⟩
                      · have hsb : ((s : Int) == 16) = false := by rw [hs]; rfl
                        have HS := bx hs
                        subst hv
                        clear hs
                        go_wp2
                        go_meet
                        case rel => exact ⟨rfl, by rw [if_neg (by rw [HS.out]; decide)], rfl⟩
                      · have hsb : ((s : Int) == 16) = false := by rw [hs]; rfl
                        have HS := bx hs
                        subst hv
                        clear hs
                        go_wp2
                        go_meet
                        case rel => exact ⟨rfl, by rw [if_neg (by rw [HS.out]; decide)], rfl⟩
                    case rest =>
                    obtain ⟨rfl, rfl, rfl⟩ := hcut
                    obtain ⟨W3, hW3⟩ : ∃ W3 : Int, (if s = 16 then 2 else 3) = W3 := ⟨_, rfl⟩
                    rw [hW3]
                    have HW3 := bx hW3
                    clear hW3
                    go_upto_if 121 with (fail)
                    go_cut [19, 20] (fun a c wx => a = .int .i64 (nn : Int) ∧ c = .int .i64 (ww : Int) ∧ w7 = wx)
                    case first =>
                      rcases HRUN.out with ⟨hs, hne, hv9, hn, hw⟩ | ⟨hs, hv, hn, hw⟩ | ⟨hs, hv, hn, hw⟩
                      · have hsb : ((s : Int) == 18) = false := by rw [hs]; rfl
                        have hW : W3 = 2 := by rw [← HW3.out, if_pos hs]
                        subst hn hw hW
                        clear hs hv9 hne
                        go_wp2
                        go_meet
                        case rel => exact ⟨rfl, rfl, rfl⟩
                      · have hsb : ((s : Int) == 18) = false := by rw [hs]; rfl
                        have hW : W3 = 3 := by rw [← HW3.out, if_neg (by omega)]
                        subst hn hw hW
                        clear hs hv
                        go_wp2
                        go_meet
                        case rel => exact ⟨rfl, rfl, rfl⟩
                      · have hsb : ((s : Int) == 18) = true := by rw [hs]; rfl
                        subst hn hw
                        clear hs hv
                        go_wp2
                        go_meet
                        case rel => exact ⟨rfl, rfl, rfl⟩
                    case rest =>
                    obtain ⟨rfl, rfl, rfl⟩ := hcut
                    by_cases hq4 : p1 + ww ≤ 8 * b.length
                    · obtain ⟨m, hm⟩ : ∃ m, takeN b p1 ww = m := ⟨_, rfl⟩
                      have hm8 : m < 128 := by
                        rw [← hm]
                        have h1 := takeN_lt b p1 ww
                        have h2 : 2 ^ ww ≤ 2 ^ 7 := Nat.pow_le_pow_right (by decide) hbd.2.2.2
                        omega
                      have HGO2 : Bx (R = (if T < all.length + (nn + m) then .err 6 else allF L b T κ (p1 + ww) (all ++ List.replicate (nn + m) vv)).bind fun v => if v.1.getD 256 0 = 0 then .err 5 else .ok ((v.1.take (x + 257), v.1.drop (x + 257)), v.2)) := bx (by
                        rw [HGO.out, tk, if_pos hq4, hm]; rfl)
                      have HM := bx hm
                      clear hm HGO
                      go_wp2_with fail
                      refine (rtake_ok gr b p1 ww w7 hT7.2.1 (by omega) hq4).mono ?_
                      rintro e w8 ⟨rfl, hR8, hg8⟩
                      rw [HM.out]
                      have hT8 := hT7.next hg8 hR8
                      have hC8 := hC7.grown hg8 (fun k hk => by injection hk; omega)
                      have hK8 := hK7.grown hg8 (fun e => by injection e; omega)
                      have hO8 := hO7.keptAt hg8 (by omega)
                      have hB8 : B5 ≤ w8.heap.size := Nat.le_trans hB7 hg8.size
                      clear hT7 hC7 hO7 hB7 hg8 hR8 hrv7 hK7
                      obtain ⟨N, hN9⟩ : ∃ N, nn + m = N := ⟨_, rfl⟩
                      have hNI : ((m : Int) + (nn : Int)) = (N : Int) := by omega
                      have hNb : N ≤ 200 ∧ 1 ≤ N := by omega
                      rw [hN9] at HGO2
                      have HNI := bx hNI
                      clear hNI hN9
                      go_wp2_with fail
                      rw [HNI.out]
                      obtain ⟨wo2, rfl⟩ : ∃ wo2 : World, wo2 = wr := ⟨_, rfl⟩
                      have hO8' : OwL nV w8 B5 3 (.slice Av nv cv) (all ++ List.replicate 0 vv) := by rw [List.replicate_zero, List.append_nil]; exact hO8
                      clear hO8
                      go_loopg [15, 21] N (fun κ2 v nnn wr => ∃ j : Nat, κ2 = N - j ∧ j ≤ N ∧ nnn = .int .i64 ((N : Int) - (j : Int)) ∧ OwL nV wr B5 3 v (all ++ List.replicate j vv) ∧ B5 ≤ wr.heap.size ∧ RTo w wr gr b (p1 + ww) ∧ RCd wr lo hi cc L ∧ Bk wr gc 108 cc)
                      case atStart => exact ⟨0, by omega, by omega, by go_num, hO8', hB8, hT8, hC8, hK8⟩
                      case round =>
                        clear hO8' hB8 hT8 hC8 hK8
                        obtain ⟨j, hgk2, hj, rfl, hO, hBz, hT, hC, hK⟩ := hrel
                        by_cases hjN : j < N
                        · have HL : Bx (((all ++ List.replicate j vv).length + [vv].length) * 8 ≤ 140737488355328) := bx (by simp; omega)
                          have hjI : (0 : Int) < (N : Int) - (j : Int) := by omega
                          go_wp2_with (at_builtin; refine wpList_appL _ nV_one rfl (.tmp 138) (.tmp 140) rfl intTy (by decide) B5 _ _ rfl (hO.alloc _) _ _ 1 1 [vv] rfl rfl (RL.freshe _ _ rfl _) HL.out (le_alloc0 hBz _) ?_; intro v5 w9 hO5 hg5 _ hb5)
                          have hb9 : Below B5 wr w9 := (bl_alloc (Below.refl B5 wr) hBz _).trans hb5
                          have hO9 : OwL nV w9 B5 3 v5 (all ++ List.replicate (j + 1) vv) := by rw [List.replicate_succ', ← List.append_assoc]; exact hO5
                          have hB9 : B5 ≤ w9.heap.size := Nat.le_trans hBz hb9.size
                          have hT9 := hT.step hb9 (by omega)
                          have hC9 := hC.below hb9 (by omega)
                          have hK9 := hK.below hb9 (by omega)
                          go_roundg (N - (j + 1))
                          case rel => exact ⟨j + 1, rfl, by omega, by go_num, hO9, hB9, hT9, hC9, hK9⟩
                          case measure => omega
                        · obtain rfl : j = N := by omega
                          have hjI : ¬ (0 : Int) < (j : Int) - (j : Int) := by omega
                          have HALL : Bx (∀ x ∈ all ++ List.replicate j vv, x ≤ 15) := bx (fun x hx => by
                            rcases List.mem_append.1 hx with h | h
                            · exact h15.out x h
                            · rw [List.eq_of_mem_replicate h]; exact hbd.1)
                          obtain ⟨A5, n5, c5, rfl, hn5, _⟩ := OwL.sl hO
                          have hn5' : n5 = all.length + j := by rw [hn5.out]; simp
                          have HT10 := HT9.out
                          by_cases hmany : T < all.length + j
                          · have HF : Bx (R = .err 6) := bx (by rw [HGO2.out, if_pos hmany]; rfl)
                            have hgt : (x : Int) + 257 + ((y : Int) + 1) < (n5 : Int) := by omega
                            have HG8 := bx hT.1
                            clear HT10 hn5'
                            go_wp2
                            go_ret3
                            exact rtoPost_err HF.out HG8.out
                          · have HGO3 := bx (HGO2.out.trans (by rw [if_neg hmany]))
                            have hgt : ¬ (x : Int) + 257 + ((y : Int) + 1) < (n5 : Int) := by omega
                            clear HT10 hn5' HGO2
                            go_wp2_with fail
                            go_roundg κ
                            case rel => exact ⟨p1 + ww, all ++ List.replicate j vv, hO, hBz, hT, hC, hK, by rw [List.length_append, List.length_replicate]; omega, HALL, by omega, by omega, HGO3⟩
                            case measure => omega
                    · have HF : Bx (R = .err 2) := bx (by rw [HGO.out, tk, if_neg hq4]; rfl)
                      go_wp2_with fail
                      refine (rtake_short gr b p1 ww w7 hT7.2.1 (by omega) (by omega)).mono ?_
                      rintro e w8 ⟨rfl, hb8⟩
                      have HG8 := bx (gb_then hT7.1 hb8)
                      clear hb8
                      go_wp2
                      go_ret3
                      exact rtoPost_err HF.out HG8.out
end Go.Proofs.YtokojichjliieaaDoor
namespace Go.Proofs.YtokojichjliieaaDoor
open Go.RowKit

def RSPost (R : Rz (List UInt8 × Nat)) (w : World) (gr : Nat) (b : List UInt8) (lim : Nat) (e : Ending) (w' : World) : Prop :=
  Below gr w w' ∧ match R with
    | .ok x => ∃ v, e = .returned (.tuple #[v, .int .i64 0]) ∧ RRd w' gr b x.2 ∧ OwB w' (gr + 1) 5 v x.1 ∧ x.1.length ≤ lim
    | .err k => e = .returned (.tuple #[.slice none 0 0, .int .i64 k]) ∧ k ≠ 0
theorem rsPost_err {R : Rz (List UInt8 × Nat)} {w w' : World} {gr : Nat} {b : List UInt8} {lim : Nat} {k : Int} (h : R = .err k) (hb : Below gr w w') (hk : k ≠ 0 := by decide) : RSPost R w gr b lim (.returned (.tuple #[.slice none 0 0, .int .i64 k])) w' := by
  subst h; exact ⟨hb, rfl, hk⟩
theorem rsPost_ok {R : Rz (List UInt8 × Nat)} {w w' : World} {gr : Nat} {b : List UInt8} {lim q : Nat} {v : Value} {o : List UInt8} (h : R = .ok (o, q)) (hb : Below gr w w') (h1 : RRd w' gr b q) (h2 : OwB w' (gr + 1) 5 v o) (h3 : o.length ≤ lim) : RSPost R w gr b lim (.returned (.tuple #[v, .int .i64 0])) w' := by
  subst h; exact ⟨hb, v, rfl, h1, h2, h3⟩
/-- While symbols are read. -/
structure RSy (w0 w : World) (gr g1 g2 lo1 hi1 lo2 hi2 : Nat) (cl cd : Array Value) (b : List UInt8) (lit dist : List Nat) (v : Value) (p : Nat) (out : List UInt8) : Prop where
  bl : Below gr w0 w
  rd : RRd w gr b p
  ow : OwB w (gr + 1) 5 v out
  k1 : Bk w g1 108 cl
  k2 : Bk w g2 108 cd
  c1 : RCd w lo1 hi1 cl lit
  c2 : RCd w lo2 hi2 cd dist
  far : ∀ k, v.ownBlock = some k → k ≠ g1 ∧ k ≠ g2 ∧ ¬ (lo1 ≤ k ∧ k < hi1) ∧ ¬ (lo2 ≤ k ∧ k < hi2)
  low : gr < lo1 ∧ gr < lo2 ∧ gr < g1 ∧ gr < g2
section
variable {w0 w w' : World} {gr g1 g2 lo1 hi1 lo2 hi2 : Nat} {cl cd : Array Value} {b : List UInt8} {lit dist : List Nat} {v : Value} {p q : Nat} {out : List UInt8}
theorem RSy.next (h : RSy w0 w gr g1 g2 lo1 hi1 lo2 hi2 cl cd b lit dist v p out) (hg : w.grownBy w' (some gr)) (hR : RRd w' gr b q) : RSy w0 w' gr g1 g2 lo1 hi1 lo2 hi2 cl cd b lit dist v q out := by
  obtain ⟨l1, l2, l3, l4⟩ := h.low
  exact ⟨h.bl.trans (gb_low hg (Nat.le_refl _) h.rd.lt), hR, h.ow.keptAt hg (by omega), h.k1.grown hg (fun e => by injection e; omega), h.k2.grown hg (fun e => by injection e; omega), h.c1.grown hg (fun k hk => by injection hk; omega), h.c2.grown hg (fun k hk => by injection hk; omega), h.far, h.low⟩
/-- One new cell was laid, and the row has grown. -/
theorem RSy.push (h : RSy w0 w gr g1 g2 lo1 hi1 lo2 hi2 cl cd b lit dist v p out) {v' : Value} {out' : List UInt8} {o : Obj} (hO : OwB w' (gr + 1) 5 v' out') (hg : (w.alloc o).grownBy w' v.ownBlock) (hv : v'.ownBlock = v.ownBlock ∨ v'.ownBlock = some (w.alloc o).heap.size) :
    RSy w0 w' gr g1 g2 lo1 hi1 lo2 hi2 cl cd b lit dist v' p out' := by
  obtain ⟨l1, l2, l3, l4⟩ := h.low
  have hsz : (w.alloc o).heap.size = w.heap.size + 1 := by simp
  have same : ∀ i, i < w.heap.size → v.ownBlock ≠ some i → w'.heap[i]? = w.heap[i]? := fun i hi hne => by
    rw [hg.block i (by omega) (fun e => hne e.symm), Below.heap_alloc w o i hi]
  have hvb : ∀ k, v.ownBlock = some k → gr + 1 ≤ k ∧ k < w.heap.size := fun k hk => World.ownsRow.lt h.ow k hk
  have hrd := h.rd.lt
  have hz1 := h.k1.lt
  have hz2 := h.k2.lt
  have hz3 := h.c1.2.1
  have hz4 := h.c2.2.1
  have hw := hg.size
  refine ⟨⟨hg.os.trans h.bl.os, hg.tape.trans h.bl.tape, hg.output.trans h.bl.output, by have := h.bl.size; omega, fun i hi => ?_⟩, ?_, hO, ?_, ?_, ?_, ?_, fun k hk => ?_, h.low⟩
  · rw [same i (by omega) (fun e => by have := hvb i e; omega)]; exact h.bl.block i hi
  · exact h.rd.keep fun i hi => same i (by omega) (fun e => by have := hvb i e; omega)
  · exact (same g1 hz1 (fun e => (h.far g1 e).1 rfl)).trans h.k1
  · exact (same g2 hz2 (fun e => (h.far g2 e).2.1 rfl)).trans h.k2
  · exact h.c1.keep (fun i a1 a2 => same i (by omega) (fun e => (h.far i e).2.2.1 ⟨a1, a2⟩)) (by omega)
  · exact h.c2.keep (fun i a1 a2 => same i (by omega) (fun e => (h.far i e).2.2.2 ⟨a1, a2⟩)) (by omega)
  · rcases hv with e | e
    · exact h.far k (e ▸ hk)
    · rw [e] at hk
      injection hk with hk
      omega
end
set_option maxRecDepth 100000 in
set_option maxHeartbeats 8000000 in
theorem rsymbols_any (gr lo1 hi1 lo2 hi2 : Nat) (cl cd : Array Value) (b : List UInt8) (lit dist : List Nat) (p lim : Nat) (v : Value) (out : List UInt8) (w : World) (hR : RRd w gr b p) (hO : OwB w (gr + 1) 5 v out) (hC1 : RCd w lo1 hi1 cl lit) (hC2 : RCd w lo2 hi2 cd dist)
    (hf : ∀ k, v.ownBlock = some k → ¬ (lo1 ≤ k ∧ k < hi1) ∧ ¬ (lo2 ≤ k ∧ k < hi2)) (hl1 : gr < lo1) (hl2 : gr < lo2) (hol : out.length ≤ lim) (hlim : lim ≤ 32768) :
    Calls Tryd.prog 61 #[.pointer (some ⟨gr, 0, none⟩), .agg cl, .agg cd, v, .int .i64 (lim : Int)] w (RSPost (symP lit dist lim out b p) w gr b lim) := by
  obtain ⟨R, hRR⟩ : ∃ R, symP lit dist lim out b p = R := ⟨_, rfl⟩
  rw [hRR]
  have HR := bx hRR
  clear hRR
  have hble := hR.le
  have hcz1 := hC1.1
  have hcz2 := hC2.1
  have hgr := hR.lt
  obtain ⟨g1, hg1⟩ : ∃ g1, w.heap.size = g1 := ⟨_, rfl⟩
  have hbA := bl_alloc (bl_alloc (Below.refl w.heap.size w) (Nat.le_refl _) (.cells cl 108)) (Nat.le_refl _) (.cells cd 108)
  have hV0 : RSy w ((w.alloc (.cells cl 108)).alloc (.cells cd 108)) gr g1 (g1 + 1) lo1 hi1 lo2 hi2 cl cd b lit dist v p out :=
    ⟨hbA.mono (by omega), hR.step hbA, hO.below hbA, (Bk.newAt _ _ _ hg1).alloc _, Bk.newAt _ _ _ (by simp [hg1]), hC1.step hbA, hC2.step hbA, fun k hk => by
      have h1 := hf k hk
      have h2 := (World.ownsRow.lt hO k hk).2
      exact ⟨by omega, by omega, h1.1, h1.2⟩, ⟨hl1, hl2, by omega, by omega⟩⟩
  clear hR hO hC1 hC2 hbA hf
  go_enter Tryd.func61, Tryd.ntmps61
  go_wp2_with fail
  clear hg1
  generalize ((w.alloc (.cells cl 108)).alloc (.cells cd 108)) = w1 at hV0 ⊢
  go_loopg [3] (8 * b.length + 1) (fun κ v wr => ∃ (q : Nat) (o : List UInt8), RSy w wr gr g1 (g1 + 1) lo1 hi1 lo2 hi2 cl cd b lit dist v q o ∧ o.length ≤ lim ∧ 8 * b.length < q + κ ∧ q ≤ 8 * b.length ∧ Bx (R = symF lit dist b lim κ q o))
  case atStart => exact ⟨p, out, hV0, hol, by omega, by omega, bx HR.out.symm⟩
  case round =>
    clear hV0 hol
    obtain ⟨q, o, hV, hol, hgk, hq, hgo⟩ := hrel
    obtain ⟨κ, rfl⟩ : ∃ κ, gk = κ + 1 := ⟨gk - 1, by omega⟩
    have hK1 := hV.k1
    cases hN : nextP lit b q with
    | err k =>
      have HF : Bx (R = .err k) := bx (hgo.out.trans (symF_err hN))
      have HNX := bx hN
      have hk := nextP_errs hN
      clear hN
      go_wp2_with (refine wpList_load_row rfl 108 (.tmp 6) rfl g1 rfl _ cl _ _ hK1 Tryd.underlying108 rfl (by rw [hcz1]; exact info_code) ?_)
      refine (rnext_any lo1 hi1 gr cl lit b q wr hV.c1 hV.rd hl1).mono ?_
      rintro e w2 ⟨hg3, hp⟩
      rw [HNX.out] at hp
      obtain rfl := hp
      have hB1 := hV.bl.trans (gb_low (B := gr) hg3 (Nat.le_refl _) hV.rd.lt)
      rcases hk with rfl | rfl
      · go_wp2
        go_ret2
        exact rsPost_err HF.out hB1
      · go_wp2
        go_ret2
        exact rsPost_err HF.out hB1
    | ok x =>
      obtain ⟨s, p1⟩ := x
      have HGO := bx (hgo.out.trans (symF_ok hN))
      have hmore := nextP_more hN
      have HNX := bx hN
      clear hN hgo
      go_wp2_with (refine wpList_load_row rfl 108 (.tmp 6) rfl g1 rfl _ cl _ _ hK1 Tryd.underlying108 rfl (by rw [hcz1]; exact info_code) ?_)
      refine (rnext_any lo1 hi1 gr cl lit b q wr hV.c1 hV.rd hl1).mono ?_
      rintro e w2 ⟨hg3, hp⟩
      rw [HNX.out] at hp
      obtain ⟨rfl, hR1⟩ := hp
      have hV1 : RSy w w2 gr g1 (g1 + 1) lo1 hi1 lo2 hi2 cl cd b lit dist _ p1 o := hV.next hg3 hR1
      clear hV hg3 hR1 hK1
      obtain ⟨Av, nv, cv, rfl, hnv, hrv⟩ := OwL.sl hV1.ow
      have hol2 : nv ≤ lim := by rw [hnv.out]; exact hol
      by_cases hs : s = 256
      · subst hs
        have HF : Bx (R = .ok (o, p1)) := bx (by rw [HGO.out, if_pos rfl])
        go_wp2
        go_ret2
        exact rsPost_ok HF.out hV1.bl hV1.rd hV1.ow hol
      · have HGO := bx (HGO.out.trans (by rw [if_neg hs]))
        have hse : ((s : Int) == 256) = false := by rw [beq_eq_false_iff_ne]; omega
        by_cases hs2 : s < 256
        · have HGO := bx (HGO.out.trans (by rw [if_pos hs2]))
          by_cases hfull : lim ≤ o.length
          · have HF : Bx (R = .err 8) := bx (by rw [HGO.out, if_pos hfull])
            have hnl : (lim : Int) ≤ (nv : Int) := by rw [hnv.out]; omega
            clear hs HGO
            go_wp2
            go_ret2
            exact rsPost_err HF.out hV1.bl
          · have HGO := bx (HGO.out.trans (by rw [if_neg hfull]))
            have hnl : ¬ (lim : Int) ≤ (nv : Int) := by rw [hnv.out]; omega
            have HL : Bx ((o.length + [UInt8.ofNat s].length) * 1 ≤ 140737488355328) := bx (by simp; omega)
            have HU : Bx (Value.int .u8 (s : Int) = bV (UInt8.ofNat s)) := bx (by unfold bV; rw [UInt8.toNat_ofNat']; congr 1; omega)
            have hgz : gr + 1 ≤ w2.heap.size := by have := hV1.rd.lt; omega
            have hO2 := hV1.ow
            clear hs hrv
            go_wp2_with (at_builtin; refine wpList_appL _ bV_one rfl (.tmp 38) (.tmp 41) rfl byteTy (by decide) (gr + 1) _ o rfl (hO2.alloc _) _ _ 1 1 [UInt8.ofNat s] rfl rfl (RL.freshe _ _ HU.out _) HL.out (le_alloc0 hgz _) ?_; intro v5 w5 hO5 hg5 hv5 hb5)
            have hP := hV1.push hO5 hg5 hv5
            go_roundg κ
            case rel => exact ⟨p1, o ++ [UInt8.ofNat s], hP, by rw [List.length_append]; simp; omega, by omega, by omega, HGO⟩
            case measure => omega
        · have HGO := bx (HGO.out.trans (by rw [if_neg hs2]))
          by_cases hs3 : 285 < s
          · have HF : Bx (R = .err 6) := bx (by rw [HGO.out, if_pos hs3])
            clear hs HGO
            go_wp2
            go_ret2
            exact rsPost_err HF.out hV1.bl
          · have HGO := bx (HGO.out.trans (by rw [if_neg hs3]))
            have h257 : 257 ≤ s := by omega
            have hLb := len_bd s h257 (by omega)
            obtain ⟨L, hL⟩ : ∃ L, (lenP s).1 = L := ⟨_, rfl⟩
            obtain ⟨M, hM⟩ : ∃ M, (lenP s).2 = M := ⟨_, rfl⟩
            rw [hL, hM] at HGO hLb
            have HLx := bx hL
            have HMx := bx hM
            clear hL hM hs
            go_wp2_with fail
            refine (rlen_any s w2 h257 (by omega)).mono ?_
            rintro e w3 ⟨rfl, rfl⟩
            rw [HLx.out, HMx.out]
            by_cases hq1 : p1 + M ≤ 8 * b.length
            · obtain ⟨k1, hk1⟩ : ∃ k1, takeN b p1 M = k1 := ⟨_, rfl⟩
              have hk1b : k1 < 65536 := by
                rw [← hk1]
                have h1 := takeN_lt b p1 M
                have h2 : 2 ^ M ≤ 2 ^ 14 := Nat.pow_le_pow_right (by decide) (by omega)
                omega
              have HK1 := bx hk1
              have HGO2 : Bx (R = (nextP dist b (p1 + M)).bind fun z => if 29 < z.1 then .err 6 else (tk b z.2 (dstP z.1).2).bind fun u => if o.length < (dstP z.1).1 + u.1 then .err 7 else if lim < o.length + (L + k1) then .err 8 else symF lit dist b lim κ u.2 (copyN ((dstP z.1).1 + u.1) (L + k1) o)) := bx (by rw [HGO.out, tk, if_pos hq1, hk1]; rfl)
              clear hk1 HGO
              go_wp2_with fail
              refine (rtake_ok gr b p1 M w2 hV1.rd (by omega) hq1).mono ?_
              rintro e w3 ⟨rfl, hR2, hg2'⟩
              rw [HK1.out]
              have hV2 := hV1.next hg2' hR2
              have hK2 := hV2.k2
              clear hV1 hrv hg2' hR2
              cases hN : nextP dist b (p1 + M) with
              | err k =>
                have HF : Bx (R = .err k) := bx (by rw [HGO2.out, hN]; rfl)
                have HNX2 := bx hN
                have hk := nextP_errs hN
                clear hN HGO2
                go_wp2_with (refine wpList_load_row rfl 108 (.tmp 7) rfl (g1 + 1) rfl _ cd _ _ hK2 Tryd.underlying108 rfl (by rw [hcz2]; exact info_code) ?_)
                refine (rnext_any lo2 hi2 gr cd dist b (p1 + M) w3 hV2.c2 hV2.rd hl2).mono ?_
                rintro e w4 ⟨hg3, hp⟩
                rw [HNX2.out] at hp
                obtain rfl := hp
                have hB1 := hV2.bl.trans (gb_low (B := gr) hg3 (Nat.le_refl _) hV2.rd.lt)
                rcases hk with rfl | rfl
                · go_wp2
                  go_ret2
                  exact rsPost_err HF.out hB1
                · go_wp2
                  go_ret2
                  exact rsPost_err HF.out hB1
              | ok x =>
                obtain ⟨t, p2⟩ := x
                have hmore2 := nextP_more hN
                have HNX2 := bx hN
                have HGO3 : Bx (R = if 29 < t then .err 6 else (tk b p2 (dstP t).2).bind fun u => if o.length < (dstP t).1 + u.1 then .err 7 else if lim < o.length + (L + k1) then .err 8 else symF lit dist b lim κ u.2 (copyN ((dstP t).1 + u.1) (L + k1) o)) := bx (by rw [HGO2.out, hN]; rfl)
                clear hN HGO2
                go_wp2_with (refine wpList_load_row rfl 108 (.tmp 7) rfl (g1 + 1) rfl _ cd _ _ hK2 Tryd.underlying108 rfl (by rw [hcz2]; exact info_code) ?_)
                refine (rnext_any lo2 hi2 gr cd dist b (p1 + M) w3 hV2.c2 hV2.rd hl2).mono ?_
                rintro e w4 ⟨hg3, hp⟩
                rw [HNX2.out] at hp
                obtain ⟨rfl, hR3⟩ := hp
                have hV3 : RSy w w4 gr g1 (g1 + 1) lo1 hi1 lo2 hi2 cl cd b lit dist _ p2 o := hV2.next hg3 hR3
                clear hV2 hg3 hR3 hK2
                by_cases ht : 29 < t
                · have HF : Bx (R = .err 6) := bx (by rw [HGO3.out, if_pos ht])
                  clear HGO3
                  go_wp2
                  go_ret2
                  exact rsPost_err HF.out hV3.bl
                · have HGO3 := bx (HGO3.out.trans (by rw [if_neg ht]))
                  have hDb := dst_bd t (by omega)
                  obtain ⟨D, hD⟩ : ∃ D, (dstP t).1 = D := ⟨_, rfl⟩
                  obtain ⟨dm, hdm⟩ : ∃ dm, (dstP t).2 = dm := ⟨_, rfl⟩
                  rw [hD, hdm] at HGO3 hDb
                  have HD := bx hD
                  have HDM := bx hdm
                  clear hD hdm
                  go_wp2_with fail
                  refine (rdist_any t w4 (by omega)).mono ?_
                  rintro e w5 ⟨rfl, rfl⟩
                  rw [HD.out, HDM.out]
                  by_cases hq2 : p2 + dm ≤ 8 * b.length
                  · obtain ⟨k2, hk2⟩ : ∃ k2, takeN b p2 dm = k2 := ⟨_, rfl⟩
                    have hk2b : k2 < 65536 := by
                      rw [← hk2]
                      have h1 := takeN_lt b p2 dm
                      have h2 : 2 ^ dm ≤ 2 ^ 14 := Nat.pow_le_pow_right (by decide) (by omega)
                      omega
                    have HK2 := bx hk2
                    have HGO4 : Bx (R = if o.length < D + k2 then .err 7 else if lim < o.length + (L + k1) then .err 8 else symF lit dist b lim κ (p2 + dm) (copyN (D + k2) (L + k1) o)) := bx (by rw [HGO3.out, tk, if_pos hq2, hk2]; rfl)
                    clear hk2 HGO3
                    go_wp2_with fail
                    refine (rtake_ok gr b p2 dm w4 hV3.rd (by omega) hq2).mono ?_
                    rintro e w5 ⟨rfl, hR4, hg4⟩
                    rw [HK2.out]
                    have hV4 := hV3.next hg4 hR4
                    clear hV3 hg4 hR4
                    by_cases hfar : o.length < D + k2
                    · have HF : Bx (R = .err 7) := bx (by rw [HGO4.out, if_pos hfar])
                      have hfi : (nv : Int) < (D : Int) + (k2 : Int) := by rw [hnv.out]; omega
                      clear HGO4
                      go_wp2
                      go_ret2
                      exact rsPost_err HF.out hV4.bl
                    · have hfi : ¬ (nv : Int) < (D : Int) + (k2 : Int) := by rw [hnv.out]; omega
                      have HGO4 := bx (HGO4.out.trans (by rw [if_neg hfar]))
                      by_cases hlong : lim < o.length + (L + k1)
                      · have HF : Bx (R = .err 8) := bx (by rw [HGO4.out, if_pos hlong])
                        have hli : (lim : Int) - (nv : Int) < (L : Int) + (k1 : Int) := by rw [hnv.out]; omega
                        clear HGO4
                        go_wp2
                        go_ret2
                        exact rsPost_err HF.out hV4.bl
                      · have hli : ¬ (lim : Int) - (nv : Int) < (L : Int) + (k1 : Int) := by rw [hnv.out]; omega
                        have HGO4 := bx (HGO4.out.trans (by rw [if_neg hlong]))
                        go_wp2_with fail
                        obtain ⟨N, hN⟩ : ∃ N, L + k1 = N := ⟨_, rfl⟩
                        obtain ⟨F, hF⟩ : ∃ F, D + k2 = F := ⟨_, rfl⟩
                        have hNb : N < 2000000 := by omega
                        have hFb : F ≤ o.length ∧ 1 ≤ F := by omega
                        have hsum : ((L : Int) + (k1 : Int)) = (N : Int) := by omega
                        have hFI : ((D : Int) + (k2 : Int)) = (F : Int) := by omega
                        rw [hN, hF] at HGO4
                        have hlongN : ¬ lim < o.length + N := by omega
                        rw [hsum, hFI]
                        have HGO5 : Bx (R = symF lit dist b lim κ (p2 + dm) (copyN F N o)) := bx HGO4.out
                        clear hN hF hsum hFI HK1 HK2 HD HDM HGO4 hLb hDb hk1b hk2b hfi hli hfar hlong HNX HNX2 HLx HMx hse
                        obtain ⟨wo, rfl⟩ : ∃ wo : World, wo = wr := ⟨_, rfl⟩
                        generalize decide ((s : Int) < 256) = b1
                        generalize decide (285 < (s : Int)) = b2
                        generalize decide (29 < (t : Int)) = b3
                        generalize decide ((nv : Int) < (F : Int)) = b4
                        generalize decide ((lim : Int) - (nv : Int) < (N : Int)) = b5
                        generalize (lim : Int) - (nv : Int) = b6
                        go_loopg [3, 19] N (fun κ2 v jj wr2 => ∃ (j : Nat) (o2 : List UInt8), κ2 = N - j ∧ j ≤ N ∧ jj = .int .i64 (j : Int) ∧ RSy w wr2 gr g1 (g1 + 1) lo1 hi1 lo2 hi2 cl cd b lit dist v (p2 + dm) o2 ∧ Bx (o2.length = o.length + j) ∧ Bx (copyN F N o = copyN F (N - j) o2))
                        case atStart => exact ⟨0, o, by omega, by omega, rfl, hV4, bx rfl, bx rfl⟩
                        case round =>
                          clear hV4
                          obtain ⟨j, o2, hgk2, hj, rfl, hV6, hol6, hcp⟩ := hrel
                          obtain ⟨A2, n2, cc2, rfl, hn2, hr2⟩ := OwL.sl hV6.ow
                          have hO6 := hV6.ow
                          have hgz : gr + 1 ≤ wr.heap.size := by have := hV6.rd.lt; omega
                          have hn2o : n2 = o.length + j := by rw [hn2.out, hol6.out]
                          by_cases hjN : j < N
                          · obtain ⟨kx, hkx⟩ : ∃ kx, n2 - F = kx := ⟨_, rfl⟩
                            have hkl : kx < o2.length := by rw [hol6.out]; omega
                            obtain ⟨ad, x, rfl, _, hx, hcx⟩ := RL.byte hr2 (k := kx) hkl
                            have hx8 := x.toNat_lt
                            have i2 : (n2 : Int) - (F : Int) = (kx : Int) := by omega
                            have hkn : (kx : Int) < (n2 : Int) := by omega
                            have hk9 : kx ≤ 3000000 := by omega
                            have HX : Bx (o2.getD (o2.length - F) 0 = x) := bx (by
                              rw [← hn2.out, hkx, List.getD_eq_getElem?_getD, hx.out]; rfl)
                            have HL : Bx ((o2.length + [x].length) * 1 ≤ 140737488355328) := bx (by rw [hol6.out]; simp; omega)
                            have hjI : (j : Int) < (N : Int) := by omega
                            clear hn2o hkx hr2
                            go_wp2_with (at_builtin; refine wpList_appL _ bV_one rfl (.tmp 105) (.tmp 113) rfl byteTy (by decide) (gr + 1) _ o2 rfl (hO6.alloc _) _ _ 1 1 [x] rfl rfl (RL.freshe _ _ rfl _) HL.out (le_alloc0 hgz _) ?_; intro v5 w6 hO5 hg5 hv5 hb5)
                            have hP := hV6.push hO5 hg5 hv5
                            have hcp2 : Bx (copyN F N o = copyN F (N - (j + 1)) (o2 ++ [x])) := bx (by
                              rw [hcp.out, show N - j = (N - (j + 1)) + 1 by omega, copyN_step _ _ _ _ HX.out])
                            have hol7 : Bx ((o2 ++ [x]).length = o.length + (j + 1)) := bx (by rw [List.length_append, hol6.out]; rfl)
                            go_roundg (N - (j + 1))
                            case rel => exact ⟨j + 1, o2 ++ [x], rfl, by omega, by go_num, hP, hol7, hcp2⟩
                            case measure => omega
                          · obtain rfl : j = N := by omega
                            have hjI : ¬ (j : Int) < (j : Int) := by omega
                            clear hn2o
                            have HF : Bx (R = symF lit dist b lim κ (p2 + dm) o2) := bx (by rw [HGO5.out, hcp.out, Nat.sub_self]; rfl)
                            go_wp2_with fail
                            go_roundg κ
                            case rel => exact ⟨p2 + dm, o2, hV6, by rw [hol6.out]; omega, by omega, by omega, HF⟩
                            case measure => omega
                  · have HF : Bx (R = .err 2) := bx (by rw [HGO3.out, tk, if_neg hq2]; rfl)
                    clear HGO3
                    go_wp2_with fail
                    refine (rtake_short gr b p2 dm w4 hV3.rd (by omega) (by omega)).mono ?_
                    rintro e w5 ⟨rfl, hb4⟩
                    have hB1 := hV3.bl.trans (hb4.mono (by have := hV3.rd.lt; omega))
                    go_wp2
                    go_ret2
                    exact rsPost_err HF.out hB1
            · have HF : Bx (R = .err 2) := bx (by rw [HGO.out, tk, if_neg hq1]; rfl)
              clear HGO
              go_wp2_with fail
              refine (rtake_short gr b p1 M w2 hV1.rd (by omega) (by omega)).mono ?_
              rintro e w3 ⟨rfl, hb2⟩
              have hB1 := hV1.bl.trans (hb2.mono (by have := hV1.rd.lt; omega))
              go_wp2
              go_ret2
              exact rsPost_err HF.out hB1
end Go.Proofs.YtokojichjliieaaDoor
namespace Go.Proofs.YtokojichjliieaaDoor
open Go.RowKit

/-- What comes behind a block. -/
def blkK (L x κ : Nat) (b : List UInt8) (X : Rz (List UInt8 × Nat)) : Rz (List UInt8 × Nat) := X.bind fun z => (if x = 1 then Rz.ok z else allB L b κ z.2 z.1).bind fun u => .ok (u.1, (u.2 + 7) / 8)
theorem blkK_of {L κ q x y : Nat} {b o : List UInt8} (h1 : q + 1 ≤ 8 * b.length) (h2 : q + 1 + 2 ≤ 8 * b.length) (hx : takeN b q 1 = x) (hy : takeN b (q + 1) 2 = y) :
    ((allB L b (κ + 1) q o).bind fun x => .ok (x.1, (x.2 + 7) / 8)) = blkK L x κ b (bodyP L o y b (q + 1 + 2)) := by
  rw [allB, blkP, tk, if_pos h1, hx]
  show (((tk b (q + 1) 2).bind _).bind _).bind _ = _
  rw [tk, if_pos h2, hy]
  show (((bodyP L o y b (q + 1 + 2)).bind _).bind _).bind _ = _
  unfold blkK
  cases bodyP L o y b (q + 1 + 2) with
  | err k => rfl
  | ok z =>
    show ((if decide (x = 1) = true then Rz.ok (z.1, z.2) else allB L b κ z.2 z.1).bind _) = ((if x = 1 then Rz.ok z else allB L b κ z.2 z.1).bind fun u => .ok (u.1, (u.2 + 7) / 8))
    by_cases h : x = 1
    · rw [decide_eq_true h, if_pos rfl, if_pos h]
    · rw [decide_eq_false h, if_neg (by simp), if_neg h]
theorem blk_short1 {L q κ : Nat} {b o : List UInt8} (h : 8 * b.length < q + 1) : ((allB L b (κ + 1) q o).bind fun x => Rz.ok (x.1, (x.2 + 7) / 8)) = .err 2 := by
  rw [allB, blkP, tk, if_neg (by omega)]; rfl
theorem blk_short2 {L q κ : Nat} {b o : List UInt8} (h1 : q + 1 ≤ 8 * b.length) (h : 8 * b.length < q + 1 + 2) : ((allB L b (κ + 1) q o).bind fun x => Rz.ok (x.1, (x.2 + 7) / 8)) = .err 2 := by
  rw [allB, blkP, tk, if_pos h1]
  show (((tk b (q + 1) 2).bind _).bind _).bind _ = _
  rw [tk, if_neg (by omega)]; rfl
set_option maxRecDepth 100000 in
set_option maxHeartbeats 8000000 in
theorem rall_any (A : Option Addr) (n c : Nat) (b : List UInt8) (lim : Int) (w : World) (hn : b.length = n) (hz : n ≤ 1000000000) (hr : RB w w.heap.size A b) (hlim1 : -9223372036854775808 ≤ lim) (hlim2 : lim ≤ 9223372036854775807) :
    Calls Tryd.prog 42 #[.slice A n c, .int .i64 lim] w (AllPost (inflP b lim) w) := by
  obtain ⟨R, hRR⟩ : ∃ R, inflP b lim = R := ⟨_, rfl⟩
  rw [hRR]
  by_cases hbad : lim < 0 ∨ 32768 < lim
  · have HF : Bx (R = .err 1) := bx (by rw [← hRR, inflP, if_pos hbad])
    clear hRR
    rcases (by omega : lim < 0 ∨ 0 ≤ lim) with hb1 | hb1
    · go_enter Tryd.func42, Tryd.ntmps42
      go_wp2
      go_ret3
      exact allPost_err HF.out (Below.refl _ _)
    · have hb2 : 32768 < lim := by omega
      go_enter Tryd.func42, Tryd.ntmps42
      go_wp2
      go_ret3
      exact allPost_err HF.out (Below.refl _ _)
  · obtain ⟨L, rfl⟩ : ∃ L : Nat, lim = (L : Int) := ⟨lim.toNat, by omega⟩
    have hL : L ≤ 32768 := by omega
    have HG : Bx (R = (allB L b (8 * b.length + 1) 0 []).bind fun x => .ok (x.1, (x.2 + 7) / 8)) := bx (by rw [← hRR, inflP, if_neg hbad, Int.toNat_natCast]; rfl)
    have HN : Bx ((([] : List UInt8).length + b.length) * 1 ≤ 140737488355328) := bx (by simp; omega)
    have HL := bx hn
    have hbl : b.length ≤ 1000000000 := by omega
    clear hRR hbad hlim1 hlim2 hn
    go_enter Tryd.func42, Tryd.ntmps42
    go_wp2_with (at_builtin; refine wpList_appL _ bV_one rfl (.tmp 27) (.tmp 28) rfl byteTy (by decide) w.heap.size _ [] rfl (OwL.lit0 w (Nat.le_refl _)) w.heap.size A n c b rfl HL.out (RL.alloc hr (Nat.le_refl _) _) HN.out (le_alloc0 (Nat.le_refl _) _) ?_; intro v1 w1 hown _ _ hb1; rw [List.nil_append] at hown; obtain ⟨A1, c1, rfl, hr1, hc1, _⟩ := OwL.rd hown)
    have hb2 := ((Below.refl w.heap.size w).alloc (Nat.le_refl _) _).trans hb1
    obtain ⟨gr, hgr⟩ : ∃ gr, w1.heap.size = gr := ⟨_, rfl⟩
    have hgw : w.heap.size ≤ gr := by rw [← hgr]; exact hb2.size
    have hR2 : RRd (w1.alloc (.cells #[.slice A1 b.length c1, .int .i64 0] 97)) gr b 0 := ⟨A1, c1, Bk.newAt _ _ _ hgr, by rw [← hgr]; exact hr1.alloc (Nat.le_refl _) _, hc1, by omega, hbl⟩
    have hB2 := bl_alloc hb2 (Nat.le_refl _) (.cells #[.slice A1 b.length c1, .int .i64 0] 97)
    clear hown hb1 hb2 hr1
    try rw [hgr]
    generalize w1.alloc (.cells #[.slice A1 b.length c1, .int .i64 0] 97) = w2 at hR2 hB2 ⊢
    go_loopg [8] (8 * b.length + 1) (fun κ v wr => ∃ (q : Nat) (o : List UInt8), RRd wr gr b q ∧ OwB wr (gr + 1) 5 v o ∧ o.length ≤ L ∧ Below w.heap.size w wr ∧ 8 * b.length < q + κ ∧ q ≤ 8 * b.length ∧ Bx (R = (allB L b κ q o).bind fun x => .ok (x.1, (x.2 + 7) / 8)))
    case atStart => exact ⟨0, [], hR2, OwL.nil, by simp, hB2, by omega, by omega, HG⟩
    case round =>
      clear hR2 hB2 HG
      obtain ⟨q, o, hR, hO, hol, hB, hgk, hq, hgo⟩ := hrel
      obtain ⟨κ, rfl⟩ : ∃ κ, gk = κ + 1 := ⟨gk - 1, by omega⟩
      by_cases hq1 : q + 1 ≤ 8 * b.length
      case neg =>
        have HF : Bx (R = .err 2) := bx (by rw [hgo.out, blk_short1 (by omega)])
        go_wp2_with fail
        refine (rtake_short gr b q 1 wr hR (by omega) (by omega)).mono ?_
        rintro e w3 ⟨rfl, hb3⟩
        have hB3 := hB.trans (hb3.mono hB.size)
        go_wp2
        go_ret3
        exact allPost_err HF.out hB3
      case pos =>
      go_wp2_with fail
      refine (rtake_ok gr b q 1 wr hR (by omega) hq1).mono ?_
      rintro e w3 ⟨rfl, hR3, hg3⟩
      have hO3 := hO.keptAt hg3 (by omega)
      have hB3 := hB.trans (gb_low hg3 hgw hR.lt)
      obtain ⟨x, hx⟩ : ∃ x, takeN b q 1 = x := ⟨_, rfl⟩
      have hx2 : x < 2 := by rw [← hx]; exact takeN_lt b q 1
      rw [hx]
      have HX := bx hx
      clear hR hO hB hg3 hx
      by_cases hq2 : q + 1 + 2 ≤ 8 * b.length
      case neg =>
        have HF : Bx (R = .err 2) := bx (by rw [hgo.out, blk_short2 hq1 (by omega)])
        go_wp2_with fail
        refine (rtake_short gr b (q + 1) 2 w3 hR3 (by omega) (by omega)).mono ?_
        rintro e w4 ⟨rfl, hb4⟩
        have hB4 := hB3.trans (hb4.mono hB3.size)
        go_wp2
        go_ret3
        exact allPost_err HF.out hB4
      case pos =>
      go_wp2_with fail
      refine (rtake_ok gr b (q + 1) 2 w3 hR3 (by omega) hq2).mono ?_
      rintro e w4 ⟨rfl, hR4, hg4⟩
      have hO4 := hO3.keptAt hg4 (by omega)
      have hB4 := hB3.trans (gb_low hg4 hgw hR3.lt)
      obtain ⟨y, hy⟩ : ∃ y, takeN b (q + 1) 2 = y := ⟨_, rfl⟩
      have hy4 : y < 4 := by rw [← hy]; exact takeN_lt b (q + 1) 2
      rw [hy]
      have HGO := bx (hgo.out.trans (blkK_of hq1 hq2 HX.out hy))
      obtain ⟨q3, hq3⟩ : ∃ q3, q + 1 + 2 = q3 := ⟨_, rfl⟩
      rw [hq3] at HGO hR4
      have hqq : q + 3 = q3 := by omega
      have hq38 : q3 ≤ 8 * b.length := by omega
      clear hR3 hO3 hB3 hg4 hy hgo hq3 HX hq1 hq2
      go_upto_block 2 with (fail)
      go_cut [8, 10] (fun v8 _ wx => ∃ (q2 : Nat) (o2 : List UInt8), RRd wx gr b q2 ∧ OwB wx (gr + 1) 5 v8 o2 ∧ o2.length ≤ L ∧ Below w.heap.size w wx ∧ q3 ≤ q2 ∧ q2 ≤ 8 * b.length ∧ Bx (R = blkK L x κ b (.ok (o2, q2))))
      case first =>
        by_cases hy0 : y = 0
        · subst hy0
          obtain ⟨Av, nv, cv, rfl, hnv, hrv⟩ := OwL.sl hO4
          have HGO2 : Bx (R = blkK L x κ b (storedP b L q3 o)) := bx HGO.out
          clear HGO
          obtain ⟨f, hf⟩ : ∃ f, (q3 + 7) / 8 = f := ⟨_, rfl⟩
          have HFF := bx hf
          by_cases h4 : b.length < f + 4
          · have HF : Bx (R = .err 2) := bx (by rw [HGO2.out, storedP, HFF.out, if_pos h4]; rfl)
            go_wp2_with fail
            refine (rbytes_short gr b q3 4 w4 hR4 (by omega) (by omega)).mono ?_
            rintro e w5 ⟨rfl, rfl⟩
            go_wp2
            go_ret3
            exact allPost_err HF.out hB4
          · go_wp2_with fail
            refine (rbytes_ok gr b q3 4 f w4 hR4 (by omega) hf (by omega)).mono ?_
            rintro e w5 ⟨Ah, ch, rfl, _, hrh, _, hR5, hg5⟩
            have hO5 := hO4.keptAt hg5 (by omega)
            have hB5 := hB4.trans (gb_low hg5 hgw hR4.lt)
            clear hO4 hB4 hR4 hg5 hrv
            obtain ⟨ad0, x0, rfl, _, hx0, hc0⟩ := RL.byte hrh (k := 0) (by rw [List.length_take, List.length_drop]; omega)
            obtain ⟨ad1, x1, e1, _, hx1, hc1⟩ := RL.byte hrh (k := 1) (by rw [List.length_take, List.length_drop]; omega)
            obtain ⟨ad2, x2, e2, _, hx2', hc2⟩ := RL.byte hrh (k := 2) (by rw [List.length_take, List.length_drop]; omega)
            obtain ⟨ad3, x3, e3, _, hx3, hc3⟩ := RL.byte hrh (k := 3) (by rw [List.length_take, List.length_drop]; omega)
            injection e1 with e1
            injection e2 with e2
            injection e3 with e3
            subst e1 e2 e3
            have b0 : byteN b f = x0.toNat := by have := hx0.out; rw [drop_take_at (by omega) (by omega)] at this; injection this with this; unfold byteN; rw [← this]; rfl
            have b1 : byteN b (f + 1) = x1.toNat := by have := hx1.out; rw [drop_take_at (by omega) (by omega)] at this; injection this with this; unfold byteN; rw [← this]
            have b2 : byteN b (f + 2) = x2.toNat := by have := hx2'.out; rw [drop_take_at (by omega) (by omega)] at this; injection this with this; unfold byteN; rw [← this]
            have b3 : byteN b (f + 3) = x3.toNat := by have := hx3.out; rw [drop_take_at (by omega) (by omega)] at this; injection this with this; unfold byteN; rw [← this]
            have y0 := x0.toNat_lt
            have y1 := x1.toNat_lt
            have y2 := x2.toNat_lt
            have y3 := x3.toNat_lt
            have k0 : w5.cell? ad0 = some (.int .u8 (x0.toNat : Int)) := by rw [add_zero] at hc0; exact hc0
            have k1 : w5.cell? ⟨ad0.block, ad0.off + 1, none⟩ = some (.int .u8 (x1.toNat : Int)) := by rw [add_pos] at hc1; exact hc1
            have k2 : w5.cell? ⟨ad0.block, ad0.off + 2, none⟩ = some (.int .u8 (x2.toNat : Int)) := by rw [add_pos] at hc2; exact hc2
            have k3 : w5.cell? ⟨ad0.block, ad0.off + 3, none⟩ = some (.int .u8 (x3.toNat : Int)) := by rw [add_pos] at hc3; exact hc3
            obtain ⟨n0, hn0⟩ : ∃ n0, x0.toNat + 256 * x1.toNat = n0 := ⟨_, rfl⟩
            obtain ⟨m0, hm0⟩ : ∃ m0, x2.toNat + 256 * x3.toNat = m0 := ⟨_, rfl⟩
            have HGO3 : Bx (R = blkK L x κ b (if n0 + m0 ≠ 65535 then .err 4 else if L < o.length + n0 then .err 8 else if b.length < f + 4 + n0 then .err 2 else .ok (o ++ (b.drop (f + 4)).take n0, 8 * (f + 4 + n0)))) := bx (by
              rw [HGO2.out, storedP, HFF.out, if_neg h4, b0, b1, b2, b3, hn0, hm0])
            have hn0I : (x0.toNat : Int) + 256 * (x1.toNat : Int) = (n0 : Int) := by omega
            have hm0I : (n0 : Int) + (x2.toNat : Int) + 256 * (x3.toNat : Int) = ((n0 + m0 : Nat) : Int) := by omega
            have HN0 := bx hn0I
            have HM0 := bx hm0I
            have hn16 : n0 < 65536 := by omega
            have j0 : ∀ z : UInt8, IntKind.i64.wrap (z.toNat : Int) = (z.toNat : Int) := fun z => IntWalk.i64_in _ (by have := z.toNat_lt; omega)
            clear hc0 hc1 hc2 hc3 b0 b1 b2 b3 hn0 hm0 hn0I hm0I HGO2 hx0 hx1 hx2' hx3 hrh
            go_upto_region 30 with (fail)
            go_quiet (fail)
            rename Nat => nq
            rw [HN0.out]
            have hR6 : RRd (w5.drewN nq) gr b (8 * (f + 4)) := hR5
            have hO6 := hO5.drewN nq
            have hB6 := below_drewN hB5 nq
            have k2' : (w5.drewN nq).cell? ⟨ad0.block, ad0.off + 2, none⟩ = some (.int .u8 (x2.toNat : Int)) := k2
            have k3' : (w5.drewN nq).cell? ⟨ad0.block, ad0.off + 3, none⟩ = some (.int .u8 (x3.toNat : Int)) := k3
            clear hR5 hO5 hB5 k0 k1 k2 k3
            generalize w5.drewN nq = w6 at hR6 hO6 hB6 k2' k3' ⊢
            go_upto_region 31 with (fail)
            by_cases hnm : n0 + m0 = 65535
            case neg =>
              have HF : Bx (R = .err 4) := bx (by rw [HGO3.out, if_pos hnm]; rfl)
              have hne : ((n0 : Int) + (x2.toNat : Int) + 256 * (x3.toNat : Int) != 65535) = true := by rw [HM0.out, bne_iff_ne]; omega
              clear hnm
              go_quiet (fail)
              rename Nat => nq2
              have hB7 := below_drewN hB6 nq2
              go_wp2
              go_ret3
              exact allPost_err HF.out hB7
            case pos =>
            have HGO4 := bx (HGO3.out.trans (by rw [if_neg (by omega)]))
            have hne : ((n0 : Int) + (x2.toNat : Int) + 256 * (x3.toNat : Int) != 65535) = false := by rw [HM0.out, bne_eq_false_iff_eq]; omega
            clear hnm HGO3
            go_quiet (fail)
            rename Nat => nq2
            have hR7 : RRd (w6.drewN nq2) gr b (8 * (f + 4)) := hR6
            have hO7 := hO6.drewN nq2
            have hB7 := below_drewN hB6 nq2
            clear hR6 hO6 hB6 k2' k3'
            generalize w6.drewN nq2 = w7 at hR7 hO7 hB7 ⊢
            have hnv9 : nv ≤ 40000 := by rw [hnv.out]; omega
            by_cases hlong : L < o.length + n0
            case pos =>
              have HF : Bx (R = .err 8) := bx (by rw [HGO4.out, if_pos hlong]; rfl)
              have hgt : (L : Int) - (nv : Int) < (n0 : Int) := by rw [hnv.out]; omega
              clear hlong
              go_wp2
              go_ret3
              exact allPost_err HF.out hB7
            case neg =>
            have HGO5 := bx (HGO4.out.trans (by rw [if_neg hlong]))
            have hgt : ¬ (L : Int) - (nv : Int) < (n0 : Int) := by rw [hnv.out]; omega
            clear HGO4
            by_cases hsh : b.length < f + 4 + n0
            case pos =>
              have HF : Bx (R = .err 2) := bx (by rw [HGO5.out, if_pos hsh]; rfl)
              go_wp2_with fail
              refine (rbytes_short gr b (8 * (f + 4)) n0 w7 hR7 (by omega) (by omega)).mono ?_
              rintro e w8 ⟨rfl, rfl⟩
              go_wp2
              go_ret3
              exact allPost_err HF.out hB7
            case neg =>
            have HGO6 := bx (HGO5.out.trans (by rw [if_neg hsh]))
            clear HGO5
            go_wp2_with fail
            refine (rbytes_ok gr b (8 * (f + 4)) n0 (f + 4) w7 hR7 (by omega) (by omega) (by omega)).mono ?_
            rintro e w8 ⟨Ap, cp, rfl, _, hrp, _, hR8, hg8⟩
            have hO8 := hO7.keptAt hg8 (by omega)
            have hB8 := hB7.trans (gb_low hg8 hgw hR7.lt)
            have hpl : ((b.drop (f + 4)).take n0).length = n0 := by rw [List.length_take, List.length_drop]; omega
            have HPL := bx hpl
            have HNN : Bx ((o.length + ((b.drop (f + 4)).take n0).length) * 1 ≤ 140737488355328) := bx (by rw [hpl]; omega)
            have hz8 : gr + 1 ≤ w8.heap.size := hR8.lt
            have hvb : ∀ k, (Value.slice Av nv cv).ownBlock = some k → gr < k := fun k hk => by have := (World.ownsRow.lt hO8 k hk).1; omega
            have HVB := bx hvb
            clear hR7 hO7 hB7 hg8 hgt hpl hvb
            go_wp2_with (at_builtin; refine wpList_appL _ bV_one rfl (.tmp 140) (.tmp 141) rfl byteTy (by decide) (gr + 1) _ o rfl hO8 w8.heap.size Ap n0 cp ((b.drop (f + 4)).take n0) rfl HPL.out hrp HNN.out hz8 ?_; intro v9 w9 hO9 hg9 hv9 hb9)
            have hR9 := hR8.grown hg9 (fun k hk => HVB.out k hk)
            have hB9 := hB8.trans (hb9.mono (by omega))
            have HGO7 : Bx (R = blkK L x κ b (.ok (o ++ (b.drop (f + 4)).take n0, 8 * (f + 4 + n0)))) := bx HGO6.out
            have hR10 : RRd w9 gr b (8 * (f + 4 + n0)) := hR9
            go_meet
            case rel => exact ⟨8 * (f + 4 + n0), _, hR10, hO9, by rw [List.length_append, HPL.out]; omega, hB9, by omega, by omega, HGO7⟩
        · by_cases hy3 : y = 3
          · subst hy3
            have HF : Bx (R = .err 3) := bx (by rw [HGO.out]; rfl)
            go_wp2
            go_ret3
            exact allPost_err HF.out hB4
          · have hyb0 : ((y : Int) == 0) = false := by rw [beq_eq_false_iff_ne]; omega
            have hyb3 : ((y : Int) == 3) = false := by rw [beq_eq_false_iff_ne]; omega
            have HGOC : Bx (R = blkK L x κ b (if y = 2 then (toldP b q3).bind fun u => codedP L o u.1.1 u.1.2 b u.2 else codedP L o fixLit fixDist b q3)) := bx (by rw [HGO.out, bodyP, if_neg hy0, if_neg hy3])
            clear HGO hy0 hy3
            go_wp2_with fail
            refine (rfixed_any w4).mono ?_
            rintro e w5 ⟨A5, A6, c5, c6, rfl, hr5, hr6, hb5⟩
            have hR5 := hR4.step hb5
            have hO5 := hO4.below hb5
            have hB5 := hB4.trans (hb5.mono hB4.size)
            clear hR4 hO4 hB4 hb5
            go_upto_if 54 with (fail)
            go_cut [16, 17, 10] (fun a c _ wx => ∃ A n cc A' n' cc' l d q', a = .slice A n cc ∧ c = .slice A' n' cc' ∧ l.length = n ∧ d.length = n' ∧ RN wx wx.heap.size A l ∧ RN wx wx.heap.size A' d ∧ RRd wx gr b q' ∧ OwB wx (gr + 1) 5 u8 o ∧ Below w.heap.size w wx ∧ (∀ t ∈ l, t ≤ 15) ∧ (∀ t ∈ d, t ≤ 15) ∧ n ≤ 288 ∧ n' ≤ 288 ∧ q3 ≤ q' ∧ q' ≤ 8 * b.length ∧ Bx (R = blkK L x κ b (codedP L o l d b q')))
            case first =>
              by_cases hy2 : y = 2
              · have hyb2 : ((y : Int) == 2) = true := by rw [hy2]; rfl
                have HGO := bx (HGOC.out.trans (by rw [if_pos hy2]))
                clear HGOC hy2
                have hp5 := rtold_any gr b q3 w5 hR5
                cases hto : toldP b q3 with
                | err k =>
                  have HF : Bx (R = .err k) := bx (by rw [HGO.out, hto]; rfl)
                  have HTO := bx hto
                  clear hto
                  go_wp2_with fail
                  refine hp5.mono ?_
                  rintro e w6 ⟨hg6, hp⟩
                  rw [HTO.out] at hp
                  obtain ⟨rfl, hk0⟩ := hp
                  have hB6 := hB5.trans (gb_low hg6 hgw hR5.lt)
                  have hkb : (k != 0) = true := by rw [bne_iff_ne]; exact hk0
                  have HK0 := bx hk0
                  clear hk0
                  go_wp2
                  go_ret3
                  exact allPost_err HF.out hB6 HK0.out
                | ok z =>
                  obtain ⟨⟨l, d⟩, q'⟩ := z
                  have HGO2 : Bx (R = blkK L x κ b (codedP L o l d b q')) := bx (by rw [HGO.out, hto]; rfl)
                  have HTO := bx hto
                  have hmono := good_told.mono b q3 (l, d) q' (by omega) hto
                  clear hto HGO
                  go_wp2_with fail
                  refine hp5.mono ?_
                  rintro e w6 ⟨hg6, hp⟩
                  rw [HTO.out] at hp
                  obtain ⟨A7, n7, c7, A8, n8, c8, rfl, e1, e2, e3, e4, e5, e6, e7, e8, e9⟩ := hp
                  have hB6 := hB5.trans (gb_low hg6 hgw hR5.lt)
                  have hO6 := hO5.keptAt hg6 (by omega)
                  have E3 := bx e3
                  have E4 := bx e4
                  have E6 := bx e6
                  have E7 := bx e7
                  have E1 := bx e1
                  have E2 := bx e2
                  clear hr5 hr6 hR5 hO5 hB5 hg6 hp5 e1 e2 e3 e4 e6 e7
                  go_wp2
                  go_meet
                  case rel => exact ⟨A7, n7, c7, A8, n8, c8, l, d, q', rfl, rfl, E1.out, E2.out, E3.out, E4.out, e5, hO6, hB6, E6.out, E7.out, e8, e9, hmono.1, hmono.2, HGO2⟩
              · have hyb2 : ((y : Int) == 2) = false := by rw [beq_eq_false_iff_ne]; omega
                have HGO := bx (HGOC.out.trans (by rw [if_neg hy2]))
                have HA := bx hr5
                have HB := bx hr6
                clear HGOC hy2 hr5 hr6
                go_wp2
                go_meet
                case rel => exact ⟨A5, 288, c5, A6, 32, c6, fixLit, fixDist, q3, rfl, rfl, fixLit_len, by decide +kernel, HA.out, HB.out, hR5, hO5, hB5, by decide +kernel, by decide +kernel, by omega, by omega, Nat.le_refl _, hq38, HGO⟩
            case rest =>
            obtain ⟨A7, n7, c7, A8, n8, c8, l, d, q', rfl, rfl, e1, e2, e3, e4, hR6, hO6, hB6, e6, e7, e8, e9, hq1, hq2, HGO⟩ := hcut
            clear hr5 hr6 hR5 hO5 hB5 HGOC
            go_wp2_with fail
            refine (rnew_any A7 n7 c7 l false wc e1 e8 e6 e3).mono ?_
            rintro e w6 ⟨hb6, cl, hclz, hcl1, hp⟩
            have hR7 := hR6.step hb6
            have hO7 := hO6.below hb6
            have hB7 := hB6.trans (hb6.mono hB6.size)
            have hrd7 := e4.step hb6
            have hzc := hb6.size
            have hvb : ∀ k, u8.ownBlock = some k → k < wc.heap.size := fun k hk => (World.ownsRow.lt hO6 k hk).2
            have HVB := bx hvb
            have hgc := hR6.lt
            clear hR6 hO6 hB6 e3 e4 hb6 hvb
            obtain ⟨g1, hg1⟩ : ∃ g1, w6.heap.size = g1 := ⟨_, rfl⟩
            have HKZ : Bx (Bk (w6.alloc (.cells z32 108)) g1 108 z32) := bx (Bk.newAt _ _ _ hg1)
            have HSR : Bx ((w6.alloc (.cells z32 108)).setRow g1 cl = w6.alloc (.cells cl 108)) := bx (by rw [← hg1, World.setRow_alloc_new])
            have HB8 := bx (bl_alloc hB7 (Nat.le_refl _) (.cells cl 108))
            cases hcb : codeB l false with
            | false =>
              have HF : Bx (R = .err 5) := bx (by rw [HGO.out, codedP, if_pos hcb]; rfl)
              rw [hcb, if_neg (by simp)] at hp
              obtain rfl := hp
              clear hcb
              go_wp2_with (refine wpList_store_row rfl 108 (.tmp 18) (.tmp 67) rfl g1 cl rfl rfl 108 z32 HKZ.out (by rw [hclz]; exact info_code) (by rw [hclz]; rfl) hcl1 ?_; change wpList _ _ _ _ _ ((w6.alloc (.cells z32 108)).setRow g1 cl); rw [HSR.out])
              go_ret3
              exact allPost_err HF.out HB8.out
            | true =>
            rw [hcb, if_pos rfl] at hp
            obtain ⟨lo1, hi1, rfl, hC1, hlo1⟩ := hp
            have HGO2 := bx (HGO.out.trans (by rw [codedP, if_neg (by rw [hcb]; simp)]))
            have hbA := bl_alloc (Below.refl w6.heap.size w6) (Nat.le_refl _) (.cells cl 108)
            have HC1 := bx (hC1.step hbA)
            have HR8 := bx (hR7.step hbA)
            have HO8 := bx (hO7.below hbA)
            have HD8 := bx (hrd7.step hbA)
            have HK1 : Bx (Bk (w6.alloc (.cells cl 108)) g1 108 cl) := bx (Bk.newAt _ _ _ hg1)
            have HZ1 : Bx (g1 < (w6.alloc (.cells cl 108)).heap.size) := bx (by simp [hg1])
            have hwg1 : wc.heap.size ≤ g1 := by rw [← hg1]; exact hzc
            clear hcb HGO hC1 hR7 hO7 hrd7 hB7 hbA
            go_wp2_with (refine wpList_store_row rfl 108 (.tmp 18) (.tmp 67) rfl g1 cl rfl rfl 108 z32 HKZ.out (by rw [hclz]; exact info_code) (by rw [hclz]; rfl) hcl1 ?_; change wpList _ _ _ _ _ ((w6.alloc (.cells z32 108)).setRow g1 cl); rw [HSR.out])
            have hC1 := HC1.out
            have hR8 := HR8.out
            have hO8 := HO8.out
            have hD8 := HD8.out
            have hB8 := HB8.out
            have hK1 := HK1.out
            have hz1 := HZ1.out
            clear HC1 HR8 HO8 HD8 HB8 HK1 HZ1 HKZ HSR hg1
            generalize w6.alloc (.cells cl 108) = w7 at hC1 hR8 hO8 hD8 hB8 hK1 hz1 ⊢
            refine (rnew_any A8 n8 c8 d true w7 e2 e9 e7 hD8).mono ?_
            rintro e w8 ⟨hb8, cd, hcdz, hcd1, hp⟩
            have hR9 := hR8.step hb8
            have hO9 := hO8.below hb8
            have hB9 := hB8.trans (hb8.mono hB8.size)
            have hC19 := hC1.step hb8
            have hK19 := hK1.below hb8 hz1
            have hz8 := hb8.size
            clear hR8 hO8 hB8 hD8 hC1 hK1 hb8
            obtain ⟨g2, hg2⟩ : ∃ g2, w8.heap.size = g2 := ⟨_, rfl⟩
            have HKZ : Bx (Bk (w8.alloc (.cells z32 108)) g2 108 z32) := bx (Bk.newAt _ _ _ hg2)
            have HSR : Bx ((w8.alloc (.cells z32 108)).setRow g2 cd = w8.alloc (.cells cd 108)) := bx (by rw [← hg2, World.setRow_alloc_new])
            have HB10 := bx (bl_alloc hB9 (Nat.le_refl _) (.cells cd 108))
            cases hcb : codeB d true with
            | false =>
              have HF : Bx (R = .err 5) := bx (by rw [HGO2.out, if_pos hcb]; rfl)
              rw [hcb, if_neg (by simp)] at hp
              obtain rfl := hp
              clear hcb
              go_wp2_with (refine wpList_store_row rfl 108 (.tmp 20) (.tmp 75) rfl g2 cd rfl rfl 108 z32 HKZ.out (by rw [hcdz]; exact info_code) (by rw [hcdz]; rfl) hcd1 ?_; change wpList _ _ _ _ _ ((w8.alloc (.cells z32 108)).setRow g2 cd); rw [HSR.out])
              go_ret3
              exact allPost_err HF.out HB10.out
            | true =>
            rw [hcb, if_pos rfl] at hp
            obtain ⟨lo2, hi2, rfl, hC2, hlo2⟩ := hp
            have HGO3 := bx (HGO2.out.trans (by rw [if_neg (by rw [hcb]; simp)]))
            have hbA := bl_alloc (Below.refl w8.heap.size w8) (Nat.le_refl _) (.cells cd 108)
            have HC1 := bx (hC19.step hbA)
            have HC2 := bx (hC2.step hbA)
            have HR10 := bx (hR9.step hbA)
            have HO10 := bx (hO9.below hbA)
            have HK1 := bx (hK19.below hbA hK19.lt)
            have HK2 : Bx (Bk (w8.alloc (.cells cd 108)) g2 108 cd) := bx (Bk.newAt _ _ _ hg2)
            clear hcb HGO2 hC19 hC2 hR9 hO9 hK19 hB9 hbA
            go_upto_region 23 with (refine wpList_store_row rfl 108 (.tmp 20) (.tmp 75) rfl g2 cd rfl rfl 108 z32 HKZ.out (by rw [hcdz]; exact info_code) (by rw [hcdz]; rfl) hcd1 ?_; change wpList _ _ _ _ _ ((w8.alloc (.cells z32 108)).setRow g2 cd); rw [HSR.out])
            have hC1 := HC1.out
            have hC2 := HC2.out
            have hR10 := HR10.out
            have hO10 := HO10.out
            have hB10 := HB10.out
            have hK1 := HK1.out
            have hK2 := HK2.out
            clear HC1 HC2 HR10 HO10 HB10 HK1 HK2 HKZ HSR hg2
            generalize w8.alloc (.cells cd 108) = w9 at hC1 hC2 hR10 hO10 hB10 hK1 hK2 ⊢
            go_wp2_with (first
              | (refine wpList_load_row rfl 108 (.tmp 18) rfl g1 rfl _ cl _ _ hK1 Tryd.underlying108 rfl (by rw [hclz]; exact info_code) ?_)
              | (refine wpList_load_row rfl 108 (.tmp 20) rfl g2 rfl _ cd _ _ hK2 Tryd.underlying108 rfl (by rw [hcdz]; exact info_code) ?_))
            have hp9 := rsymbols_any gr lo1 hi1 lo2 hi2 cl cd b l d q' L u8 o w9 hR10 hO10 hC1 hC2 (fun k hk => by have := HVB.out k hk; omega) (by omega) (by omega) hol hL
            cases hsy : symP l d L o b q' with
            | err k =>
              have HF : Bx (R = .err k) := bx (by rw [HGO3.out, hsy]; rfl)
              have HSY := bx hsy
              clear hsy
              refine hp9.mono ?_
              rintro e w10 ⟨hb10, hp⟩
              rw [HSY.out] at hp
              obtain ⟨rfl, hk0⟩ := hp
              have hB11 := hB10.trans (hb10.mono hgw)
              have hkb : (k != 0) = true := by rw [bne_iff_ne]; exact hk0
              have HK0 := bx hk0
              clear hk0 hp9
              go_wp2
              go_ret3
              exact allPost_err HF.out hB11 HK0.out
            | ok z =>
              obtain ⟨o2, q2⟩ := z
              have HGO4 : Bx (R = blkK L x κ b (.ok (o2, q2))) := bx (by rw [HGO3.out, hsy])
              have HSY := bx hsy
              have hmono := (good_symP l d L o).mono b q' o2 q2 hq2 hsy
              clear hsy
              refine hp9.mono ?_
              rintro e w10 ⟨hb10, hp⟩
              rw [HSY.out] at hp
              obtain ⟨v10, rfl, f1, f2, f3⟩ := hp
              have hB11 := hB10.trans (hb10.mono hgw)
              clear hp9 hR10 hO10 hB10 hC1 hC2 hK1 hK2
              go_wp2_with fail
              go_meet
              case rel => exact ⟨q2, o2, f1, f2, f3, hB11, by omega, hmono.2, HGO4⟩
      case rest =>
        obtain ⟨q2, o2, hR5, hO5, hol5, hB5, hq5, hq6, HGO5⟩ := hcut
        clear hR4 hO4 hB4 HGO
        obtain ⟨A1', c1', h1', _⟩ := id hR5
        have c1 : wc.cell? ⟨gr, 1, none⟩ = some (.int .i64 (q2 : Int)) := (h1'.cell 1).trans rfl
        clear h1'
        by_cases hx1 : x = 1
        · have HF : Bx (R = .ok (o2, (q2 + 7) / 8)) := bx (by rw [HGO5.out]; unfold blkK; show ((if x = 1 then Rz.ok (o2, q2) else _).bind _) = _; rw [if_pos hx1]; rfl)
          obtain ⟨Av, nv, cv, rfl, hnv, hrv⟩ := OwL.sl hO5
          have hxb : ((x : Int) == 1) = true := by rw [hx1]; rfl
          have i1 : IntKind.i64.wrap ((q2 : Int) + 7) = (q2 : Int) + 7 := IntWalk.i64_in _ (by omega)
          clear hx1 hrv
          go_wp2_with fail
          go_quiet (fail)
          rename Nat => nq
          clear i1
          go_wp2
          go_ret3
          have hOb : OwB (wc.drewN nq) w.heap.size 5 (.slice Av nv cv) o2 := (OwL.low hO5 (by omega)).drewN nq
          exact allPost_ok HF.out (below_drewN hB5 nq) hOb (by omega)
        · have hxb : ((x : Int) == 1) = false := by rw [beq_eq_false_iff_ne]; omega
          have HG6 : Bx (R = (allB L b κ q2 o2).bind fun x => .ok (x.1, (x.2 + 7) / 8)) := bx (by rw [HGO5.out]; unfold blkK; show ((if x = 1 then Rz.ok (o2, q2) else _).bind _) = _; rw [if_neg hx1])
          clear hx1
          go_wp2_with fail
          go_roundg κ
          case rel => exact ⟨q2, o2, hR5, hO5, hol5, hB5, by omega, hq6, HG6⟩
          case measure => omega
end Go.Proofs.YtokojichjliieaaDoor
namespace Go.Proofs.YtokojichjliieaaDoor
open Go.RowKit
theorem infl_used {b : List UInt8} {lim : Int} {o : List UInt8} {n : Nat} (h : inflP b lim = .ok (o, n)) : n ≤ b.length := by
  obtain ⟨p, h1, h2, _⟩ := infl_ok h
  have := (allP_more h1).2
  omega
set_option maxRecDepth 100000 in
set_option maxHeartbeats 4000000 in
theorem runp_any (s : ByteArray) (me pk si su at_ hd : Int) (A : Option Addr) (n c : Nat) (b : List UInt8) (w : World) (hn : b.length = n) (hz : n ≤ 1000000000) (hr : RB w w.heap.size A b)
    (hme1 : -9223372036854775808 ≤ me) (hme2 : me ≤ 9223372036854775807) :
    Calls Tryd.prog 22 #[.agg #[.string s, .int .i64 me, .int .i64 pk, .int .i64 si, .int .i64 su, .int .i64 at_, .int .i64 hd], .slice A n c] w (UnpPost (unpA me pk si su b) w) := by
  obtain ⟨R, hRR⟩ : ∃ R, unpA me pk si su b = R := ⟨_, rfl⟩
  rw [hRR]
  have HE := bx hn
  have HRR := bx hRR
  have hB0 : Bx (Below w.heap.size w (w.alloc (.cells #[.string s, .int .i64 me, .int .i64 pk, .int .i64 si, .int .i64 su, .int .i64 at_, .int .i64 hd] 33))) := bx (bl_alloc (Below.refl w.heap.size w) (Nat.le_refl _) _)
  obtain ⟨g, hg⟩ : ∃ g, w.heap.size = g := ⟨_, rfl⟩
  have hK0 : Bk (w.alloc (.cells #[.string s, .int .i64 me, .int .i64 pk, .int .i64 si, .int .i64 su, .int .i64 at_, .int .i64 hd] 33)) g 33 #[.string s, .int .i64 me, .int .i64 pk, .int .i64 si, .int .i64 su, .int .i64 at_, .int .i64 hd] := Bk.newAt w _ _ hg
  have hR0 : RB (w.alloc (.cells #[.string s, .int .i64 me, .int .i64 pk, .int .i64 si, .int .i64 su, .int .i64 at_, .int .i64 hd] 33)) (w.alloc (.cells #[.string s, .int .i64 me, .int .i64 pk, .int .i64 si, .int .i64 su, .int .i64 at_, .int .i64 hd] 33)).heap.size A b := (hr.alloc (Nat.le_refl _) _).more (by simp)
  have HK0 := bx hK0
  have HR0 := bx hR0
  have HG := bx hg
  clear hn hRR hr hK0 hR0
  go_enter Tryd.func22, Tryd.ntmps22
  go_upto_region 1 with (fail)
  generalize w.alloc (.cells #[.string s, .int .i64 me, .int .i64 pk, .int .i64 si, .int .i64 su, .int .i64 at_, .int .i64 hd] 33) = w0 at HK0 HR0 hB0 ⊢
  have k1 : w0.cell? ⟨g, 1, none⟩ = some (.int .i64 me) := (HK0.out.cell 1).trans rfl
  have k2 : w0.cell? ⟨g, 2, none⟩ = some (.int .i64 pk) := (HK0.out.cell 2).trans rfl
  have k3 : w0.cell? ⟨g, 3, none⟩ = some (.int .i64 si) := (HK0.out.cell 3).trans rfl
  by_cases h1 : (n : Int) ≠ pk
  · have t1 : ((n : Int) != pk) = true := by rw [bne_iff_ne]; exact h1
    have HF : Bx (R = .err 1) := bx (by rw [← HRR.out, unpA, if_pos (.inl (by rw [HE.out]; exact h1))])
    clear h1
    go_wp2
    go_ret2
    exact unpPost_err HF.out hB0.out
  obtain rfl : pk = (n : Int) := by omega
  clear h1
  have t1 : ((n : Int) != (n : Int)) = false := by simp
  by_cases h2 : me ≠ 0 ∧ me ≠ 8
  · have t2 : (me != 0) = true := by rw [bne_iff_ne]; exact h2.1
    have t3 : (me != 8) = true := by rw [bne_iff_ne]; exact h2.2
    have HF : Bx (R = .err 1) := bx (by rw [← HRR.out, unpA, if_pos (.inr (.inl h2))])
    clear h2
    go_wp2
    go_ret2
    exact unpPost_err HF.out hB0.out
  have h8 : me = 0 ∨ me = 8 := by omega
  clear h2
  rcases h8 with rfl | rfl
  · by_cases h3 : si < 0
    · have HF : Bx (R = .err 1) := bx (by rw [← HRR.out, unpA, if_pos (.inr (.inr h3))])
      go_wp2
      go_ret2
      exact unpPost_err HF.out hB0.out
    by_cases h4 : 32768 < si
    · have HF : Bx (R = .err 17) := bx (by rw [← HRR.out, unpA, if_neg (by rw [HE.out]; omega), if_pos h4])
      go_wp2
      go_ret2
      exact unpPost_err HF.out hB0.out
    have HU : Bx (R = (outA 0 (n : Int) si b).bind (endA' si su)) := bx (by rw [← HRR.out, unpA, if_neg (by rw [HE.out]; omega), if_neg h4])
    have HN : Bx ((([] : List UInt8).length + b.length) * 1 ≤ 140737488355328) := bx (by rw [HE.out]; simp; omega)
    go_upto_region 6 with (at_builtin; refine wpList_appL _ bV_one rfl (.tmp 33) (.tmp 34) rfl byteTy (by decide) w0.heap.size _ [] rfl (OwL.lit0 w0 (Nat.le_refl _)) _ A n c b rfl HE.out (HR0.out.alloc (Nat.le_refl _) _) HN.out (le_alloc0 (Nat.le_refl _) _) ?_; intro v1 w1 own1 _ _ hb1; rw [List.nil_append] at own1; have HB1 := bx (hB0.out.trans (((bl_alloc (Below.refl w0.heap.size w0) (Nat.le_refl _) (.cells #[] 5)).trans hb1).mono hB0.out.size)); have HK1 := bx (HK0.out.below ((bl_alloc (Below.refl w0.heap.size w0) (Nat.le_refl _) (.cells #[] 5)).trans hb1) HK0.out.lt); have HRA := bx (HR0.out.step ((bl_alloc (Below.refl w0.heap.size w0) (Nat.le_refl _) (.cells #[] 5)).trans hb1)); have HOL := bx (OwL.low own1 hB0.out.size); obtain ⟨A1, c1, rfl, hr1, hmc, _⟩ := own1.rd; rw [HE.out]; rw [HE.out] at HOL; have HR1 := bx hr1; have q1 : w1.cell? ⟨g, 1, none⟩ = some (.int .i64 0) := (HK1.out.cell 1).trans rfl; have q3 : w1.cell? ⟨g, 3, none⟩ = some (.int .i64 si) := (HK1.out.cell 3).trans rfl; have q4 : w1.cell? ⟨g, 4, none⟩ = some (.int .i64 su) := (HK1.out.cell 4).trans rfl; clear hb1 own1 hr1 hmc)
    have q3 : w1.cell? ⟨g, 3, none⟩ = some (.int .i64 si) := (HK1.out.cell 3).trans rfl
    have q4 : w1.cell? ⟨g, 4, none⟩ = some (.int .i64 su) := (HK1.out.cell 4).trans rfl
    by_cases h7 : (n : Int) ≠ si
    · have t7 : ((n : Int) != si) = true := by rw [bne_iff_ne]; exact h7
      have HF : Bx (R = .err 18) := bx (by rw [HU.out, outA, if_neg (by decide), if_pos h7]; rfl)
      clear h7
      go_wp2
      go_ret2
      exact unpPost_err HF.out HB1.out
    have HZ : Bx (R = endA' si su b) := bx (by rw [HU.out, outA, if_neg (by decide), if_neg h7]; rfl)
    have t7 : ((n : Int) != si) = false := by rw [show (n : Int) = si by omega]; simp
    obtain ⟨sm, hsm⟩ : ∃ sm, crcA 0 b = sm := ⟨_, rfl⟩
    have HSM := bx hsm
    have hmz : n ≤ 1000000000 := by omega
    have HS := fun w hr => rsum_any A1 n c1 b w (HE.out) (by omega) hr
    have HS' := bx HS
    clear hsm HS
    by_cases h9 : (sm : Int) ≠ su
    · have t9 : ((sm : Int) != su) = true := by rw [bne_iff_ne]; exact h9
      have HF : Bx (R = .err 19) := bx (by rw [HZ.out, endA', if_neg (by rw [HE.out]; exact h7), if_pos (by rw [HSM.out]; exact h9)])
      clear h9 h7
      go_wp2_with fail
      go_quiet ((go_at_call 26; exact quiet_eq ((HS'.out _ (HR1.out.drewN _)).mono fun e w' h => ⟨by rw [h.1, HSM.out], h.2.symm⟩)))
      go_wp2
      go_ret2
      exact unpPost_err HF.out (below_drewN HB1.out _)
    have t9 : ((sm : Int) != su) = false := by rw [show (sm : Int) = su by omega]; simp
    have HF : Bx (R = .ok b) := bx (by rw [HZ.out, endA', if_neg (by rw [HE.out]; exact h7), if_neg (by rw [HSM.out]; exact h9)])
    have hl32 : b.length ≤ 32768 := by rw [HE.out]; omega
    clear h9 h7
    go_wp2_with fail
    go_quiet ((go_at_call 26; exact quiet_eq ((HS'.out _ (HR1.out.drewN _)).mono fun e w' h => ⟨by rw [h.1, HSM.out], h.2.symm⟩)))
    go_wp2
    go_ret2
    exact unpPost_ok HF.out (below_drewN HB1.out _) (HOL.out.drewN _) hl32
  · by_cases h3 : si < 0
    · have HF : Bx (R = .err 1) := bx (by rw [← HRR.out, unpA, if_pos (.inr (.inr h3))])
      go_wp2
      go_ret2
      exact unpPost_err HF.out hB0.out
    by_cases h4 : 32768 < si
    · have HF : Bx (R = .err 17) := bx (by rw [← HRR.out, unpA, if_neg (by rw [HE.out]; omega), if_pos h4])
      go_wp2
      go_ret2
      exact unpPost_err HF.out hB0.out
    have HU : Bx (R = (outA 8 (n : Int) si b).bind (endA' si su)) := bx (by rw [← HRR.out, unpA, if_neg (by rw [HE.out]; omega), if_neg h4])
    have HN : Bx ((([] : List UInt8).length + b.length) * 1 ≤ 140737488355328) := bx (by rw [HE.out]; simp; omega)
    go_upto_region 6 with (at_builtin; refine wpList_appL _ bV_one rfl (.tmp 33) (.tmp 34) rfl byteTy (by decide) w0.heap.size _ [] rfl (OwL.lit0 w0 (Nat.le_refl _)) _ A n c b rfl HE.out (HR0.out.alloc (Nat.le_refl _) _) HN.out (le_alloc0 (Nat.le_refl _) _) ?_; intro v1 w1 own1 _ _ hb1; rw [List.nil_append] at own1; have HB1 := bx (hB0.out.trans (((bl_alloc (Below.refl w0.heap.size w0) (Nat.le_refl _) (.cells #[] 5)).trans hb1).mono hB0.out.size)); have HK1 := bx (HK0.out.below ((bl_alloc (Below.refl w0.heap.size w0) (Nat.le_refl _) (.cells #[] 5)).trans hb1) HK0.out.lt); have HRA := bx (HR0.out.step ((bl_alloc (Below.refl w0.heap.size w0) (Nat.le_refl _) (.cells #[] 5)).trans hb1)); have HOL := bx (OwL.low own1 hB0.out.size); obtain ⟨A1, c1, rfl, hr1, hmc, _⟩ := own1.rd; rw [HE.out]; rw [HE.out] at HOL; have HR1 := bx hr1; have q1 : w1.cell? ⟨g, 1, none⟩ = some (.int .i64 8) := (HK1.out.cell 1).trans rfl; have q3 : w1.cell? ⟨g, 3, none⟩ = some (.int .i64 si) := (HK1.out.cell 3).trans rfl; have q4 : w1.cell? ⟨g, 4, none⟩ = some (.int .i64 su) := (HK1.out.cell 4).trans rfl; clear hb1 own1 hr1 hmc)
    have HI := bx (rall_any A n c b si w1 HE.out hz HRA.out (by omega) (by omega))
    have HO : Bx (outA 8 (n : Int) si b = (inflP b si).bind fun x => if x.2 < b.length then .err 18 else .ok x.1) := bx (by rw [outA, if_pos rfl])
    obtain ⟨w00, hw00⟩ : ∃ w00, w1 = w00 := ⟨_, rfl⟩
    subst hw00
    go_wp2_with fail
    refine HI.out.mono ?_
    intro e w2 hp
    cases hi : inflP b si with
    | err k =>
      obtain ⟨rfl, hb2, hk0⟩ := allErr hp hi
      have HF : Bx (R = .err k) := bx (by rw [HU.out, HO.out, hi]; rfl)
      have HB2 := bx (HB1.out.trans (hb2.mono HB1.out.size))
      have HK := bx hk0
      have hkb : (k != 0) = true := by rw [bne_iff_ne]; exact hk0
      clear hp hi hb2 hk0
      go_wp2
      go_ret2
      exact unpPost_err HF.out HB2.out HK.out
    | ok x =>
      obtain ⟨o, used⟩ := x
      have hus := infl_used hi
      obtain ⟨A2, m, c2, rfl, hm, hr2, hmc, hb2, _, ho1, ho2⟩ := allOk hp hi
      have HB2 := bx (HB1.out.trans (hb2.mono HB1.out.size))
      have HK2 := bx (HK1.out.below hb2 HK1.out.lt)
      have hm32 : m ≤ 32768 := by rw [hm.out]; exact ho2
      have HR2 := bx hr2
      have HO2 := bx (OwL.low ho1 HB1.out.size)
      have HX : Bx (outA 8 (n : Int) si b = if used < b.length then .err 18 else .ok o) := bx (by rw [HO.out, hi]; rfl)
      rw [HE.out] at hus
      clear hp hi hb2 hr2 ho1 ho2 k1 k2 k3 HI HO
      by_cases h5 : used < n
      · have h5I : ((used : Int) != (n : Int)) = true := by rw [bne_iff_ne]; omega
        have HF : Bx (R = .err 18) := bx (by rw [HU.out, HX.out, if_pos (by rw [HE.out]; exact h5)]; rfl)
        clear h5
        go_wp2
        go_ret2
        exact unpPost_err HF.out HB2.out
      have h5I : ((used : Int) != (n : Int)) = false := by rw [show used = n by omega]; simp
      have HY : Bx (R = endA' si su o) := bx (by rw [HU.out, HX.out, if_neg (by rw [HE.out]; exact h5)]; rfl)
      clear h5
      have q3 : w2.cell? ⟨g, 3, none⟩ = some (.int .i64 si) := (HK2.out.cell 3).trans rfl
      have q4 : w2.cell? ⟨g, 4, none⟩ = some (.int .i64 su) := (HK2.out.cell 4).trans rfl
      by_cases h7 : (m : Int) ≠ si
      · have t7 : ((m : Int) != si) = true := by rw [bne_iff_ne]; exact h7
        have HF : Bx (R = .err 18) := bx (by rw [HY.out, endA', if_pos (by rw [← hm.out]; exact h7)])
        clear h7
        go_wp2
        go_ret2
        exact unpPost_err HF.out HB2.out
      have HZ : Bx (R = endA' si su o) := bx (HY.out)
      have t7 : ((m : Int) != si) = false := by rw [show (m : Int) = si by omega]; simp
      obtain ⟨sm, hsm⟩ : ∃ sm, crcA 0 o = sm := ⟨_, rfl⟩
      have HSM := bx hsm
      have hmz : m ≤ 1000000000 := by omega
      have HS := fun w hr => rsum_any A2 m c2 o w (hm.out.symm) (by omega) hr
      have HS' := bx HS
      clear hsm HS
      by_cases h9 : (sm : Int) ≠ su
      · have t9 : ((sm : Int) != su) = true := by rw [bne_iff_ne]; exact h9
        have HF : Bx (R = .err 19) := bx (by rw [HZ.out, endA', if_neg (by rw [← hm.out]; exact h7), if_pos (by rw [HSM.out]; exact h9)])
        clear h9 h7
        go_wp2_with fail
        go_quiet ((go_at_call 26; exact quiet_eq ((HS'.out _ (HR2.out.drewN _)).mono fun e w' h => ⟨by rw [h.1, HSM.out], h.2.symm⟩)))
        go_wp2
        go_ret2
        exact unpPost_err HF.out (below_drewN HB2.out _)
      have t9 : ((sm : Int) != su) = false := by rw [show (sm : Int) = su by omega]; simp
      have HF : Bx (R = .ok o) := bx (by rw [HZ.out, endA', if_neg (by rw [← hm.out]; exact h7), if_neg (by rw [HSM.out]; exact h9)])
      have hl32 : o.length ≤ 32768 := by rw [← hm.out]; omega
      clear h9 h7
      go_wp2_with fail
      go_quiet ((go_at_call 26; exact quiet_eq ((HS'.out _ (HR2.out.drewN _)).mono fun e w' h => ⟨by rw [h.1, HSM.out], h.2.symm⟩)))
      go_wp2
      go_ret2
      exact unpPost_ok HF.out (below_drewN HB2.out _) (HO2.out.drewN _) hl32
end Go.Proofs.YtokojichjliieaaDoor
namespace Go.Proofs.YtokojichjliieaaDoor
open Go.RowKit
set_option maxRecDepth 100000 in
set_option maxHeartbeats 8000000 in
theorem rfind_any (A0 : Option Addr) (n0 c0 : Nat) (l0 : List UInt8) (s : ByteArray) (w : World) (e0 : l0.length = n0) (b0 : n0 ≤ 140737488351232) (hc0 : n0 ≤ c0) (hm0 : (c0 : Int) ≤ 9223372036854775807) (r0 : RB w w.heap.size A0 l0) :
    Calls Tryd.prog 24 #[.slice A0 n0 c0, .string s] w (UnpPost (findP l0 s.data.toList) w) := by
  obtain ⟨R, hRR⟩ : ∃ R, findP l0 s.data.toList = R := ⟨_, rfl⟩
  rw [hRR]
  have HRR : Bx ((dirA l0).bind (findL l0 s.data.toList) = R) := bx hRR
  have HE := bx e0
  have HR0 := bx r0
  obtain ⟨X, hX⟩ : ∃ X, dirA l0 = X := ⟨_, rfl⟩
  have HD := bx (rdir_any A0 n0 c0 l0 w e0 b0 hc0 hm0 r0)
  rw [hX] at HD HRR
  clear e0 r0 hRR
  go_enter Tryd.func24, Tryd.ntmps24
  cases X with
  | err k =>
    have hk := dirA_pos hX
    have hkI : (k != 0) = true := by rw [bne_iff_ne]; omega
    have HF : Bx (R = .err k) := bx (HRR.out.symm)
    have HK : Bx (k ≠ 0) := bx (by omega)
    clear hX HRR
    go_wp2_with fail
    refine HD.out.mono ?_
    intro e w2 hp
    obtain ⟨rfl, hb2⟩ := dirpost_err hp rfl
    have HB2 := bx hb2
    clear hp hb2 hk
    go_wp2
    go_ret2
    exact unpPost_err HF.out HB2.out HK.out
  | ok L =>
  have HOK := bx (apOk hX)
  have h64 := (dirA_ok hX).1
  obtain ⟨nL, hnL⟩ : ∃ nL, L.length = nL := ⟨_, rfl⟩
  have hnl64 : nL ≤ 64 := by rw [← hnL]; exact HOK.out.len
  have HNL := bx hnL
  have hn64 : n0 ≤ 65536 := by rw [← HE.out]; exact h64
  have HRF : Bx (findL l0 s.data.toList (L.drop 0) = R) := bx HRR.out
  clear hX hnL HRR h64
  go_wp2_with fail
  refine HD.out.mono ?_
  intro e w2 hp
  obtain ⟨A2, c2, rfl, _, hr2, hc2, hb2⟩ := dirpost_ok hp rfl
  have HR2 := bx hr2
  have HB2 := bx hb2
  rw [HNL.out] at hc2
  clear hp hb2 hr2
  rw [HNL.out]
  obtain ⟨B2, hB2⟩ : ∃ B2, w2.heap.size = B2 := ⟨_, rfl⟩
  have HBB := bx hB2
  have hwB : w.heap.size ≤ B2 := by rw [← hB2]; exact HB2.out.size
  clear hB2
  go_wp2_with fail
  go_loopw [8] (fun iv wx => ∃ t : Nat, t ≤ nL ∧ iv = .int .i64 (t : Int) ∧ w2 = wx ∧ Bx (findL l0 s.data.toList (L.drop t) = R)) (fun i _ => nL - (intOf i).toNat)
  case atStart => exact ⟨0, by omega, rfl, rfl, HRF⟩
  case round =>
    clear HRF
    obtain ⟨t, ht, rfl, rfl, HT⟩ := hrel
    by_cases htn : t < nL
    · have htI : (t : Int) < (nL : Int) := by omega
      obtain ⟨ad, x, hA, had, hx, hc, hcs⟩ := HR2.out.at_ recCels (k := t) (by rw [HNL.out]; exact htn)
      subst hA
      have HX2 := bx (findL_at (b := l0) (nm := s.data.toList) hx.out)
      have HO := bx (HOK.out.one t _ hx.out)
      obtain ⟨⟨nm, me, pk, si, su, hd⟩, at2⟩ := x
      obtain ⟨o1, o2, o3, o4, o5⟩ := HO.out
      dsimp only at o1 o2 o3 o4 o5
      rw [HE.out] at o4
      obtain ⟨sn, hsn⟩ : ∃ s : ByteArray, (⟨nm.toArray⟩ : ByteArray) = s := ⟨_, rfl⟩
      have HSV : Bx (strV nm = .string sn) := bx (by unfold strV; rw [hsn])
      have HSL : Bx (sn.data.toList = nm) := bx (by rw [← hsn])
      have k0 := hc _ rfl
      have k1 := hcs 0 _ rfl
      have k2 := hcs 1 _ rfl
      have k3 := hcs 2 _ rfl
      have k4 := hcs 3 _ rfl
      have k5 := hcs 4 _ rfl
      have k6 := hcs 5 _ rfl
      rw [Nat.zero_add] at k1
      rw [HSV.out] at k0
      have htc : (t : Int) ≤ (c2 : Int) := by omega
      have HME := bx o2
      clear hc hcs hx hsn o1 o2 o5 HO
      by_cases hnm : nm = s.data.toList
      · have hst : (sn.toList == s.toList) = true := tl_same (by rw [HSL.out]; exact hnm)
        have HF : Bx (unpA me pk si su ((l0.drop at2).take pk) = R) := bx (by rw [← HT.out, HX2.out]; exact (if_pos hnm).symm)
        clear hnm HX2 HT
        go_upto_region 8 with (fail)
        have hS5 : w2.drew.cell? (ad.add (t * 7)) = some (.string sn) ∧ w2.drew.cell? ⟨(ad.add (t * 7)).block, (ad.add (t * 7)).off + 1, none⟩ = some (.int .i64 (me : Int)) ∧ w2.drew.cell? ⟨(ad.add (t * 7)).block, (ad.add (t * 7)).off + (1 + 1), none⟩ = some (.int .i64 (pk : Int)) ∧ w2.drew.cell? ⟨(ad.add (t * 7)).block, (ad.add (t * 7)).off + (2 + 1), none⟩ = some (.int .i64 (si : Int)) ∧ w2.drew.cell? ⟨(ad.add (t * 7)).block, (ad.add (t * 7)).off + (3 + 1), none⟩ = some (.int .i64 (su : Int)) ∧ w2.drew.cell? ⟨(ad.add (t * 7)).block, (ad.add (t * 7)).off + (4 + 1), none⟩ = some (.int .i64 (at2 : Int)) ∧ w2.drew.cell? ⟨(ad.add (t * 7)).block, (ad.add (t * 7)).off + (5 + 1), none⟩ = some (.int .i64 (hd : Int)) := ⟨k0, k1, k2, k3, k4, k5, k6⟩
        have HW5 : Bx (Below w.heap.size w w2.drew) := bx (below_drewN HB2.out 1)
        have HI4 : Bx (RB w2 w2.heap.size A0 l0) := bx ((HR0.out.below HB2.out (Nat.le_refl _)).more HB2.out.size)
        have HP : Bx (RB w2.drew w2.drew.heap.size (A0.map (·.add at2)) ((l0.drop at2).take pk)) := bx (((HI4.out.drewN 1).drop at2).take pk)
        have HPL : Bx (((l0.drop at2).take pk).length = pk) := bx (by rw [List.length_take, List.length_drop, HE.out]; omega)
        have u1 : IntKind.i64.wrap ((at2 : Int) + (pk : Int)) = (at2 : Int) + (pk : Int) := IntWalk.i64_in _ (by omega)
        have v1 : (0 : Int) ≤ (at2 : Int) := by omega
        have v2 : (at2 : Int) ≤ (at2 : Int) + (pk : Int) := by omega
        have v3 : (at2 : Int) + (pk : Int) ≤ (c0 : Int) := by omega
        have v4 : ((at2 : Int)).toNat = at2 := Int.toNat_natCast at2
        have v5 : ((at2 : Int) + (pk : Int)).toNat = at2 + pk := Int.toNat_natCast (at2 + pk)
        have v6 : ¬ c0 = at2 := by omega
        have HME1 : Bx (-9223372036854775808 ≤ (me : Int)) := bx (by omega)
        have HME2 : Bx ((me : Int) ≤ 9223372036854775807) := bx (by have := HME.out; omega)
        have HLT : Bx (ad.block < w2.heap.size) := bx had
        clear k0 k1 k2 k3 k4 k5 k6
        go_region_held3 (fun w' => w'.cell? (ad.add (t * 7)) = some (.string sn) ∧ w'.cell? ⟨(ad.add (t * 7)).block, (ad.add (t * 7)).off + 1, none⟩ = some (.int .i64 (me : Int)) ∧ w'.cell? ⟨(ad.add (t * 7)).block, (ad.add (t * 7)).off + (1 + 1), none⟩ = some (.int .i64 (pk : Int)) ∧ w'.cell? ⟨(ad.add (t * 7)).block, (ad.add (t * 7)).off + (2 + 1), none⟩ = some (.int .i64 (si : Int)) ∧ w'.cell? ⟨(ad.add (t * 7)).block, (ad.add (t * 7)).off + (3 + 1), none⟩ = some (.int .i64 (su : Int)) ∧ w'.cell? ⟨(ad.add (t * 7)).block, (ad.add (t * 7)).off + (4 + 1), none⟩ = some (.int .i64 (at2 : Int)) ∧ w'.cell? ⟨(ad.add (t * 7)).block, (ad.add (t * 7)).off + (5 + 1), none⟩ = some (.int .i64 (hd : Int))) (first | exact hS5 | exact hS6) ((go_at_call 22; refine (runp_any sn me pk si su at2 hd (A0.map (·.add at2)) pk (c0 - at2) ((l0.drop at2).take pk) w2.drew HPL.out (by omega) HP.out HME1.out HME2.out).mono ?_; intro e w6 hp6; obtain ⟨v6, k6, rfl⟩ := unp_form hp6; have hS6 : w6.cell? (ad.add (t * 7)) = some (.string sn) ∧ w6.cell? ⟨(ad.add (t * 7)).block, (ad.add (t * 7)).off + 1, none⟩ = some (.int .i64 (me : Int)) ∧ w6.cell? ⟨(ad.add (t * 7)).block, (ad.add (t * 7)).off + (1 + 1), none⟩ = some (.int .i64 (pk : Int)) ∧ w6.cell? ⟨(ad.add (t * 7)).block, (ad.add (t * 7)).off + (2 + 1), none⟩ = some (.int .i64 (si : Int)) ∧ w6.cell? ⟨(ad.add (t * 7)).block, (ad.add (t * 7)).off + (3 + 1), none⟩ = some (.int .i64 (su : Int)) ∧ w6.cell? ⟨(ad.add (t * 7)).block, (ad.add (t * 7)).off + (4 + 1), none⟩ = some (.int .i64 (at2 : Int)) ∧ w6.cell? ⟨(ad.add (t * 7)).block, (ad.add (t * 7)).off + (5 + 1), none⟩ = some (.int .i64 (hd : Int)) := ⟨(hp6.1.cell (by first | exact HLT.out | (rw [blk_add]; exact HLT.out))).trans hS5.1, (hp6.1.cell (by first | exact HLT.out | (rw [blk_add]; exact HLT.out))).trans hS5.2.1, (hp6.1.cell (by first | exact HLT.out | (rw [blk_add]; exact HLT.out))).trans hS5.2.2.1, (hp6.1.cell (by first | exact HLT.out | (rw [blk_add]; exact HLT.out))).trans hS5.2.2.2.1, (hp6.1.cell (by first | exact HLT.out | (rw [blk_add]; exact HLT.out))).trans hS5.2.2.2.2.1, (hp6.1.cell (by first | exact HLT.out | (rw [blk_add]; exact HLT.out))).trans hS5.2.2.2.2.2.1, (hp6.1.cell (by first | exact HLT.out | (rw [blk_add]; exact HLT.out))).trans hS5.2.2.2.2.2.2⟩))
        go_wp2
        go_ret2
        have hu := unp_low hp6 HW5.out
        rw [HF.out] at hu
        exact hu
      · have hst : (sn.toList == s.toList) = false := tl_diff (fun e => hnm (by rw [← HSL.out]; exact e))
        have HF : Bx (findL l0 s.data.toList (L.drop (t + 1)) = R) := bx (by rw [← HT.out, HX2.out]; exact (if_neg hnm).symm)
        clear hnm HX2 HT
        go_wp2
        go_roundw
        case rel => exact ⟨t + 1, by omega, by go_num, by first | rfl | trivial, HF⟩
        case measure => simp [intOf]; omega
    have htI : ¬ (t : Int) < (nL : Int) := by omega
    have HF : Bx (R = .err 21) := bx (by rw [← HT.out, List.drop_eq_nil_of_le (by have := HNL.out; omega), findL])
    go_wp2
    go_ret2
    exact unpPost_err HF.out HB2.out
end Go.Proofs.YtokojichjliieaaDoor
namespace Go.Proofs.YtokojichjliieaaDoor
open Go.ChangeShapes Go.WideShapes Go.ChangeAt Go.RowKit

section
variable {H : Type} {enc : TypeId × Value → H} {P : Program} {w : World} {base : Nat} {spare : Nat → Bool} {held : Bool} {r : Reach} {b0 : Nat}
/-- What the datum of a slice says of the elements. -/
def DAll {α : Type} (Q : α → DataW H → Prop) (d : DataW H) (l : List α) : Prop :=
  (d = .nil ∧ l = []) ∨ ∃ es sp, d = .slice es sp ∧ es.length = l.length ∧ ∀ (i : Nat) (x : α) (y : DataW H), l[i]? = some x → es[i]? = some y → Q x y
theorem flat_one {α : Type} (f : α → Value) (l : List α) : l.flatMap (fun x => [f x]) = l.map f := by
  induction l with
  | nil => rfl
  | cons x r ih => rw [List.flatMap_cons, ih]; rfl
theorem open_one {α : Type} [Inhabited α] {t e : TypeId} {v : Value} {d : DataW H} {ps : List MemPlace} (f : α → Value) (Q : α → DataW H → Prop) (ht : P.underlying t = some (.slice e)) (hC : P.cellsOf e = 1)
    (hel : ∀ (n : Nat) (v0 : Value) (y : DataW H × List MemPlace), DataW.trod enc P w base spare held n e [v0] = some y → ∃ x, v0 = f x ∧ Q x y.1)
    (hv : Value.okWide P w r b0 t v) (h : DataW.Trod enc P w base spare held t v d ps) :
    ∃ (A : Option Addr) (n c : Nat) (l : List α), v = .slice A n c ∧ l.length = n ∧ n ≤ c ∧ (c : Int) ≤ 9223372036854775807 ∧ RL f w w.heap.size A l ∧ DAll Q d l := by
  obtain ⟨A, n, c, l, hv, hl, hc, hm, hr, hd⟩ := open_rows 1 (fun x => [f x]) Q ht hC (by decide) (fun _ => rfl) (by
    intro n cs y hcs hy
    match cs, hcs with
    | [v0], _ =>
      obtain ⟨x, rfl, hq⟩ := hel n v0 y hy
      exact ⟨x, rfl, hq⟩) hv h
  refine ⟨A, n, c, l, hv, hl, hc, hm, by unfold RL; rw [← flat_one]; exact hr, ?_⟩
  rcases hd with h | ⟨es, sp, h1, h2, h3⟩
  · exact .inl h
  · exact .inr ⟨es, sp, h1, by rw [h2, hl], h3⟩
theorem open_words {t e : TypeId} {v : Value} {d : DataW H} {ps : List MemPlace} (ht : P.underlying t = some (.slice e)) (he : P.underlying e = some (.int .u16)) (hC : P.cellsOf e = 1)
    (hv : Value.okWide P w r b0 t v) (h : DataW.Trod enc P w base spare held t v d ps) :
    ∃ (A : Option Addr) (n c : Nat) (l : List UInt16), v = .slice A n c ∧ l.length = n ∧ n ≤ c ∧ (c : Int) ≤ 9223372036854775807 ∧ RL (fun x : UInt16 => Value.int .u16 (x.toNat : Int)) w w.heap.size A l ∧ DAll (fun _ _ => True) d l :=
  open_one _ _ ht hC (fun n v0 y hy => by
    obtain ⟨a, ha, _, wa⟩ := DataW.trod_int he hy
    have hb := bounds_u16 wa
    injection ha with ha
    refine ⟨UInt16.ofNat a.toNat, ?_, trivial⟩
    rw [ha]
    congr 1
    rw [UInt16.toNat_ofNat']
    omega) hv h
theorem open_texts {t e : TypeId} {v : Value} {d : DataW H} {ps : List MemPlace} (ht : P.underlying t = some (.slice e)) (he : P.underlying e = some .string) (hC : P.cellsOf e = 1)
    (hv : Value.okWide P w r b0 t v) (h : DataW.Trod enc P w base spare held t v d ps) :
    ∃ (A : Option Addr) (n c : Nat) (l : List (List UInt8)), v = .slice A n c ∧ l.length = n ∧ n ≤ c ∧ (c : Int) ≤ 9223372036854775807 ∧ RL (fun x : List UInt8 => Value.string ⟨x.toArray⟩) w w.heap.size A l ∧ DAll (fun x y => y = .lit (.string x)) d l :=
  open_one _ _ ht hC (fun n v0 y hy => by
    obtain ⟨s, hs, hy, _⟩ := DataW.trod_string he hy
    injection hs with hs
    exact ⟨s.data.toList, hs, by rw [hy]⟩) hv h
end
section
variable {H : Type} {P : Program} {ts : List TypeId} {ds : List (DataW H)}
theorem mem_weightsAll {e : TypeId} : ∀ {l : List (DataW H)} {d : DataW H}, d ∈ l → ∀ n ∈ d.weights P e, n ∈ DataW.weightsAll P e l
  | x :: r, d, hd, n, hn => by
    simp only [DataW.weightsAll, List.mem_append]
    rcases List.mem_cons.1 hd with h | h
    · subst h; exact .inl hn
    · exact .inr (mem_weightsAll h n hn)
/-- The length of a slice, whatever its elements. -/
theorem sized_row {α : Type} {Q : α → DataW H → Prop} {l : List α} {d : DataW H} (h : (DataW.weightsEach P ts ds).all (· ≤ reachBytes) = true) {j : Nat} {t e : TypeId} (ht : ts[j]? = some t) (hd : ds[j]? = some d) (hu : P.underlying t = some (.slice e))
    (hb : 1 ≤ P.bytesOf e) (hl : DAll Q d l) : l.length ≤ 140737488351232 := by
  rcases hl with ⟨_, rfl⟩ | ⟨es, sp, rfl, hn, _⟩
  · simp
  · have h1 := sized_slice h ht hd hu
    have h2 : (es.length + sp.length) * 1 ≤ (es.length + sp.length) * P.bytesOf e := Nat.mul_le_mul (Nat.le_refl _) hb
    simp only [reachBytes] at h1
    omega
/-- What an element weighs. -/
theorem sized_elem {α : Type} {Q : α → DataW H → Prop} {l : List α} {d : DataW H} (h : (DataW.weightsEach P ts ds).all (· ≤ reachBytes) = true) {j : Nat} {t e : TypeId} (ht : ts[j]? = some t) (hd : ds[j]? = some d) (hu : P.underlying t = some (.slice e))
    (hl : DAll Q d l) {x : α} (hx : x ∈ l) : ∃ y, Q x y ∧ ∀ n ∈ DataW.weights P e y, n ≤ reachBytes := by
  rcases hl with ⟨_, rfl⟩ | ⟨es, sp, rfl, hn, hq⟩
  · cases hx
  · obtain ⟨i, hi⟩ := List.getElem?_of_mem hx
    have hil := (List.getElem?_eq_some_iff.1 hi).1
    have hei : es[i]? = some es[i] := List.getElem?_eq_getElem (by omega)
    refine ⟨es[i], hq i x _ hi hei, fun n hn => ?_⟩
    have hm : n ∈ DataW.weights P t (.slice es sp : DataW H) := by
      simp only [DataW.weights, hu, List.mem_cons, List.mem_append]
      exact .inr (.inl (mem_weightsAll (List.mem_of_getElem? hei) _ hn))
    simpa using List.all_eq_true.1 h _ (DataW.weights_mem_each ht hd _ hm)
theorem sized_texts {l : List (List UInt8)} {d : DataW H} (h : (DataW.weightsEach P ts ds).all (· ≤ reachBytes) = true) {j : Nat} {t e : TypeId} (ht : ts[j]? = some t) (hd : ds[j]? = some d) (hu : P.underlying t = some (.slice e))
    (hl : DAll (fun x y => y = .lit (.string x)) d l) : ∀ p ∈ l, p.length ≤ 140737488351232 := by
  intro p hp
  rcases hl with ⟨_, rfl⟩ | ⟨es, sp, rfl, hn, hq⟩
  · cases hp
  · obtain ⟨i, hi⟩ := List.getElem?_of_mem hp
    have hil := (List.getElem?_eq_some_iff.1 hi).1
    have hei : es[i]? = some es[i] := List.getElem?_eq_getElem (by omega)
    have hy := hq i p _ hi hei
    have hm : p.length ∈ DataW.weights P t (.slice es sp : DataW H) := by
      simp only [DataW.weights, hu, List.mem_cons, List.mem_append]
      refine .inr (.inl (mem_weightsAll (List.mem_of_getElem? hei) _ ?_))
      rw [hy]; simp [DataW.weights]
    have h9 : p.length ≤ reachBytes := by simpa using List.all_eq_true.1 h _ (DataW.weights_mem_each ht hd _ hm)
    simp only [reachBytes] at h9
    omega
end
/-- The cells that a datum of numbers lays, at most two aggregates deep. -/
def flat2 (d : DataW Unit) : List Value := match d with
  | .agg ps => ps.flatMap fun p => match p with
    | .lit (.int k n) => [.int k n]
    | .agg qs => qs.flatMap fun q => match q with
      | .lit (.int k n) => [.int k n]
      | _ => []
    | _ => []
  | .lit (.int k n) => [.int k n]
  | _ => []
/-- Block g holds the cells cs instead. -/
def layAt (h : Array Obj) (g : Nat) (cs : List Value) : Array Obj := h.modify g fun o => match o with
  | .cells _ t fr => .cells cs.toArray t fr
  | o => o
end Go.Proofs.YtokojichjliieaaDoor
namespace Go.Proofs.YtokojichjliieaaDoor
open Go.ChangeShapes Go.WideShapes Go.ChangeAt Go.RowKit
section
variable {H : Type} {enc : TypeId × Value → H} {w : World} {base : Nat} {spare : Nat → Bool} {held : Bool} {r : Reach} {b0 : Nat}
theorem array7 {α : Type} {cs : Array α} (h : cs.size = 7) : ∃ c0 c1 c2 c3 c4 c5 c6, cs = #[c0, c1, c2, c3, c4, c5, c6] := by
  obtain ⟨l⟩ := cs
  match l, h with
  | [a, b, c, d, e, f, g], _ => exact ⟨a, b, c, d, e, f, g, rfl⟩
theorem i64_of {x : Int} (h : (Lit.int .i64 x).wf = true) : -9223372036854775808 ≤ x ∧ x ≤ 9223372036854775807 := bounds_i64 h
set_option maxRecDepth 20000 in
theorem open_record {v : Value} {d : DataW H} {ps : List MemPlace} (hv : Value.okWide Tryd.prog w r b0 33 v) (h : DataW.Trod enc Tryd.prog w base spare held 33 v d ps) :
    ∃ (s : ByteArray) (me pk si su at_ hd : Int), v = .agg #[.string s, .int .i64 me, .int .i64 pk, .int .i64 si, .int .i64 su, .int .i64 at_, .int .i64 hd] ∧ -9223372036854775808 ≤ me ∧ me ≤ 9223372036854775807 ∧ -9223372036854775808 ≤ si ∧ si ≤ 9223372036854775807 := by
  obtain ⟨cs, rfl, hsz⟩ := okWide_struct Tryd.underlying33 hv
  have hC : Tryd.prog.cellsOf 33 = 7 := by kernel_rfl
  rw [hC] at hsz
  obtain ⟨c0, c1, c2, c3, c4, c5, c6, rfl⟩ := array7 hsz
  obtain ⟨fuel, hf⟩ := h
  obtain ⟨ys, n', _, _, _, hf⟩ := open_fields Tryd.underlying33 (by kernel_rfl) (by kernel_rfl) hf
  obtain ⟨v0, z0, hc0, _, h0⟩ := hf 0 _ rfl
  obtain ⟨v1, z1, hc1, _, h1⟩ := hf 1 _ rfl
  obtain ⟨v2, z2, hc2, _, h2⟩ := hf 2 _ rfl
  obtain ⟨v3, z3, hc3, _, h3⟩ := hf 3 _ rfl
  obtain ⟨v4, z4, hc4, _, h4⟩ := hf 4 _ rfl
  obtain ⟨v5, z5, hc5, _, h5⟩ := hf 5 _ rfl
  obtain ⟨v6, z6, hc6, _, h6⟩ := hf 6 _ rfl
  obtain ⟨s, hs, _, _⟩ := DataW.trod_string Tryd.underlying9 h0
  obtain ⟨a1, ha1, _, w1⟩ := DataW.trod_int Tryd.underlying3 h1
  obtain ⟨a2, ha2, _, w2⟩ := DataW.trod_int Tryd.underlying3 h2
  obtain ⟨a3, ha3, _, w3⟩ := DataW.trod_int Tryd.underlying3 h3
  obtain ⟨a4, ha4, _, w4⟩ := DataW.trod_int Tryd.underlying3 h4
  obtain ⟨a5, ha5, _, w5⟩ := DataW.trod_int Tryd.underlying3 h5
  obtain ⟨a6, ha6, _, w6⟩ := DataW.trod_int Tryd.underlying3 h6
  simp [Value.cells] at hs ha1 ha2 ha3 ha4 ha5 ha6 hc0 hc1 hc2 hc3 hc4 hc5 hc6
  subst hs; subst ha1; subst ha2; subst ha3; subst ha4; subst ha5; subst ha6
  subst hc0; subst hc1; subst hc2; subst hc3; subst hc4; subst hc5; subst hc6
  exact ⟨s, a1, a2, a3, a4, a5, a6, rfl, (i64_of w1).1, (i64_of w1).2, (i64_of w3).1, (i64_of w3).2⟩
end
end Go.Proofs.YtokojichjliieaaDoor
namespace Go.Proofs.YtokojichjliieaaDoor
open Go.RowKit
theorem inc_u8 (y : UInt8) : IntKind.u8.wrap ((y.toNat : Int) + 1) = ((y + 1).toNat : Int) := by
  rw [IntKind.wrap_u8, UInt8.toNat_add]
  have : (1 : UInt8).toNat = 1 := rfl
  rw [this]
  omega
theorem own_form {w : World} {base n c : Nat} {A : Option Addr} {e : TypeId} {l : List UInt8} (h : OwB w base e (.slice A n c) l) (hn : 0 < l.length) : ∃ g, A = some ⟨g, 0, none⟩ := by
  obtain ⟨g, cc, hv, _⟩ := World.ownsRow.form h hn
  injection hv with h1
  exact ⟨g, h1⟩
set_option maxRecDepth 100000 in
set_option maxHeartbeats 4000000 in
theorem entryHolds_walk (mx : Int) (w : World) (hm : w.cell? ⟨0, 0, none⟩ = some (.int .i64 mx)) (s : ByteArray) (me pk si su at_ hd : Int) (hm1 : -9223372036854775808 ≤ me) (hm2 : me ≤ 9223372036854775807) (_hs1 : -9223372036854775808 ≤ si) (_hs2 : si ≤ 9223372036854775807)
    (A1 : Option Addr) (n1 c1 : Nat) (l1 : List UInt8) (e1 : l1.length = n1) (_hc1 : n1 ≤ c1) (_hm1 : (c1 : Int) ≤ 9223372036854775807) (r1 : RB w w.heap.size A1 l1) (_b1 : n1 ≤ 140737488351232) :
    Calls Tryd.prog 9 #[.agg #[.string s, .int .i64 me, .int .i64 pk, .int .i64 si, .int .i64 su, .int .i64 at_, .int .i64 hd], .slice A1 n1 c1] w fun e w' => e = .returned (.bool true) ∧ Below w.heap.size w w' := by
  have HE := bx e1
  have hB0 : Bx (Below w.heap.size w (w.alloc (.cells #[.string s, .int .i64 me, .int .i64 pk, .int .i64 si, .int .i64 su, .int .i64 at_, .int .i64 hd] 33))) := bx (bl_alloc (Below.refl w.heap.size w) (Nat.le_refl _) _)
  obtain ⟨g, hg⟩ : ∃ g, w.heap.size = g := ⟨_, rfl⟩
  have HK0 := bx (Bk.newAt w 33 #[.string s, .int .i64 me, .int .i64 pk, .int .i64 si, .int .i64 su, .int .i64 at_, .int .i64 hd] hg)
  have HR := bx r1
  have HM0 := bx (cellB hB0.out hm)
  have HG := bx hg
  clear e1 r1 hm
  go_enter Tryd.func9, Tryd.ntmps9
  go_upto_region 1 with (fail)
  generalize w.alloc (.cells #[.string s, .int .i64 me, .int .i64 pk, .int .i64 si, .int .i64 su, .int .i64 at_, .int .i64 hd] 33) = w0 at HK0 hB0 HM0 ⊢
  go_wp2_with fail
  refine (fixed10_any mx w0 HM0.out).mono ?_
  rintro e w1 ⟨rfl, hb1⟩
  have HB1 := bx (hB0.out.trans (hb1.mono hB0.out.size))
  have HK1 := bx (HK0.out.below hb1 HK0.out.lt)
  clear hb1
  by_cases hz : 6000 < n1
  · have hzI : (6000 : Int) < (n1 : Int) := by omega
    go_wp2
    go_ret
    exact ⟨rfl, HB1.out⟩
  have hzI : ¬ (6000 : Int) < (n1 : Int) := by omega
  have HN : Bx ((([] : List UInt8).length + l1.length) * 1 ≤ 140737488355328) := bx (by have := HE.out; simp; omega)
  have HI1 := bx ((HR.out.below HB1.out (Nat.le_refl _)).more HB1.out.size)
  go_upto_region 6 with (at_builtin; refine wpList_appL _ bV_one rfl (.tmp 15) (.tmp 16) rfl byteTy (by decide) w1.heap.size _ [] rfl (OwL.lit0 w1 (Nat.le_refl _)) _ A1 n1 c1 l1 rfl HE.out (HI1.out.alloc (Nat.le_refl _) _) HN.out (le_alloc0 (Nat.le_refl _) _) ?_; intro v2 w2 own2 _ _ hb2; rw [List.nil_append] at own2; have HB2' := bx ((bl_alloc (Below.refl w1.heap.size w1) (Nat.le_refl _) (.cells #[] 5)).trans hb2); obtain ⟨A2, c2, rfl, hr2, hc2, hc2'⟩ := own2.rd; rw [HE.out]; rw [HE.out] at hc2; have HR2 := bx hr2; have HB2 := bx (HB1.out.trans (HB2'.out.mono HB1.out.size)); have HK2 := bx (HK1.out.below HB2'.out HK1.out.lt); clear hb2 own2 hr2; have q0 : w2.cell? ⟨g, 0, none⟩ = some (.string s) := (HK2.out.cell 0).trans rfl; have q1 : w2.cell? ⟨g, 1, none⟩ = some (.int .i64 me) := (HK2.out.cell 1).trans rfl; have q2 : w2.cell? ⟨g, 2, none⟩ = some (.int .i64 pk) := (HK2.out.cell 2).trans rfl; have q3 : w2.cell? ⟨g, 3, none⟩ = some (.int .i64 si) := (HK2.out.cell 3).trans rfl; have q4 : w2.cell? ⟨g, 4, none⟩ = some (.int .i64 su) := (HK2.out.cell 4).trans rfl; have q5 : w2.cell? ⟨g, 5, none⟩ = some (.int .i64 at_) := (HK2.out.cell 5).trans rfl; have q6 : w2.cell? ⟨g, 6, none⟩ = some (.int .i64 hd) := (HK2.out.cell 6).trans rfl)
  go_wp2_with fail
  obtain ⟨B2, hB2⟩ : ∃ B2, w2.heap.size = B2 := ⟨_, rfl⟩
  have HBB := bx hB2
  clear hB2
  have hk := unp_any s me pk si su at_ hd A2 n1 c2 l1 w2 HE.out (by omega) HR2.out hm1 hm2
  refine hk.mono ?_
  clear hk q0 q1 q2 q3 q4 q5 q6
  intro e w3 hp
  obtain ⟨X, hX⟩ : ∃ X, unpA me pk si su l1 = X := ⟨_, rfl⟩
  rw [hX] at hp
  cases X with
  | err k =>
    obtain ⟨rfl, hb3, hk0⟩ := unpErr hp rfl
    have HB3 := bx (HB2.out.trans (hb3.mono HB2.out.size))
    have hkb : (k != 0) = true := by rw [bne_iff_ne]; exact hk0
    clear hp hb3 hk0 hX
    go_wp2
    go_ret
    exact ⟨rfl, HB3.out⟩
  | ok o =>
  obtain ⟨A3, n3, c3, rfl, hn3, hr3, hc3, hc3', hb3, hO3, h33⟩ := unpOk hp rfl
  obtain ⟨x1, x2, x3, x4, x5⟩ := unpA_ok hX
  have hsi : (n3 : Int) = si := by rw [hn3.out]; exact x3
  have HSI := bx hsi
  have HSU := bx x5
  have HR3 := bx hr3
  have HB3 := bx (HB2.out.trans (hb3.mono HB2.out.size))
  have HK3 := bx (HK2.out.below hb3 HK2.out.lt)
  have HC3 : Bx (Below B2 w2 w3) := bx (HBB.out ▸ hb3)
  have HO3 : Bx (OwB w3 B2 5 (.slice A3 n3 c3) o) := bx (HBB.out ▸ hO3)
  clear hp hb3 hX x1 x2 x3 x4 x5 hr3 hO3
  obtain ⟨sm, hsm⟩ : ∃ sm, crcA 0 o = sm := ⟨_, rfl⟩
  have HSM := bx hsm
  rw [hsm] at HSU
  clear hsm hsi
  go_wp2_with fail
  have hk := of_any w3.heap.size 1 A3 n3 c3 o (w3.alloc (.cells #[.slice A3 n3 c3] 22)) hn3.out.symm (by omega) ((HR3.out.alloc (Nat.le_refl _) _).more (by simp)) (((Bk.new w3 _ _).cell 0).trans rfl)
  refine hk.mono ?_
  clear hk
  rintro e w4 ⟨rfl, hb4⟩
  rw [HSM.out]
  have hA4 : Below w3.heap.size w3 w4 := (bl_alloc (Below.refl w3.heap.size w3) (Nat.le_refl _) _).trans (hb4.mono (by simp))
  have HC4 : Bx (Below B2 w2 w4) := bx (HC3.out.trans (hA4.mono (by rw [← HBB.out]; exact HC3.out.size)))
  have HO4 : Bx (OwB w4 B2 5 (.slice A3 n3 c3) o) := bx (HO3.out.below hA4)
  have HLO : Bx (o.length = n3) := bx hn3.out.symm
  clear hb4 hA4 HC3 HO3 HR3
  go_wp2_with fail
  go_loopw [9, 34] (fun _ iv wx => ∃ (t : Nat) (lx : List UInt8), t ≤ n3 ∧ iv = .int .i64 (t : Int) ∧ Bx (lx.length = n3) ∧ Bx (OwB wx B2 5 (.slice A3 n3 c3) lx) ∧ Bx (Below B2 w2 wx)) (fun _ i _ => n3 - (intOf i).toNat)
  case atStart => exact ⟨0, o, by omega, rfl, HLO, HO4, HC4⟩
  case round =>
    obtain ⟨t, lx, ht, rfl, HLX, HOX, HCX⟩ := hrel
    by_cases htn : t < n3
    · have htI : (t : Int) < (n3 : Int) := by omega
      obtain ⟨g3, rfl⟩ := own_form HOX.out (by rw [HLX.out]; omega)
      obtain ⟨y, hy⟩ : ∃ y, lx[t]? = some y := ⟨_, List.getElem?_eq_getElem (by rw [HLX.out]; exact htn)⟩
      have hcell : wr.cell? ⟨g3, t, none⟩ = some (.int .u8 (y.toNat : Int)) := OwL.cell HOX.out hy
      have hfr := OwL.frz HOX.out t
      have hgb := OwL.blk HOX.out
      have hset := HOX.out.set t (y + 1)
      have HO5 : Bx (OwB (wr.setCell ⟨g3, t, none⟩ (.int .u8 ((y + 1).toNat : Int))) B2 5 (.slice (some ⟨g3, 0, none⟩) n3 c3) (lx.set t (y + 1))) := bx hset
      have HC5 : Bx (Below B2 w2 (wr.setCell ⟨g3, t, none⟩ (.int .u8 ((y + 1).toNat : Int)))) := bx (HCX.out.setCell (p := ⟨g3, t, none⟩) hgb.1 _)
      have HL5 : Bx ((lx.set t (y + 1)).length = n3) := bx (by rw [List.length_set]; exact HLX.out)
      have hinc := inc_u8 y
      have HINC := bx hinc
      clear hset hgb hy HOX HCX HLX
      go_wp2
      go_roundw
      case rel => exact ⟨t + 1, _, by omega, by go_num, HL5, HO5, HC5⟩
      case measure => simp [intOf]; omega
    have htI : ¬ (t : Int) < (n3 : Int) := by omega
    have HWr := bx (HB2.out.trans (HCX.out.mono (by rw [← HBB.out]; exact HB2.out.size)))
    have HKr := bx (HK2.out.below HCX.out (by rw [← HBB.out]; exact HK2.out.lt))
    have q3 : wr.cell? ⟨g, 3, none⟩ = some (.int .i64 si) := (HKr.out.cell 3).trans rfl
    have q4 : wr.cell? ⟨g, 4, none⟩ = some (.int .i64 su) := (HKr.out.cell 4).trans rfl
    have HR2r : Bx (RB wr wr.heap.size A2 l1) := bx ((HR2.out.below (HBB.out ▸ HCX.out) (Nat.le_refl _)).more (by rw [HBB.out]; have := HCX.out.size; rw [HBB.out] at this; exact this))
    have HI := bx ((HR.out.below HWr.out (Nat.le_refl _)).more HWr.out.size)
    have t1 : ((n3 : Int) == si) = true := by rw [HSI.out]; simp
    have t2 : ((sm : Int) == su) = true := by rw [HSU.out]; simp
    have t3 : (n3 : Int) ≤ 32768 := by omega
    go_wp2_with fail
    refine (same_any A2 A1 n1 c2 n1 c1 wr l1 l1 HE.out HE.out (by omega) (by omega) HR2r.out HI.out).mono ?_
    rintro e w6 ⟨rfl, hb6⟩
    rw [show decide (l1 = l1) = true by simp]
    have HB6 := bx (HWr.out.trans (hb6.mono HWr.out.size))
    clear hb6
    go_wp2
    go_ret
    exact ⟨rfl, HB6.out⟩
end Go.Proofs.YtokojichjliieaaDoor
