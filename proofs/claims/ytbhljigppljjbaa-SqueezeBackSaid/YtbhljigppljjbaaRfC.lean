/- Contract: samovarref05.New. -/
import Derived.Test.YtbhljigppljjbaaRfB
import Derived.Test.YtbhljigppljjbaaInfD
import Derived.Laws.ResultCell
import Derived.Deep.DeepCutAuto
namespace Go.Proofs.Ytbhljigppljjbaa
open Go.RowKit

theorem results_code (tmps : Array Value) (w : World) (g : Nat) (cs : Array Value) (h4 : tmps.getD 4 undef = .pointer (some ⟨g, 0, none⟩)) (hk : Bk w g 62 cs) (hs : cs.size = 32) :
    (results Try.f26 tmps).run Try.prog w = .ok (.tuple #[.agg cs, tmps.getD 5 undef]) w := by
  rw [results_cell_tmp (p := 4) (u := 5) (ty := 62) Try.results26]
  have h4' : tmps[4]?.getD undef = .pointer (some ⟨g, 0, none⟩) := by simpa using h4
  have hl := run_loadVar_row (P := Try.prog) w g 62 62 cs (0, 0) _ hk Try.underlying62 rfl (by rw [hs]; exact info_code)
  simp [h4', asAddr, hl, Result.andThen]
def RNewPost (l : List Nat) (lone : Bool) (w : World) (e : Ending) (w' : World) : Prop :=
  Below w.heap.size w w' ∧ ∃ cs, cs.size = 32 ∧ cs.all (·.oneCell') = true ∧ if codeB l lone = true then ∃ lo hi, e = .returned (.tuple #[.agg cs, .int .i64 0]) ∧ RCd w' lo hi cs l ∧ w.heap.size ≤ lo else e = .returned (.tuple #[.agg cs, .int .i64 5])
def z32 : Array Value := #[.int .i64 0, .int .i64 0, .int .i64 0, .int .i64 0, .int .i64 0, .int .i64 0, .int .i64 0, .int .i64 0, .int .i64 0, .int .i64 0, .int .i64 0, .int .i64 0, .int .i64 0, .int .i64 0, .int .i64 0, .int .i64 0, .slice none 0 0, .slice none 0 0, .slice none 0 0, .slice none 0 0, .slice none 0 0, .slice none 0 0, .slice none 0 0, .slice none 0 0, .slice none 0 0, .slice none 0 0, .slice none 0 0, .slice none 0 0, .slice none 0 0, .slice none 0 0, .slice none 0 0, .slice none 0 0]
theorem z32_size : z32.size = 32 := rfl
theorem z32_one : z32.all (·.oneCell') = true := by kernel_rfl
theorem z32_at : ∀ i, i < 32 → z32[i]? = some (if i < 16 then .int .i64 0 else .slice none 0 0) := by
  intro i hi
  match i, hi with
  | 0, _ => rfl
  | 1, _ => rfl
  | 2, _ => rfl
  | 3, _ => rfl
  | 4, _ => rfl
  | 5, _ => rfl
  | 6, _ => rfl
  | 7, _ => rfl
  | 8, _ => rfl
  | 9, _ => rfl
  | 10, _ => rfl
  | 11, _ => rfl
  | 12, _ => rfl
  | 13, _ => rfl
  | 14, _ => rfl
  | 15, _ => rfl
  | 16, _ => rfl
  | 17, _ => rfl
  | 18, _ => rfl
  | 19, _ => rfl
  | 20, _ => rfl
  | 21, _ => rfl
  | 22, _ => rfl
  | 23, _ => rfl
  | 24, _ => rfl
  | 25, _ => rfl
  | 26, _ => rfl
  | 27, _ => rfl
  | 28, _ => rfl
  | 29, _ => rfl
  | 30, _ => rfl
  | 31, _ => rfl
  | i + 32, h => omega
/-- The code while it is made: of the bits up to k all words stand. -/
def nwC (l : List Nat) (k : Nat) (V : Nat → Value) (i : Nat) : Value := if i < 16 then (if i ≤ k then nV (firstP l i) else nV 0) else (if i - 16 ≤ k then V (i - 16) else .slice none 0 0)
def NwR (w : World) (g B : Nat) (l : List Nat) (k : Nat) (V : Nat → Value) : Prop := ∀ j, j ≤ k → ∃ A c, V j = .slice A (synV l j).length c ∧ RN w B A (synV l j) ∧ ∀ ad, A = some ad → g + 2 ≤ ad.block
theorem NwR.keep {w w' : World} {g B B' : Nat} {l : List Nat} {k : Nat} {V : Nat → Value} (h : NwR w g B l k V) (hk : ∀ i, g + 2 ≤ i → i < B → w'.heap[i]? = w.heap[i]?) (hB : B ≤ B') : NwR w' g B' l k V := fun j hj => by
  obtain ⟨A, c, h1, h2, h3⟩ := h j hj
  refine ⟨A, c, h1, fun hn => ?_, h3⟩
  obtain ⟨ad, e, hb, hc⟩ := h2 hn
  exact ⟨ad, e, by omega, fun j u hu => (World.cell?_of_block (by rw [blk_add]; exact hk _ (h3 ad e) hb)).trans (hc j u hu)⟩
set_option maxRecDepth 100000 in
set_option maxHeartbeats 8000000 in
theorem rnew_any (A : Option Addr) (n c : Nat) (l : List Nat) (lone : Bool) (w : World) (hn : l.length = n) (hz : n ≤ 288) (h15 : ∀ x ∈ l, x ≤ 15) (hr : RN w w.heap.size A l) :
    Calls Try.prog 26 #[.slice A n c, .bool lone] w (RNewPost l lone w) := by
  have HL := bx hn
  have H15 := bx h15
  clear hn h15
  obtain ⟨g, hg⟩ : ∃ g, w.heap.size = g := ⟨_, rfl⟩
  have hB0 := bl_alloc (bl_alloc (Below.refl w.heap.size w) (Nat.le_refl _) (.cells z32 62)) (Nat.le_refl _) (.cells z32 62)
  have hK0 : Bk ((w.alloc (.cells z32 62)).alloc (.cells z32 62)) g 62 z32 := (Bk.newAt _ _ _ hg).alloc _
  have hR0 : Rw ((w.alloc (.cells z32 62)).alloc (.cells z32 62)) (g + 1) 62 32 (nwC l 0 (fun _ => .slice none 0 0)) := Rw.of (Bk.newAt _ _ _ (by simp [hg])) rfl (fun i hi => by
    rw [z32_at i hi]
    unfold nwC
    congr 1
    split
    · split
      · rename_i h; obtain rfl : i = 0 := by omega
        rfl
      · rfl
    · split <;> rfl)
  go_enter Try.func26, Try.ntmps26
  go_wp2_with fail
  change Code.wp _ _ _ _ ((w.alloc (.cells z32 62)).alloc (.cells z32 62))
  generalize ((w.alloc (.cells z32 62)).alloc (.cells z32 62)) = w1 at hB0 hK0 hR0 ⊢
  have hr1 : RN w1 w.heap.size A l := RL.below hr hB0 (Nat.le_refl _)
  go_loopg [7, 8, 9, 10] n (fun κ v7 v8 v9 v10 wr => ∃ j : Nat, κ = n - j ∧ j ≤ n ∧ v10 = .int .i64 (j : Int) ∧ v7 = .int .i64 (kSum (l.take j) : Int) ∧ v8 = .int .i64 ((l.take j).count 1 : Int) ∧ v9 = .int .i64 (usedP (l.take j) : Int) ∧ w1 = wr)
  case atStart => exact ⟨0, by omega, by omega, rfl, rfl, rfl, rfl, rfl⟩
  case round =>
    obtain ⟨j, hgk, hj, rfl, rfl, rfl, rfl, rfl⟩ := hrel
    by_cases hjn : j < n
    · obtain ⟨ad, m, rfl, hadb, hm, hc⟩ := RL.atl hr1 (k := j) (by rw [HL.out]; exact hjn)
      have hc' : w1.cell? (ad.add j) = some (.int .i64 (m : Int)) := hc
      have hm15 : m ≤ 15 := H15.out m (List.mem_of_getElem? hm.out)
      have e1 := kSum_take hm.out
      have e2 := ones_take hm.out
      have e3 := usedP_take hm.out
      have b1 := kSum_le (l.take j)
      have b2 := usedP_le (l.take j)
      have b3 : (l.take j).count 1 ≤ (l.take j).length := List.count_le_length
      have hlj : (l.take j).length ≤ 288 := by rw [List.length_take]; omega
      have m0 : ¬ (m : Int) < 0 := by omega
      have m15 : ¬ (15 : Int) < (m : Int) := by omega
      obtain ⟨K, hK⟩ : ∃ K, kSum (l.take j) = K := ⟨_, rfl⟩
      obtain ⟨O, hO⟩ : ∃ O, (l.take j).count 1 = O := ⟨_, rfl⟩
      obtain ⟨U, hU⟩ : ∃ U, usedP (l.take j) = U := ⟨_, rfl⟩
      rw [hK] at e1 b1 ⊢
      rw [hO] at e2 b3 ⊢
      rw [hU] at e3 b2 ⊢
      have hK9 : K ≤ 5000000 := by omega
      by_cases hmz : m = 0
      · subst hmz
        have E1 : Bx (kSum (l.take (j + 1)) = K) := bx (by rw [e1]; rfl)
        have E2 : Bx ((l.take (j + 1)).count 1 = O) := bx (by rw [e2]; rfl)
        have E3 : Bx (usedP (l.take (j + 1)) = U) := bx (by rw [e3]; rfl)
        clear e1 e2 e3 hK hO hU hc
        go_wp2
        go_roundg (n - (j + 1))
        case rel => exact ⟨j + 1, rfl, by omega, by go_num, by rw [E1.out], by rw [E2.out], by rw [E3.out], rfl⟩
        case measure => omega
      · have hm1 : (0 : Int) < (m : Int) := by omega
        obtain ⟨s, hs⟩ : ∃ s, 15 - m = s := ⟨_, rfl⟩
        have hsI : (15 : Int) - (m : Int) = (s : Int) := by omega
        have hs14 : s ≤ 14 := by omega
        have hp : (2 : Nat) ^ s ≤ 2 ^ 14 := Nat.pow_le_pow_right (by decide) hs14
        have E1 : Bx (kSum (l.take (j + 1)) = K + 2 ^ s) := bx (by rw [e1]; unfold kOne; rw [if_pos (by omega), hs])
        have E3 : Bx (usedP (l.take (j + 1)) = U + 1) := bx (by rw [e3, if_pos hmz])
        have E2 : Bx ((l.take (j + 1)).count 1 = O + (if m = 1 then 1 else 0)) := bx e2
        clear e1 e2 e3 hK hO hU hc hs
        have HV : Bx (wrap64 ((K : Int) + wrap64 (2 ^ s)) = ((K + 2 ^ s : Nat) : Int)) := bx (by
          have e : ((2 : Int) ^ s) = ((2 ^ s : Nat) : Int) := by simp
          rw [e]
          obtain ⟨Q, hQ⟩ : ∃ Q, 2 ^ s = Q := ⟨_, rfl⟩
          rw [hQ] at hp ⊢
          rw [IntWalk.wrap64_in (Q : Int) (by omega), IntWalk.wrap64_in _ (by omega), Int.natCast_add])
        by_cases hm2 : m = 1
        · have hmb : ((m : Int) == 1) = true := by rw [hm2]; rfl
          have E2' : Bx ((l.take (j + 1)).count 1 = O + 1) := bx (by rw [E2.out, if_pos hm2])
          clear E2 hm2
          go_wp2
          go_roundg (n - (j + 1))
          case rel => exact ⟨j + 1, rfl, by omega, by go_num, by rw [E1.out, ← HV.out], by rw [E2'.out]; go_num, by rw [E3.out]; go_num, rfl⟩
          case measure => omega
        · have hmb : ((m : Int) == 1) = false := by rw [beq_eq_false_iff_ne]; omega
          have E2' : Bx ((l.take (j + 1)).count 1 = O) := bx (by rw [E2.out, if_neg hm2]; rfl)
          clear E2 hm2
          go_wp2
          go_roundg (n - (j + 1))
          case rel => exact ⟨j + 1, rfl, by omega, by go_num, by rw [E1.out, ← HV.out], by rw [E2'.out], by rw [E3.out]; go_num, rfl⟩
          case measure => omega
    · obtain rfl : j = n := by omega
      have htk : l.take j = l := List.take_of_length_le (by rw [HL.out]; exact Nat.le_refl _)
      rw [htk]
      have hkl := kSum_le l
      rw [HL.out] at hkl
      have hcb : codeB l lone = (decide (kSum l = 32768) || (lone && (decide (usedP l = 0) || (decide (usedP l = 1) && decide (l.count 1 = 1))))) := by rw [kSum_eq]; rfl
      obtain ⟨K, hK⟩ : ∃ K, kSum l = K := ⟨_, rfl⟩
      obtain ⟨O, hO⟩ : ∃ O, l.count 1 = O := ⟨_, rfl⟩
      obtain ⟨U, hU⟩ : ∃ U, usedP l = U := ⟨_, rfl⟩
      obtain ⟨b, hb⟩ : ∃ b, codeB l lone = b := ⟨_, rfl⟩
      rw [hK, hO, hU, hb] at hcb
      rw [hK, hO, hU]
      have HCB := bx hb
      have HKR : Bx (b = true → kraftTo l 15 ≤ 32768) := bx (fun h => code_kraft (hb.trans h))
      have hnj : ¬ j < j := by omega
      clear hK hO hU hb htk hkl
      go_upto_region 17 with (fail)
      go_cut [67] (fun v wx => v = .bool (!b) ∧ w1 = wx)
      case first =>
        by_cases hk : K = 32768
        · have hkb : ((K : Int) != 32768) = false := by rw [hk]; rfl
          have hbt : b = true := by rw [hcb, decide_eq_true hk]; rfl
          subst hbt
          clear hk hcb
          go_wp2
          go_meet
          case rel => exact ⟨rfl, rfl⟩
        · have hkb : ((K : Int) != 32768) = true := by rw [bne_iff_ne]; omega
          rw [decide_eq_false hk, Bool.false_or] at hcb
          cases lone with
          | false =>
            have hbt : b = false := hcb
            subst hbt
            clear hk hcb
            go_wp2
            go_meet
            case rel => exact ⟨rfl, rfl⟩
          | true =>
            rw [Bool.true_and] at hcb
            by_cases hu : U = 0
            · have hub : ((U : Int) == 0) = true := by rw [hu]; rfl
              have hbt : b = true := by rw [hcb, decide_eq_true hu]; rfl
              subst hbt
              clear hk hcb hu
              go_wp2
              go_meet
              case rel => exact ⟨rfl, rfl⟩
            · have hub : ((U : Int) == 0) = false := by rw [beq_eq_false_iff_ne]; omega
              rw [decide_eq_false hu, Bool.false_or] at hcb
              by_cases hu1 : U = 1
              · have hub1 : ((U : Int) == 1) = true := by rw [hu1]; rfl
                rw [decide_eq_true hu1, Bool.true_and] at hcb
                by_cases ho : O = 1
                · have hob : ((O : Int) == 1) = true := by rw [ho]; rfl
                  have hbt : b = true := by rw [hcb, decide_eq_true ho]
                  subst hbt
                  clear hk hcb hu hu1 ho
                  go_wp2
                  go_meet
                  case rel => exact ⟨rfl, rfl⟩
                · have hob : ((O : Int) == 1) = false := by rw [beq_eq_false_iff_ne]; omega
                  have hbt : b = false := by rw [hcb, decide_eq_false ho]
                  subst hbt
                  clear hk hcb hu hu1 ho
                  go_wp2
                  go_meet
                  case rel => exact ⟨rfl, rfl⟩
              · have hub1 : ((U : Int) == 1) = false := by rw [beq_eq_false_iff_ne]; omega
                have hbt : b = false := by rw [hcb, decide_eq_false hu1]; rfl
                subst hbt
                clear hk hcb hu hu1
                go_wp2
                go_meet
                case rel => exact ⟨rfl, rfl⟩
      case rest =>
        obtain ⟨rfl, rfl⟩ := hcut
        cases b with
        | false =>
          go_wp2_with (refine wpList_store_row rfl 62 (.tmp 4) (.tmp 68) rfl g z32 rfl rfl 62 z32 hK0 (by rw [z32_size]; exact info_code) rfl z32_one ?_)
          exact bodyPost_ret (v := .tuple #[.agg z32, .int .i64 5]) (results_code _ _ g z32 rfl (hK0.setRow z32) z32_size) rfl ⟨bl_setRow hB0 (by rw [hg]; exact Nat.le_refl _) z32, z32, z32_size, z32_one, by rw [if_neg (by rw [HCB.out]; decide)]⟩
        | true =>
          have HKR2 : Bx (kraftTo l 15 ≤ 32768) := bx (HKR.out rfl)
          clear hcb HKR
          go_wp2_with fail
          have hgz : g + 1 < w1.heap.size := hR0.lt
          have hNW0 : NwR w1 g w1.heap.size l 0 (fun _ => .slice none 0 0) := fun k hk => by
            obtain rfl : k = 0 := by omega
            exact ⟨none, 0, rfl, RL.nil, fun ad e => by cases e⟩
          go_loopg [12, 13] 15 (fun κ v12 v13 wr => ∃ (k : Nat) (V : Nat → Value), κ = 15 - k ∧ k ≤ 15 ∧ v12 = .int .i64 ((firstP l k + cntP l k : Nat) : Int) ∧ v13 = .int .i64 ((k + 1 : Nat) : Int) ∧ Rw wr (g + 1) 62 32 (nwC l k V) ∧ Bk wr g 62 z32 ∧ Below w.heap.size w wr ∧ NwR wr g wr.heap.size l k V)
          case atStart => exact ⟨0, _, by omega, by omega, rfl, rfl, hR0, hK0, hB0, hNW0⟩
          case round =>
            clear hR0 hK0 hNW0 hr1 hB0 hgz
            obtain ⟨k, V, hgk2, hk, rfl, rfl, hR, hK, hB, hNW⟩ := hrel
            have hgz : g + 1 < wr.heap.size := hR.lt
            by_cases hk15 : k < 15
            · obtain ⟨N, hN⟩ : ∃ N, k + 1 = N := ⟨_, rfl⟩
              have hN16 : N ≤ 15 := by omega
              have hN1 : 1 ≤ N := by omega
              obtain ⟨F, hF⟩ : ∃ F, firstP l N = F := ⟨_, rfl⟩
              have hFb := first_fits HKR2.out (n := N) hN16
              rw [hF] at hFb
              have hF2 : 2 * (firstP l k + cntP l k) = F := by rw [← hF, ← hN]; rfl
              obtain ⟨P, hP⟩ : ∃ P, firstP l k + cntP l k = P := ⟨_, rfl⟩
              rw [hP] at hF2 ⊢
              rw [hN]
              have hNI : (N : Int) ≤ 15 := by omega
              have c0 : wr.cell? ⟨g + 1, N, none⟩ = some (.int .i64 0) := by
                rw [hR.cell (by omega)]; unfold nwC; rw [if_pos (by omega), if_neg (by omega)]; rfl
              have f0 := hR.frz N
              have hR1 : Rw (wr.setCell ⟨g + 1, N, none⟩ (.int .i64 (F : Int))) (g + 1) 62 32 (fun i => if i < 16 then (if i ≤ N then nV (firstP l i) else nV 0) else (if i - 16 ≤ k then V (i - 16) else if i - 16 = N then .slice none 0 0 else .slice none 0 0)) := (hR.set N _).ext (fun i hi => by
                unfold nwC
                by_cases e : i = N
                · subst e; rw [if_pos (by omega), if_pos (by omega), if_pos rfl, hF]; rfl
                · rw [if_neg e]
                  by_cases e2 : i < 16
                  · rw [if_pos e2, if_pos e2]
                    by_cases e3 : i ≤ k
                    · rw [if_pos (by omega), if_pos e3]
                    · rw [if_neg (by omega), if_neg e3]
                  · rw [if_neg e2, if_neg e2]
                    split
                    · rfl
                    · split <;> rfl)
              have hK1 := hK.far (p := ⟨g + 1, N, none⟩) (by show g ≠ g + 1; omega) (.int .i64 (F : Int))
              have hB1 := hB.setCell (p := ⟨g + 1, N, none⟩) (by show w.heap.size ≤ g + 1; omega) (.int .i64 (F : Int))
              have hsz : (wr.setCell ⟨g + 1, N, none⟩ (.int .i64 (F : Int))).heap.size = wr.heap.size := by simp [World.setCell]
              have hNW1 : NwR (wr.setCell ⟨g + 1, N, none⟩ (.int .i64 (F : Int))) g (wr.setCell ⟨g + 1, N, none⟩ (.int .i64 (F : Int))).heap.size l k V := hNW.keep (fun i h1 h2 => Below.heap_setCell wr ⟨g + 1, N, none⟩ _ i (by show i ≠ g + 1; omega)) (by rw [hsz]; exact Nat.le_refl _)
              have hF2I : 2 * (P : Int) = (F : Int) := by omega
              have hP9 : P ≤ 16384 := by omega
              have HF2 := bx hF2I
              have HNN := bx hN
              have HFF := bx hF
              clear hN hF hF2 hP hF2I hR hK hB hNW
              go_wp2_with fail
              rw [HF2.out]
              clear c0 f0
              obtain ⟨H0, hH0⟩ : ∃ H0, (wr.setCell ⟨g + 1, N, none⟩ (.int .i64 (F : Int))).heap.size = H0 := ⟨_, rfl⟩
              have hgH : g + 1 < H0 := by rw [← hH0, hsz]; exact hgz
              have hH0' : H0 ≤ (wr.setCell ⟨g + 1, N, none⟩ (.int .i64 (F : Int))).heap.size := by omega
              rw [hH0] at hNW1
              clear hsz hgz hH0
              generalize wr.setCell ⟨g + 1, N, none⟩ (.int .i64 (F : Int)) = w2 at hR1 hK1 hB1 hNW1 hH0' ⊢
              go_loopg [12, 14] j (fun κ v12 v14 wr2 => ∃ (s : Nat) (v : Value), κ = j - s ∧ s ≤ j ∧ v14 = .int .i64 (s : Int) ∧ v12 = .int .i64 ((F + (symsP l s N).length : Nat) : Int) ∧ OwL nV wr2 H0 3 v (symsP l s N) ∧ H0 ≤ wr2.heap.size ∧
                Rw wr2 (g + 1) 62 32 (fun i => if i < 16 then (if i ≤ N then nV (firstP l i) else nV 0) else (if i - 16 ≤ k then V (i - 16) else if i - 16 = N then v else .slice none 0 0)) ∧ Bk wr2 g 62 z32 ∧ Below w.heap.size w wr2 ∧ NwR wr2 g H0 l k V)
              case atStart => exact ⟨0, .slice none 0 0, by omega, by omega, rfl, rfl, OwL.nil, hH0', hR1, hK1, hB1, hNW1⟩
              case round =>
                clear hR1 hK1 hB1 hNW1 hH0'
                obtain ⟨s, v, hgk3, hs, rfl, rfl, hO, hH, hR, hK, hB, hNW⟩ := hrel
                have hvb : ∀ q, v.ownBlock = some q → H0 ≤ q := fun q hq => (World.ownsRow.lt hO q hq).1
                have hsl : (symsP l s N).length ≤ 288 := by rw [count_take _ _ _ (by rw [HL.out]; exact hs)]; have : (l.take s).count N ≤ (l.take s).length := List.count_le_length; rw [List.length_take] at this; omega
                obtain ⟨SL, hSL⟩ : ∃ SL, (symsP l s N).length = SL := ⟨_, rfl⟩
                by_cases hsj : s < j
                · have hrr : RN wr w.heap.size A l := RL.below hr hB (Nat.le_refl _)
                  obtain ⟨ad, m, rfl, hadb, hm, hc⟩ := RL.atl hrr (k := s) (by rw [HL.out]; exact hsj)
                  have hc' : wr.cell? (ad.add s) = some (.int .i64 (m : Int)) := hc
                  have hsucc := symsP_succ l s N
                  rw [hm.out] at hsucc
                  by_cases hmN : m = N
                  · have hmb : ((m : Int) == (N : Int)) = true := by rw [hmN]; exact beq_self_eq_true _
                    rw [if_pos (by rw [hmN])] at hsucc
                    have HS := bx hsucc
                    have c1 : wr.cell? ⟨g + 1, 16 + N, none⟩ = some v := by
                      rw [hR.cell (by omega), if_neg (by omega), if_neg (by have := HNN.out; omega), if_pos (by omega)]
                    have HN1 : Bx (((symsP l s N).length + [s].length) * 8 ≤ 140737488355328) := bx (by rw [hSL]; simp; omega)
                    have hRa := hR.alloc (.cells #[.int .i64 (s : Int)] 3)
                    have hne : some (g + 1) ≠ v.ownBlock := fun e => by have := hvb _ e.symm; omega
                    have hne0 : some g ≠ v.ownBlock := fun e => by have := hvb _ e.symm; omega
                    have hKa := hK.alloc (.cells #[.int .i64 (s : Int)] 3)
                    have hBa := bl_alloc hB (Nat.le_refl _) (.cells #[.int .i64 (s : Int)] 3)
                    have hNWa : NwR (wr.alloc (.cells #[.int .i64 (s : Int)] 3)) g H0 l k V := hNW.keep (fun i h1 h2 => Below.heap_alloc wr _ i (by omega)) (Nat.le_refl _)
                    have HRa := bx hRa
                    have HKa := bx hKa
                    have HBa := bx hBa
                    have HNWa := bx hNWa
                    have HO := bx hO
                    have hH0z : H0 ≤ (wr.alloc (.cells #[.int .i64 (s : Int)] 3)).heap.size := le_alloc0 hH _
                    clear hsucc hc hR hRa hK hKa hB hBa hNW hNWa hO hrr
                    go_wp2_with (at_builtin; refine wpList_appL _ nV_one rfl (.tmp 95) (.tmp 97) rfl intTy (by decide) H0 v (symsP l s N) rfl (HO.out.alloc _) _ _ 1 1 [s] rfl rfl (RL.freshe wr s rfl _) HN1.out hH0z ?_; intro v5 w5 hO5 hg5 hk5 hb5; have hR5 := bx (HRa.out.grown hg5 hne); have c5 : w5.cell? ⟨g + 1, 16 + N, none⟩ = some v := (by rw [hR5.out.cell (by omega), if_neg (by omega), if_neg (by have := HNN.out; omega), if_pos (by omega)]); have f5 := hR5.out.frz (16 + N); obtain ⟨A5, n5, z5, rfl, _, _⟩ := OwL.sl hO5)
                    have hK5 := HKa.out.grown hg5 hne0
                    have hB5 : Below w.heap.size w w5 := HBa.out.trans (hb5.mono (by omega))
                    have hNW5 : NwR w5 g H0 l k V := HNWa.out.keep (fun i h1 h2 => hb5.block i (by omega)) (Nat.le_refl _)
                    have hH5 := hb5.size
                    have hO6 : OwL nV (w5.setCell ⟨g + 1, 16 + N, none⟩ (.slice A5 n5 z5)) H0 3 (.slice A5 n5 z5) (symsP l s N ++ [s]) := hO5.agree (fun q hq1 hq2 => Below.heap_setCell w5 ⟨g + 1, 16 + N, none⟩ (.slice A5 n5 z5) q (by show q ≠ g + 1; omega))
                    have hR6 : Rw (w5.setCell ⟨g + 1, 16 + N, none⟩ (.slice A5 n5 z5)) (g + 1) 62 32 (fun i => if i < 16 then (if i ≤ N then nV (firstP l i) else nV 0) else (if i - 16 ≤ k then V (i - 16) else if i - 16 = N then (.slice A5 n5 z5) else .slice none 0 0)) := (hR5.out.set (16 + N) (.slice A5 n5 z5)).ext (fun i hi => by
                      by_cases e : i = 16 + N
                      · subst e; rw [if_neg (by omega), if_neg (by have := HNN.out; omega), if_pos (by omega), if_pos rfl]
                      · rw [if_neg e]
                        by_cases e2 : i < 16
                        · rw [if_pos e2, if_pos e2]
                        · rw [if_neg e2, if_neg e2]
                          split
                          · rfl
                          · rw [if_neg (by omega), if_neg (by omega)])
                    have hK6 := hK5.far (p := ⟨g + 1, 16 + N, none⟩) (by show g ≠ g + 1; omega) (.slice A5 n5 z5)
                    have hB6 := hB5.setCell (p := ⟨g + 1, 16 + N, none⟩) (by show w.heap.size ≤ g + 1; omega) (.slice A5 n5 z5)
                    have hNW6 : NwR (w5.setCell ⟨g + 1, 16 + N, none⟩ (.slice A5 n5 z5)) g H0 l k V := hNW5.keep (fun i h1 h2 => Below.heap_setCell w5 ⟨g + 1, 16 + N, none⟩ _ i (by show i ≠ g + 1; omega)) (Nat.le_refl _)
                    have hH6 : H0 ≤ (w5.setCell ⟨g + 1, 16 + N, none⟩ (.slice A5 n5 z5)).heap.size := by simp [World.setCell]; omega
                    clear hO5 hg5 hk5 hb5 hR5 c5 f5 hK5 hB5 hNW5 hH5 c1 hc' HO HRa HKa HBa HNWa
                    go_roundg (j - (s + 1))
                    case rel => exact ⟨s + 1, (.slice A5 n5 z5), rfl, by omega, by go_num, by rw [HS.out, List.length_append, hSL]; go_num, by rw [HS.out]; exact hO6, hH6, hR6, hK6, hB6, hNW6⟩
                    case measure => omega
                  · have hmb : ((m : Int) == (N : Int)) = false := by rw [beq_eq_false_iff_ne]; omega
                    rw [if_neg (by simpa using hmN), List.append_nil] at hsucc
                    have HS := bx hsucc
                    clear hsucc hc hrr
                    go_wp2
                    go_roundg (j - (s + 1))
                    case rel => exact ⟨s + 1, v, rfl, by omega, by go_num, by rw [HS.out], by rw [HS.out]; exact hO, hH, hR, hK, hB, hNW⟩
                    case measure => omega
                · obtain rfl : s = j := by omega
                  have hsyn : symsP l s N = synV l N := by unfold synV; rw [if_neg (by omega), HL.out]
                  rw [hsyn] at hO hSL ⊢
                  have hcnt := syn_len l N
                  obtain ⟨Av, cv, rfl, hrv, _, _⟩ := OwL.rd hO
                  have hav : ∀ ad, Av = some ad → H0 ≤ ad.block := fun ad e => by subst e; exact hvb ad.block rfl
                  have HNW : Bx (NwR wr g wr.heap.size l N (fun q => if q ≤ k then V q else .slice Av (synV l N).length cv)) := bx (fun q hq => by
                    by_cases hqk : q ≤ k
                    · obtain ⟨A', c', h1, h2, h3⟩ := (hNW.keep (w' := wr) (B' := wr.heap.size) (fun _ _ _ => rfl) hH) q hqk
                      exact ⟨A', c', by dsimp only; rw [if_pos hqk]; exact h1, h2, h3⟩
                    · obtain rfl : q = N := by have := HNN.out; omega
                      exact ⟨Av, cv, by dsimp only; rw [if_neg hqk], hrv, fun ad e => by have := hav ad e; omega⟩)
                  have HRX : Bx (Rw wr (g + 1) 62 32 (nwC l N (fun q => if q ≤ k then V q else .slice Av (synV l N).length cv))) := bx (hR.ext (fun i hi => by
                    unfold nwC
                    split
                    · rfl
                    · have hkn := HNN.out
                      by_cases e1 : i - 16 ≤ k
                      · rw [if_pos (by omega), if_pos e1]; dsimp only; rw [if_pos e1]
                      · rw [if_neg e1]
                        by_cases e2 : i - 16 = N
                        · rw [if_pos (by omega), if_pos e2]; dsimp only; rw [if_neg e1]
                        · rw [if_neg (by omega), if_neg e2]))
                  have hnn : ¬ s < s := by omega
                  have HCN : Bx (F + (synV l N).length = firstP l N + cntP l N) := bx (by rw [HFF.out, hcnt])
                  clear hO hNW hR hrv hvb hsyn hcnt hSL
                  rw [HCN.out]
                  go_wp2
                  go_roundg (15 - N)
                  case rel => exact ⟨N, _, rfl, by omega, rfl, by go_num, HRX.out, hK, hB, HNW.out⟩
                  case measure => have := HNN.out; omega
            · obtain rfl : k = 15 := by omega
              obtain ⟨cs, hBk, hcz, hcs⟩ := id hR
              have hone : cs.all (·.oneCell') = true := by
                rw [Array.all_eq_true]
                intro i hi
                have h1 := hcs i (by omega)
                rw [Array.getElem?_eq_getElem hi] at h1
                injection h1 with h1
                rw [h1]
                unfold nwC
                split
                · split <;> rfl
                · split
                  · obtain ⟨A', c', h2, _⟩ := hNW (i - 16) (by omega)
                    rw [h2]; rfl
                  · rfl
              have hsz := hR.lt
              have HRC : Bx (RCd (wr.setRow g cs) (g + 2) (wr.setRow g cs).heap.size cs l) := bx (by
                refine ⟨hcz, ⟨by rw [size_setRow]; omega, Nat.le_refl _⟩, fun i hi => ?_, fun i hi => ?_, mostP_le H15.out, HKR2.out, H15.out, by rw [HL.out]; exact hz⟩
                · rw [hcs i (by omega)]; unfold nwC; rw [if_pos hi, if_pos (by omega)]; rfl
                · obtain ⟨A', c', h1, h2, h3⟩ := (hNW.keep (w' := wr.setRow g cs) (B' := (wr.setRow g cs).heap.size) (fun q hq _ => heap_setRow wr g cs q (by omega)) (by rw [size_setRow]; exact Nat.le_refl _)) i (by omega)
                  refine ⟨A', c', ?_, h2, fun ad e => h3 ad e⟩
                  rw [hcs (16 + i) (by omega)]; unfold nwC; rw [if_neg (by omega), show 16 + i - 16 = i by omega, if_pos (by omega), h1])
              have HBX := bx (bl_setRow hB (g := g) (by omega) cs)
              have HKX := bx (hK.setRow cs)
              clear hR hNW hcs
              go_wp2_with (first
                | (refine wpList_load_row rfl 62 (.tmp 6) rfl (g + 1) rfl _ cs _ _ hBk Try.underlying62 rfl (by rw [hcz]; exact info_code) ?_)
                | (refine wpList_store_row rfl 62 (.tmp 4) (.tmp 103) rfl g cs rfl rfl 62 z32 hK (by rw [hcz]; exact info_code) (by rw [hcz]; rfl) hone ?_))
              exact bodyPost_ret (v := .tuple #[.agg cs, .int .i64 0]) (results_code _ _ g cs rfl HKX.out hcz) rfl ⟨HBX.out, cs, hcz, hone, by rw [if_pos HCB.out]; exact ⟨_, _, rfl, HRC.out, by omega⟩⟩
end Go.Proofs.Ytbhljigppljjbaa
