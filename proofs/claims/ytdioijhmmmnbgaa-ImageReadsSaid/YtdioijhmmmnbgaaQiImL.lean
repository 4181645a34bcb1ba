/- Contract: samovarref14.SamePool: it reads alone. -/
import Derived.Test.YtdioijhmmmnbgaaQiImK
namespace Go.Proofs.Ytdioijhmmmnbgaa
open Go.RowKit
def idC (c : Cst) : Cst := c
theorem map_idC (L : List Cst) : L.map idC = L := by
  have : idC = id := rfl
  rw [this, List.map_id]
theorem cst_eq {x y : Cst} (h0 : x.tag = y.tag) (h1 : x.a = y.a) (h2 : x.b = y.b) (h3 : x.num = y.num) (h4 : x.text = y.text) : x = y := by obtain ⟨t, a, b, n, s⟩ := x; obtain ⟨t', a', b', n', s'⟩ := y; simp at h0 h1 h2 h3 h4; subst h0 h1 h2 h3 h4; rfl
set_option maxRecDepth 100000 in
set_option maxHeartbeats 4000000 in
theorem samePool_map (A1 A2 : Option Addr) (n1 c1 n2 c2 : Nat) (L1 L2 : List Cst) (w : World) (h1 : L1.length = n1) (h2 : L2.length = n2) (hb1 : (n1 : Int) ≤ 140737488355328) (_hb2 : (n2 : Int) ≤ 140737488355328)
    (r1 : RS cstC w w.heap.size A1 L1) (r2 : RS cstC w w.heap.size A2 L2) :
    Calls Try.prog 38 #[.slice A1 n1 c1, .slice A2 n2 c2] w fun e w' => e = .returned (.bool (decide (L1.map idC = L2.map idC))) ∧ ∃ q, w' = w.drewN q := by
  have HL1 := bx h1
  have HL2 := bx h2
  have HR1 := bx r1
  have HR2 := bx r2
  clear h1 h2 r1 r2
  by_cases he : n1 = n2
  · have he1 : ((n1 : Int) != (n2 : Int)) = false := by simp [he]
    have HE := bx he
    obtain ⟨R, hR⟩ : ∃ R, decide (L1.map idC = L2.map idC) = R := ⟨_, rfl⟩
    rw [hR]
    have HR := bx hR
    have HQ0 : Bx ((L1.take 0).map idC = (L2.take 0).map idC) := bx rfl
    have HW0 : Bx (∃ m, w = w.drewN m) := bx ⟨0, rfl⟩
    clear he hR
    go_enter Try.func38, Try.ntmps38
    go_wp2
    go_loopw [5] (fun i wr => ∃ k : Nat, k ≤ n1 ∧ i = .int .i64 (k : Int) ∧ Bx ((L1.take k).map idC = (L2.take k).map idC) ∧ Bx (∃ m, wr = w.drewN m)) (fun i _ => n1 - (intOf i).toNat)
    case atStart => exact ⟨0, by omega, rfl, HQ0, HW0⟩
    case round =>
      clear HQ0 HW0
      obtain ⟨k, hk, rfl, HQ, HW⟩ := hrel
      by_cases hk0 : k < n1
      · have hk1 : k < n2 := by have := HE.out; omega
        have hkI : (k : Int) < (n1 : Int) := by omega
        have hkI2 : (k : Int) < (n2 : Int) := by omega
        have hRR : RS cstC wr wr.heap.size A1 L1 ∧ RS cstC wr wr.heap.size A2 L2 := by
          obtain ⟨m, e⟩ := HW.out
          rw [e]; exact ⟨HR1.out.drewN m, HR2.out.drewN m⟩
        obtain ⟨ad, x, rfl, _, HX, p0, p1, p2, p3, p4⟩ := cst_at hRR.1 (k := k) (by rw [HL1.out]; exact hk0)
        obtain ⟨bd, y, rfl, _, HY, q0, q1, q2, q3, q4⟩ := cst_at hRR.2 (k := k) (by rw [HL2.out]; exact hk1)
        clear hRR
        by_cases he : x = y
        · have HQ2 := bx (mem_same HQ.out HX.out HY.out (congrArg idC he))
          subst he
          clear HQ
          go_wp2
          go_quiet (fail)
          have HW2 : Bx (∀ nq, ∃ m, wr.drewN nq = w.drewN m) := bx (fun nq => by
            obtain ⟨m, e⟩ := HW.out
            rw [e]; exact ⟨m + nq, World.drewN_drewN _ _ _⟩)
          go_wp2
          go_roundw
          case rel => exact ⟨k + 1, by omega, by go_num, HQ2, bx (HW2.out _)⟩
          case measure => simp [intOf]; omega
        · have HNE := bx he
          have HN : Bx (R = false) := bx (by
            rw [← HR.out]; exact decide_eq_false (map_diff HX.out HY.out he))
          clear HQ he
          by_cases etag : x.tag = y.tag
          · rw [etag] at p0
            by_cases ea : x.a = y.a
            · rw [ea] at p1
              by_cases eb : x.b = y.b
              · rw [eb] at p2
                by_cases enum : x.num = y.num
                · rw [enum] at p3
                  have HE0 := bx (show x.tag = y.tag ∧ x.a = y.a ∧ x.b = y.b ∧ x.num = y.num from ⟨etag, ea, eb, enum⟩)
                  clear etag ea eb enum
                  have ht : ¬ x.text = y.text := fun e => HNE.out (cst_eq HE0.out.1 HE0.out.2.1 HE0.out.2.2.1 HE0.out.2.2.2 e)
                  go_wp2
                  go_quiet (fail)
                  have HW2 : Bx (∀ nq, ∃ m, wr.drewN nq = w.drewN m) := bx (fun nq => by
                    obtain ⟨m, e⟩ := HW.out
                    rw [e]; exact ⟨m + nq, World.drewN_drewN _ _ _⟩)
                  go_wp2
                  go_ret
                  exact ⟨by rw [HN.out]; rfl, HW2.out _⟩
                · have en := enum
                  go_wp2
                  go_quiet (fail)
                  have HW2 : Bx (∀ nq, ∃ m, wr.drewN nq = w.drewN m) := bx (fun nq => by
                    obtain ⟨m, e⟩ := HW.out
                    rw [e]; exact ⟨m + nq, World.drewN_drewN _ _ _⟩)
                  go_wp2
                  go_ret
                  exact ⟨by rw [HN.out]; rfl, HW2.out _⟩
              · have en := eb
                go_wp2
                go_quiet (fail)
                have HW2 : Bx (∀ nq, ∃ m, wr.drewN nq = w.drewN m) := bx (fun nq => by
                  obtain ⟨m, e⟩ := HW.out
                  rw [e]; exact ⟨m + nq, World.drewN_drewN _ _ _⟩)
                go_wp2
                go_ret
                exact ⟨by rw [HN.out]; rfl, HW2.out _⟩
            · have en := ea
              go_wp2
              go_quiet (fail)
              have HW2 : Bx (∀ nq, ∃ m, wr.drewN nq = w.drewN m) := bx (fun nq => by
                obtain ⟨m, e⟩ := HW.out
                rw [e]; exact ⟨m + nq, World.drewN_drewN _ _ _⟩)
              go_wp2
              go_ret
              exact ⟨by rw [HN.out]; rfl, HW2.out _⟩
          · have en := etag
            go_wp2
            go_quiet (fail)
            have HW2 : Bx (∀ nq, ∃ m, wr.drewN nq = w.drewN m) := bx (fun nq => by
              obtain ⟨m, e⟩ := HW.out
              rw [e]; exact ⟨m + nq, World.drewN_drewN _ _ _⟩)
            go_wp2
            go_ret
            exact ⟨by rw [HN.out]; rfl, HW2.out _⟩
      · obtain rfl : n1 = k := by omega
        have hkI : ¬ (n1 : Int) < (n1 : Int) := by omega
        have HN : Bx (R = true) := bx (by
          have h9 := HQ.out
          rw [List.take_of_length_le (by rw [HL1.out]; exact Nat.le_refl _), List.take_of_length_le (by rw [HL2.out, ← HE.out]; exact Nat.le_refl _)] at h9
          rw [← HR.out]; exact decide_eq_true h9)
        clear HQ
        go_wp2
        go_ret
        exact ⟨by rw [HN.out]; rfl, HW.out⟩
  · have he1 : ((n1 : Int) != (n2 : Int)) = true := by simp; omega
    have hne : decide (L1.map idC = L2.map idC) = false := decide_eq_false (fun e => he (by have := congrArg List.length e; rw [List.length_map, List.length_map, HL1.out, HL2.out] at this; exact this))
    rw [hne]
    clear he hne
    go_enter Try.func38, Try.ntmps38
    go_wp2
    go_ret
    exact ⟨rfl, 0, rfl⟩
theorem samePool_quiet (A1 A2 : Option Addr) (n1 c1 n2 c2 : Nat) (L1 L2 : List Cst) (w : World) (h1 : L1.length = n1) (h2 : L2.length = n2) (hb1 : (n1 : Int) ≤ 140737488355328) (hb2 : (n2 : Int) ≤ 140737488355328)
    (r1 : RS cstC w w.heap.size A1 L1) (r2 : RS cstC w w.heap.size A2 L2) :
    Calls Try.prog 38 #[.slice A1 n1 c1, .slice A2 n2 c2] w fun e w' => e = .returned (.bool (decide (L1 = L2))) ∧ ∃ q, w' = w.drewN q := by
  have h := samePool_map A1 A2 n1 c1 n2 c2 L1 L2 w h1 h2 hb1 hb2 r1 r2
  rw [map_idC, map_idC] at h
  exact h
end Go.Proofs.Ytdioijhmmmnbgaa
