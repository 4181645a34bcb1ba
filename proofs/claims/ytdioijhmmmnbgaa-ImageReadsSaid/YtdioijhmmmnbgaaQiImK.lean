/- Contracts: samovarref14.SameMembers and SamePool: they read alone. -/
import Derived.Test.YtdioijhmmmnbgaaPi7
import Derived.Test.YtdioijhmmmnbgaaQiImI
namespace Go.Proofs.Ytdioijhmmmnbgaa
open Go.RowKit
theorem RM.drewN {w : World} {B : Nat} {A : Option Addr} {L : List MmE} (h : RM w B A L) (n : Nat) : RM (w.drewN n) B A L := ⟨h.1, h.2⟩
theorem mem_same {α β : Type} {f : α → β} {L M : List α} {k : Nat} {x y : α} (h : (L.take k).map f = (M.take k).map f) (hx : L[k]? = some x) (hy : M[k]? = some y) (hd : f x = f y) : (L.take (k + 1)).map f = (M.take (k + 1)).map f := by
  rw [List.take_add_one, List.take_add_one, hx, hy, List.map_append, List.map_append, h]
  show _ ++ [f x] = _ ++ [f y]
  rw [hd]
set_option maxRecDepth 100000 in
set_option maxHeartbeats 4000000 in
theorem sameMems_quiet (A1 A2 : Option Addr) (n1 c1 n2 c2 : Nat) (L1 L2 : List MmE) (w : World) (h1 : L1.length = n1) (h2 : L2.length = n2) (hb1 : (n1 : Int) ≤ 140737488355328) (_hb2 : (n2 : Int) ≤ 140737488355328)
    (hs1 : ∀ x ∈ L1, x.n ≤ 140737488355328 ∧ ∀ y ∈ x.L, y.s.n ≤ 140737488355328) (hs2 : ∀ x ∈ L2, x.n ≤ 140737488355328 ∧ ∀ y ∈ x.L, y.s.n ≤ 140737488355328)
    (r1 : RM w w.heap.size A1 L1) (r2 : RM w w.heap.size A2 L2) :
    Calls Try.prog 39 #[.slice A1 n1 c1, .slice A2 n2 c2] w fun e w' => e = .returned (.bool (decide (L1.map MmE.p = L2.map MmE.p))) ∧ ∃ q, w' = w.drewN q := by
  have HS1 := bx hs1
  have HS2 := bx hs2
  clear hs1 hs2
  have HL1 := bx h1
  have HL2 := bx h2
  have HR1 := bx r1
  have HR2 := bx r2
  clear h1 h2 r1 r2
  by_cases he : n1 = n2
  · have he1 : ((n1 : Int) != (n2 : Int)) = false := by simp [he]
    have HE := bx he
    obtain ⟨R, hR⟩ : ∃ R, decide (L1.map MmE.p = L2.map MmE.p) = R := ⟨_, rfl⟩
    rw [hR]
    have HR := bx hR
    have HQ0 : Bx ((L1.take 0).map MmE.p = (L2.take 0).map MmE.p) := bx rfl
    have HW0 : Bx (∃ m, w = w.drewN m) := bx ⟨0, rfl⟩
    clear he hR
    go_enter Try.func39, Try.ntmps39
    go_wp2
    go_loopw [5] (fun i wr => ∃ k : Nat, k ≤ n1 ∧ i = .int .i64 (k : Int) ∧ Bx ((L1.take k).map MmE.p = (L2.take k).map MmE.p) ∧ Bx (∃ m, wr = w.drewN m)) (fun i _ => n1 - (intOf i).toNat)
    case atStart => exact ⟨0, by omega, rfl, HQ0, HW0⟩
    case round =>
      clear HQ0 HW0
      obtain ⟨k, hk, rfl, HQ, HW⟩ := hrel
      by_cases hk0 : k < n1
      · have hk1 : k < n2 := by have := HE.out; omega
        have hkI : (k : Int) < (n1 : Int) := by omega
        have hkI2 : (k : Int) < (n2 : Int) := by omega
        have hRR : RM wr wr.heap.size A1 L1 ∧ RM wr wr.heap.size A2 L2 := by
          obtain ⟨m, e⟩ := HW.out
          rw [e]; exact ⟨HR1.out.drewN m, HR2.out.drewN m⟩
        obtain ⟨ad, x, rfl, _, HX, p0, p1, p2, p3, HSX⟩ := hRR.1.at_ (k := k) (by rw [HL1.out]; exact hk0)
        obtain ⟨bd, y, rfl, _, HY, q0, q1, q2, q3, HSY⟩ := hRR.2.at_ (k := k) (by rw [HL2.out]; exact hk1)
        have hx9 := HS1.out x (List.mem_of_getElem? HX.out)
        have hy9 := HS2.out y (List.mem_of_getElem? HY.out)
        have HSM := bx (fun m => sameAtts_quiet x.A y.A x.n x.c y.n y.c x.L y.L (wr.drewN m) HSX.out.1 HSY.out.1 (by have := hx9.1; omega) (by have := hy9.1; omega) hx9.2 hy9.2 (RA.drewN HSX.out.2.2.2 m) (RA.drewN HSY.out.2.2.2 m))
        clear hRR hx9 hy9
        by_cases ha : x.access = y.access
        · have hb1 : (x.access != y.access) = false := by simp [ha]
          by_cases hn : x.name = y.name
          · have hb2 : (x.name != y.name) = false := by simp [hn]
            by_cases hd : x.desc = y.desc
            · have hb3 : (x.desc != y.desc) = false := by simp [hd]
              by_cases hl : x.L.map AtE.p = y.L.map AtE.p
              · have HQ2 := bx (mem_same HQ.out HX.out HY.out (show (⟨x.access, x.name, x.desc, x.L.map AtE.p⟩ : Mem) = ⟨y.access, y.name, y.desc, y.L.map AtE.p⟩ by rw [ha, hn, hd, hl]))
                rw [decide_eq_true hl] at HSM
                clear ha hn hd hl HQ
                go_wp2
                go_quiet ((go_at_call 40; exact Calls.quiet_of (HSM.out _)))
                have HW2 : Bx (∀ nq, ∃ m, wr.drewN nq = w.drewN m) := bx (fun nq => by
                  obtain ⟨m, e⟩ := HW.out
                  rw [e]; exact ⟨m + nq, World.drewN_drewN _ _ _⟩)
                go_wp2
                go_roundw
                case rel => exact ⟨k + 1, by omega, by go_num, HQ2, bx (HW2.out _)⟩
                case measure => simp [intOf]; omega
              · have hl2 := bx hl
                rw [decide_eq_false hl] at HSM
                clear ha hn hd hl
                have HN : Bx (R = false) := bx (by
                  rw [← HR.out]; exact decide_eq_false (map_diff HX.out HY.out (fun e => hl2.out (congrArg Mem.attrs e))))
                clear HQ
                go_wp2
                go_quiet ((go_at_call 40; exact Calls.quiet_of (HSM.out _)))
                have HW2 : Bx (∀ nq, ∃ m, wr.drewN nq = w.drewN m) := bx (fun nq => by
                  obtain ⟨m, e⟩ := HW.out
                  rw [e]; exact ⟨m + nq, World.drewN_drewN _ _ _⟩)
                go_wp2
                go_ret
                exact ⟨by rw [HN.out]; rfl, HW2.out _⟩
            · have hb3 : (x.desc != y.desc) = true := by simp [hd]
              have hd2 := bx hd
              clear ha hn hd
              have HN : Bx (R = false) := bx (by
                rw [← HR.out]; exact decide_eq_false (map_diff HX.out HY.out (fun e => hd2.out (congrArg Mem.desc e))))
              clear HQ
              go_wp2
              go_quiet (fail)
              have HW2 : Bx (∀ nq, ∃ m, wr.drewN nq = w.drewN m) := bx (fun nq => by
                obtain ⟨m, e⟩ := HW.out
                rw [e]; exact ⟨m + nq, World.drewN_drewN _ _ _⟩)
              go_wp2
              go_ret
              exact ⟨by rw [HN.out]; rfl, HW2.out _⟩
          · have hb2 : (x.name != y.name) = true := by simp [hn]
            have hn2 := bx hn
            clear ha hn
            have HN : Bx (R = false) := bx (by
              rw [← HR.out]; exact decide_eq_false (map_diff HX.out HY.out (fun e => hn2.out (congrArg Mem.name e))))
            clear HQ
            go_wp2
            go_quiet (fail)
            have HW2 : Bx (∀ nq, ∃ m, wr.drewN nq = w.drewN m) := bx (fun nq => by
              obtain ⟨m, e⟩ := HW.out
              rw [e]; exact ⟨m + nq, World.drewN_drewN _ _ _⟩)
            go_wp2
            go_ret
            exact ⟨by rw [HN.out]; rfl, HW2.out _⟩
        · have hb1 : (x.access != y.access) = true := by simp [ha]
          have ha2 := bx ha
          clear ha
          have HN : Bx (R = false) := bx (by
            rw [← HR.out]; exact decide_eq_false (map_diff HX.out HY.out (fun e => ha2.out (congrArg Mem.access e))))
          clear HQ
          go_wp2
          go_quiet (fail)
          have HW2 : Bx (∀ nq, ∃ m, wr.drewN nq = w.drewN m) := bx (fun nq => by
            obtain ⟨m, e⟩ := HW.out
            rw [e]; exact ⟨m + nq, World.drewN_drewN _ _ _⟩)
          go_wp2
          go_ret
          exact ⟨by rw [HN.out]; rfl, HW2.out _⟩
      · obtain rfl : n1 = k := by omega
        have hkI : ¬ (n1 : Int) < (n1 : Int) := by omega
        have HN : Bx (R = true) := bx (by
          have h9 := HQ.out
          rw [List.take_of_length_le (by rw [HL1.out]; exact Nat.le_refl _), List.take_of_length_le (by rw [HL2.out, ← HE.out]; exact Nat.le_refl _)] at h9
          rw [← HR.out]; exact decide_eq_true h9)
        clear HQ
        go_wp2
        go_ret
        exact ⟨by rw [HN.out]; rfl, HW.out⟩
  · have he1 : ((n1 : Int) != (n2 : Int)) = true := by simp; omega
    have hne : decide (L1.map MmE.p = L2.map MmE.p) = false := decide_eq_false (fun e => he (by have := congrArg List.length e; rw [List.length_map, List.length_map, HL1.out, HL2.out] at this; exact this))
    rw [hne]
    clear he hne
    go_enter Try.func39, Try.ntmps39
    go_wp2
    go_ret
    exact ⟨rfl, 0, rfl⟩
end Go.Proofs.Ytdioijhmmmnbgaa
