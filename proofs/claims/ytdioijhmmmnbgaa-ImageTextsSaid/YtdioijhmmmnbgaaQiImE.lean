/- Contracts: samovarref14.SameAttrs, SameMembers: they read alone. -/
import Derived.Test.YtdioijhmmmnbgaaQiSamQ
import Derived.Test.YtdioijhmmmnbgaaQiImM
import Derived.Test.YtdioijhmmmnbgaaPi2
namespace Go.Proofs.Ytdioijhmmmnbgaa
open Go.RowKit
theorem RA.at_ {w : World} {B : Nat} {A : Option Addr} {L : List AtE} (h : RA w B A L) {k : Nat} (hk : k < L.length) :
    ∃ ad x, A = some ad ∧ ad.block < B ∧ Bx (L[k]? = some x) ∧ w.cell? (ad.add (k * 2)) = some (.int .i64 x.name) ∧ w.cell? ⟨(ad.add (k * 2)).block, (ad.add (k * 2)).off + 1, none⟩ = some (.slice x.s.A x.s.n x.s.c) ∧ Bx (SlB w B x.s) := by
  obtain ⟨ad, x, hA, hlt, hx, hc, hcs⟩ := h.1.at_ attCels hk
  exact ⟨ad, x, hA, hlt, bx hx.out, hc _ rfl, hcs 0 _ rfl, bx (h.2 x (List.mem_of_getElem? hx.out))⟩
theorem RA.drewN {w : World} {B : Nat} {A : Option Addr} {L : List AtE} (h : RA w B A L) (n : Nat) : RA (w.drewN n) B A L := ⟨h.1, h.2⟩
theorem att_same {L M : List AtE} {k : Nat} {x y : AtE} (h : (L.take k).map AtE.p = (M.take k).map AtE.p) (hx : L[k]? = some x) (hy : M[k]? = some y) (hn : x.name = y.name) (hd : x.s.l = y.s.l) : (L.take (k + 1)).map AtE.p = (M.take (k + 1)).map AtE.p := by
  rw [List.take_add_one, List.take_add_one, hx, hy, List.map_append, List.map_append, h]
  show _ ++ [(⟨x.name, x.s.l⟩ : Att)] = _ ++ [⟨y.name, y.s.l⟩]
  rw [hn, hd]
theorem map_diff {α β : Type} {f : α → β} {L M : List α} {k : Nat} {x y : α} (hx : L[k]? = some x) (hy : M[k]? = some y) (h : f x ≠ f y) : L.map f ≠ M.map f := fun e => by
  have h1 := congrArg (fun l => l[k]?) e
  simp only [List.getElem?_map, hx, hy, Option.map_some] at h1
  injection h1 with h1
  exact h h1
set_option maxRecDepth 100000 in
set_option maxHeartbeats 2000000 in
theorem sameAtts_quiet (A1 A2 : Option Addr) (n1 c1 n2 c2 : Nat) (L1 L2 : List AtE) (w : World) (h1 : L1.length = n1) (h2 : L2.length = n2) (hb1 : (n1 : Int) ≤ 140737488355328) (_hb2 : (n2 : Int) ≤ 140737488355328) (hs1 : ∀ x ∈ L1, x.s.n ≤ 140737488355328) (hs2 : ∀ x ∈ L2, x.s.n ≤ 140737488355328)
    (r1 : RA w w.heap.size A1 L1) (r2 : RA w w.heap.size A2 L2) :
    Calls Try.prog 40 #[.slice A1 n1 c1, .slice A2 n2 c2] w fun e w' => e = .returned (.bool (decide (L1.map AtE.p = L2.map AtE.p))) ∧ ∃ q, w' = w.drewN q := by
  have HL1 := bx h1
  have HL2 := bx h2
  have HS1 := bx hs1
  have HS2 := bx hs2
  have HR1 := bx r1
  have HR2 := bx r2
  clear h1 h2 hs1 hs2 r1 r2
  by_cases he : n1 = n2
  · have he1 : ((n1 : Int) != (n2 : Int)) = false := by simp [he]
    have HE := bx he
    obtain ⟨R, hR⟩ : ∃ R, decide (L1.map AtE.p = L2.map AtE.p) = R := ⟨_, rfl⟩
    rw [hR]
    have HR := bx hR
    have HQ0 : Bx ((L1.take 0).map AtE.p = (L2.take 0).map AtE.p) := bx rfl
    have HW0 : Bx (∃ m, w = w.drewN m) := bx ⟨0, rfl⟩
    clear he hR
    go_enter Try.func40, Try.ntmps40
    go_wp2
    go_loopw [5] (fun i wr => ∃ k : Nat, k ≤ n1 ∧ i = .int .i64 (k : Int) ∧ Bx ((L1.take k).map AtE.p = (L2.take k).map AtE.p) ∧ Bx (∃ m, wr = w.drewN m)) (fun i _ => n1 - (intOf i).toNat)
    case atStart => exact ⟨0, by omega, rfl, HQ0, HW0⟩
    case round =>
      clear HQ0 HW0
      obtain ⟨k, hk, rfl, HQ, HW⟩ := hrel
      by_cases hk0 : k < n1
      · have hk1 : k < n2 := by have := HE.out; omega
        have hkI : (k : Int) < (n1 : Int) := by omega
        have hkI2 : (k : Int) < (n2 : Int) := by omega
        have hRR : RA wr wr.heap.size A1 L1 ∧ RA wr wr.heap.size A2 L2 := by
          obtain ⟨m, e⟩ := HW.out
          rw [e]; exact ⟨HR1.out.drewN m, HR2.out.drewN m⟩
        obtain ⟨ad, x, rfl, _, HX, p0, p1, HSX⟩ := hRR.1.at_ (k := k) (by rw [HL1.out]; exact hk0)
        obtain ⟨bd, y, rfl, _, HY, q0, q1, HSY⟩ := hRR.2.at_ (k := k) (by rw [HL2.out]; exact hk1)
        have hx9 := HS1.out x (List.mem_of_getElem? HX.out)
        have hy9 := HS2.out y (List.mem_of_getElem? HY.out)
        have HSM := bx (fun m => same_quiet x.s.A y.s.A x.s.n x.s.c y.s.n y.s.c (wr.drewN m) x.s.l y.s.l HSX.out.1 HSY.out.1 (by omega) (by omega) (RL.drewN HSX.out.2.2.2 m) (RL.drewN HSY.out.2.2.2 m))
        clear hRR hx9 hy9
        by_cases hn : x.name = y.name
        · have hb1 : (x.name != y.name) = false := by simp [hn]
          by_cases hd : x.s.l = y.s.l
          · have HQ2 := bx (att_same HQ.out HX.out HY.out hn hd)
            rw [decide_eq_true hd] at HSM
            clear hn hd HQ
            go_wp2
            go_quiet ((go_at_call 13; exact Calls.quiet_of (HSM.out _)))
            have HW2 : Bx (∀ nq, ∃ m, wr.drewN nq = w.drewN m) := bx (fun nq => by
              obtain ⟨m, e⟩ := HW.out
              rw [e]; exact ⟨m + nq, World.drewN_drewN _ _ _⟩)
            go_wp2
            go_roundw
            case rel => exact ⟨k + 1, by omega, by go_num, HQ2, bx (HW2.out _)⟩
            case measure => simp [intOf]; omega
          · have HN : Bx (R = false) := bx (by
              rw [← HR.out]; exact decide_eq_false (map_diff HX.out HY.out (fun e => hd (congrArg Att.data e))))
            rw [decide_eq_false hd] at HSM
            clear hn hd HQ
            go_wp2
            go_quiet ((go_at_call 13; exact Calls.quiet_of (HSM.out _)))
            have HW2 : Bx (∀ nq, ∃ m, wr.drewN nq = w.drewN m) := bx (fun nq => by
              obtain ⟨m, e⟩ := HW.out
              rw [e]; exact ⟨m + nq, World.drewN_drewN _ _ _⟩)
            go_wp2
            go_ret
            exact ⟨by rw [HN.out]; rfl, HW2.out _⟩
        · have hb1 : (x.name != y.name) = true := by simp [hn]
          have HN : Bx (R = false) := bx (by
            rw [← HR.out]; exact decide_eq_false (map_diff HX.out HY.out (fun e => hn (congrArg Att.name e))))
          clear hn HQ
          go_wp2
          go_quiet (fail)
          have HW2 : Bx (∀ nq, ∃ m, wr.drewN nq = w.drewN m) := bx (fun nq => by
            obtain ⟨m, e⟩ := HW.out
            rw [e]; exact ⟨m + nq, World.drewN_drewN _ _ _⟩)
          go_wp2
          go_ret
          exact ⟨by rw [HN.out]; rfl, HW2.out _⟩
      · obtain rfl : n1 = k := by omega
        have hkI : ¬ (n1 : Int) < (n1 : Int) := by omega
        have HN : Bx (R = true) := bx (by
          have h9 := HQ.out
          rw [List.take_of_length_le (by rw [HL1.out]; exact Nat.le_refl _), List.take_of_length_le (by rw [HL2.out, ← HE.out]; exact Nat.le_refl _)] at h9
          rw [← HR.out]; exact decide_eq_true h9)
        clear HQ
        go_wp2
        go_ret
        exact ⟨by rw [HN.out]; rfl, HW.out⟩
  · have he1 : ((n1 : Int) != (n2 : Int)) = true := by simp; omega
    have hne : decide (L1.map AtE.p = L2.map AtE.p) = false := decide_eq_false (fun e => he (by have := congrArg List.length e; rw [List.length_map, List.length_map, HL1.out, HL2.out] at this; exact this))
    rw [hne]
    clear he hne
    go_enter Try.func40, Try.ntmps40
    go_wp2
    go_ret
    exact ⟨rfl, 0, rfl⟩
end Go.Proofs.Ytdioijhmmmnbgaa
