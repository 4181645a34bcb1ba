/- Contracts: samovarref09.num, sign, End. -/
import Derived.Test.YtokojichjliieaaDoorArcB
namespace Go.Proofs.YtokojichjliieaaDoor
open Go.RowKit

theorem num64_leN {s : List UInt8} (h : s.length ≤ 4) : num64 s.reverse = (leN s : Int) := by
  have hlt : leN s < 256 ^ 4 := leN_lt_of _ h
  have p4 : (256 : Nat) ^ 4 = 4294967296 := by decide
  rw [num64_eq, beN_eq, List.reverse_reverse]
  exact IntWalk.wrap64_in _ ⟨by omega, by rw [p4] at hlt; omega⟩
set_option maxHeartbeats 1000000 in
theorem rnum_ok (A : Option Addr) (n c p k : Nat) (b : List UInt8) (w : World) (hn : b.length = n) (hnc : n ≤ c) (hc : (c : Int) ≤ 9223372036854775807) (h1 : 1 ≤ k) (h2 : k ≤ 4) (hp : p + k ≤ n) (hr : RB w w.heap.size A b) :
    Calls Tryd.prog 35 #[.slice A n c, .int .i64 (p : Int), .int .i64 (k : Int)] w fun e w' => e = .returned (.int .i64 (numA b p k : Int)) ∧ Below w.heap.size w w' := by
  have hlk := refLittle_ok A c p k w b n hn (by omega) hc h1 (by omega) (by omega) hr
  have e : num64 ((b.drop p).take k).reverse = (numA b p k : Int) := num64_leN (by simp; omega)
  rw [e] at hlk
  have HK := bx hlk
  clear hlk e hn hr
  go_enter Tryd.func35, Tryd.ntmps35
  go_wp2_with fail
  refine HK.out.mono ?_
  rintro e w1 ⟨rfl, hb⟩
  go_wp2
  go_ret
  exact ⟨rfl, hb⟩
theorem signA_get {b : List UInt8} {p : Nat} {x y a0 a1 a2 a3 : UInt8} (h0 : b[p]? = some a0) (h1 : b[p + 1]? = some a1) (h2 : b[p + 2]? = some a2) (h3 : b[p + 3]? = some a3) : signA b p x y = decide (a0 = 80 ∧ a1 = 75 ∧ a2 = x ∧ a3 = y) := by
  unfold signA
  simp only [List.getD_eq_getElem?_getD, h0, h1, h2, h3, Option.getD_some]
theorem u8_beq (a x : UInt8) {z : Int} (hz : z = (x.toNat : Int)) : ((a.toNat : Int) == z) = decide (a = x) := by
  subst hz
  by_cases h : a = x
  · subst h; simp
  · rw [decide_eq_false h, beq_eq_false_iff_ne]; exact fun e => h (UInt8.toNat_inj.1 (by omega))
set_option maxHeartbeats 2000000 in
theorem rsign_ok (A : Option Addr) (n c p : Nat) (b : List UInt8) (x y : UInt8) (xi yi : Int) (w : World) (hx : xi = (x.toNat : Int)) (hy : yi = (y.toNat : Int)) (hn : b.length = n) (hz : n ≤ 1000000000) (hp : p + 4 ≤ n) (hr : RB w w.heap.size A b) :
    Calls Tryd.prog 40 #[.slice A n c, .int .i64 (p : Int), .int .u8 xi, .int .u8 yi] w fun e w' => e = .returned (.bool (signA b p x y)) ∧ w' = w := by
  obtain ⟨ad, a0, rfl, hb0, hx0, c0⟩ := hr.byte (k := p) (by omega)
  obtain ⟨ad1, a1, hA1, hb1, hx1, c1⟩ := hr.byte (k := p + 1) (by omega)
  injection hA1 with hA1; subst hA1
  obtain ⟨ad2, a2, hA2, hb2, hx2, c2⟩ := hr.byte (k := p + 2) (by omega)
  injection hA2 with hA2; subst hA2
  obtain ⟨ad3, a3, hA3, hb3, hx3, c3⟩ := hr.byte (k := p + 3) (by omega)
  injection hA3 with hA3; subst hA3
  rw [signA_get hx0.out hx1.out hx2.out hx3.out]
  have t0 := u8_beq a0 80 (z := 80) rfl
  have t1 := u8_beq a1 75 (z := 75) rfl
  have t2 := u8_beq a2 x hx
  have t3 := u8_beq a3 y hy
  rw [show ad.add (p + 1) = ⟨ad.block, ad.off + (p + 1), none⟩ from add_pos ad p] at c1
  rw [show ad.add (p + 2) = ⟨ad.block, ad.off + (p + 2), none⟩ from add_pos ad (p + 1)] at c2
  rw [show ad.add (p + 3) = ⟨ad.block, ad.off + (p + 3), none⟩ from add_pos ad (p + 2)] at c3
  have e1 : ((p : Int) + 1).toNat = p + 1 := by omega
  have e2 : ((p : Int) + 2).toNat = p + 2 := by omega
  have e3 : ((p : Int) + 3).toNat = p + 3 := by omega
  clear hr hx0 hx1 hx2 hx3 hx hy hn
  by_cases h0 : a0 = 80
  · rw [decide_eq_true h0] at t0
    by_cases h1 : a1 = 75
    · rw [decide_eq_true h1] at t1
      by_cases h2 : a2 = x
      · rw [decide_eq_true h2] at t2
        have HD : Bx (decide (a0 = 80 ∧ a1 = 75 ∧ a2 = x ∧ a3 = y) = decide (a3 = y)) := bx (by simp [h0, h1, h2])
        rw [HD.out]
        clear h0 h1 h2 HD
        go_enter Tryd.func40, Tryd.ntmps40
        go_wp2
        go_ret
        exact ⟨ret_v (by rw [← t3]; rfl), rfl⟩
      · rw [decide_eq_false h2] at t2
        have HD : Bx (decide (a0 = 80 ∧ a1 = 75 ∧ a2 = x ∧ a3 = y) = false) := bx (by simp [h2])
        rw [HD.out]
        clear h0 h1 h2 HD
        go_enter Tryd.func40, Tryd.ntmps40
        go_wp2
        go_ret
        exact ⟨rfl, rfl⟩
    · rw [decide_eq_false h1] at t1
      have HD : Bx (decide (a0 = 80 ∧ a1 = 75 ∧ a2 = x ∧ a3 = y) = false) := bx (by simp [h1])
      rw [HD.out]
      clear h0 h1 HD
      go_enter Tryd.func40, Tryd.ntmps40
      go_wp2
      go_ret
      exact ⟨rfl, rfl⟩
  · rw [decide_eq_false h0] at t0
    have HD : Bx (decide (a0 = 80 ∧ a1 = 75 ∧ a2 = x ∧ a3 = y) = false) := bx (by simp [h0])
    rw [HD.out]
    clear h0 HD
    go_enter Tryd.func40, Tryd.ntmps40
    go_wp2
    go_ret
    exact ⟨rfl, rfl⟩
/-! Where the end record stands. -/
theorem range_one (q : Nat) : ∀ n, (List.range n).filter (fun j => decide (j = q)) = if q < n then [q] else [] := by
  intro n
  induction n with
  | zero => rfl
  | succ n ih =>
    rw [List.range_succ, List.filter_append, ih]
    by_cases h : q < n
    · rw [if_pos h, if_pos (by omega)]; simp; omega
    · rw [if_neg h]
      by_cases e : n = q
      · subst e; simp
      · rw [if_neg (by omega)]; simp; omega
theorem endP_one {b : List UInt8} {q : Nat} (h : q < b.length - 21) (hq : endA b q = true) (hu : ∀ j, j < b.length - 21 → endA b j = true → j = q) : endP b = some q := by
  have e : endsA b = [q] := by
    unfold endsA
    rw [List.filter_congr (q := fun j => decide (j = q)) (fun j hj => by
      rw [List.mem_range] at hj
      cases hj2 : endA b j with
      | true => rw [decide_eq_true (hu j hj hj2)]
      | false => rw [decide_eq_false (fun e => by subst e; rw [hq] at hj2; cases hj2)]), range_one, if_pos h]
  unfold endP; rw [e]
theorem endP_none {b : List UInt8} (h : ∀ j, j < b.length - 21 → endA b j = false) : endP b = none := by
  have e : endsA b = [] := by
    unfold endsA
    rw [List.filter_eq_nil_iff]
    intro j hj
    rw [List.mem_range] at hj
    rw [h j hj]; decide
  unfold endP; rw [e]
theorem endP_two {b : List UInt8} {q k : Nat} (hne : q ≠ k) (hq : q < b.length - 21) (hk : k < b.length - 21) (h1 : endA b q = true) (h2 : endA b k = true) : endP b = none := by
  have m1 : q ∈ endsA b := by unfold endsA; rw [List.mem_filter, List.mem_range]; exact ⟨hq, h1⟩
  have m2 : k ∈ endsA b := by unfold endsA; rw [List.mem_filter, List.mem_range]; exact ⟨hk, h2⟩
  unfold endP
  generalize endsA b = l at m1 m2
  match l with
  | [] => rfl
  | [p] => simp at m1 m2; exact absurd (m1.trans m2.symm) hne
  | _ :: _ :: _ => rfl
/-- What was found among the places ahead of k. -/
def EndSt (b : List UInt8) (k : Nat) (v : Int) : Prop := (v = -1 ∧ ∀ j, j < k → endA b j = false) ∨ (∃ q : Nat, q < k ∧ v = (q : Int) ∧ endA b q = true ∧ ∀ j, j < k → endA b j = true → j = q)
def endI (b : List UInt8) : Int := match endP b with
  | none => -1
  | some p => (p : Int)
theorem EndSt.fin {b : List UInt8} {v : Int} (h : EndSt b (b.length - 21) v) : v = endI b := by
  unfold endI
  rcases h with ⟨h1, h2⟩ | ⟨q, h1, h2, h3, h4⟩
  · rw [endP_none h2]; exact h1
  · rw [endP_one h1 h3 h4]; exact h2
theorem EndSt.skip {b : List UInt8} {k : Nat} {v : Int} (h : EndSt b k v) (hk : endA b k = false) : EndSt b (k + 1) v := by
  rcases h with ⟨h1, h2⟩ | ⟨q, h1, h2, h3, h4⟩
  · exact .inl ⟨h1, fun j hj => by
      by_cases e : j = k
      · subst e; exact hk
      · exact h2 j (by omega)⟩
  · exact .inr ⟨q, by omega, h2, h3, fun j hj hj2 => by
      by_cases e : j = k
      · subst e; rw [hk] at hj2; cases hj2
      · exact h4 j (by omega) hj2⟩
theorem EndSt.hit {b : List UInt8} {k : Nat} {v : Int} (h : EndSt b k v) (hv : v < 0) (hk : endA b k = true) : EndSt b (k + 1) (k : Int) := by
  rcases h with ⟨h1, h2⟩ | ⟨q, h1, h2, h3, h4⟩
  · exact .inr ⟨k, by omega, rfl, hk, fun j hj hj2 => by
      by_cases e : j = k
      · exact e
      · rw [h2 j (by omega)] at hj2; cases hj2⟩
  · omega
theorem EndSt.two {b : List UInt8} {k : Nat} {v : Int} (h : EndSt b k v) (hv : 0 ≤ v) (hk : endA b k = true) (hl : k < b.length - 21) : endI b = -1 := by
  rcases h with ⟨h1, h2⟩ | ⟨q, h1, h2, h3, h4⟩
  · omega
  · unfold endI; rw [endP_two (q := q) (k := k) (by omega) (by omega) hl h3 hk]
set_option maxHeartbeats 2000000 in
theorem rend_any (A : Option Addr) (n c : Nat) (b : List UInt8) (w : World) (hn : b.length = n) (hz : n ≤ 1000000000) (hnc : n ≤ c) (hc : (c : Int) ≤ 9223372036854775807) (hr : RB w w.heap.size A b) :
    Calls Tryd.prog 19 #[.slice A n c] w fun e w' => e = .returned (.int .i64 (endI b)) ∧ Below w.heap.size w w' := by
  have HN := bx hn
  obtain ⟨R, hR⟩ : ∃ R, endI b = R := ⟨_, rfl⟩
  rw [hR]
  have HR := bx hR
  clear hn hR
  go_enter Tryd.func19, Tryd.ntmps19
  go_wp2
  go_loopw [3, 4] (fun v i wr => ∃ (k : Nat) (z : Int), k ≤ n - 21 ∧ i = .int .i64 (k : Int) ∧ v = .int .i64 z ∧ Bx (EndSt b k z) ∧ Below w.heap.size w wr) (fun _ i _ => n - (intOf i).toNat)
  case atStart => exact ⟨0, -1, by omega, rfl, rfl, bx (.inl ⟨rfl, fun j hj => absurd hj (by omega)⟩), Below.refl _ _⟩
  case round =>
    obtain ⟨k, z, hk, rfl, rfl, HE, hb⟩ := hrel
    have hsz := hb.size
    by_cases hk0 : k + 22 ≤ n
    · have hkI : (k : Int) + 22 ≤ (n : Int) := by omega
      have hrr : RB wr wr.heap.size A b := (RL.below hr hb (Nat.le_refl _)).more hsz
      have hsg := rsign_ok A n c k b 5 6 5 6 wr rfl rfl HN.out hz (by omega) hrr
      have hnm := rnum_ok A n c (k + 20) 2 b wr HN.out hnc hc (by omega) (by omega) (by omega) hrr
      rw [show ((k + 20 : Nat) : Int) = (k : Int) + 20 by omega] at hnm
      obtain ⟨sg, hs⟩ : ∃ sg, signA b k 5 6 = sg := ⟨_, rfl⟩
      obtain ⟨N, hN⟩ : ∃ N, numA b (k + 20) 2 = N := ⟨_, rfl⟩
      rw [hs] at hsg
      rw [hN] at hnm
      have HD : Bx (endA b k = (sg && decide (N = n - k - 22))) := bx (by unfold endA; rw [hs, hN, HN.out])
      have HSG := bx hsg
      have HNM := bx hnm
      clear hsg hnm hs hN hrr hr
      cases sg
      case false =>
        have HX := bx (HE.out.skip HD.out)
        go_wp2_with fail
        refine HSG.out.mono ?_
        rintro e w1 ⟨rfl, rfl⟩
        go_wp2
        go_roundw
        case rel => exact ⟨k + 1, z, by omega, by go_num, rfl, HX, hb⟩
        case measure => simp [intOf]; omega
      case true =>
        by_cases hNk : N = n - k - 22
        · have hNI : ((N : Int) == (n : Int) - (k : Int) - 22) = true := by rw [beq_iff_eq]; omega
          have hEA : endA b k = true := by rw [HD.out, decide_eq_true hNk]; rfl
          by_cases hz0 : 0 ≤ z
          · have HX : Bx (R = -1) := bx (by rw [← HR.out]; exact HE.out.two hz0 hEA (by rw [HN.out]; omega))
            clear hNk hEA
            go_wp2_with fail
            refine HSG.out.mono ?_
            rintro e w1 ⟨rfl, rfl⟩
            go_wp2_with fail
            refine HNM.out.mono ?_
            rintro e w2 ⟨rfl, hb2⟩
            go_wp2
            go_ret
            exact ⟨ret_v (by rw [HX.out]; rfl), hb.trans (hb2.mono hsz)⟩
          · have HX := bx (HE.out.hit (by omega) hEA)
            clear hNk hEA
            go_wp2_with fail
            refine HSG.out.mono ?_
            rintro e w1 ⟨rfl, rfl⟩
            go_wp2_with fail
            refine HNM.out.mono ?_
            rintro e w2 ⟨rfl, hb2⟩
            go_wp2
            go_roundw
            case rel => exact ⟨k + 1, _, by omega, by go_num, rfl, HX, hb.trans (hb2.mono hsz)⟩
            case measure => simp [intOf]; omega
        · have hNI : ((N : Int) == (n : Int) - (k : Int) - 22) = false := by rw [beq_eq_false_iff_ne]; omega
          have HX := bx (HE.out.skip (by rw [HD.out, decide_eq_false hNk]; rfl))
          clear hNk
          go_wp2_with fail
          refine HSG.out.mono ?_
          rintro e w1 ⟨rfl, rfl⟩
          go_wp2_with fail
          refine HNM.out.mono ?_
          rintro e w2 ⟨rfl, hb2⟩
          go_wp2
          go_roundw
          case rel => exact ⟨k + 1, z, by omega, by go_num, rfl, HX, hb.trans (hb2.mono hsz)⟩
          case measure => simp [intOf]; omega
    · have HX : Bx (R = z) := bx (by
        have hkn : k = b.length - 21 := by rw [HN.out]; omega
        rw [← HR.out]
        exact (EndSt.fin (by rw [← hkn]; exact HE.out)).symm)
      have hkI : ¬ (k : Int) + 22 ≤ (n : Int) := by omega
      go_wp2
      go_ret
      exact ⟨ret_v (by rw [HX.out]; rfl), hb⟩
end Go.Proofs.YtokojichjliieaaDoor
