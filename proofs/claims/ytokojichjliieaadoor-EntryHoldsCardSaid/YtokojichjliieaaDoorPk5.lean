/- Contracts: samovarref09.num, sign, End. Plain parts of archive.Directory: how many end records, the rounds. Contract: slices.SortFunc over the found records, by their heads. Contract: archive.Directory. Contract: samovarref09.Name. Three rows of the call's own, each in a block of its own. Nothing here speaks of the program. Contract: samovarref09.central. Contract: samovarref09.local. -/
import Derived.Test.YtokojichjliieaaDoorPk4
import Derived.Test.YtokojichjliieaaDoorPk3
import Derived.Test.YtokojichjliieaaDoorSrt
import Derived.Test.YtokojichjliieaaDoorShelf
import Derived.Shelf.SlSortCmp.NoneTotal
import Derived.Test.YtokojichjliieaaDoorPk1
import Derived.Deep.DeepCutAuto
import Derived.Deep.RegionHeld3
namespace Go.Proofs.YtokojichjliieaaDoor
open Go.RowKit

theorem num64_leN {s : List UInt8} (h : s.length ≤ 4) : num64 s.reverse = (leN s : Int) := by
  have hlt : leN s < 256 ^ 4 := leN_lt_of _ h
  have p4 : (256 : Nat) ^ 4 = 4294967296 := by decide
  rw [num64_eq, beN_eq, List.reverse_reverse]
  exact IntWalk.wrap64_in _ ⟨by omega, by rw [p4] at hlt; omega⟩
set_option maxHeartbeats 1000000 in
theorem rnum_ok (A : Option Addr) (n c p k : Nat) (b : List UInt8) (w : World) (hn : b.length = n) (hnc : n ≤ c) (hc : (c : Int) ≤ 9223372036854775807) (h1 : 1 ≤ k) (h2 : k ≤ 4) (hp : p + k ≤ n) (hr : RB w w.heap.size A b) :
    Calls Tryd.prog 35 #[.slice A n c, .int .i64 (p : Int), .int .i64 (k : Int)] w fun e w' => e = .returned (.int .i64 (numA b p k : Int)) ∧ Below w.heap.size w w' := by
  have hlk := refLittle_ok A c p k w b n hn (by omega) hc h1 (by omega) (by omega) hr
  have e : num64 ((b.drop p).take k).reverse = (numA b p k : Int) := num64_leN (by simp; omega)
  rw [e] at hlk
  have HK := bx hlk
  clear hlk e hn hr
  go_enter Tryd.func35, Tryd.ntmps35
  go_wp2_with fail
  refine HK.out.mono ?_
  rintro e w1 ⟨rfl, hb⟩
  go_wp2
  go_ret
  exact ⟨rfl, hb⟩
theorem signA_get {b : List UInt8} {p : Nat} {x y a0 a1 a2 a3 : UInt8} (h0 : b[p]? = some a0) (h1 : b[p + 1]? = some a1) (h2 : b[p + 2]? = some a2) (h3 : b[p + 3]? = some a3) : signA b p x y = decide (a0 = 80 ∧ a1 = 75 ∧ a2 = x ∧ a3 = y) := by
  unfold signA
  simp only [List.getD_eq_getElem?_getD, h0, h1, h2, h3, Option.getD_some]
theorem u8_beq (a x : UInt8) {z : Int} (hz : z = (x.toNat : Int)) : ((a.toNat : Int) == z) = decide (a = x) := by
  subst hz
  by_cases h : a = x
  · subst h; simp
  · rw [decide_eq_false h, beq_eq_false_iff_ne]; exact fun e => h (UInt8.toNat_inj.1 (by omega))
set_option maxHeartbeats 2000000 in
theorem rsign_ok (A : Option Addr) (n c p : Nat) (b : List UInt8) (x y : UInt8) (xi yi : Int) (w : World) (hx : xi = (x.toNat : Int)) (hy : yi = (y.toNat : Int)) (hn : b.length = n) (hz : n ≤ 1000000000) (hp : p + 4 ≤ n) (hr : RB w w.heap.size A b) :
    Calls Tryd.prog 40 #[.slice A n c, .int .i64 (p : Int), .int .u8 xi, .int .u8 yi] w fun e w' => e = .returned (.bool (signA b p x y)) ∧ w' = w := by
  obtain ⟨ad, a0, rfl, hb0, hx0, c0⟩ := hr.byte (k := p) (by omega)
  obtain ⟨ad1, a1, hA1, hb1, hx1, c1⟩ := hr.byte (k := p + 1) (by omega)
  injection hA1 with hA1; subst hA1
  obtain ⟨ad2, a2, hA2, hb2, hx2, c2⟩ := hr.byte (k := p + 2) (by omega)
  injection hA2 with hA2; subst hA2
  obtain ⟨ad3, a3, hA3, hb3, hx3, c3⟩ := hr.byte (k := p + 3) (by omega)
  injection hA3 with hA3; subst hA3
  rw [signA_get hx0.out hx1.out hx2.out hx3.out]
  have t0 := u8_beq a0 80 (z := 80) rfl
  have t1 := u8_beq a1 75 (z := 75) rfl
  have t2 := u8_beq a2 x hx
  have t3 := u8_beq a3 y hy
  rw [show ad.add (p + 1) = ⟨ad.block, ad.off + (p + 1), none⟩ from add_pos ad p] at c1
  rw [show ad.add (p + 2) = ⟨ad.block, ad.off + (p + 2), none⟩ from add_pos ad (p + 1)] at c2
  rw [show ad.add (p + 3) = ⟨ad.block, ad.off + (p + 3), none⟩ from add_pos ad (p + 2)] at c3
  have e1 : ((p : Int) + 1).toNat = p + 1 := by omega
  have e2 : ((p : Int) + 2).toNat = p + 2 := by omega
  have e3 : ((p : Int) + 3).toNat = p + 3 := by omega
  clear hr hx0 hx1 hx2 hx3 hx hy hn
  by_cases h0 : a0 = 80
  · rw [decide_eq_true h0] at t0
    by_cases h1 : a1 = 75
    · rw [decide_eq_true h1] at t1
      by_cases h2 : a2 = x
      · rw [decide_eq_true h2] at t2
        have HD : Bx (decide (a0 = 80 ∧ a1 = 75 ∧ a2 = x ∧ a3 = y) = decide (a3 = y)) := bx (by simp [h0, h1, h2])
        rw [HD.out]
        clear h0 h1 h2 HD
        go_enter Tryd.func40, Tryd.ntmps40
        go_wp2
        go_ret
        exact ⟨ret_v (by rw [← t3]; rfl), rfl⟩
      · rw [decide_eq_false h2] at t2
        have HD : Bx (decide (a0 = 80 ∧ a1 = 75 ∧ a2 = x ∧ a3 = y) = false) := bx (by simp [h2])
        rw [HD.out]
        clear h0 h1 h2 HD
        go_enter Tryd.func40, Tryd.ntmps40
        go_wp2
        go_ret
        exact ⟨rfl, rfl⟩
    · rw [decide_eq_false h1] at t1
      have HD : Bx (decide (a0 = 80 ∧ a1 = 75 ∧ a2 = x ∧ a3 = y) = false) := bx (by simp [h1])
      rw [HD.out]
      clear h0 h1 HD
      go_enter Tryd.func40, Tryd.ntmps40
      go_wp2
      go_ret
      exact ⟨rfl, rfl⟩
  · rw [decide_eq_false h0] at t0
    have HD : Bx (decide (a0 = 80 ∧ a1 = 75 ∧ a2 = x ∧ a3 = y) = false) := bx (by simp [h0])
    rw [HD.out]
    clear h0 HD
    go_enter Tryd.func40, Tryd.ntmps40
    go_wp2
    go_ret
    exact ⟨rfl, rfl⟩
/-! Where the end record stands. -/
theorem range_one (q : Nat) : ∀ n, (List.range n).filter (fun j => decide (j = q)) = if q < n then [q] else [] := by
  intro n
  induction n with
  | zero => rfl
  | succ n ih =>
    rw [List.range_succ, List.filter_append, ih]
    by_cases h : q < n
    · rw [if_pos h, if_pos (by omega)]; simp; omega
    · rw [if_neg h]
      by_cases e : n = q
      · subst e; simp
      · rw [if_neg (by omega)]; simp; omega
theorem endP_one {b : List UInt8} {q : Nat} (h : q < b.length - 21) (hq : endA b q = true) (hu : ∀ j, j < b.length - 21 → endA b j = true → j = q) : endP b = some q := by
  have e : endsA b = [q] := by
    unfold endsA
    rw [List.filter_congr (q := fun j => decide (j = q)) (fun j hj => by
      rw [List.mem_range] at hj
      cases hj2 : endA b j with
      | true => rw [decide_eq_true (hu j hj hj2)]
      | false => rw [decide_eq_false (fun e => by subst e; rw [hq] at hj2; cases hj2)]), range_one, if_pos h]
  unfold endP; rw [e]
theorem endP_none {b : List UInt8} (h : ∀ j, j < b.length - 21 → endA b j = false) : endP b = none := by
  have e : endsA b = [] := by
    unfold endsA
    rw [List.filter_eq_nil_iff]
    intro j hj
    rw [List.mem_range] at hj
    rw [h j hj]; decide
  unfold endP; rw [e]
theorem endP_two {b : List UInt8} {q k : Nat} (hne : q ≠ k) (hq : q < b.length - 21) (hk : k < b.length - 21) (h1 : endA b q = true) (h2 : endA b k = true) : endP b = none := by
  have m1 : q ∈ endsA b := by unfold endsA; rw [List.mem_filter, List.mem_range]; exact ⟨hq, h1⟩
  have m2 : k ∈ endsA b := by unfold endsA; rw [List.mem_filter, List.mem_range]; exact ⟨hk, h2⟩
  unfold endP
  generalize endsA b = l at m1 m2
  match l with
  | [] => rfl
  | [p] => simp at m1 m2; exact absurd (m1.trans m2.symm) hne
  | _ :: _ :: _ => rfl
/-- What was found among the places ahead of k. -/
def EndSt (b : List UInt8) (k : Nat) (v : Int) : Prop := (v = -1 ∧ ∀ j, j < k → endA b j = false) ∨ (∃ q : Nat, q < k ∧ v = (q : Int) ∧ endA b q = true ∧ ∀ j, j < k → endA b j = true → j = q)
def endI (b : List UInt8) : Int := match endP b with
  | none => -1
  | some p => (p : Int)
theorem EndSt.fin {b : List UInt8} {v : Int} (h : EndSt b (b.length - 21) v) : v = endI b := by
  unfold endI
  rcases h with ⟨h1, h2⟩ | ⟨q, h1, h2, h3, h4⟩
  · rw [endP_none h2]; exact h1
  · rw [endP_one h1 h3 h4]; exact h2
theorem EndSt.skip {b : List UInt8} {k : Nat} {v : Int} (h : EndSt b k v) (hk : endA b k = false) : EndSt b (k + 1) v := by
  rcases h with ⟨h1, h2⟩ | ⟨q, h1, h2, h3, h4⟩
  · exact .inl ⟨h1, fun j hj => by
      by_cases e : j = k
      · subst e; exact hk
      · exact h2 j (by omega)⟩
  · exact .inr ⟨q, by omega, h2, h3, fun j hj hj2 => by
      by_cases e : j = k
      · subst e; rw [hk] at hj2; cases hj2
      · exact h4 j (by omega) hj2⟩
theorem EndSt.hit {b : List UInt8} {k : Nat} {v : Int} (h : EndSt b k v) (hv : v < 0) (hk : endA b k = true) : EndSt b (k + 1) (k : Int) := by
  rcases h with ⟨h1, h2⟩ | ⟨q, h1, h2, h3, h4⟩
  · exact .inr ⟨k, by omega, rfl, hk, fun j hj hj2 => by
      by_cases e : j = k
      · exact e
      · rw [h2 j (by omega)] at hj2; cases hj2⟩
  · omega
theorem EndSt.two {b : List UInt8} {k : Nat} {v : Int} (h : EndSt b k v) (hv : 0 ≤ v) (hk : endA b k = true) (hl : k < b.length - 21) : endI b = -1 := by
  rcases h with ⟨h1, h2⟩ | ⟨q, h1, h2, h3, h4⟩
  · omega
  · unfold endI; rw [endP_two (q := q) (k := k) (by omega) (by omega) hl h3 hk]
set_option maxHeartbeats 2000000 in
theorem rend_any (A : Option Addr) (n c : Nat) (b : List UInt8) (w : World) (hn : b.length = n) (hz : n ≤ 1000000000) (hnc : n ≤ c) (hc : (c : Int) ≤ 9223372036854775807) (hr : RB w w.heap.size A b) :
    Calls Tryd.prog 19 #[.slice A n c] w fun e w' => e = .returned (.int .i64 (endI b)) ∧ Below w.heap.size w w' := by
  have HN := bx hn
  obtain ⟨R, hR⟩ : ∃ R, endI b = R := ⟨_, rfl⟩
  rw [hR]
  have HR := bx hR
  clear hn hR
  go_enter Tryd.func19, Tryd.ntmps19
  go_wp2
  go_loopw [3, 4] (fun v i wr => ∃ (k : Nat) (z : Int), k ≤ n - 21 ∧ i = .int .i64 (k : Int) ∧ v = .int .i64 z ∧ Bx (EndSt b k z) ∧ Below w.heap.size w wr) (fun _ i _ => n - (intOf i).toNat)
  case atStart => exact ⟨0, -1, by omega, rfl, rfl, bx (.inl ⟨rfl, fun j hj => absurd hj (by omega)⟩), Below.refl _ _⟩
  case round =>
    obtain ⟨k, z, hk, rfl, rfl, HE, hb⟩ := hrel
    have hsz := hb.size
    by_cases hk0 : k + 22 ≤ n
    · have hkI : (k : Int) + 22 ≤ (n : Int) := by omega
      have hrr : RB wr wr.heap.size A b := (RL.below hr hb (Nat.le_refl _)).more hsz
      have hsg := rsign_ok A n c k b 5 6 5 6 wr rfl rfl HN.out hz (by omega) hrr
      have hnm := rnum_ok A n c (k + 20) 2 b wr HN.out hnc hc (by omega) (by omega) (by omega) hrr
      rw [show ((k + 20 : Nat) : Int) = (k : Int) + 20 by omega] at hnm
      obtain ⟨sg, hs⟩ : ∃ sg, signA b k 5 6 = sg := ⟨_, rfl⟩
      obtain ⟨N, hN⟩ : ∃ N, numA b (k + 20) 2 = N := ⟨_, rfl⟩
      rw [hs] at hsg
      rw [hN] at hnm
      have HD : Bx (endA b k = (sg && decide (N = n - k - 22))) := bx (by unfold endA; rw [hs, hN, HN.out])
      have HSG := bx hsg
      have HNM := bx hnm
      clear hsg hnm hs hN hrr hr
      cases sg
      case false =>
        have HX := bx (HE.out.skip HD.out)
        go_wp2_with fail
        refine HSG.out.mono ?_
        rintro e w1 ⟨rfl, rfl⟩
        go_wp2
        go_roundw
        case rel => exact ⟨k + 1, z, by omega, by go_num, rfl, HX, hb⟩
        case measure => simp [intOf]; omega
      case true =>
        by_cases hNk : N = n - k - 22
        · have hNI : ((N : Int) == (n : Int) - (k : Int) - 22) = true := by rw [beq_iff_eq]; omega
          have hEA : endA b k = true := by rw [HD.out, decide_eq_true hNk]; rfl
          by_cases hz0 : 0 ≤ z
          · have HX : Bx (R = -1) := bx (by rw [← HR.out]; exact HE.out.two hz0 hEA (by rw [HN.out]; omega))
            clear hNk hEA
            go_wp2_with fail
            refine HSG.out.mono ?_
            rintro e w1 ⟨rfl, rfl⟩
            go_wp2_with fail
            refine HNM.out.mono ?_
            rintro e w2 ⟨rfl, hb2⟩
            go_wp2
            go_ret
            exact ⟨ret_v (by rw [HX.out]; rfl), hb.trans (hb2.mono hsz)⟩
          · have HX := bx (HE.out.hit (by omega) hEA)
            clear hNk hEA
            go_wp2_with fail
            refine HSG.out.mono ?_
            rintro e w1 ⟨rfl, rfl⟩
            go_wp2_with fail
            refine HNM.out.mono ?_
            rintro e w2 ⟨rfl, hb2⟩
            go_wp2
            go_roundw
            case rel => exact ⟨k + 1, _, by omega, by go_num, rfl, HX, hb.trans (hb2.mono hsz)⟩
            case measure => simp [intOf]; omega
        · have hNI : ((N : Int) == (n : Int) - (k : Int) - 22) = false := by rw [beq_eq_false_iff_ne]; omega
          have HX := bx (HE.out.skip (by rw [HD.out, decide_eq_false hNk]; rfl))
          clear hNk
          go_wp2_with fail
          refine HSG.out.mono ?_
          rintro e w1 ⟨rfl, rfl⟩
          go_wp2_with fail
          refine HNM.out.mono ?_
          rintro e w2 ⟨rfl, hb2⟩
          go_wp2
          go_roundw
          case rel => exact ⟨k + 1, z, by omega, by go_num, rfl, HX, hb.trans (hb2.mono hsz)⟩
          case measure => simp [intOf]; omega
    · have HX : Bx (R = z) := bx (by
        have hkn : k = b.length - 21 := by rw [HN.out]; omega
        rw [← HR.out]
        exact (EndSt.fin (by rw [← hkn]; exact HE.out)).symm)
      have hkI : ¬ (k : Int) + 22 ≤ (n : Int) := by omega
      go_wp2
      go_ret
      exact ⟨ret_v (by rw [HX.out]; rfl), hb⟩
end Go.Proofs.YtokojichjliieaaDoor
namespace Go.Proofs.YtokojichjliieaaDoor
open Go.RowKit
/-- What was found among the places ahead of k: the last one, how many. -/
def EndC (b : List UInt8) (k p e : Nat) : Prop := e ≤ k ∧ ((e = 0 ∧ p = 0 ∧ ∀ j, j < k → endA b j = false) ∨ (e = 1 ∧ p < k ∧ endA b p = true ∧ ∀ j, j < k → endA b j = true → j = p) ∨ (2 ≤ e ∧ ∃ q r, q ≠ r ∧ q < k ∧ r < k ∧ endA b q = true ∧ endA b r = true))
theorem EndC.start (b : List UInt8) : EndC b 0 0 0 := ⟨Nat.le_refl _, .inl ⟨rfl, rfl, fun j hj => absurd hj (by omega)⟩⟩
theorem EndC.skip {b : List UInt8} {k p e : Nat} (h : EndC b k p e) (hk : endA b k = false) : EndC b (k + 1) p e := by
  obtain ⟨h0, h⟩ := h
  refine ⟨by omega, ?_⟩
  rcases h with ⟨h1, h2, h3⟩ | ⟨h1, h2, h3, h4⟩ | ⟨h1, q, r, h2, h3, h4, h5⟩
  · exact .inl ⟨h1, h2, fun j hj => by
      by_cases e : j = k
      · subst e; exact hk
      · exact h3 j (by omega)⟩
  · exact .inr (.inl ⟨h1, by omega, h3, fun j hj hj2 => by
      by_cases e : j = k
      · subst e; rw [hk] at hj2; cases hj2
      · exact h4 j (by omega) hj2⟩)
  · exact .inr (.inr ⟨h1, q, r, h2, by omega, by omega, h5⟩)
theorem EndC.hit {b : List UInt8} {k p e : Nat} (h : EndC b k p e) (hk : endA b k = true) : EndC b (k + 1) k (e + 1) := by
  obtain ⟨h0, h⟩ := h
  refine ⟨by omega, ?_⟩
  rcases h with ⟨h1, h2, h3⟩ | ⟨h1, h2, h3, h4⟩ | ⟨h1, q, r, h2, h3, h4, h5⟩
  · exact .inr (.inl ⟨by omega, by omega, hk, fun j hj hj2 => by
      by_cases e : j = k
      · exact e
      · rw [h3 j (by omega)] at hj2; cases hj2⟩)
  · exact .inr (.inr ⟨by omega, p, k, by omega, by omega, by omega, h3, hk⟩)
  · exact .inr (.inr ⟨by omega, q, r, h2, by omega, by omega, h5⟩)
theorem EndC.none {b : List UInt8} {p e : Nat} (h : EndC b (b.length - 21) p e) (he : e ≠ 1) : endP b = none := by
  obtain ⟨_, ⟨h1, h2, h3⟩ | ⟨h1, _⟩ | ⟨h1, q, r, h2, h3, h4, h5, h6⟩⟩ := h
  · exact endP_none h3
  · exact absurd h1 he
  · exact endP_two h2 h3 h4 h5 h6
theorem EndC.some {b : List UInt8} {p e : Nat} (h : EndC b (b.length - 21) p e) (he : e = 1) : endP b = some p := by
  obtain ⟨_, ⟨h1, h2, h3⟩ | ⟨h1, h2, h3, h4⟩ | ⟨h1, _⟩⟩ := h
  · omega
  · exact endP_one h2 h3 h4
  · omega
/-- What comes behind the records; behind the locals. -/
def dirK (b : List UInt8) (dir p : Nat) (x : List (Rec × Nat) × Nat) : Rz (List (Rec × Nat)) := if x.2 ≠ p then .err 11 else match localsA b dir x.1 with
  | none => .err 15
  | some l => if anyOver l = true then .err 16 else .ok l
theorem bookA_dirK (b : List UInt8) (dir p n : Nat) : bookA b dir p n = (centA b p n dir []).bind (dirK b dir p) := rfl
theorem cent_err {b : List UInt8} {p n at_ : Nat} {acc : List (Rec × Nat)} {k : Int} {K : List (Rec × Nat) × Nat → Rz (List (Rec × Nat))} (h : recA b at_ p (acc.map (·.1.name)) = .err k) : (centA b p (n + 1) at_ acc).bind K = .err k := by
  rw [centA, h]; rfl
theorem cent_ok {b : List UInt8} {p n at_ : Nat} {acc : List (Rec × Nat)} {x : Rec × Nat} {K : List (Rec × Nat) × Nat → Rz (List (Rec × Nat))} (h : recA b at_ p (acc.map (·.1.name)) = .ok x) : (centA b p (n + 1) at_ acc).bind K = (centA b p n x.2 (acc ++ [(x.1, at_)])).bind K := by
  rw [centA, h]; rfl
def locK (l : List (Rec × Nat)) : Rz (List (Rec × Nat)) := if anyOver l = true then .err 16 else .ok l
/-- The locals of what is left, behind those that are done. -/
def locR (b : List UInt8) (dir : Nat) (done rest : List (Rec × Nat)) : Rz (List (Rec × Nat)) := match localsA b dir rest with
  | none => .err 15
  | some r => locK (done ++ r)
theorem dirK_loc {b : List UInt8} {dir p : Nat} {l : List (Rec × Nat)} : dirK b dir p (l, p) = locR b dir [] l := by
  unfold dirK locR locK
  rw [if_neg (by simp)]
  cases localsA b dir l <;> rfl
theorem locR_bad {b : List UInt8} {dir : Nat} {done rest : List (Rec × Nat)} {x : Rec × Nat} (h : localA b dir x = none) : locR b dir done (x :: rest) = .err 15 := by
  unfold locR localsA; rw [h]
theorem locR_good {b : List UInt8} {dir a : Nat} {done rest : List (Rec × Nat)} {x : Rec × Nat} (h : localA b dir x = some a) : locR b dir done (x :: rest) = locR b dir (done ++ [(x.1, a)]) rest := by
  unfold locR
  rw [localsA, h]
  cases localsA b dir rest with
  | none => rfl
  | some r => simp
theorem locR_nil {b : List UInt8} {dir : Nat} {done : List (Rec × Nat)} : locR b dir done [] = locK done := by
  unfold locR; rw [localsA]; simp
end Go.Proofs.YtokojichjliieaaDoor
namespace Go.Proofs.YtokojichjliieaaDoor
open Go.RowKit Go.Shelf Go.Lib Go.Sort
def cmpF (x y : Ent) : Int := Lib.compareInt (x.1.head : Int) (y.1.head : Int)
theorem ltHead (x y : Ent) : ltOf cmpF x y = decide (x.1.head < y.1.head) := by
  unfold ltOf cmpF Lib.compareInt
  by_cases h1 : x.1.head < y.1.head
  · have : (x.1.head : Int) < (y.1.head : Int) := by omega
    simp [h1, this]
  · have h1' : ¬ (x.1.head : Int) < (y.1.head : Int) := by omega
    by_cases h2 : (y.1.head : Int) < (x.1.head : Int) <;> simp [h1, h1', h2]
theorem swoHead : SWO (ltOf cmpF) where
  irrefl x := by rw [ltHead]; simp
  trans x y z h1 h2 := by rw [ltHead] at *; simp at *; omega
  ntrans x y z h1 h2 := by rw [ltHead] at *; simp at *; omega
set_option maxHeartbeats 1000000 in
theorem cmp_closure (x y : Ent) (W : World) : Calls Tryd.prog 33 #[.agg (fndC x.1 x.2.1 x.2.2), .agg (fndC y.1 y.2.1 y.2.2)] W fun e w' => e = .returned (.int .i64 (cmpF x y)) ∧ ∃ q os', w' = grow (W.drewN q) os' := by
  obtain ⟨⟨n1, m1, p1, s1, u1, h1⟩, a1, q1⟩ := x
  obtain ⟨⟨n2, m2, p2, s2, u2, h2⟩, a2, q2⟩ := y
  have hcon := fun W' => Tryd.cmp_Compare_int (h1 : Int) (h2 : Int) W'
  unfold cmpF
  dsimp only
  generalize Lib.compareInt (h1 : Int) (h2 : Int) = r at hcon ⊢
  unfold fndC
  dsimp only
  go_enter Tryd.func33, Tryd.ntmps33
  go_wp2_with (go_at_call 34; refine (hcon _).mono ?_; rintro e w' ⟨rfl, rfl⟩)
  go_ret
  exact ⟨rfl, 0, _, by rw [alloc_eq_grow, alloc_eq_grow, grow_grow]; rfl⟩
/-- What the sort leaves. -/
def Sorted (s : List Ent) : Prop := s.Pairwise (fun x y => x.1.head ≤ y.1.head)
theorem get!_of {α : Type} [Inhabited α] (l : List α) (i : Nat) (h : i < l.length) : l.toArray[i]! = l[i] := by
  rw [getElem!_pos l.toArray i (by simpa using h)]; simp
instance : Inhabited Ent := ⟨(⟨[], 0, 0, 0, 0, 0⟩, 0, 0)⟩
theorem holds_of_ows {w : World} {base gl n c : Nat} {l : List Ent} (h : OwS fndL 8 w base 57 (.slice (some ⟨gl, 0, none⟩) n c) l) : HoldsK fndL 8 w gl 0 l.toArray := by
  intro j hj
  have hj' : j < l.length * 8 := by simpa using hj
  have hq : j / 8 < l.length := by omega
  refine ⟨?_, by rw [Nat.zero_add]; exact h.frz j⟩
  rw [get_flatK _ _ _ _ (by simpa using hj'), get!_of l _ hq]
  have hu : (fndL l[j / 8])[j % 8]? = some ((fndL l[j / 8])[j % 8]!) := by
    have hl : j % 8 < (fndL l[j / 8]).length := by rw [fndCels.len]; omega
    rw [getElem!_pos (fndL l[j / 8]) (j % 8) hl, List.getElem?_eq_getElem hl]
  have := h.cell fndCels (k := j / 8) (j := j % 8) (List.getElem?_eq_getElem hq) hu
  rw [show j / 8 * 8 + j % 8 = 0 + j by omega] at this
  exact this
/-- The sorted row's cells. -/
def RowOf (w : World) (gl : Nat) (s : List Ent) : Prop := ∀ k j x u, s[k]? = some x → (fndL x)[j]? = some u → w.cell? ⟨gl, k * 8 + j, none⟩ = some u
theorem rowOf_holds {w : World} {gl : Nat} {d : Array Ent} (h : HoldsK fndL 8 w gl 0 d) : RowOf w gl d.toList := by
  intro k j x u hx hu
  have hk : k < d.size := by simpa using (List.getElem?_eq_some_iff.1 hx).1
  have hj : j < 8 := by rw [← fndCels.len x]; exact (List.getElem?_eq_some_iff.1 hu).1
  have := (h (k * 8 + j) (by simp; omega)).1
  rw [get_flatK _ _ _ _ (by omega), show (k * 8 + j) / 8 = k by omega, show (k * 8 + j) % 8 = j by omega, Nat.zero_add] at this
  rw [this]
  have hx' : d[k]! = x := by
    rw [getElem!_pos d k hk]
    rw [List.getElem?_eq_getElem (by simpa using hk)] at hx
    simpa using hx
  rw [hx', getElem!_pos (fndL x) j (List.getElem?_eq_some_iff.1 hu).1]
  rw [List.getElem?_eq_getElem (List.getElem?_eq_some_iff.1 hu).1] at hu
  exact hu
theorem sorted_of {d : Array Ent} {n : Nat} (hn : d.size = n) (h : SortedIn (ltOf cmpF) 0 n d) : Sorted d.toList := by
  unfold Sorted
  rw [List.pairwise_iff_getElem]
  intro i j hi hj hij
  have := h i j (Nat.zero_le _) hij (by rw [← hn]; simpa using hj)
  rw [ltHead, getElem!_pos d i (by simpa using hi), getElem!_pos d j (by simpa using hj)] at this
  simp at this
  simpa using this
theorem perm_of {d : Array Ent} {l : List Ent} (h : PermIn 0 l.toArray.size l.toArray d) : d.toList.Perm l := by
  obtain ⟨h1, _, h3⟩ := h
  have e1 : d.extract 0 l.toArray.size = d := by
    have := h1.symm; simp at this
    rw [← h1]; simp
  rw [e1] at h3
  simpa using h3
theorem sort_any (gl n c base : Nat) (l : List Ent) (w : World) (hl : OwS fndL 8 w base 57 (.slice (some ⟨gl, 0, none⟩) n c) l) (hn : l.length = n) (hz : n ≤ 100000) :
    Calls Tryd.prog 32 #[.slice (some ⟨gl, 0, none⟩) n c, .func (.func 33) #[] #[]] w fun e w' =>
      e = .returned (.tuple #[]) ∧ w.grownBy w' (some gl) ∧ ∃ s : List Ent, s.Perm l ∧ Sorted s ∧ RowOf w' gl s := by
  have hblk := (hl.blk rfl).2
  have hH := holds_of_ows hl
  have eg : ∀ args w, (callFunc 33 args).run Tryd.prog w = .ok (.enter 33 args) w := enters_of Tryd.func33 (by kernel_rfl) rfl
  have hcmp : CmpLays Tryd.prog 33 #[] fndL 8 cmpF gl 0 l.toArray.size w := fun _ _ _ _ x y => cmp_closure x y _
  have hcon := AnyQ.slices_SortFunc Tryd.sortFound 8 Tryd.isAgg57 Tryd.sizeOf57 fndL fndCels.len fndCels.one cmpF swoHead 33 #[] gl 0 c l.toArray w eg hcmp hH hblk (by simp; omega)
  change Calls Tryd.prog 32 _ _ _ at hcon
  rw [show l.toArray.size = n by simpa using hn] at hcon
  refine hcon.mono ?_
  rintro e w' ⟨rfl, d, q, os, hp, hs, rfl⟩
  have hsz : d.size = n := by rw [hp.1]; simpa using hn
  refine ⟨rfl, ?_, d.toList, perm_of (by rw [show l.toArray.size = n by simpa using hn]; exact hp), sorted_of hsz hs, rowOf_holds (holdsK_sortWorldK_c fndL 8 w gl 0 l.toArray d q os hH hblk (by rw [hsz]; simp [hn]))⟩
  refine ⟨rfl, rfl, rfl, size_sortWorldK_c fndL 8 w gl 0 q d os, fun k hk hne => ?_⟩
  have hne' : ¬ gl = k := fun e => hne (by rw [e])
  unfold sortWorldK putRowK putRow
  rw [heap_grow_old _ os (by simpa [mapBlock, Sort.ahead] using hk)]
  simp [mapBlock, Sort.ahead, Array.getElem?_modify, hne']
theorem sort_both (A : Option Addr) (n c base : Nat) (l : List Ent) (w : World) (hl : OwS fndL 8 w base 57 (.slice A n c) l) (hn : l.length = n) (hz : n ≤ 100000) :
    Calls Tryd.prog 32 #[.slice A n c, .func (.func 33) #[] #[]] w fun e w' =>
      e = .returned (.tuple #[]) ∧ Below base w w' ∧ (∃ row : Option Nat, w.grownBy w' row ∧ ∀ g, row = some g → A = some ⟨g, 0, none⟩) ∧ ∃ s : List Ent, s.Perm l ∧ Sorted s ∧ ∀ gl, A = some ⟨gl, 0, none⟩ → RowOf w' gl s := by
  rcases Nat.eq_zero_or_pos n with h0 | h0
  · subst h0
    have hl0 : l = [] := List.eq_nil_of_length_eq_zero hn
    subst hl0
    have hcon := AnyF.slices_SortFunc_none Tryd.sortFound A c (.func (.func 33) #[] #[]) w
    change Calls Tryd.prog 32 _ _ _ at hcon
    refine hcon.mono ?_
    rintro e w' ⟨rfl, rfl⟩
    exact ⟨rfl, RowKit.Below.refl _ _, ⟨none, gb_below (RowKit.Below.refl _ _) _, fun _ h => by cases h⟩, [], List.Perm.refl _, List.Pairwise.nil, fun _ _ _ _ _ _ h => by simp at h⟩
  · obtain ⟨gl, cc, hv, hb, _⟩ := hl.form (by omega)
    injection hv with hv1 hv2 hv3
    subst hv1
    refine (sort_any gl n c base l w hl hn hz).mono ?_
    rintro e w' ⟨rfl, hg, s, hp, hs, hr⟩
    exact ⟨rfl, gb_low hg hb (hl.blk rfl).2, ⟨some gl, hg, fun g h => by injection h with h; rw [h]⟩, s, hp, hs, fun q hq => by injection hq with hq; injection hq with hq; subst hq; exact hr⟩
end Go.Proofs.YtokojichjliieaaDoor
namespace Go.Proofs.YtokojichjliieaaDoor
open Go.RowKit
/-- A record as the directory gives it: seven cells. -/
def recL (x : Rec × Nat) : List Value := [strV x.1.name, .int .i64 x.1.method, .int .i64 x.1.packed, .int .i64 x.1.size, .int .i64 x.1.sum, .int .i64 x.2, .int .i64 x.1.head]
theorem recCels : Cels recL 7 := ⟨fun _ => rfl, fun x u hu => by
  simp only [recL, List.mem_cons, List.not_mem_nil, or_false] at hu
  rcases hu with rfl | rfl | rfl | rfl | rfl | rfl | rfl <;> rfl, by omega⟩
def DirPost (R : Rz (List (Rec × Nat))) (w : World) (e : Ending) (w' : World) : Prop := Below w.heap.size w w' ∧ match R with
  | .err k => e = .returned (.tuple #[.slice none 0 0, .int .i64 k])
  | .ok l => ∃ v, e = .returned (.tuple #[v, .int .i64 0]) ∧ OwS recL 7 w' w.heap.size 33 v l
theorem DirPost.bad {R : Rz (List (Rec × Nat))} {w w' : World} {k : Int} (h : R = .err k) (hb : Below w.heap.size w w') : DirPost R w (.returned (.tuple #[.slice none 0 0, .int .i64 k])) w' := by
  subst h; exact ⟨hb, rfl⟩
theorem DirPost.good {R : Rz (List (Rec × Nat))} {w w' : World} {l : List (Rec × Nat)} {v : Value} (h : R = .ok l) (hb : Below w.heap.size w w') (ho : OwS recL 7 w' w.heap.size 33 v l) : DirPost R w (.returned (.tuple #[v, .int .i64 0])) w' := by
  subst h; exact ⟨hb, v, rfl, ho⟩
def ent0 (x : Rec × Nat) : Ent := (x.1, 0, x.2)
theorem fndTy : ETy Tryd.prog 54 57 (.agg z8) 8 72 := ⟨Tryd.underlying54, info_parts (by kernel_rfl), rfl, by decide⟩
theorem recTy : ETy Tryd.prog 24 33 (.agg #[.string ⟨#[]⟩, .int .i64 0, .int .i64 0, .int .i64 0, .int .i64 0, .int .i64 0, .int .i64 0]) 7 64 := ⟨Tryd.underlying24, info_parts (by kernel_rfl), rfl, by decide⟩
theorem recA_err {b : List UInt8} {p border : Nat} {seen : List (List UInt8)} {k : Int} (h : recA b p border seen = .err k) : 11 ≤ k ∧ k ≤ 14 := by
  unfold recA at h
  split at h
  · injection h with h; omega
  split at h
  · injection h with h; omega
  split at h
  · injection h with h; omega
  split at h
  · injection h with h; omega
  split at h
  · injection h with h; omega
  · cases h
theorem recA_sm {b : List UInt8} {p border q : Nat} {seen : List (List UInt8)} {r : Rec} (h : recA b p border seen = .ok (r, q)) : r.head < 4294967296 ∧ r.packed < 4294967296 ∧ r.name.length < 65536 ∧ r.method < 65536 ∧ r.size < 4294967296 ∧ r.sum < 4294967296 := by
  unfold recA at h
  split at h
  · cases h
  split at h
  · cases h
  split at h
  · cases h
  split at h
  · cases h
  split at h
  · cases h
  · injection h with h
    injection h with h1 h2
    subst h1
    refine ⟨numA_4 _ _, numA_4 _ _, ?_, numA_2 _ _, numA_4 _ _, numA_4 _ _⟩
    have := numA_2 b (p + 28)
    simp only [List.length_take]; omega
def doneE (done acc : List (Rec × Nat)) : List Ent := List.zipWith (fun d x => (d.1, ((d.2 : Nat) : Int), x.2)) done acc
theorem doneE_len {done acc : List (Rec × Nat)} {k : Nat} (h : done.length = k) (hk : k ≤ acc.length) : (doneE done acc).length = k := by
  unfold doneE; rw [List.length_zipWith]; omega
theorem list_at {done acc : List (Rec × Nat)} {k : Nat} {x : Rec × Nat} (h : done.length = k) (hx : acc[k]? = some x) : (doneE done acc ++ (acc.drop k).map ent0)[k]? = some (x.1, 0, x.2) := by
  have hk := (List.getElem?_eq_some_iff.1 hx).1
  rw [List.getElem?_append_right (by rw [doneE_len h (by omega)]; exact Nat.le_refl _), doneE_len h (by omega), Nat.sub_self, List.getElem?_map, List.getElem?_drop, Nat.add_zero, hx]
  rfl
theorem zip_more {α β γ : Type} (f : α → β → γ) : ∀ (d : List α) (l : List β) (y : α) (x : β), l[d.length]? = some x → List.zipWith f (d ++ [y]) l = List.zipWith f d l ++ [f y x]
  | [], [], _, _, h => by simp at h
  | [], z :: l, y, x, h => by simp at h; subst h; simp
  | c :: d, [], _, _, h => by simp at h
  | c :: d, z :: l, y, x, h => by simp at h; simp [zip_more f d l y x h]
theorem list_set {done acc : List (Rec × Nat)} {k a : Nat} {x : Rec × Nat} (h : done.length = k) (hx : acc[k]? = some x) :
    (doneE done acc ++ (acc.drop k).map ent0).set k (x.1, ((a : Nat) : Int), x.2) = doneE (done ++ [(x.1, a)]) acc ++ (acc.drop (k + 1)).map ent0 := by
  have hk := (List.getElem?_eq_some_iff.1 hx).1
  have e1 : doneE (done ++ [(x.1, a)]) acc = doneE done acc ++ [(x.1, ((a : Nat) : Int), x.2)] := zip_more _ done acc (x.1, a) x (by rw [h]; exact hx)
  rw [List.set_append_right _ _ (by rw [doneE_len h (by omega)]; exact Nat.le_refl _), doneE_len h (by omega), Nat.sub_self, List.drop_eq_getElem_cons hk, List.map_cons, List.set_cons_zero, e1]
  simp
def DonOk (dir : Nat) (y : Rec × Nat) : Prop := y.1.head < 4294967296 ∧ y.1.packed < 4294967296 ∧ y.1.method < 65536 ∧ y.1.size < 4294967296 ∧ y.1.sum < 4294967296 ∧ y.1.name.length < 65536 ∧ y.1.head + 30 ≤ y.2 ∧ y.2 + y.1.packed ≤ dir
theorem list_len {done acc : List (Rec × Nat)} {k : Nat} (h : done.length = k) (hk : k ≤ acc.length) : (doneE done acc ++ (acc.drop k).map ent0).length = acc.length := by
  rw [List.length_append, doneE_len h hk, List.length_map, List.length_drop]; omega
theorem OwS.low {α : Type} {fC : α → List Value} {sz : Nat} {w : World} {base base' : Nat} {e : TypeId} {v : Value} {l : List α} (h : OwS fC sz w base e v l) (hB : base' ≤ base) : OwS fC sz w base' e v l := by
  refine ⟨h.1, ?_⟩
  rcases h.2 with h0 | ⟨g, cap, cur, hv, hb, r⟩
  · exact .inl h0
  · exact .inr ⟨g, cap, cur, hv, Nat.le_trans hB hb, r⟩
def frE (x : Ent) : Rec × Nat := (x.1, x.2.1.toNat)
theorem doneE_fr : ∀ (done acc : List (Rec × Nat)), done.length ≤ acc.length → (doneE done acc).map frE = done
  | [], _, _ => by simp [doneE]
  | d :: ds, [], h => by simp at h
  | d :: ds, x :: xs, h => by
    have := doneE_fr ds xs (by simpa using h)
    unfold doneE at this ⊢
    rw [List.zipWith_cons_cons, List.map_cons, this]
    rfl
theorem doneE_at : ∀ (done acc : List (Rec × Nat)), ∀ x ∈ doneE done acc, x.2.1 = ((frE x).2 : Int)
  | [], _, x, h => by simp [doneE] at h
  | d :: ds, [], x, h => by simp [doneE] at h
  | d :: ds, y :: ys, x, h => by
    unfold doneE at h
    rw [List.zipWith_cons_cons] at h
    rcases List.mem_cons.1 h with h | h
    · subst h; rfl
    · exact doneE_at ds ys x h
theorem doneE_get {done acc : List (Rec × Nat)} {t : Nat} (h : done.length ≤ acc.length) {d : Rec × Nat} (hd : done[t]? = some d) : ∃ q, (doneE done acc)[t]? = some (d.1, ((d.2 : Nat) : Int), q) := by
  have ht := (List.getElem?_eq_some_iff.1 hd).1
  unfold doneE
  rw [List.getElem?_zipWith, hd, List.getElem?_eq_getElem (by omega)]
  exact ⟨_, rfl⟩
theorem adj_hit : ∀ (s : List (Rec × Nat)) (t : Nat) (x y : Rec × Nat), s[t]? = some x → s[t + 1]? = some y → y.1.head < x.2 + x.1.packed → adjA s = true
  | [], _, _, _, h, _, _ => by simp at h
  | [a], t, x, y, h, h2, _ => by simp at h2
  | a :: b :: r, 0, x, y, h, h2, h3 => by
    simp at h h2
    subst h; subst h2
    rw [adjA, decide_eq_true h3]; rfl
  | a :: b :: r, t + 1, x, y, h, h2, h3 => by
    have := adj_hit (b :: r) t x y (by simpa using h) (by simpa using h2) h3
    rw [adjA, this, Bool.or_true]
theorem adj_none : ∀ (s : List (Rec × Nat)), (∀ t x y, s[t]? = some x → s[t + 1]? = some y → ¬ y.1.head < x.2 + x.1.packed) → adjA s = false
  | [], _ => rfl
  | [a], _ => rfl
  | a :: b :: r, h => by
    have := adj_none (b :: r) (fun t x y hx hy => h (t + 1) x y (by simpa using hx) (by simpa using hy))
    rw [adjA, this, Bool.or_false, decide_eq_false (h 0 a b rfl rfl)]
theorem overE {done acc : List (Rec × Nat)} {dir : Nat} {s : List Ent} (hl : done.length ≤ acc.length) (hp : s.Perm (doneE done acc)) (hs : Sorted s) (hd : ∀ y ∈ done, DonOk dir y) : adjA (s.map frE) = anyOver done := by
  have h1 : (s.map frE).Perm done := by
    have := hp.map frE
    rwa [doneE_fr done acc hl] at this
  refine over_sorted h1 ?_ (fun x hx => by have := (hd x hx).2.2.2.2.2.2.1; omega)
  rw [List.pairwise_map]
  exact hs
def RecSm (x : Rec × Nat) : Prop := x.1.head < 4294967296 ∧ x.1.packed < 4294967296 ∧ x.1.name.length < 65536 ∧ x.1.method < 65536 ∧ x.1.size < 4294967296 ∧ x.1.sum < 4294967296
theorem centA_sm {b : List UInt8} {border : Nat} : ∀ n p acc l q, (∀ x ∈ acc, RecSm x) → centA b border n p acc = .ok (l, q) → ∀ x ∈ l, RecSm x := by
  intro n
  induction n with
  | zero =>
    intro p acc l q hacc h
    rw [centA] at h
    injection h with h
    injection h with h1 h2
    subst h1; exact hacc
  | succ n ih =>
    intro p acc l q hacc h
    rw [centA] at h
    cases hr : recA b p border (acc.map (·.1.name)) with
    | err e => rw [hr] at h; cases h
    | ok x =>
      rw [hr] at h
      exact ih x.2 (acc ++ [(x.1, p)]) l q (fun y hy => by
        rcases List.mem_append.1 hy with h | h
        · exact hacc y h
        · simp at h; subst h; exact recA_sm (q := x.2) hr) h
theorem cent1_err {b : List UInt8} {p n at_ : Nat} {acc : List (Rec × Nat)} {k : Int} (h : recA b at_ p (acc.map (·.1.name)) = .err k) : centA b p (n + 1) at_ acc = .err k := by
  rw [centA, h]; rfl
theorem cent1_ok {b : List UInt8} {p n at_ : Nat} {acc : List (Rec × Nat)} {x : Rec × Nat} (h : recA b at_ p (acc.map (·.1.name)) = .ok x) : centA b p (n + 1) at_ acc = centA b p n x.2 (acc ++ [(x.1, at_)]) := by
  rw [centA, h]; rfl
set_option maxRecDepth 100000 in
set_option maxHeartbeats 16000000 in
theorem dir_any (A : Option Addr) (n c : Nat) (b : List UInt8) (w : World) (mx : Int) (hn : b.length = n) (hzz : n ≤ 140737488351232) (hnc : n ≤ c) (hc : (c : Int) ≤ 9223372036854775807) (hr : RB w w.heap.size A b) (hmx : w.cell? ⟨0, 0, none⟩ = some (.int .i64 mx)) :
    Calls Tryd.prog 13 #[.slice A n c] w (DirPost (dirA b) w) := by
  obtain ⟨R, hR⟩ : ∃ R, dirA b = R := ⟨_, rfl⟩
  rw [hR]
  unfold dirA at hR
  by_cases c1 : 65536 < n
  · rw [if_pos (by rw [hn]; exact c1)] at hR
    have HR := bx hR.symm
    have HB := bx (Below.refl w.heap.size w)
    clear hR hn hr hmx
    go_enter Tryd.func13, Tryd.ntmps13
    go_wp2
    go_ret2
    exact DirPost.bad HR.out HB.out
  have hz : n ≤ 70000 := by omega
  rw [if_neg (by rw [hn]; exact c1)] at hR
  have HN := bx hn
  have HR0 := bx hR
  have HRB := bx hr
  have HMX := bx hmx
  clear hR hn hr hmx
  go_enter Tryd.func13, Tryd.ntmps13
  go_wp2_with fail
  refine (kinds_any w).mono ?_
  rintro e w1 ⟨mk, rfl, hmk, hMk, hb1⟩
  go_wp2_with fail
  obtain ⟨g, hg⟩ : ∃ g, w1.heap.size = g := ⟨_, rfl⟩
  obtain ⟨w2, hw2⟩ : ∃ w2, w1.alloc (.cells #[.slice A n c, .map (some mk)] 50) = w2 := ⟨_, rfl⟩
  have hE2 : Bx (BookE w2 (g + 1) g b) := by
    rw [← hw2, ← hg]
    have hlt := hMk.lt
    refine bx ⟨A, c, mk, 3, Nat.lt_succ_self _, Nat.lt_succ_of_lt hlt, by simp, ?_, ?_, by rw [HN.out]; exact hnc, hMk.alloc _, by rw [HN.out]; omega, hc⟩
    · rw [HN.out]; exact Bk.new _ _ _
    · exact ((HRB.out.below hb1 (Nat.le_refl _)).more hb1.size |>.alloc (Nat.le_refl _) _).more (Nat.le_succ _)
  have hB2 : Bx (Below w.heap.size w w2) := by rw [← hw2]; exact bx (bl_alloc hb1 (Nat.le_refl _) _)
  have hgs : Bx (w2.heap.size = g + 1) := by rw [← hw2, ← hg]; exact bx (by simp)
  have hwg : w.heap.size ≤ g := by rw [← hg]; exact hb1.size
  rw [hg, hw2]
  clear hw2 hg hMk hb1 hmk
  go_wp2_with fail
  go_loopw [5, 6, 7] (fun pv ev iv wr => ∃ k p e : Nat, k ≤ n - 21 ∧ iv = .int .i64 (k : Int) ∧ pv = .int .i64 (p : Int) ∧ ev = .int .i64 (e : Int) ∧ Bx (EndC b k p e) ∧ Bx (Below (g + 1) w2 wr)) (fun _ _ i _ => n - (intOf i).toNat)
  case atStart => exact ⟨0, 0, 0, by omega, rfl, rfl, rfl, bx (EndC.start b), bx (Below.refl _ _)⟩
  case round =>
    obtain ⟨k, p, e, hk, rfl, rfl, rfl, HE, HB⟩ := hrel
    have hek := HE.out.1
    have HEr := bx (hE2.out.below HB.out)
    have hwr : g + 1 ≤ wr.heap.size := by have := HB.out.size; have := hgs.out; omega
    by_cases hk0 : k + 22 ≤ n
    · -- DEV{
      have hkI : (k : Int) ≤ (n : Int) - 22 := by omega
      have hrr : RB wr wr.heap.size A b := ((HRB.out.below hB2.out (Nat.le_refl _)).below HB.out (by omega)).more (by omega)
      obtain ⟨ad, x, hA, _, hx, hcx⟩ := hrr.byte (k := k) (by have := HN.out; omega)
      have hsx : x ≠ 80 → endA b k = false := fun hne => by
        unfold endA signA
        rw [List.getD_eq_getElem?_getD, hx.out]
        simp [hne]
      subst hA
      have hHX := bx hsx
      obtain ⟨sg, hs⟩ : ∃ sg, signA b k 5 6 = sg := ⟨_, rfl⟩
      obtain ⟨N, hN⟩ : ∃ N, numA b (k + 20) 2 = N := ⟨_, rfl⟩
      have HD : Bx (endA b k = (sg && decide (N = n - k - 22))) := bx (by unfold endA; rw [hs, hN, HN.out])
      have his := is_any g b k 22 n 1 5 6 wr HEr.out.d (.inl ⟨rfl, rfl, rfl⟩) (by omega) (by omega) (by have := HN.out; omega) (by omega)
      rw [hs, decide_eq_true hk0, Bool.true_and] at his
      have HIS := bx his
      have HNM := bx (fun w' (hb : Below wr.heap.size wr w') => num_at g b k 20 2 20 2 w' (HEr.out.below (hb.mono hwr)).d rfl rfl (by omega) (by omega) (by have := HN.out; omega) hN)
      clear hsx hs hN his hrr hx
      by_cases hx80 : x = 80
      case neg =>
        have hxI : ((x.toNat : Int) == 80) = false := (u8_beq x 80 (z := 80) rfl).trans (decide_eq_false hx80)
        have HX := bx (HE.out.skip (hHX.out hx80))
        clear hx80
        go_wp2
        go_roundw
        case rel => exact ⟨k + 1, p, e, by omega, by go_num, rfl, rfl, HX, HB⟩
        case measure => simp [intOf]; omega
      have hxI : ((x.toNat : Int) == 80) = true := (u8_beq x 80 (z := 80) rfl).trans (decide_eq_true hx80)
      clear hx80 hHX
      cases sg with
      | false =>
        have HX := bx (HE.out.skip HD.out)
        go_wp2_with fail
        refine HIS.out.mono ?_
        rintro e1 w3 ⟨rfl, hb3⟩
        have HB3 := bx (HB.out.trans (hb3.mono hwr))
        clear hb3
        go_wp2
        go_roundw
        case rel => exact ⟨k + 1, p, e, by omega, by go_num, rfl, rfl, HX, HB3⟩
        case measure => simp [intOf]; omega
      | true =>
      by_cases hNk : N = n - k - 22
      · have hNI : ((N : Int) == (n : Int) - (k : Int) - 22) = true := by rw [beq_iff_eq]; omega
        have HX := bx (HE.out.hit (by rw [HD.out, decide_eq_true hNk]; rfl))
        clear hNk
        go_wp2_with fail
        refine HIS.out.mono ?_
        rintro e1 w3 ⟨rfl, hb3⟩
        have HB3 := bx (HB.out.trans (hb3.mono hwr))
        have HN3 := bx (HNM.out w3 hb3)
        clear hb3
        go_wp2_with fail
        refine HN3.out.mono ?_
        rintro e2 w4 ⟨rfl, rfl⟩
        go_wp2
        go_roundw
        case rel => exact ⟨k + 1, k, e + 1, by omega, by go_num, rfl, by go_num, HX, HB3⟩
        case measure => simp [intOf]; omega
      · have hNI : ((N : Int) == (n : Int) - (k : Int) - 22) = false := by rw [beq_eq_false_iff_ne]; omega
        have HX := bx (HE.out.skip (by rw [HD.out, decide_eq_false hNk]; rfl))
        clear hNk
        go_wp2_with fail
        refine HIS.out.mono ?_
        rintro e1 w3 ⟨rfl, hb3⟩
        have HB3 := bx (HB.out.trans (hb3.mono hwr))
        have HN3 := bx (HNM.out w3 hb3)
        clear hb3
        go_wp2_with fail
        refine HN3.out.mono ?_
        rintro e2 w4 ⟨rfl, rfl⟩
        go_wp2
        go_roundw
        case rel => exact ⟨k + 1, p, e, by omega, by go_num, rfl, rfl, HX, HB3⟩
        case measure => simp [intOf]; omega
      -- DEV}
    have hkI : ¬ (k : Int) ≤ (n : Int) - 22 := by omega
    have hkn : k = b.length - 21 := by rw [HN.out]; omega
    have HC : Bx (EndC b (b.length - 21) p e) := bx (by rw [← hkn]; exact HE.out)
    have hB1 : Bx (Below w.heap.size w wr) := bx (hB2.out.trans (HB.out.mono (by omega)))
    clear hkn HE hk0 hE2 hB2 HB hgs
    by_cases he : e = 1
    case neg => -- DEV{
      have HR := bx (show R = .err 9 from by rw [← HR0.out, HC.out.none he])
      have heI : ((e : Int) != 1) = true := by rw [bne_iff_ne]; omega
      clear he HR0 HC
      go_wp2
      go_ret2
      exact DirPost.bad HR.out hB1.out
      -- DEV}
    have heI : ((e : Int) != 1) = false := by rw [bne_eq_false_iff_eq]; omega
    have hEP := HC.out.some he
    have hpe := (endP_some hEP).1
    have HR := HR0.out
    rw [hEP] at HR
    dsimp only at HR
    rw [HN.out] at hpe
    obtain ⟨d4, hd4⟩ : ∃ d, numA b (p + 4) 4 = d := ⟨_, rfl⟩
    obtain ⟨d10, hd10⟩ : ∃ d, numA b (p + 10) 2 = d := ⟨_, rfl⟩
    obtain ⟨m, hm⟩ : ∃ d, numA b (p + 8) 2 = d := ⟨_, rfl⟩
    obtain ⟨fr, hfr⟩ : ∃ d, numA b (p + 16) 4 = d := ⟨_, rfl⟩
    obtain ⟨sz, hsz⟩ : ∃ d, numA b (p + 12) 4 = d := ⟨_, rfl⟩
    have l1 : m < 65536 := by rw [← hm]; exact numA_2 _ _
    have l2 : fr < 4294967296 := by rw [← hfr]; exact numA_4 _ _
    have l3 : sz < 4294967296 := by rw [← hsz]; exact numA_4 _ _
    rw [hd4, hd10, hm, hfr, hsz] at HR
    have h4 := bx (num_at g b p 4 4 4 4 wr HEr.out.d rfl rfl (by omega) (by omega) (by have := HN.out; omega) hd4)
    have h10 := bx (num_at g b p 10 2 10 2 wr HEr.out.d rfl rfl (by omega) (by omega) (by have := HN.out; omega) hd10)
    have h8 := bx (num_at g b p 8 2 8 2 wr HEr.out.d rfl rfl (by omega) (by omega) (by have := HN.out; omega) hm)
    have h16 := bx (num_at g b p 16 4 16 4 wr HEr.out.d rfl rfl (by omega) (by omega) (by have := HN.out; omega) hfr)
    have h12 := bx (num_at g b p 12 4 12 4 wr HEr.out.d rfl rfl (by omega) (by omega) (by have := HN.out; omega) hsz)
    have HR1 := bx HR
    clear hEP hd4 hd10 hm hfr hsz HR HR0 HC he
    by_cases e4 : d4 = 0
    case neg => -- DEV{
      have HR := bx (show R = .err 10 from by rw [← HR1.out, if_pos (.inl e4)])
      have d4I : ((d4 : Int) != 0) = true := by rw [bne_iff_ne]; omega
      clear e4 HR1
      go_wp2_with fail
      refine h8.out.mono ?_
      rintro e1 wr ⟨rfl, rfl⟩
      go_wp2_with fail
      refine h16.out.mono ?_
      rintro e1 wr ⟨rfl, rfl⟩
      go_wp2_with fail
      refine h4.out.mono ?_
      rintro e1 wr ⟨rfl, rfl⟩
      go_wp2
      go_ret2
      exact DirPost.bad HR.out hB1.out
      -- DEV}
    have d4I : ((d4 : Int) != 0) = false := by rw [bne_eq_false_iff_eq]; omega
    by_cases e10 : d10 = m
    case neg => -- DEV{
      have HR := bx (show R = .err 10 from by rw [← HR1.out, if_pos (.inr (.inl e10))])
      have d10I : ((d10 : Int) != (m : Int)) = true := by rw [bne_iff_ne]; omega
      clear e4 e10 HR1
      go_wp2_with fail
      refine h8.out.mono ?_
      rintro e1 wr ⟨rfl, rfl⟩
      go_wp2_with fail
      refine h16.out.mono ?_
      rintro e1 wr ⟨rfl, rfl⟩
      go_wp2_with fail
      refine h4.out.mono ?_
      rintro e1 wr ⟨rfl, rfl⟩
      go_wp2_with fail
      refine h10.out.mono ?_
      rintro e1 wr ⟨rfl, rfl⟩
      go_wp2
      go_ret2
      exact DirPost.bad HR.out hB1.out
      -- DEV}
    have d10I : ((d10 : Int) != (m : Int)) = false := by rw [bne_eq_false_iff_eq]; omega
    by_cases em : 64 < m
    · -- DEV{
      have HR := bx (show R = .err 10 from by rw [← HR1.out, if_pos (.inr (.inr (.inl em)))])
      have emI : (64 : Int) < (m : Int) := by omega
      clear e4 e10 HR1
      go_wp2_with fail
      refine h8.out.mono ?_
      rintro e1 wr ⟨rfl, rfl⟩
      go_wp2_with fail
      refine h16.out.mono ?_
      rintro e1 wr ⟨rfl, rfl⟩
      go_wp2_with fail
      refine h4.out.mono ?_
      rintro e1 wr ⟨rfl, rfl⟩
      go_wp2_with fail
      refine h10.out.mono ?_
      rintro e1 wr ⟨rfl, rfl⟩
      go_wp2
      go_ret2
      exact DirPost.bad HR.out hB1.out
      -- DEV}
    have emI : ¬ (64 : Int) < (m : Int) := by omega
    by_cases es : fr + sz = p
    case neg => -- DEV{
      have HR := bx (show R = .err 10 from by rw [← HR1.out, if_pos (.inr (.inr (.inr es)))])
      have esI : ((fr : Int) + (sz : Int) != (p : Int)) = true := by rw [bne_iff_ne]; omega
      clear e4 e10 es HR1
      go_wp2_with fail
      refine h8.out.mono ?_
      rintro e1 wr ⟨rfl, rfl⟩
      go_wp2_with fail
      refine h16.out.mono ?_
      rintro e1 wr ⟨rfl, rfl⟩
      go_wp2_with fail
      refine h4.out.mono ?_
      rintro e1 wr ⟨rfl, rfl⟩
      go_wp2_with fail
      refine h10.out.mono ?_
      rintro e1 wr ⟨rfl, rfl⟩
      go_wp2_with fail
      refine h12.out.mono ?_
      rintro e1 wr ⟨rfl, rfl⟩
      go_wp2
      go_ret2
      exact DirPost.bad HR.out hB1.out
      -- DEV}
    have esI : ((fr : Int) + (sz : Int) != (p : Int)) = false := by rw [bne_eq_false_iff_eq]; omega
    have HR := bx (show R = (centA b p m fr []).bind (dirK b fr p) from by rw [← HR1.out, if_neg (by rintro (h | h | h | h); exact h e4; exact h e10; exact em h; exact h es), bookA_dirK])
    clear HR1 e4 e10 es
    go_wp2_with fail
    refine h8.out.mono ?_
    rintro e1 wr ⟨rfl, rfl⟩
    go_wp2_with fail
    refine h16.out.mono ?_
    rintro e1 wr ⟨rfl, rfl⟩
    go_wp2_with fail
    refine h4.out.mono ?_
    rintro e1 wr ⟨rfl, rfl⟩
    go_wp2_with fail
    refine h10.out.mono ?_
    rintro e1 wr ⟨rfl, rfl⟩
    go_wp2_with fail
    refine h12.out.mono ?_
    rintro e1 wa ⟨rfl, rfl⟩
    clear h8 h16 h4 h10 h12
    have hmm := @run_makeMap Tryd.prog
    go_wp2_with fail
    obtain ⟨gm, hgm⟩ : ∃ gm, wa.heap.size = gm := ⟨_, rfl⟩
    have hM0 : Bx (MapT strV (wa.alloc (.map #[] 0)) Tryd.prog 9 gm 0 (seenG [])) := bx ((MapT.madeAt wa _ _ hgm).ext fun q => by unfold seenG; simp)
    have hW0 : Bx (Below gm wa (wa.alloc (.map #[] 0))) := bx (by rw [← hgm]; exact bl_alloc (Below.refl _ _) (Nat.le_refl _) _)
    have hX0 : Bx (wa.cell? ⟨0, 0, none⟩ = some (.int .i64 mx)) := bx ((hB1.out.cell (p := ⟨0, 0, none⟩) (World.block_lt_of_cell? w ⟨0, 0, none⟩ HMX.out)).trans HMX.out)
    have hggm : g < gm := by rw [← hgm]; omega
    have hwgm : w.heap.size ≤ gm := by omega
    have hEm : Bx (BookE wa gm g b) := by
      obtain ⟨A', c', mk', q', a1, a2, a3, a4, a5, r⟩ := HEr.out
      exact bx ⟨A', c', mk', q', hggm, by omega, Nat.le_of_eq hgm.symm, a4, a5.more (by omega), r⟩
    have hGM := bx hgm
    rw [hgm]
    clear hmm hkI heI d4I d10I em emI esI hwr HEr hgm
    go_loopw [10, 12, 103] (fun lv av iv wx => ∃ (i a : Nat) (acc : List (Rec × Nat)), i ≤ m ∧ iv = .int .i64 (i : Int) ∧ av = .int .i64 (a : Int) ∧ a ≤ 9000000000 ∧ Bx (centA b p m fr [] = centA b p (m - i) a acc) ∧ Bx (acc.length = i) ∧ Bx (Below gm wa wx) ∧ Bx (MapT strV wx Tryd.prog 9 gm i (seenG (acc.map (·.1.name)))) ∧ Bx (OwS fndL 8 wx (gm + 1) 57 lv (acc.map ent0))) (fun _ _ i _ => m - (intOf i).toNat)
    case atStart => exact ⟨0, fr, [], by omega, rfl, rfl, by omega, bx rfl, bx rfl, hW0, hM0, bx OwS.nil⟩
    case round =>
      obtain ⟨i, a, acc, hi, rfl, rfl, ha, HC, HL, HW, HM, HO⟩ := hrel
      have hgx : gm < wr.heap.size := HM.out.lt
      have HE := bx (hEm.out.below HW.out)
      have HX := bx ((HW.out.cell (p := ⟨0, 0, none⟩) (by show 0 < gm; omega)).trans hX0.out)
      by_cases him : i < m
      · -- DEV{
        have himI : (i : Int) < (m : Int) := by omega
        have hRec := record_any g gm i b a p (acc.map (·.1.name)) wr mx HE.out.d HM.out HX.out (by omega) (by have := HN.out; omega) (by have := HN.out; omega) ha
        obtain ⟨X, hX⟩ : ∃ X, recA b a p (acc.map (·.1.name)) = X := ⟨_, rfl⟩
        rw [hX] at hRec
        have HREC := bx hRec
        have hmi : m - i = (m - (i + 1)) + 1 := by omega
        have hC := HC.out
        rw [hmi] at hC
        cases X with
        | err k =>
          have hk := recA_err hX
          have HRk := bx (show R = .err k from by rw [HR.out, hC, cent1_err hX]; rfl)
          have hkI : (k != 0) = true := by rw [bne_iff_ne]; omega
          clear hRec hC hX HC hmi
          go_wp2_with fail
          refine HREC.out.mono ?_
          rintro e1 w3 ⟨rfl, hb3⟩
          have HB3 := bx (hB1.out.trans (HW.out.mono (by have := hB1.out.size; omega)) |>.trans (hb3.mono (by have := hB1.out.size; have := HW.out.size; omega)))
          clear hb3
          go_wp2_with (refine wpList_store_row rfl 57 (.tmp 13) (.tmp 111) rfl w3.heap.size z8 rfl rfl 57 z8 (Bk.new _ _ _) (by rw [z8_size]; exact info_found) rfl z8_one ?_)
          go_ret2
          exact DirPost.bad HRk.out (bl_setRow (bl_alloc HB3.out (Nat.le_refl _) _) (by have := HB3.out.size; omega) z8)
        | ok x =>
          obtain ⟨r, q⟩ := x
          have hq := recA_ok hX
          have HC2 := bx (hC.trans (cent1_ok hX))
          clear hRec hC hX HC hmi
          go_wp2_with fail
          refine HREC.out.mono ?_
          rintro e1 w3 ⟨rfl, hg3, hM3⟩
          have HM3 := bx hM3
          have HO3 := bx (HO.out.kept hg3 (by
            cases hv : u10.ownBlock with
            | none => exact .inl rfl
            | some z => exact .inr (fun e => by injection e with e; have := (HO.out.blk hv).1; omega)))
          have HW3 := bx (HW.out.trans (gb_low hg3 (Nat.le_refl _) hgx))
          have hgx3 : gm < w3.heap.size := by have := hg3.size; omega
          clear hg3 hM3 HREC HO HW HM
          dsimp only at HM3
          obtain ⟨y0, y1, y2, y3, y4, y5, y6, y7, hcs⟩ : ∃ y0 y1 y2 y3 y4 y5 y6 y7, fndC r 0 a = #[y0, y1, y2, y3, y4, y5, y6, y7] := ⟨_, _, _, _, _, _, _, _, rfl⟩
          have hc1 := bx (fndC_one r 0 a)
          have HCS : Bx ((#[y0, y1, y2, y3, y4, y5, y6, y7] : Array Value).toList = fndL (ent0 (r, a))) := bx (by rw [← hcs]; rfl)
          rw [hcs] at hc1
          obtain ⟨w4, hw4⟩ : ∃ w4, (w3.alloc (.cells z8 57)).setRow w3.heap.size #[y0, y1, y2, y3, y4, y5, y6, y7] = w4 := ⟨_, rfl⟩
          have hK4 : Bx (Bk w4 w3.heap.size 57 #[y0, y1, y2, y3, y4, y5, y6, y7]) := by rw [← hw4]; exact bx ((Bk.new w3 _ z8).setRow _)
          have hb34 : Below w3.heap.size w3 w4 := by rw [← hw4]; exact bl_setRow (bl_alloc (Below.refl _ _) (Nat.le_refl _) _) (Nat.le_refl _) _
          have HM4 := bx (HM3.out.below hb34 hgx3)
          have HO4 := bx (HO3.out.step hb34)
          have HW4 := bx (HW3.out.trans (hb34.mono (by omega)))
          have hgx4 : gm < w4.heap.size := by have := hb34.size; omega
          have HW4' := bx hw4
          have HN4 : Bx (((acc.map ent0).length + [ent0 (r, a)].length) * 72 ≤ 140737488355328) := bx (by have := HL.out; simp; omega)
          rw [show (r, q).fst = r from rfl, show (r, q).snd = q from rfl, hcs]
          clear hcs hw4 hb34 HM3 HO3 HW3
          go_wp2_with (first
            | (refine wpList_store_row rfl 57 (.tmp 13) (.tmp 111) rfl w3.heap.size #[y0, y1, y2, y3, y4, y5, y6, y7] rfl rfl 57 z8 (Bk.new _ _ _) info_found rfl hc1.out ?_; rw [z8_eq, HW4'.out])
            | (refine wpList_load_row rfl 57 (.tmp 13) rfl w3.heap.size rfl _ #[y0, y1, y2, y3, y4, y5, y6, y7] _ _ hK4.out Tryd.underlying57 rfl info_found ?_)
            | (at_builtin; refine wpList_appS _ fndCels rfl (.tmp 117) (.tmp 119) rfl fndTy (by decide) (gm + 1) u10 (acc.map ent0) rfl (OwS.alloc HO4.out _) _ _ 1 1 [ent0 (r, a)] rfl rfl (RS.new _ _ #[y0, y1, y2, y3, y4, y5, y6, y7] HCS.out _ _) HN4.out (le_alloc0 hgx4 _) ?_; intro v8 w8 own8 _ _ hb8))
          have hb48 := (bl_alloc (Below.refl (gm + 1) w4) hgx4 (.cells #[y0, y1, y2, y3, y4, y5, y6, y7] 57)).trans hb8
          have HM8 := bx (HM4.out.below hb48 (Nat.lt_succ_self gm))
          have HM9 : Bx (MapT strV w8 Tryd.prog 9 gm (i + 1) (seenG ((acc ++ [(r, a)]).map (·.1.name)))) := bx (by rw [List.map_append]; exact HM8.out)
          have HW8 := bx (HW4.out.trans (hb48.mono (Nat.le_succ gm)))
          have HO8 : Bx (OwS fndL 8 w8 (gm + 1) 57 v8 ((acc ++ [(r, a)]).map ent0)) := bx (by rw [List.map_append]; exact own8)
          have HL8 : Bx ((acc ++ [(r, a)]).length = i + 1) := bx (by rw [List.length_append, HL.out]; rfl)
          have hqle : q ≤ 9000000000 := by have := hq.2.1; omega
          clear hb8 hb48 own8 HM8 hq
          go_roundw
          case rel => exact ⟨i + 1, q, acc ++ [(r, a)], by omega, by go_num, rfl, hqle, HC2, HL8, HW8, HM9, HO8⟩
          case measure => simp [intOf]; omega
        -- DEV}
      have himI : ¬ (i : Int) < (m : Int) := by omega
      obtain rfl : i = m := by omega
      have hC := HC.out
      rw [show i - i = 0 by omega, centA] at hC
      have hOk := centA_ok i fr [] acc a (Nat.le_refl _) ⟨by simp, by simp⟩ hC
      have hSm := centA_sm i fr [] acc a (by simp) hC
      have HR2 := bx (show R = dirK b fr p (acc, a) from by rw [HR.out, hC]; rfl)
      have HB3 := bx (hB1.out.trans (HW.out.mono (by have := hB1.out.size; omega)))
      have HB3b := HW
      clear hC HC HR hX0 hM0 hW0
      by_cases hap : a = p
      case neg => -- DEV{
        have HRk := bx (show R = .err 11 from by rw [HR2.out]; unfold dirK; rw [if_pos hap])
        have hapI : ((a : Int) != (p : Int)) = true := by rw [bne_iff_ne]; omega
        clear hOk hSm hap
        go_wp2
        go_ret2
        exact DirPost.bad HRk.out HB3.out
        -- DEV}
      have hapI : ((a : Int) != (p : Int)) = false := by rw [bne_eq_false_iff_eq]; omega
      have HR3 := bx (show R = locR b fr [] acc from by rw [HR2.out, hap, dirK_loc])
      have hfrp : fr ≤ p := by have := hOk.2.2.1; omega
      have HOK := bx hOk.1
      have HSM := bx hSm
      obtain ⟨A3, n3, c3, hv3, hn3, _⟩ : ∃ A3 n3 c3, u10 = .slice A3 n3 c3 ∧ n3 = i ∧ True := by
        obtain ⟨A3, c3, h1, _⟩ := HO.out.rd
        exact ⟨A3, _, c3, h1, by simp [HL.out], trivial⟩
      subst hn3
      subst hv3
      clear hOk hSm hap HR2 HM
      go_wp2_with fail
      obtain ⟨wb, rfl⟩ : ∃ wb, wb = wr := ⟨_, rfl⟩
      have hB0 : Bx (OwS fndL 8 wb (gm + 1) 57 (.slice A3 n3 c3) (doneE [] acc ++ (acc.drop 0).map ent0)) := bx HO.out
      clear HO him hi ha
      go_loopw [128] (fun iv wx => ∃ (j : Nat) (done : List (Rec × Nat)), j ≤ n3 ∧ iv = .int .i64 (j : Int) ∧ Bx (R = locR b fr done (acc.drop j)) ∧ Bx (done.length = j) ∧ Bx (Below gm wb wx) ∧ Bx (OwS fndL 8 wx (gm + 1) 57 (.slice A3 n3 c3) (doneE done acc ++ (acc.drop j).map ent0)) ∧ Bx (∀ y ∈ done, DonOk fr y)) (fun i _ => n3 - (intOf i).toNat)
      case atStart => exact ⟨0, [], by omega, rfl, HR3, bx rfl, bx (Below.refl _ _), hB0, bx (by simp)⟩
      case round =>
        obtain ⟨j, done, hj, rfl, HRj, HLj, HWj, HOj, HTj⟩ := hrel
        by_cases hjn : j < n3
        · -- DEV{
          have hjI : (j : Int) < (n3 : Int) := by omega
          obtain ⟨x, hx⟩ : ∃ x, acc[j]? = some x := ⟨_, List.getElem?_eq_getElem (by rw [HL.out]; exact hjn)⟩
          have hxm : x ∈ acc := List.mem_of_getElem? hx
          have hLn := list_len HLj.out (by rw [HL.out]; exact hj)
          obtain ⟨gl, cc, hv, hglo, hglt⟩ := HOj.out.form (by rw [hLn, HL.out]; omega)
          injection hv with hv1 hv2 hv3
          subst hv1
          have hEj := hEm.out.below (HB3b.out.trans HWj.out)
          have hx2 := (HOK.out.good x hxm).2.2.2
          have hsm := HSM.out x hxm
          have hLOC := local_any g gl (j * 8) j gm (gm + 1) n3 c3 b x 0 fr _ wr hEj (by omega) rfl HOj.out (list_at HLj.out hx) (by have := HN.out; omega) (by have := HN.out; omega) (by have := HN.out; omega) hsm.1 hsm.2.1 hsm.2.2.1
          obtain ⟨Y, hY⟩ : ∃ Y, localA b fr x = Y := ⟨_, rfl⟩
          rw [hY] at hLOC
          have HLOC := bx hLOC
          have hdr : acc.drop j = x :: acc.drop (j + 1) := by
            rw [List.drop_eq_getElem_cons (by rw [HL.out]; exact hjn)]
            rw [List.getElem?_eq_getElem (by rw [HL.out]; exact hjn)] at hx
            injection hx with hx
            rw [hx]
          clear hv2 hv3 hLn hB0
          cases Y with
          | none =>
            have HRk := bx (show R = .err 15 from by rw [HRj.out, hdr, locR_bad hY])
            have HB5 := bx (HB3.out.trans (HWj.out.mono (by have := HB3.out.size; omega)))
            clear hLOC hY hdr hx HRj
            go_wp2_with fail
            refine HLOC.out.mono ?_
            rintro e1 w5 ⟨hg5, rfl⟩
            have HB6 := bx (HB5.out.trans (gb_low hg5 (by omega) hglt))
            clear hg5
            go_wp2
            go_ret2
            exact DirPost.bad HRk.out HB6.out
          | some a2 =>
            have hlo := localA_ok hY
            have HRj2 := bx (show R = locR b fr (done ++ [(x.1, a2)]) (acc.drop (j + 1)) from by rw [HRj.out, hdr, locR_good hY])
            have HS := bx (list_set (a := a2) HLj.out hx)
            have HTj2 : Bx (∀ y ∈ done ++ [(x.1, a2)], DonOk fr y) := bx (fun y hy => by
              rcases List.mem_append.1 hy with h | h
              · exact HTj.out y h
              · simp at h; subst h
                exact ⟨hsm.1, hsm.2.1, hsm.2.2.2.1, hsm.2.2.2.2.1, hsm.2.2.2.2.2, hsm.2.2.1, by have := hlo.1; show x.1.head + 30 ≤ a2; omega, hlo.2.1⟩)
            have HLj2 : Bx ((done ++ [(x.1, a2)]).length = j + 1) := bx (by rw [List.length_append, HLj.out]; rfl)
            clear hLOC hY hdr hx HRj hlo hsm hxm HTj HLj
            go_wp2_with fail
            refine HLOC.out.mono ?_
            rintro e1 w5 ⟨hg5, rfl, hO5⟩
            have HO5 := bx hO5
            have HW5 := bx (HWj.out.trans (gb_low hg5 (by omega) hglt))
            rw [HS.out] at HO5
            clear hg5 hO5 HOj HWj HLOC
            go_wp2
            go_roundw
            case rel => exact ⟨j + 1, _, by omega, by go_num, HRj2, HLj2, HW5, HO5, HTj2⟩
            case measure => simp [intOf]; omega
          -- DEV}
        have hjI : ¬ (j : Int) < (n3 : Int) := by omega
        obtain rfl : j = n3 := by omega
        have HR4 := bx (show R = locK done from by rw [HRj.out, List.drop_eq_nil_of_le (Nat.le_of_eq HL.out), locR_nil])
        have HO4 : Bx (OwS fndL 8 wr (gm + 1) 57 (.slice A3 j c3) (doneE done acc)) := by
          have := HOj.out
          rw [List.drop_eq_nil_of_le (Nat.le_of_eq HL.out), List.map_nil, List.append_nil] at this
          exact bx this
        have HB4 := bx (HB3.out.trans (HWj.out.mono (by have := HB3.out.size; omega)))
        have HW4 := bx (HB3b.out.trans HWj.out)
        have hgx4 : gm < wr.heap.size := by have := HWj.out.size; omega
        clear HB3 HB3b HWj HOj HRj hB0 hj hjn HE HX HOK HSM HR3 hgx
        obtain ⟨wc, rfl⟩ : ∃ wc, wc = wr := ⟨_, rfl⟩
        obtain ⟨gc, hgc⟩ : ∃ gc, wc.heap.size = gc := ⟨_, rfl⟩
        have hGC := bx hgc
        have hgmc : gm < gc := by omega
        have HCc := bx (show Below gc wc wc from Below.refl _ _)
        clear hgc hgx4 hEm himI hjI hB1
        go_wp2_with fail
        go_loopw [18, 143] (fun ov iv wx => ∃ t : Nat, t ≤ j ∧ iv = .int .i64 (t : Int) ∧ Bx (Below gc wc wx) ∧ Bx (OwS recL 7 wx gc 33 ov (done.take t))) (fun _ i _ => j - (intOf i).toNat)
        case atStart => exact ⟨0, by omega, rfl, HCc, bx OwS.nil⟩
        case round =>
          obtain ⟨t, ht, rfl, HWt, HOt⟩ := hrel
          have hgcr : gc ≤ wr.heap.size := by have := HWt.out.size; have := hGC.out; omega
          by_cases htj : t < j
          · -- DEV{
            have htI : (t : Int) < (j : Int) := by omega
            obtain ⟨d, hd⟩ : ∃ d, done[t]? = some d := ⟨_, List.getElem?_eq_getElem (by rw [HLj.out]; exact htj)⟩
            obtain ⟨qp, hqp⟩ := doneE_get (acc := acc) (by rw [HLj.out, HL.out]; exact Nat.le_refl _) hd
            have hOr : OwS fndL 8 wr (gm + 1) 57 (.slice A3 j c3) (doneE done acc) := HO4.out.step (by rw [hGC.out]; exact HWt.out)
            obtain ⟨gl, cc, hv, hglo, hglt⟩ := hOr.form (by rw [doneE_len HLj.out (by rw [HL.out]; exact Nat.le_refl _)]; omega)
            injection hv with hv1 hv2 hv3
            subst hv1
            obtain ⟨y0, y1, y2, y3, y4, y5, y6, y7, hcs⟩ : ∃ y0 y1 y2 y3 y4 y5 y6 y7, fndC d.1 (d.2 : Int) qp = #[y0, y1, y2, y3, y4, y5, y6, y7] := ⟨_, _, _, _, _, _, _, _, rfl⟩
            have hfl : fndL (d.1, ((d.2 : Nat) : Int), qp) = [y0, y1, y2, y3, y4, y5, y6, y7] := by show (fndC d.1 (d.2 : Int) qp).toList = _; rw [hcs]
            have hc1 := bx (fndC_one d.1 (d.2 : Int) qp)
            have HCS : Bx ((#[y0, y1, y2, y3, y4, y5, y6] : Array Value).toList = recL d) := bx (by
              have e : recL d = (fndL (d.1, ((d.2 : Nat) : Int), qp)).take 7 := rfl
              rw [e, hfl]; rfl)
            rw [hcs] at hc1
            have k0 : wr.cell? ⟨gl, t * 8, none⟩ = some y0 := hOr.cell fndCels (j := 0) hqp (by rw [hfl]; rfl)
            have k1 : wr.cell? ⟨gl, t * 8 + 1, none⟩ = some y1 := hOr.cell fndCels (j := 1) hqp (by rw [hfl]; rfl)
            have k2 : wr.cell? ⟨gl, t * 8 + 2, none⟩ = some y2 := hOr.cell fndCels (j := 2) hqp (by rw [hfl]; rfl)
            have k3 : wr.cell? ⟨gl, t * 8 + 3, none⟩ = some y3 := hOr.cell fndCels (j := 3) hqp (by rw [hfl]; rfl)
            have k4 : wr.cell? ⟨gl, t * 8 + 4, none⟩ = some y4 := hOr.cell fndCels (j := 4) hqp (by rw [hfl]; rfl)
            have k5 : wr.cell? ⟨gl, t * 8 + 5, none⟩ = some y5 := hOr.cell fndCels (j := 5) hqp (by rw [hfl]; rfl)
            have k6 : wr.cell? ⟨gl, t * 8 + 6, none⟩ = some y6 := hOr.cell fndCels (j := 6) hqp (by rw [hfl]; rfl)
            have k7 : wr.cell? ⟨gl, t * 8 + 7, none⟩ = some y7 := hOr.cell fndCels (j := 7) hqp (by rw [hfl]; rfl)
            obtain ⟨w4, hw4⟩ : ∃ w4, (wr.alloc (.cells z8 57)).setRow wr.heap.size #[y0, y1, y2, y3, y4, y5, y6, y7] = w4 := ⟨_, rfl⟩
            have hK4 : Bk w4 wr.heap.size 57 #[y0, y1, y2, y3, y4, y5, y6, y7] := by rw [← hw4]; exact ((Bk.new wr _ z8).setRow _)
            have hb34 : Below wr.heap.size wr w4 := by rw [← hw4]; exact bl_setRow (bl_alloc (Below.refl _ _) (Nat.le_refl _) _) (Nat.le_refl _) _
            have n0 : w4.cell? ⟨wr.heap.size, 0, none⟩ = some y0 := (hK4.cell 0).trans rfl
            have n1 : w4.cell? ⟨wr.heap.size, 1, none⟩ = some y1 := (hK4.cell 1).trans rfl
            have n2 : w4.cell? ⟨wr.heap.size, 2, none⟩ = some y2 := (hK4.cell 2).trans rfl
            have n3 : w4.cell? ⟨wr.heap.size, 3, none⟩ = some y3 := (hK4.cell 3).trans rfl
            have n4 : w4.cell? ⟨wr.heap.size, 4, none⟩ = some y4 := (hK4.cell 4).trans rfl
            have n5 : w4.cell? ⟨wr.heap.size, 5, none⟩ = some y5 := (hK4.cell 5).trans rfl
            have n6 : w4.cell? ⟨wr.heap.size, 6, none⟩ = some y6 := (hK4.cell 6).trans rfl
            have HO4' := bx (HOt.out.step hb34)
            have HW4' := bx (HWt.out.trans (hb34.mono hgcr))
            have hgx4 : gc ≤ w4.heap.size := by have := hb34.size; omega
            have HW4e := bx hw4
            have HN4 : Bx (((done.take t).length + [d].length) * 64 ≤ 140737488355328) := bx (by have := HLj.out; simp; omega)
            have HTK : Bx (done.take t ++ [d] = done.take (t + 1)) := bx (by
              rw [List.take_add_one, hd]; rfl)
            clear hv2 hv3 hOr hfl hcs hqp hd hw4 hb34 hK4 HOt HWt
            go_wp2_with (first
              | (refine wpList_store_row rfl 57 (.tmp 20) (.tmp 146) rfl wr.heap.size #[y0, y1, y2, y3, y4, y5, y6, y7] rfl rfl 57 z8 (Bk.new _ _ _) info_found rfl hc1.out ?_; rw [z8_eq, HW4e.out])
              | (at_builtin; refine wpList_appS _ recCels rfl (.tmp 147) (.tmp 150) rfl recTy (by decide) gc u18 (done.take t) rfl (OwS.alloc HO4'.out _) _ _ 1 1 [d] rfl rfl (RS.new _ _ #[y0, y1, y2, y3, y4, y5, y6] HCS.out _ _) HN4.out (le_alloc0 hgx4 _) ?_; intro v8 w8 own8 _ _ hb8))
            have HO8 : Bx (OwS recL 7 w8 gc 33 v8 (done.take (t + 1))) := bx (by rw [← HTK.out]; exact own8)
            have HW8 := bx (HW4'.out.trans ((bl_alloc (Below.refl gc w4) hgx4 (.cells #[y0, y1, y2, y3, y4, y5, y6] 33)).trans hb8))
            clear own8 hb8 HTK k0 k1 k2 k3 k4 k5 k6 k7 n0 n1 n2 n3 n4 n5 n6
            go_roundw
            case rel => exact ⟨t + 1, by omega, by go_num, HW8, HO8⟩
            case measure => simp [intOf]; omega
            -- DEV}
          have htI : ¬ (t : Int) < (j : Int) := by omega
          obtain rfl : t = j := by omega
          have HOd : Bx (OwS recL 7 wr gc 33 u18 done) := by
            have := HOt.out
            rw [List.take_of_length_le (Nat.le_of_eq HLj.out)] at this
            exact bx this
          have hlenE : (doneE done acc).length = t := doneE_len HLj.out (by rw [HL.out]; exact Nat.le_refl _)
          have hSRT := sort_both A3 t c3 (gm + 1) (doneE done acc) wr (HO4.out.step (by rw [hGC.out]; exact HWt.out)) hlenE (by omega)
          have HSRT := bx hSRT
          have HB5 := bx (HB4.out.trans (HWt.out.mono (by have := HB4.out.size; have := hGC.out; omega)))
          clear hSRT hlenE HOt htj ht
          go_wp2_with fail
          refine HSRT.out.mono ?_
          rintro e5 w5 ⟨rfl, hb5, ⟨row, hrow, hrg⟩, s, hsp, hss, hsr⟩
          have HOe := bx (HOd.out.kept hrow (by
            cases hv : u18.ownBlock with
            | none => exact .inl rfl
            | some z =>
              refine .inr (fun e => ?_)
              have hA := hrg z e.symm
              subst hA
              have h1 := (HOd.out.blk hv).1
              have h2 : z < wc.heap.size := (HO4.out.blk (g := z) rfl).2
              have := hGC.out
              omega))
          have HB6 := bx (HB5.out.trans (hb5.mono (by omega)))
          have hlenS : s.length = t := by rw [hsp.length_eq]; exact doneE_len HLj.out (by rw [HL.out]; exact Nat.le_refl _)
          have HOV := bx (overE (dir := fr) (by rw [HLj.out, HL.out]; exact Nat.le_refl _) hsp hss HTj.out)
          have HAT : Bx (∀ x ∈ s, x.2.1 = ((frE x).2 : Int) ∧ (frE x).2 ≤ 70000 ∧ x.1.head < 4294967296 ∧ x.1.packed < 4294967296) := bx (fun x hx => by
            have h1 := hsp.mem_iff.1 hx
            have h2 := doneE_at done acc x h1
            have h3 : frE x ∈ done := by
              have := List.mem_map_of_mem (f := frE) h1
              rwa [doneE_fr done acc (by rw [HLj.out, HL.out]; exact Nat.le_refl _)] at this
            have h4 := HTj.out _ h3
            have h5 : (frE x).1 = x.1 := rfl
            unfold DonOk at h4
            rw [h5] at h4
            exact ⟨h2, by have := h4.2.2.2.2.2.2.2; omega, h4.1, h4.2.1⟩)
          have HLS := bx hlenS
          have HRO := bx hsr
          have HAF : Bx (t = 0 ∨ ∃ gl, A3 = some ⟨gl, 0, none⟩) := bx (by
            rcases Nat.eq_zero_or_pos t with h | h
            · exact .inl h
            · obtain ⟨gl, cc, hv, _⟩ := HO4.out.form (by rw [doneE_len HLj.out (by rw [HL.out]; exact Nat.le_refl _)]; exact h)
              injection hv with hv
              exact .inr ⟨gl, hv⟩)
          clear hb5 hrow hrg hsp hss hsr hlenS HSRT HB5 HOd HWt hgcr HO4 HB4 HW4 HTj HL HCc
          go_wp2_with fail
          go_loopw [21] (fun iv wx => ∃ v q : Nat, (v = 0 ∨ v + 1 ≤ t) ∧ iv = .int .i64 ((v : Int) + 1) ∧ wx = w5.drewN q ∧ Bx (∀ u x y, u < v → (s.map frE)[u]? = some x → (s.map frE)[u + 1]? = some y → ¬ y.1.head < x.2 + x.1.packed)) (fun i _ => t - (intOf i).toNat)
          case atStart => exact ⟨0, 0, .inl rfl, rfl, rfl, bx (fun u _ _ h => absurd h (by omega))⟩
          case round =>
            obtain ⟨v, q, hv, rfl, rfl, HV⟩ := hrel
            by_cases hvt : v + 1 < t
            · have hvI : (v : Int) + 1 < (t : Int) := by omega
              obtain ⟨gl, rfl⟩ : ∃ gl, A3 = some ⟨gl, 0, none⟩ := by
                rcases HAF.out with h | h
                · omega
                · exact h
              have hro := HRO.out gl rfl
              obtain ⟨x, hx⟩ : ∃ x, s[v]? = some x := ⟨_, List.getElem?_eq_getElem (by rw [HLS.out]; omega)⟩
              obtain ⟨y, hy⟩ : ∃ y, s[v + 1]? = some y := ⟨_, List.getElem?_eq_getElem (by rw [HLS.out]; omega)⟩
              obtain ⟨ha1, ha2, ha3, ha4⟩ := HAT.out x (List.mem_of_getElem? hx)
              have hb3 := (HAT.out y (List.mem_of_getElem? hy)).2.2.1
              obtain ⟨at1, hat1⟩ : ∃ z, (frE x).2 = z := ⟨_, rfl⟩
              obtain ⟨pk1, hpk1⟩ : ∃ z, x.1.packed = z := ⟨_, rfl⟩
              obtain ⟨hd1, hhd1⟩ : ∃ z, y.1.head = z := ⟨_, rfl⟩
              rw [hat1] at ha1 ha2
              rw [hpk1] at ha4
              rw [hhd1] at hb3
              have q6 : w5.cell? ⟨gl, (v + 1) * 8 + 6, none⟩ = some (.int .i64 (hd1 : Int)) := by rw [← hhd1]; exact hro (v + 1) 6 y _ hy rfl
              have q5 : w5.cell? ⟨gl, v * 8 + 5, none⟩ = some (.int .i64 (at1 : Int)) := by rw [← ha1]; exact hro v 5 x _ hx rfl
              have q2 : w5.cell? ⟨gl, v * 8 + 2, none⟩ = some (.int .i64 (pk1 : Int)) := by rw [← hpk1]; exact hro v 2 x _ hx rfl
              have HSX : Bx ((s.map frE)[v]? = some (frE x) ∧ (s.map frE)[v + 1]? = some (frE y) ∧ ((frE y).1.head < (frE x).2 + (frE x).1.packed ↔ hd1 < at1 + pk1)) := bx ⟨by rw [List.getElem?_map, hx]; rfl, by rw [List.getElem?_map, hy]; rfl, by
                rw [hat1]
                show y.1.head < at1 + x.1.packed ↔ _
                rw [hhd1, hpk1]⟩
              have x1 : IntKind.i64.wrap ((v : Int) + 1 - 1) = (v : Int) := by rw [show (v : Int) + 1 - 1 = (v : Int) by omega]; exact IntWalk.i64_in _ (by omega)
              have x2 : IntKind.i64.wrap (v : Int) = (v : Int) := IntWalk.i64_in _ (by omega)
              have x3 : IntKind.i64.wrap ((at1 : Int) + (pk1 : Int)) = (at1 : Int) + (pk1 : Int) := IntWalk.i64_in _ (by omega)
              have x4 : ((v : Int) + 1).toNat = v + 1 := Int.toNat_natCast (v + 1)
              have x5 : (v : Int) < (t : Int) := by omega
              have x6 : (0 : Int) ≤ (v : Int) + 1 := by omega
              clear hx hy ha1 hat1 hpk1 hhd1 hro
              by_cases hov : hd1 < at1 + pk1
              · have hovI : (hd1 : Int) < (at1 : Int) + (pk1 : Int) := by omega
                have hovJ : decide ((hd1 : Int) < (at1 : Int) + (pk1 : Int)) = true := decide_eq_true hovI
                have HRk := bx (show R = .err 16 from by
                  rw [HR4.out]; unfold locK
                  rw [← HOV.out, adj_hit _ v _ _ HSX.out.1 HSX.out.2.1 (HSX.out.2.2.2 hov)]; rfl)
                clear hov
                go_wp2
                go_quiet (fail)
                go_wp2
                go_ret2
                exact DirPost.bad HRk.out (below_drewN (below_drewN HB6.out _) _)
              · have hovI : ¬ (hd1 : Int) < (at1 : Int) + (pk1 : Int) := by omega
                have hovJ : decide ((hd1 : Int) < (at1 : Int) + (pk1 : Int)) = false := decide_eq_false hovI
                have HV2 : Bx (∀ u x y, u < v + 1 → (s.map frE)[u]? = some x → (s.map frE)[u + 1]? = some y → ¬ y.1.head < x.2 + x.1.packed) := bx (fun u x' y' hu h1 h2 => by
                  by_cases e : u = v
                  · subst e
                    rw [HSX.out.1] at h1; rw [HSX.out.2.1] at h2
                    injection h1 with h1; injection h2 with h2
                    rw [← h1, ← h2]
                    exact fun h => hov (HSX.out.2.2.1 h)
                  · exact HV.out u x' y' (by omega) h1 h2)
                clear hov
                go_wp2
                go_quiet (fail)
                go_wp2
                go_roundw
                case rel => exact ⟨v + 1, q + nq, .inr (by omega), by go_num, rfl, HV2⟩
                case measure => simp [intOf]; omega
            · have hvI : ¬ (v : Int) + 1 < (t : Int) := by omega
              have HRk := bx (show R = .ok done from by
                rw [HR4.out]; unfold locK
                rw [← HOV.out, adj_none _ (fun u x y h1 h2 => HV.out u x y (by
                  have := (List.getElem?_eq_some_iff.1 h2).1
                  rw [List.length_map, HLS.out] at this
                  omega) h1 h2)]; rfl)
              go_wp2
              go_ret2
              exact DirPost.good HRk.out (below_drewN HB6.out _) (OwS.drewN (OwS.low HOe.out (by omega)) _)
end Go.Proofs.YtokojichjliieaaDoor
namespace Go.Proofs.YtokojichjliieaaDoor
open Go.RowKit

theorem ext_one (q s : ByteArray) (k : Nat) (h : k < s.size) : (q ++ s.extract k (k + 1)).data.toList = q.data.toList ++ [s[k]] := by
  rw [ByteArray.data_append, Array.toList_append, ByteArray.data_extract, Array.toList_extract, List.extract_eq_take_drop, List.drop_eq_getElem_cons (by exact h)]
  simp; rfl
theorem neq_t {x : UInt8} {z : Int} {c : Nat} (hz : z = (c : Int)) (hc : c < 256) (h : ¬ x = UInt8.ofNat c) : ((x.toNat : Int) != z) = true := by
  rw [bne_iff_ne]
  intro e
  apply h
  apply UInt8.toNat_inj.1
  have : (UInt8.ofNat c).toNat = c := by simp [UInt8.toNat_ofNat']; omega
  omega
theorem neq_f {x : UInt8} {z : Int} {c : Nat} (hz : z = (c : Int)) (hc : c < 256) (h : x = UInt8.ofNat c) : ((x.toNat : Int) != z) = false := by
  have : (UInt8.ofNat c).toNat = c := by simp [UInt8.toNat_ofNat']; omega
  rw [bne_eq_false_iff_eq, h, this, hz]
theorem beq_t {x : UInt8} {z : Int} {c : Nat} (hz : z = (c : Int)) (hc : c < 256) (h : x = UInt8.ofNat c) : ((x.toNat : Int) == z) = true := by
  have : (UInt8.ofNat c).toNat = c := by simp [UInt8.toNat_ofNat']; omega
  rw [beq_iff_eq, h, this, hz]
theorem beq_f {x : UInt8} {z : Int} {c : Nat} (hz : z = (c : Int)) (hc : c < 256) (h : ¬ x = UInt8.ofNat c) : ((x.toNat : Int) == z) = false := by
  have := neq_t hz hc h
  rw [bne_iff_ne] at this
  rw [beq_eq_false_iff_ne]; exact this
/-- What is still to be answered at sign k, the part being q. -/
def NmR (R : Bool) (l q : List UInt8) (k : Nat) : Prop := (k ≤ l.length ∧ R = nmF q (l.drop k)) ∨ (k = l.length + 1 ∧ R = true)
set_option maxHeartbeats 2000000 in
theorem rname_any (s : ByteArray) (w : World) (hs : s.size ≤ 140737488351232) :
    Calls Tryd.prog 18 #[.string s] w fun e w' => e = .returned (.bool (nameA s.data.toList)) ∧ Below w.heap.size w w' := by
  rw [nameA_nmF]
  by_cases he : s.data.toList = []
  · have h2 := size_zero he
    rw [he]
    clear he
    go_enter Tryd.func18, Tryd.ntmps18
    go_wp2
    go_ret
    exact ⟨rfl, Below.refl _ _⟩
  have hem : s.data.toList.isEmpty = false := by rw [List.isEmpty_eq_false_iff]; exact he
  have h0 := size_pos he
  rw [hem]
  by_cases hl : 64 < s.size
  · have hd : decide (s.data.toList.length ≤ 64) = false := by rw [size_len]; simp; omega
    rw [hd]
    clear he hem hd
    go_enter Tryd.func18, Tryd.ntmps18
    go_wp2
    go_ret
    exact ⟨rfl, Below.refl _ _⟩
  have hd : decide (s.data.toList.length ≤ 64) = true := by rw [size_len]; simp; omega
  rw [hd]
  obtain ⟨R, hR⟩ : ∃ R, nmF [] s.data.toList = R := ⟨_, rfl⟩
  rw [hR]
  have HF : Bx (R = true → ¬ s[0] = 47) := bx (fun h => by
    rw [← hR, show s.data.toList = s[0] :: s.data.toList.drop 1 by
      exact List.drop_eq_getElem_cons (l := s.data.toList) (i := 0) h0] at h
    exact nmF_first h)
  have HR0 : Bx (NmR R s.data.toList [] 0) := bx (.inl ⟨by omega, by rw [← hR]; rfl⟩)
  have hl1 : ¬ (s.size : Int) < 1 := by omega
  have hl2 : ¬ (64 : Int) < (s.size : Int) := by omega
  clear he hem hd hR
  go_enter Tryd.func18, Tryd.ntmps18
  go_wp2
  go_loop [3, 4] (fun v i => ∃ (k : Nat) (q : ByteArray), k ≤ s.size + 1 ∧ q.size ≤ k ∧ i = .int .i64 (k : Int) ∧ v = .string q ∧ Bx (NmR R s.data.toList q.data.toList k)) (fun _ i => s.size + 1 - (intOf i).toNat)
  case atStart => exact ⟨0, ⟨#[]⟩, by omega, by decide, rfl, rfl, HR0⟩
  case round =>
    obtain ⟨k, q, hk, hqk, rfl, rfl, HN⟩ := hrel
    by_cases hk1 : k = s.size + 1
    · have HRT : Bx (R = true) := bx (by
        rcases HN.out with ⟨h, _⟩ | ⟨_, h⟩
        · rw [size_len] at h; omega
        · exact h)
      have hb := neq_t (x := s[0]) (z := 47) (c := 47) rfl (by decide) (HF.out HRT.out)
      have hkk : ¬ (k : Int) ≤ (s.size : Int) := by omega
      clear hk1 HN HF
      go_wp2
      go_ret
      exact ⟨ret_bool (by rw [HRT.out]), Below.refl _ _⟩
    have hkk : (k : Int) ≤ (s.size : Int) := by omega
    have HRE : Bx (R = nmF q.data.toList (s.data.toList.drop k)) := bx (by
      rcases HN.out with ⟨_, h⟩ | ⟨h, _⟩
      · exact h
      · rw [size_len] at h; omega)
    have fail : R = false → Bx (Ending.returned (.bool false) = Ending.returned (.bool (!false && true && R))) := fun h => bx (by rw [h]; rfl)
    clear HN
    by_cases hks : k < s.size
    · have hdr : s.data.toList.drop k = s[k] :: s.data.toList.drop (k + 1) := List.drop_eq_getElem_cons (l := s.data.toList) (i := k) hks
      have hre := HRE.out
      rw [hdr, nmF] at hre
      have hks' : (k : Int) < (s.size : Int) := by omega
      by_cases hc : s[k] = 47
      · have d1 := neq_f (x := s[k]) (z := 47) (c := 47) rfl (by decide) hc
        rw [if_pos hc] at hre
        by_cases e1 : q.data.toList = [46]
        · have HX := fail (by rw [hre, e1]; rfl)
          have t1 := tl_eq e1
          clear fail hre hc hdr e1
          go_wp2
          go_ret
          exact ⟨HX.out, Below.refl _ _⟩
        have t1 := tl_ne e1
        by_cases e2 : q.data.toList = [46, 46]
        · have HX := fail (by rw [hre, e2]; rfl)
          have t2 := tl_eq e2
          clear fail hre hc hdr e1 e2
          go_wp2
          go_ret
          exact ⟨HX.out, Below.refl _ _⟩
        have t2 := tl_ne e2
        by_cases e3 : q.data.toList = []
        · have HX := fail (by rw [hre, e3]; simp)
          have t3 := tl_none e3
          clear fail hre hc hdr e1 e2 e3
          go_wp2
          go_ret
          exact ⟨HX.out, Below.refl _ _⟩
        · have t3 := tl_some e3
          have HX : Bx (NmR R s.data.toList [] (k + 1)) := bx (.inl ⟨by rw [size_len]; omega, by
            rw [hre]; unfold partOk
            rw [show (q.data.toList == [46]) = false by simpa using e1, show (q.data.toList == [46, 46]) = false by simpa using e2, show q.data.toList.isEmpty = false by rw [List.isEmpty_eq_false_iff]; exact e3]; rfl⟩)
          clear fail hre hc hdr e1 e2 e3
          go_wp2
          go_round
          case rel => exact ⟨k + 1, ⟨#[]⟩, by omega, Nat.zero_le _, by go_num, rfl, HX⟩
          case measure => simp [intOf]; omega
      · have d1 := neq_t (x := s[k]) (z := 47) (c := 47) rfl (by decide) hc
        rw [if_neg hc] at hre
        by_cases e0 : s[k] = 0
        · have d2 := beq_t (x := s[k]) (z := 0) (c := 0) rfl (by decide) e0
          have HX := fail (by rw [hre, if_pos (.inl e0)])
          clear fail hre hc hdr e0
          go_wp2
          go_ret
          exact ⟨HX.out, Below.refl _ _⟩
        have d2 := beq_f (x := s[k]) (z := 0) (c := 0) rfl (by decide) e0
        by_cases e9 : s[k] = 92
        · have d3 := beq_t (x := s[k]) (z := 92) (c := 92) rfl (by decide) e9
          have HX := fail (by rw [hre, if_pos (.inr e9)])
          clear fail hre hc hdr e0 e9
          go_wp2
          go_ret
          exact ⟨HX.out, Below.refl _ _⟩
        have d3 := beq_f (x := s[k]) (z := 92) (c := 92) rfl (by decide) e9
        rw [if_neg (by rintro (h | h); exact e0 h; exact e9 h)] at hre
        have HX : Bx (NmR R s.data.toList (q ++ s.extract k (k + 1)).data.toList (k + 1)) := bx (.inl ⟨by rw [size_len]; omega, by rw [hre, ext_one q s k hks]⟩)
        have HSZ : Bx ((q ++ s.extract k (k + 1)).size ≤ k + 1) := bx (by rw [ByteArray.size_append, ByteArray.size_extract]; omega)
        clear fail hre hc hdr e0 e9
        go_wp2
        go_round
        case rel => exact ⟨k + 1, _, by omega, HSZ.out, by go_num, rfl, HX⟩
        case measure => simp [intOf]; omega
    · have hkn : k = s.size := by omega
      have hre := HRE.out
      rw [List.drop_eq_nil_of_le (by rw [size_len]; omega), nmF] at hre
      have hks' : ¬ (k : Int) < (s.size : Int) := by omega
      have hk0 : ((k : Int) == 0) = false := by rw [beq_eq_false_iff_ne]; omega
      by_cases e1 : q.data.toList = [46]
      · have HX := fail (by rw [hre, e1]; rfl)
        have t1 := tl_eq e1
        clear fail hre e1 hkn
        go_wp2
        go_ret
        exact ⟨HX.out, Below.refl _ _⟩
      have t1 := tl_ne e1
      by_cases e2 : q.data.toList = [46, 46]
      · have HX := fail (by rw [hre, e2]; rfl)
        have t2 := tl_eq e2
        clear fail hre e1 e2 hkn
        go_wp2
        go_ret
        exact ⟨HX.out, Below.refl _ _⟩
      have t2 := tl_ne e2
      have HX : Bx (NmR R s.data.toList [] (k + 1)) := bx (.inr ⟨by rw [size_len, hkn], by
        rw [hre]; unfold partOk
        rw [show (q.data.toList == [46]) = false by simpa using e1, show (q.data.toList == [46, 46]) = false by simpa using e2]; rfl⟩)
      by_cases e3 : q.data.toList = []
      · have t3 := tl_none e3
        clear fail hre e1 e2 e3 hkn
        go_wp2
        go_round
        case rel => exact ⟨k + 1, ⟨#[]⟩, by omega, Nat.zero_le _, by go_num, rfl, HX⟩
        case measure => simp [intOf]; omega
      · have t3 := tl_some e3
        clear fail hre e1 e2 e3 hkn
        go_wp2
        go_round
        case rel => exact ⟨k + 1, ⟨#[]⟩, by omega, Nat.zero_le _, by go_num, rfl, HX⟩
        case measure => simp [intOf]; omega
end Go.Proofs.YtokojichjliieaaDoor
namespace Go.Proofs.YtokojichjliieaaDoor
open Go.RowKit

def Apt (a b : Value) : Prop := a.ownBlock = none ∨ b.ownBlock = none ∨ a.ownBlock ≠ b.ownBlock
theorem Apt.symm {a b : Value} (h : Apt a b) : Apt b a := by
  rcases h with h | h | h
  · exact .inr (.inl h)
  · exact .inl h
  · exact .inr (.inr fun e => h e.symm)
structure Tri {α : Type} (f : α → Value) (w : World) (base : Nat) (e : TypeId) (v1 : Value) (l1 : List α) (v2 : Value) (l2 : List α) (v3 : Value) (l3 : List α) : Prop where
  o1 : OwL f w base e v1 l1
  o2 : OwL f w base e v2 l2
  o3 : OwL f w base e v3 l3
  a12 : Apt v1 v2
  a13 : Apt v1 v3
  a23 : Apt v2 v3
section
variable {α : Type} {f : α → Value} {w w' : World} {base : Nat} {e : TypeId} {v1 v2 v3 v' : Value} {l1 l2 l3 n : List α}
theorem Tri.nil : Tri f w base e (.slice none 0 0) [] (.slice none 0 0) [] (.slice none 0 0) [] :=
  ⟨OwL.nil, OwL.nil, OwL.nil, .inl rfl, .inl rfl, .inl rfl⟩
theorem Tri.rot (h : Tri f w base e v1 l1 v2 l2 v3 l3) : Tri f w base e v2 l2 v3 l3 v1 l1 := ⟨h.o2, h.o3, h.o1, h.a23, h.a12.symm, h.a13.symm⟩
theorem Tri.alloc (h : Tri f w base e v1 l1 v2 l2 v3 l3) (o : Obj) : Tri f (w.alloc o) base e v1 l1 v2 l2 v3 l3 := ⟨h.o1.alloc o, h.o2.alloc o, h.o3.alloc o, h.a12, h.a13, h.a23⟩
theorem apt_kept {v : Value} {l : List α} (ho : OwL f w base e v l) (ha : Apt v1 v) (g : w.grownBy w' v1.ownBlock) : OwL f w' base e v l := by
  refine World.ownsRow.kept ho g ?_
  rcases ha with h | h | h
  · rw [h]
    cases hv : v.ownBlock with
    | none => exact .inl rfl
    | some b => exact .inr (by simp)
  · exact .inl h
  · exact .inr fun e => h e.symm
theorem apt_new {v : Value} {l : List α} (ho : OwL f w base e v l) (ha : Apt v1 v) (k : v'.ownBlock = v1.ownBlock ∨ v'.ownBlock = some w.heap.size) : Apt v' v := by
  rcases k with k | k
  · unfold Apt; rw [k]; exact ha
  · unfold Apt
    rw [k]
    cases hv : v.ownBlock with
    | none => exact .inr (.inl rfl)
    | some b =>
      have := (World.ownsRow.lt ho b hv).2
      exact .inr (.inr (by intro e; injection e with e; omega))
theorem Tri.app (h : Tri f w base e v1 l1 v2 l2 v3 l3) (o : OwL f w' base e v' (l1 ++ n)) (g : w.grownBy w' v1.ownBlock) (k : v'.ownBlock = v1.ownBlock ∨ v'.ownBlock = some w.heap.size) :
    Tri f w' base e v' (l1 ++ n) v2 l2 v3 l3 := ⟨o, apt_kept h.o2 h.a12 g, apt_kept h.o3 h.a13 g, apt_new h.o2 h.a12 k, apt_new h.o3 h.a13 k, h.a23⟩
end
end Go.Proofs.YtokojichjliieaaDoor
namespace Go.Proofs.YtokojichjliieaaDoor
open Go.RowKit
theorem sapt_kept {α : Type} {fC : α → List Value} {sz : Nat} {w w' : World} {base : Nat} {e : TypeId} {v v1 : Value} {l : List α} (ho : OwS fC sz w base e v l) (ha : Apt v1 v) (g : w.grownBy w' v1.ownBlock) : OwS fC sz w' base e v l := by
  refine World.ownsRow.kept ho g ?_
  rcases ha with h | h | h
  · rw [h]
    cases hv : v.ownBlock with
    | none => exact .inl rfl
    | some b => exact .inr (by simp)
  · exact .inl h
  · exact .inr fun e => h e.symm
theorem sapt_new {α : Type} {fC : α → List Value} {sz : Nat} {w : World} {base : Nat} {e : TypeId} {v v1 v' : Value} {l : List α} (ho : OwS fC sz w base e v l) (ha : Apt v1 v) (k : v'.ownBlock = v1.ownBlock ∨ v'.ownBlock = some w.heap.size) : Apt v' v := by
  rcases k with k | k
  · unfold Apt; rw [k]; exact ha
  · unfold Apt
    rw [k]
    cases hv : v.ownBlock with
    | none => exact .inr (.inl rfl)
    | some b =>
      have := (World.ownsRow.lt ho b hv).2
      exact .inr (.inr (by intro e; injection e with e; omega))
def rec0 (x : Rec × Nat) : Rec × Nat := (x.1, 0)
def plcI (x : Rec × Nat) : Int := (x.2 : Int)
theorem intTyA : ETy Tryd.prog 65 3 (.int .i64 0) 1 8 := ⟨Tryd.underlying65, info_parts (by kernel_rfl), rfl, by decide⟩
theorem rnum_r (A : Option Addr) (n c p : Nat) (ki ni : Int) (k j : Nat) (b : List UInt8) (w wk : World) (hn : b.length = n) (hnc : n ≤ c) (hc : (c : Int) ≤ 9223372036854775807) (hr : RB w w.heap.size A b) (hB : Below w.heap.size w wk)
    (hk : ki = (k : Int)) (hj : ni = (j : Int)) (h1 : 1 ≤ j) (h2 : j ≤ 4) (hp : p + k + j ≤ n) {N : Nat} (hN : numA b (p + k) j = N) :
    Calls Tryd.prog 35 #[.slice A n c, .int .i64 ((p : Int) + ki), .int .i64 ni] wk fun e w' => e = .returned (.int .i64 (N : Int)) ∧ Below w.heap.size w w' := by
  subst hk hj hN
  have := rnum_ok A n c (p + k) j b wk hn hnc hc h1 h2 hp ((hr.below hB (Nat.le_refl _)).more hB.size)
  rw [show ((p + k : Nat) : Int) = (p : Int) + (k : Int) by omega] at this
  exact this.mono fun e w' ⟨he, hb⟩ => ⟨he, hB.trans (hb.mono hB.size)⟩
theorem rsign_r (A : Option Addr) (n c p : Nat) (b : List UInt8) (x y : UInt8) (xi yi : Int) (w wk : World) (hx : xi = (x.toNat : Int)) (hy : yi = (y.toNat : Int)) (hn : b.length = n) (hz : n ≤ 1000000000) (hp : p + 4 ≤ n) (hr : RB w w.heap.size A b) (hB : Below w.heap.size w wk) :
    Calls Tryd.prog 40 #[.slice A n c, .int .i64 (p : Int), .int .u8 xi, .int .u8 yi] wk fun e w' => e = .returned (.bool (signA b p x y)) ∧ w' = wk :=
  rsign_ok A n c p b x y xi yi wk hx hy hn hz hp ((hr.below hB (Nat.le_refl _)).more hB.size)
/-- The records and their places, the directory's end checked. -/
def cenR (b : List UInt8) (fr td m : Nat) : Rz (List (Rec × Nat)) := (centA b td m fr []).bind fun x => if x.2 ≠ td then .err 11 else .ok x.1
def CenPost (R : Rz (List (Rec × Nat))) (w : World) (e : Ending) (w' : World) : Prop := Below w.heap.size w w' ∧ match R with
  | .err k => e = .returned (.tuple #[.slice none 0 0, .slice none 0 0, .int .i64 k])
  | .ok l => ∃ v pv, e = .returned (.tuple #[v, pv, .int .i64 0]) ∧ OwS recL 7 w' w.heap.size 33 v (l.map rec0) ∧ OwI w' w.heap.size 3 pv (l.map plcI) ∧ Apt v pv
theorem CenPost.bad {R : Rz (List (Rec × Nat))} {w w' : World} {k : Int} (h : R = .err k) (hb : Below w.heap.size w w') : CenPost R w (.returned (.tuple #[.slice none 0 0, .slice none 0 0, .int .i64 k])) w' := by
  subst h; exact ⟨hb, rfl⟩
theorem CenPost.good {R : Rz (List (Rec × Nat))} {w w' : World} {l : List (Rec × Nat)} {v pv : Value} (h : R = .ok l) (hb : Below w.heap.size w w') (h1 : OwS recL 7 w' w.heap.size 33 v (l.map rec0)) (h2 : OwI w' w.heap.size 3 pv (l.map plcI)) (h3 : Apt v pv) :
    CenPost R w (.returned (.tuple #[v, pv, .int .i64 0])) w' := by
  subst h; exact ⟨hb, v, pv, rfl, h1, h2, h3⟩
theorem cenR_err {b : List UInt8} {fr td m j a : Nat} {acc : List (Rec × Nat)} {k : Int} (h : centA b td m fr [] = centA b td (j + 1) a acc) (hx : recA b a td (acc.map (·.1.name)) = .err k) : cenR b fr td m = .err k := by
  unfold cenR; rw [h, cent1_err hx]; rfl
def flK (v : Nat) : Nat → Nat
  | 0 => v
  | 1 => v - 2 * (v / 2 % 2)
  | 2 => v - 2 * (v / 2 % 2) - 4 * (v / 4 % 2)
  | _ => flagsA v
set_option maxRecDepth 100000 in
set_option maxHeartbeats 16000000 in
theorem rcent_any (A : Option Addr) (n c fr td m : Nat) (b : List UInt8) (w : World) (hn : b.length = n) (hz : n ≤ 70000) (hnc : n ≤ c) (hc : (c : Int) ≤ 9223372036854775807) (hr : RB w w.heap.size A b) (hto : td + 22 ≤ n) (hfr : fr ≤ 9000000000) (hm : m ≤ 64) :
    Calls Tryd.prog 36 #[.slice A n c, .int .i64 (fr : Int), .int .i64 (td : Int), .int .i64 (m : Int)] w (CenPost (cenR b fr td m) w) := by
  obtain ⟨R, hR⟩ : ∃ R, cenR b fr td m = R := ⟨_, rfl⟩
  rw [hR]
  have HR := bx hR.symm
  have HN := bx hn
  have HRB := bx hr
  have HB0 := bx (Below.refl w.heap.size w)
  clear hR hn hr
  go_enter Tryd.func36, Tryd.ntmps36
  go_wp2
  go_loopw [11, 12, 13, 14] (fun lv pv av iv wx => ∃ (i a : Nat) (acc : List (Rec × Nat)), i ≤ m ∧ iv = .int .i64 (i : Int) ∧ av = .int .i64 (a : Int) ∧ a ≤ 9000000000 ∧ Bx (centA b td m fr [] = centA b td (m - i) a acc) ∧ Bx (acc.length = i) ∧ Bx (Below w.heap.size w wx) ∧ Bx (OwS recL 7 wx w.heap.size 33 lv (acc.map rec0)) ∧ Bx (OwI wx w.heap.size 3 pv (acc.map plcI)) ∧ Bx (Apt lv pv)) (fun _ _ _ i _ => m - (intOf i).toNat)
  case atStart => exact ⟨0, fr, [], by omega, rfl, rfl, hfr, bx rfl, bx rfl, HB0, bx OwS.nil, bx OwL.nil, bx (.inl rfl)⟩
  case round =>
    obtain ⟨i, a, acc, hi, rfl, rfl, ha, HC, HL, HW, HO, HP, HA⟩ := hrel
    have hsz := HW.out.size
    by_cases him : i < m
    · have himI : (i : Int) < (m : Int) := by omega
      have hmi : m - i = (m - (i + 1)) + 1 := by omega
      have hC := HC.out
      rw [hmi] at hC
      obtain ⟨X, hX⟩ : ∃ X, recA b a td (acc.map (·.1.name)) = X := ⟨_, rfl⟩
      have HRE : Bx (∀ k, X = .err k → R = .err k) := bx (fun k hk => by rw [HR.out]; exact cenR_err hC (hX.trans hk))
      have HRO : Bx (∀ r q, X = .ok (r, q) → centA b td m fr [] = centA b td (m - (i + 1)) q (acc ++ [(r, a)]) ∧ q ≤ 70000) := bx (fun r q hk => ⟨hC.trans (cent1_ok (hX.trans hk)), by have := (recA_ok (hX.trans hk)).2.1; omega⟩)
      unfold recA at hX
      clear hC hmi HC
      have hwr2 : IntKind.i64.wrap ((td : Int) - (a : Int)) = (td : Int) - (a : Int) := IntWalk.i64_in _ (by omega)
      by_cases c1 : td < a + 46
      · rw [if_pos (.inl c1)] at hX
        have HRk := bx (HRE.out 11 hX.symm)
        have c1I : (td : Int) - (a : Int) < 46 := by omega
        clear hX c1
        go_wp2
        go_ret3
        exact CenPost.bad HRk.out HW.out
      have c1I : ¬ (td : Int) - (a : Int) < 46 := by omega
      have hin : a + 46 ≤ td := by omega
      have hsgn := rsign_r A n c a b 1 2 1 2 w wr rfl rfl HN.out (by omega) (by omega) HRB.out HW.out
      obtain ⟨sg, hsg⟩ : ∃ sg, signA b a 1 2 = sg := ⟨_, rfl⟩
      rw [hsg] at hsgn hX
      have HSG := bx hsgn
      clear hsgn hsg
      cases sg with
      | false =>
        rw [if_pos (.inr rfl)] at hX
        have HRk := bx (HRE.out 11 hX.symm)
        clear hX c1
        go_wp2_with fail
        refine HSG.out.mono ?_
        rintro e1 wr ⟨rfl, rfl⟩
        go_wp2
        go_ret3
        exact CenPost.bad HRk.out HW.out
      | true =>
      rw [if_neg (by rintro (h | h); exact c1 h; cases h)] at hX
      obtain ⟨sz, hsz1⟩ : ∃ sz, numA b (a + 28) 2 = sz := ⟨_, rfl⟩
      obtain ⟨ex, hex⟩ : ∃ sz, numA b (a + 30) 2 = sz := ⟨_, rfl⟩
      obtain ⟨cm, hcm⟩ : ∃ sz, numA b (a + 32) 2 = sz := ⟨_, rfl⟩
      obtain ⟨dk, hdk⟩ : ∃ sz, numA b (a + 34) 2 = sz := ⟨_, rfl⟩
      have l1 : sz < 65536 := by rw [← hsz1]; exact numA_2 _ _
      have l2 : ex < 65536 := by rw [← hex]; exact numA_2 _ _
      have l3 : cm < 65536 := by rw [← hcm]; exact numA_2 _ _
      rw [hsz1, hex, hcm, hdk] at hX
      have hrr : RB wr wr.heap.size A b := (HRB.out.below HW.out (Nat.le_refl _)).more hsz
      have HRR := bx hrr
      have HSZ := bx hsz1
      have HEX := bx hex
      have HCM := bx hcm
      have HDK := bx hdk
      have HX := bx hX
      clear hX hrr hsz1 hex hcm hdk c1
      go_wp2_with fail
      refine HSG.out.mono ?_
      rintro e1 wr ⟨rfl, rfl⟩
      go_wp2_with fail
      refine (rnum_r A n c a 28 2 28 2 b wr wr HN.out hnc hc HRR.out (Below.refl _ _) rfl rfl (by omega) (by omega) (by omega) HSZ.out).mono ?_
      rintro e2 w2 ⟨rfl, hb2⟩
      have HB2 := bx hb2
      clear hb2
      go_wp2_with fail
      refine (rnum_r A n c a 30 2 30 2 b wr w2 HN.out hnc hc HRR.out HB2.out rfl rfl (by omega) (by omega) (by omega) HEX.out).mono ?_
      rintro e3 w3 ⟨rfl, hb3⟩
      have HB3 := bx hb3
      clear hb3 HB2
      go_wp2_with fail
      refine (rnum_r A n c a 32 2 32 2 b wr w3 HN.out hnc hc HRR.out HB3.out rfl rfl (by omega) (by omega) (by omega) HCM.out).mono ?_
      rintro e4 w4 ⟨rfl, hb4⟩
      have HB4 := bx hb4
      have HW4 := bx (HW.out.trans (hb4.mono hsz))
      clear hb4 HB3 HSG
      by_cases c2 : td < a + 46 + sz + ex + cm
      · have HRk := bx (HRE.out 11 (by rw [← HX.out, if_pos (.inl c2)]))
        have c2I : (td : Int) - (a : Int) < 46 + (sz : Int) + (ex : Int) + (cm : Int) := by omega
        clear c2
        go_wp2
        go_ret3
        exact CenPost.bad HRk.out HW4.out
      have c2I : ¬ (td : Int) - (a : Int) < 46 + (sz : Int) + (ex : Int) + (cm : Int) := by omega
      by_cases c3 : dk = 0
      case neg =>
        have HRk := bx (HRE.out 11 (by rw [← HX.out, if_pos (.inr c3)]))
        have hdI : ((dk : Int) != 0) = true := by rw [bne_iff_ne]; omega
        clear c2 c3
        go_wp2_with fail
        refine (rnum_r A n c a 34 2 34 2 b wr w4 HN.out hnc hc HRR.out HB4.out rfl rfl (by omega) (by omega) (by omega) HDK.out).mono ?_
        rintro e5 w5 ⟨rfl, hb5⟩
        have HW5 := bx (HW.out.trans (hb5.mono hsz))
        clear hb5
        go_wp2
        go_ret3
        exact CenPost.bad HRk.out HW5.out
      have hdI : ((dk : Int) != 0) = false := by rw [bne_eq_false_iff_eq]; omega
      have hX := HX.out
      rw [if_neg (by rintro (h | h); exact c2 h; exact h c3)] at hX
      obtain ⟨nm, hnm⟩ : ∃ nm, (b.drop (a + 46)).take sz = nm := ⟨_, rfl⟩
      obtain ⟨me, hme⟩ : ∃ sz, numA b (a + 10) 2 = sz := ⟨_, rfl⟩
      obtain ⟨pk, hpk⟩ : ∃ sz, numA b (a + 20) 4 = sz := ⟨_, rfl⟩
      obtain ⟨si, hsi⟩ : ∃ sz, numA b (a + 24) 4 = sz := ⟨_, rfl⟩
      obtain ⟨su, hsu⟩ : ∃ sz, numA b (a + 16) 4 = sz := ⟨_, rfl⟩
      obtain ⟨hd, hhd⟩ : ∃ sz, numA b (a + 42) 4 = sz := ⟨_, rfl⟩
      obtain ⟨ve, hve⟩ : ∃ sz, numA b (a + 6) 2 = sz := ⟨_, rfl⟩
      obtain ⟨fl, hfl⟩ : ∃ sz, numA b (a + 8) 2 = sz := ⟨_, rfl⟩
      have m1 : me < 65536 := by rw [← hme]; exact numA_2 _ _
      have m2 : fl < 65536 := by rw [← hfl]; exact numA_2 _ _
      rw [hnm, hme, hpk, hsi, hsu, hhd, hve, hfl] at hX
      have hnl : nm.length = sz := by rw [← hnm]; simp; have := HN.out; omega
      have HNM := bx hnm
      have HNL := bx hnl
      have HME := bx hme
      have HPK := bx hpk
      have HSI := bx hsi
      have HSU := bx hsu
      have HHD := bx hhd
      have HVE := bx hve
      have HFL := bx hfl
      have HX0 := bx hX
      clear hnm hme hpk hsi hsu hhd hX hnl hve hfl HX c2 c3
      go_wp2_with fail
      refine (rnum_r A n c a 34 2 34 2 b wr w4 HN.out hnc hc HRR.out HB4.out rfl rfl (by omega) (by omega) (by omega) HDK.out).mono ?_
      rintro e5 w5 ⟨rfl, hb5⟩
      have HB5 := bx hb5
      clear hb5 HB4 HW4
      go_wp2_with fail
      refine (rnum_r A n c a 10 2 10 2 b wr w5 HN.out hnc hc HRR.out HB5.out rfl rfl (by omega) (by omega) (by omega) HME.out).mono ?_
      rintro e6 w6 ⟨rfl, hb6⟩
      have HB6 := bx hb6
      clear hb6 HB5
      go_wp2_with fail
      refine (rnum_r A n c a 8 2 8 2 b wr w6 HN.out hnc hc HRR.out HB6.out rfl rfl (by omega) (by omega) (by omega) HFL.out).mono ?_
      rintro e7 w7 ⟨rfl, hb7⟩
      have HB7 := bx hb7
      clear hb7 HB6
      go_wp2_with fail
      obtain ⟨w8, hw8⟩ : ∃ w8, w7.alloc (.cells #[.int .i64 2, .int .i64 4, .int .i64 2048] 3) = w8 := ⟨_, rfl⟩
      have hz7 : w7.heap.size = w7.heap.size := rfl
      obtain ⟨g7, hg7⟩ : ∃ g7, w7.heap.size = g7 := ⟨_, rfl⟩
      have hk7 : Bk w8 g7 3 #[.int .i64 2, .int .i64 4, .int .i64 2048] := by rw [← hw8]; exact Bk.newAt _ _ _ hg7
      have k0 : w8.cell? ⟨g7, 0, none⟩ = some (.int .i64 2) := (hk7.cell 0).trans rfl
      have k1 : w8.cell? ⟨g7, 1, none⟩ = some (.int .i64 4) := (hk7.cell 1).trans rfl
      have k2 : w8.cell? ⟨g7, 2, none⟩ = some (.int .i64 2048) := (hk7.cell 2).trans rfl
      have HB8 : Bx (Below wr.heap.size wr w8) := by rw [← hw8]; exact bx (bl_alloc HB7.out (Nat.le_refl _) _)
      rw [hg7, hw8]
      clear hw8 hg7 hk7 hz7 HB7
      go_loop [18, 77] (fun ov kv => ∃ k : Nat, k ≤ 3 ∧ kv = .int .i64 (k : Int) ∧ ov = .int .i64 (flK fl k : Int)) (fun _ kv => 3 - (intOf kv).toNat)
      case atStart => exact ⟨0, by omega, rfl, rfl⟩
      case round =>
        obtain ⟨k, hk, rfl, rfl⟩ := hrel
        obtain ⟨flv, hflv⟩ : ∃ flv, flK fl k = flv := ⟨_, rfl⟩
        have hflz : flv < 65536 := by
          have : flK fl k ≤ fl := by
            unfold flK
            split
            · omega
            · omega
            · omega
            · unfold flagsA; omega
          omega
        rw [hflv]
        rcases (by omega : k = 0 ∨ k = 1 ∨ k = 2 ∨ k = 3) with rfl | rfl | rfl | rfl
        · -- DEV{
          by_cases hb : flv / 2 % 2 = 1
          · have hbI : ((flv : Int) / 2 % 2 == 1) = true := by rw [beq_iff_eq]; omega
            have hge : 2 ≤ flv := by omega
            have hn : flK fl 1 = flv - 2 := by rw [← hflv] at hb ⊢; simp only [flK] at hb ⊢; omega
            have HN2 := bx hn
            clear hn hb hflv
            go_wp2
            go_round
            case rel => exact ⟨1, by omega, rfl, by rw [HN2.out]; go_num⟩
            case measure => simp [intOf]
          · have hbI : ((flv : Int) / 2 % 2 == 1) = false := by rw [beq_eq_false_iff_ne]; omega
            have hn : flK fl 1 = flv := by rw [← hflv] at hb ⊢; simp only [flK] at hb ⊢; omega
            have HN2 := bx hn
            clear hn hb hflv
            go_wp2
            go_round
            case rel => exact ⟨1, by omega, rfl, by rw [HN2.out]⟩
            case measure => simp [intOf]
          -- DEV}
        · -- DEV{
          by_cases hb : flv / 4 % 2 = 1
          · have hbI : ((flv : Int) / 4 % 2 == 1) = true := by rw [beq_iff_eq]; omega
            have hge : 4 ≤ flv := by omega
            have hn : flK fl 2 = flv - 4 := by rw [← hflv] at hb ⊢; simp only [flK] at hb ⊢; omega
            have HN2 := bx hn
            clear hn hb hflv
            go_wp2
            go_round
            case rel => exact ⟨2, by omega, rfl, by rw [HN2.out]; go_num⟩
            case measure => simp [intOf]
          · have hbI : ((flv : Int) / 4 % 2 == 1) = false := by rw [beq_eq_false_iff_ne]; omega
            have hn : flK fl 2 = flv := by rw [← hflv] at hb ⊢; simp only [flK] at hb ⊢; omega
            have HN2 := bx hn
            clear hn hb hflv
            go_wp2
            go_round
            case rel => exact ⟨2, by omega, rfl, by rw [HN2.out]⟩
            case measure => simp [intOf]
          -- DEV}
        · -- DEV{
          by_cases hb : flv / 2048 % 2 = 1
          · have hbI : ((flv : Int) / 2048 % 2 == 1) = true := by rw [beq_iff_eq]; omega
            have hge : 2048 ≤ flv := by omega
            have hn : flK fl 3 = flv - 2048 := by rw [← hflv] at hb ⊢; simp only [flK, flagsA] at hb ⊢; omega
            have HN2 := bx hn
            clear hn hb hflv
            go_wp2
            go_round
            case rel => exact ⟨3, by omega, rfl, by rw [HN2.out]; go_num⟩
            case measure => simp [intOf]
          · have hbI : ((flv : Int) / 2048 % 2 == 1) = false := by rw [beq_eq_false_iff_ne]; omega
            have hn : flK fl 3 = flv := by rw [← hflv] at hb ⊢; simp only [flK, flagsA] at hb ⊢; omega
            have HN2 := bx hn
            clear hn hb hflv
            go_wp2
            go_round
            case rel => exact ⟨3, by omega, rfl, by rw [HN2.out]⟩
            case measure => simp [intOf]
          -- DEV}
        have hfa : flagsA fl = flv := hflv
        rw [hfa] at HX0
        clear hfa hflv hk
        obtain ⟨bad, hbad⟩ : ∃ bad, decide (20 < ve ∨ flv ≠ 0 ∨ (me ≠ 0 ∧ me ≠ 8)) = bad := ⟨_, rfl⟩
        have HBAD := bx hbad
        clear k0 k1 k2 HFL
        go_upto_region 21 with (fail)
        go_cut [106] (fun v wx => v = .bool bad ∧ Bx (Below wr.heap.size wr wx))
        case first => -- DEV{
          go_wp2_with fail
          refine (rnum_r A n c a 6 2 6 2 b wr w8 HN.out hnc hc HRR.out HB8.out rfl rfl (by omega) (by omega) (by omega) HVE.out).mono ?_
          rintro e8 w9 ⟨rfl, hb9⟩
          have HB9 := bx hb9
          clear hb9
          by_cases d1 : 20 < ve
          · have d1I : (20 : Int) < (ve : Int) := by omega
            have hbt : bad = true := by rw [← hbad, decide_eq_true (.inl d1)]
            subst hbt
            clear hbad d1
            go_wp2
            go_meet
            case rel => exact ⟨rfl, HB9⟩
          have d1I : ¬ (20 : Int) < (ve : Int) := by omega
          have d1K := bx (decide_eq_false d1I)
          by_cases d2 : flv = 0
          case neg =>
            have hbt : bad = true := by rw [← hbad, decide_eq_true (.inr (.inl d2))]
            have d2I : ((flv : Int) != 0) = true := by rw [bne_iff_ne]; omega
            subst hbt
            clear hbad d2
            go_wp2
            go_meet
            case rel => exact ⟨by first | rfl | rw [d1K.out], HB9⟩
          have d2I : ((flv : Int) != 0) = false := by rw [bne_eq_false_iff_eq]; omega
          by_cases d3 : me = 0
          · have hbt : bad = false := by rw [← hbad]; exact decide_eq_false (by omega)
            have d3I : ((me : Int) != 0) = false := by rw [bne_eq_false_iff_eq]; omega
            subst hbt
            clear hbad d1 d2 d3
            go_wp2
            go_meet
            case rel => exact ⟨by first | rfl | rw [d1K.out], HB9⟩
          have d3I : ((me : Int) != 0) = true := by rw [bne_iff_ne]; omega
          by_cases d4 : me = 8
          · have hbt : bad = false := by rw [← hbad]; exact decide_eq_false (by omega)
            have d4I : ((me : Int) != 8) = false := by rw [bne_eq_false_iff_eq]; omega
            subst hbt
            clear hbad d1 d2 d3 d4
            go_wp2
            go_meet
            case rel => exact ⟨by first | rfl | rw [d1K.out], HB9⟩
          · have hbt : bad = true := by rw [← hbad]; exact decide_eq_true (.inr (.inr ⟨d3, d4⟩))
            have d4I : ((me : Int) != 8) = true := by rw [bne_iff_ne]; omega
            subst hbt
            clear hbad d1 d2 d3 d4
            go_wp2
            go_meet
            case rel => exact ⟨by first | rfl | rw [d1K.out], HB9⟩
          -- DEV}
        case rest =>
        rename World => w9
        obtain ⟨rfl, HB9⟩ := hcut
        have HW9 := bx (HW.out.trans (HB9.out.mono hsz))
        have hX := HX0.out
        clear HB8 HX0 hbad
        cases bad with
        | true =>
          have HRk := bx (HRE.out 12 (by rw [← hX, if_pos (of_decide_eq_true HBAD.out)]))
          clear hX
          go_wp2
          go_ret3
          exact CenPost.bad HRk.out HW9.out
        | false =>
        rw [if_neg (of_decide_eq_false HBAD.out)] at hX
        obtain ⟨nb, hnb⟩ : ∃ nb, nameA nm = nb := ⟨_, rfl⟩
        rw [hnb] at hX
        have HNA := bx hnb
        have hnml : nm.length ≤ 70000 := by have := HNL.out; omega
        have hXn := bx hX
        obtain ⟨sn, hsn⟩ : ∃ s, (⟨nm.toArray⟩ : ByteArray) = s := ⟨_, rfl⟩
        have hsnl : sn.data.toList = nm := by rw [← hsn]
        have hsns : sn.size ≤ 140737488351232 := by rw [← hsn]; show nm.toArray.size ≤ _; simp; omega
        have HSN := bx hsnl
        have HSN' := bx hsn
        have hrr := (HRR.out.below HB9.out (Nat.le_refl _))
        obtain ⟨ad, x0, hAd, _, _, _⟩ := hrr.byte (k := a) (by have := HN.out; omega)
        subst hAd
        have hcv := run_cut_str hrr (i := a + 46) (m := sz) (c := c - (a + 46)) (n := sz) (s := sn) rfl (by have := HN.out; omega) (by rw [HNM.out]; exact hsn)
        rw [show ad.add (a + 46) = ⟨ad.block, ad.off + (a + 45 + 1), none⟩ from add_pos ad (a + 45)] at hcv
        have v5 : ¬ c = a + 46 := by omega
        have v1 : (a : Int) + 46 ≤ (a : Int) + 46 + (sz : Int) := by omega
        have v2 : (a : Int) + 46 + (sz : Int) ≤ (c : Int) := by omega
        have v3 : ((a : Int) + 46).toNat = a + 46 := Int.toNat_natCast (a + 46)
        have v4 : (0 : Int) ≤ (a : Int) + 46 := by omega
        have v6 : (0 : Int) ≤ (a : Int) + 46 + (sz : Int) := by omega
        have v7 : a + 46 ≤ c := by omega
        have v8 : a + 46 ≤ ((a : Int) + 46 + (sz : Int)).toNat := by omega
        have v9 : ((a : Int) + 46 + (sz : Int)).toNat ≤ c := by omega
        have va : ¬ c - (a + 46) = 0 := by omega
        have vb : (a : Int) + 46 ≤ (c : Int) := by omega
        clear hX hnb hsn hsnl hrr HBAD
        go_wp2_with fail
        refine (rname_any sn w9 hsns).mono ?_
        rintro e9 wa ⟨rfl, hba⟩
        rw [HSN.out, HNA.out]
        have HBa := bx (HB9.out.trans (hba.mono HB9.out.size))
        have HWa := bx (HW.out.trans (HBa.out.mono hsz))
        clear hba hcv v1 v2 v3 v4 v5 v6 v7 v8 v9 va vb HB9 HW9
        cases nb with
        | false =>
          have HRk := bx (HRE.out 13 (by rw [← hXn.out, if_pos rfl]))
          go_wp2
          go_ret3
          exact CenPost.bad HRk.out HWa.out
        | true =>
        have hX := hXn.out
        rw [if_neg (by simp)] at hX
        have HX1 := bx hX
        have HOa := bx (HO.out.step HBa.out)
        have HPa : Bx (OwI wa w.heap.size 3 u12 (acc.map plcI)) := bx (HP.out.below HBa.out)
        obtain ⟨lA, lc, hlv, _, _⟩ := HOa.out.rd
        have hlen : (acc.map rec0).length = i := by rw [List.length_map, HL.out]
        rw [hlen] at hlv
        subst hlv
        clear hX hXn hlen
        go_wp2
        go_loop [22] (fun kv => ∃ k : Nat, k ≤ i ∧ kv = .int .i64 (k : Int) ∧ Bx (∀ j x, j < k → acc[j]? = some x → x.1.name ≠ nm)) (fun kv => i - (intOf kv).toNat)
        case atStart => exact ⟨0, by omega, rfl, bx (fun j x h => absurd h (by omega))⟩
        case round =>
          obtain ⟨k, hk, rfl, HNE⟩ := hrel
          by_cases hki : k < i
          · -- DEV{
            have hkI : (k : Int) < (i : Int) := by omega
            have hkK : decide (k < i) = true := decide_eq_true hki
            obtain ⟨x, hx⟩ : ∃ x, acc[k]? = some x := ⟨_, List.getElem?_eq_getElem (by rw [HL.out]; exact hki)⟩
            obtain ⟨gl, cc, hv, _⟩ := HOa.out.form (by rw [List.length_map, HL.out]; omega)
            injection hv with hv1 hv2 hv3
            subst hv1
            have q0 : wa.cell? ⟨gl, k * 7, none⟩ = some (strV x.1.name) := HOa.out.cell recCels (k := k) (j := 0) (x := rec0 x) (by rw [List.getElem?_map, hx]; rfl) rfl
            obtain ⟨sx, hsx⟩ : ∃ s, (⟨x.1.name.toArray⟩ : ByteArray) = s := ⟨_, rfl⟩
            unfold strV at q0
            rw [hsx] at q0
            have hsxl : sx.data.toList = x.1.name := by rw [← hsx]
            clear hv2 hv3 hsx
            by_cases he : x.1.name = nm
            · have hst : (sx.toList == sn.toList) = true := tl_same (by rw [hsxl, HSN.out]; exact he)
              have HRk := bx (HRE.out 14 (by
                rw [← HX1.out, if_pos]
                rw [← he]
                exact List.mem_map_of_mem (f := fun y : Rec × Nat => y.1.name) (List.mem_of_getElem? hx)))
              clear he hsxl hx
              go_wp2
              go_ret3
              exact CenPost.bad HRk.out HWa.out
            · have hst : (sx.toList == sn.toList) = false := tl_diff (by rw [hsxl, HSN.out]; exact he)
              have HNE2 : Bx (∀ j x, j < k + 1 → acc[j]? = some x → x.1.name ≠ nm) := bx (fun j y hj hy => by
                by_cases e : j = k
                · subst e
                  rw [hx] at hy
                  injection hy with hy
                  rw [← hy]; exact he
                · exact HNE.out j y (by omega) hy)
              clear he hsxl hx
              go_wp2
              go_round
              case rel => exact ⟨k + 1, by omega, by go_num, HNE2⟩
              case measure => simp [intOf]; omega
            -- DEV}
          have hkI : ¬ (k : Int) < (i : Int) := by omega
          have hkK : decide (k < i) = false := decide_eq_false hki
          have hkeq : k = i := by omega
          have HRr := bx (HRO.out ⟨nm, me, pk, si, su, hd⟩ (a + 46 + sz + ex + cm) (by
            rw [← HX1.out, if_neg]
            intro hmem
            obtain ⟨x, hxm, hxe⟩ := List.mem_map.1 hmem
            obtain ⟨j, hj, hjx⟩ := List.getElem_of_mem hxm
            exact HNE.out j x (by rw [HL.out] at hj; omega) (by rw [List.getElem?_eq_getElem hj, hjx]) hxe))
          clear hkeq HX1 HNE
          go_wp2_with fail
          refine (rnum_r (some ad) n c a 16 4 16 4 b wr wa HN.out hnc hc HRR.out HBa.out rfl rfl (by omega) (by omega) (by omega) HSU.out).mono ?_
          rintro eb wb ⟨rfl, hbx⟩
          have HBb := bx hbx
          clear hbx
          go_wp2_with fail
          refine (rnum_r (some ad) n c a 20 4 20 4 b wr wb HN.out hnc hc HRR.out HBb.out rfl rfl (by omega) (by omega) (by omega) HPK.out).mono ?_
          rintro eb wc1 ⟨rfl, hbx⟩
          have HBc := bx hbx
          clear hbx
          go_wp2_with fail
          refine (rnum_r (some ad) n c a 24 4 24 4 b wr wc1 HN.out hnc hc HRR.out HBc.out rfl rfl (by omega) (by omega) (by omega) HSI.out).mono ?_
          rintro eb wd1 ⟨rfl, hbx⟩
          have HBd := bx hbx
          clear hbx
          go_wp2_with fail
          refine (rnum_r (some ad) n c a 42 4 42 4 b wr wd1 HN.out hnc hc HRR.out HBd.out rfl rfl (by omega) (by omega) (by omega) HHD.out).mono ?_
          rintro eb we1 ⟨rfl, hbx⟩
          have HBe := bx hbx
          clear hbx
          have HWe := bx (HW.out.trans (HBe.out.mono hsz))
          have hze : w.heap.size ≤ we1.heap.size := HWe.out.size
          have HOe := bx (show OwS recL 7 we1 w.heap.size 33 (.slice lA i lc) (acc.map rec0) from HO.out.step HBe.out)
          have HPe := bx (show OwI we1 w.heap.size 3 u12 (acc.map plcI) from HP.out.below HBe.out)
          obtain ⟨rr, hrr⟩ : ∃ rr : Rec, (⟨nm, me, pk, si, su, hd⟩ : Rec) = rr := ⟨_, rfl⟩
          have HCS : Bx ((#[.string sn, .int .i64 (me : Int), .int .i64 (pk : Int), .int .i64 (si : Int), .int .i64 (su : Int), .int .i64 0, .int .i64 (hd : Int)] : Array Value).toList = recL (rec0 (rr, a))) := bx (by rw [← HSN'.out, ← hrr]; rfl)
          rw [hrr] at HRr
          have HN4 : Bx (((acc.map rec0).length + [rec0 (rr, a)].length) * 64 ≤ 140737488355328) := bx (by have := HL.out; simp; omega)
          have HN5 : Bx (((acc.map plcI).length + [plcI (rr, a)].length) * 8 ≤ 140737488355328) := bx (by have := HL.out; simp; omega)
          have HAt : Bx ((.int .i64 (a : Int) : Value) = iV (plcI (rr, a))) := bx rfl
          clear hrr HBa HBb HBc HBd HWa HSU HPK HSI HHD HME HVE hkI hkK hki hk
          go_wp2_with (first
            | (at_builtin; refine wpList_appS _ recCels rfl (.tmp 132) (.tmp 152) rfl recTy (by decide) w.heap.size (.slice lA i lc) (acc.map rec0) rfl (OwS.alloc HOe.out _) _ _ 1 1 [rec0 (rr, a)] rfl rfl (RS.new _ _ #[.string sn, .int .i64 (me : Int), .int .i64 (pk : Int), .int .i64 (si : Int), .int .i64 (su : Int), .int .i64 0, .int .i64 (hd : Int)] HCS.out _ _) HN4.out (le_alloc0 hze _) ?_; intro v8 w8 own8 g8 k8 hb8
               have HP8 := bx (apt_kept (HPe.out.alloc _) HA.out g8)
               have HA8 := bx (apt_new (HPe.out.alloc _) HA.out k8)
               have HO8 := bx own8
               have hz8 : w.heap.size ≤ w8.heap.size := Nat.le_trans (le_alloc0 hze _) hb8.size
               have HB8 := bx ((bl_alloc HWe.out (Nat.le_refl _) _).trans hb8)
               clear own8 g8 k8 hb8)
            | (at_builtin; refine wpList_appL _ iV_one rfl (.tmp 154) (.tmp 156) rfl intTyA (by decide) w.heap.size u12 (acc.map plcI) rfl (HP8.out.alloc _) _ _ 1 1 [plcI (rr, a)] rfl rfl (RL.freshe _ _ HAt.out _) HN5.out (le_alloc0 hz8 _) ?_; intro v9 wz own9 g9 k9 hb9))
          have HO9 := bx (sapt_kept (HO8.out.alloc _) HA8.out.symm g9)
          have HA9 := bx (sapt_new (HO8.out.alloc _) HA8.out.symm k9)
          have HB9 := bx ((bl_alloc HB8.out (Nat.le_refl _) (.cells #[.int .i64 (a : Int)] 3)).trans hb9)
          have HO10 : Bx (OwS recL 7 wz w.heap.size 33 v8 ((acc ++ [(rr, a)]).map rec0)) := bx (by rw [List.map_append]; exact HO9.out)
          have HP10 : Bx (OwI wz w.heap.size 3 v9 ((acc ++ [(rr, a)]).map plcI)) := bx (by rw [List.map_append]; exact own9)
          have HL10 : Bx ((acc ++ [(rr, a)]).length = i + 1) := bx (by rw [List.length_append, HL.out]; rfl)
          have HC10 := bx HRr.out.1
          have hq9 : a + 46 + sz + ex + cm ≤ 9000000000 := by have := HRr.out.2; omega
          clear own9 g9 k9 hb9 HO9 HP8 HO8 HB8
          go_roundw
          case rel => exact ⟨i + 1, a + 46 + sz + ex + cm, acc ++ [(rr, a)], by omega, by go_num, by go_num, hq9, HC10, HL10, HB9, HO10, HP10, bx HA9.out.symm⟩
          case measure => simp [intOf]; omega
    · have himI : ¬ (i : Int) < (m : Int) := by omega
      obtain rfl : i = m := by omega
      have hC := HC.out
      rw [show i - i = 0 by omega, centA] at hC
      by_cases hap : a = td
      case neg =>
        have HRk := bx (show R = .err 11 from by rw [HR.out]; unfold cenR; rw [hC]; show (if a ≠ td then _ else _) = _; rw [if_pos hap])
        have hapI : ((a : Int) != (td : Int)) = true := by rw [bne_iff_ne]; omega
        clear hC hap
        go_wp2
        go_ret3
        exact CenPost.bad HRk.out HW.out
      have hapI : ((a : Int) != (td : Int)) = false := by rw [bne_eq_false_iff_eq]; omega
      have HRk := bx (show R = .ok acc from by rw [HR.out]; unfold cenR; rw [hC]; show (if a ≠ td then _ else _) = _; rw [if_neg (by simpa using hap)])
      clear hC hap
      go_wp2
      go_ret3
      exact CenPost.good HRk.out HW.out HO.out HP.out HA.out
end Go.Proofs.YtokojichjliieaaDoor
namespace Go.Proofs.YtokojichjliieaaDoor
open Go.RowKit
def locI : Option Nat → Int
  | none => -1
  | some a => (a : Int)
theorem piece_ext {b : List UInt8} {i j m : Nat} (h : ∀ k, k < m → b[i + k]? = b[j + k]?) : (b.drop i).take m = (b.drop j).take m := by
  apply List.ext_getElem?
  intro k
  rw [List.getElem?_take, List.getElem?_take]
  split
  · rw [List.getElem?_drop, List.getElem?_drop]; exact h k (by omega)
  · rfl
theorem piece_ne {b : List UInt8} {i j m k : Nat} {x y : UInt8} (hk : k < m) (hx : b[i + k]? = some x) (hy : b[j + k]? = some y) (hne : x ≠ y) : (b.drop i).take m ≠ (b.drop j).take m := fun e => by
  have := congrArg (·[k]?) e
  simp only [List.getElem?_take, List.getElem?_drop, if_pos hk, hx, hy] at this
  injection this with this
  exact hne this
set_option maxRecDepth 100000 in
set_option maxHeartbeats 8000000 in
theorem rloc_any (A : Option Addr) (n c dir p : Nat) (b : List UInt8) (nm : List UInt8) (me pk si su hd : Nat) (at0 : Int) (w : World) (hn : b.length = n) (hz : n ≤ 70000) (hnc : n ≤ c) (hc : (c : Int) ≤ 9223372036854775807) (hr : RB w w.heap.size A b) (hdir : dir + 22 ≤ n) (hp : p + 46 ≤ n)
    (hhead : hd < 4294967296) (_hpk : pk < 4294967296) (hnm : nm.length < 65536) :
    Calls Tryd.prog 37 #[.slice A n c, .agg #[strV nm, .int .i64 (me : Int), .int .i64 (pk : Int), .int .i64 (si : Int), .int .i64 (su : Int), .int .i64 at0, .int .i64 (hd : Int)], .int .i64 (p : Int), .int .i64 (dir : Int)] w
      fun e w' => e = .returned (.int .i64 (locI (localA b dir (⟨nm, me, pk, si, su, hd⟩, p)))) ∧ Below w.heap.size w w' := by
  obtain ⟨R, hR⟩ : ∃ R, localA b dir (⟨nm, me, pk, si, su, hd⟩, p) = R := ⟨_, rfl⟩
  rw [hR]
  obtain ⟨ri, hri⟩ : ∃ ri, locI R = ri := ⟨_, rfl⟩
  rw [hri]
  have HNo : Bx (R = none → ri = -1) := bx (fun h => by rw [← hri, h]; rfl)
  have HSo : Bx (∀ a, R = some a → ri = (a : Int)) := bx (fun a h => by rw [← hri, h]; rfl)
  unfold localA at hR
  dsimp only at hR
  obtain ⟨sn, hsn⟩ : ∃ s, (⟨nm.toArray⟩ : ByteArray) = s := ⟨_, rfl⟩
  obtain ⟨ln, hln⟩ : ∃ ln, nm.length = ln := ⟨_, rfl⟩
  have hss : sn.size = ln := by rw [← hsn, ← hln]; rfl
  have HSN := bx hsn
  rw [hln] at hR hnm
  obtain ⟨w1, hw1⟩ : ∃ w1, w.alloc (.cells #[.string sn, .int .i64 (me : Int), .int .i64 (pk : Int), .int .i64 (si : Int), .int .i64 (su : Int), .int .i64 at0, .int .i64 (hd : Int)] 33) = w1 := ⟨_, rfl⟩
  obtain ⟨g, hg⟩ : ∃ g, w.heap.size = g := ⟨_, rfl⟩
  have hk : Bk w1 g 33 #[.string sn, .int .i64 (me : Int), .int .i64 (pk : Int), .int .i64 (si : Int), .int .i64 (su : Int), .int .i64 at0, .int .i64 (hd : Int)] := by rw [← hw1]; exact Bk.newAt _ _ _ hg
  have k0 : w1.cell? ⟨g, 0, none⟩ = some (.string sn) := (hk.cell 0).trans rfl
  have k2 : w1.cell? ⟨g, 2, none⟩ = some (.int .i64 (pk : Int)) := (hk.cell 2).trans rfl
  have k6 : w1.cell? ⟨g, 6, none⟩ = some (.int .i64 (hd : Int)) := (hk.cell 6).trans rfl
  have HB1 : Bx (Below w.heap.size w w1) := bx (by rw [← hw1]; exact bl_alloc (Below.refl _ _) (Nat.le_refl _) _)
  have HR1 : Bx (RB w1 g A b) := bx (by rw [← hw1, ← hg]; exact hr.alloc (Nat.le_refl _) _)
  have hglt : g < w1.heap.size := hk.lt
  have hg1 : g ≤ w1.heap.size := by rw [← hg]; exact HB1.out.size
  have HW1 := bx hw1
  have HG := bx hg
  have HN := bx hn
  have HR0 := bx hR
  rw [hg] at HB1
  have HSV : Bx (strV nm = .string sn) := bx (by unfold strV; rw [hsn])
  rw [HSV.out]
  clear hR hri hsn hln hk hw1 hg hn hr
  have d9 : IntKind.i64.wrap ((dir : Int) - (hd : Int)) = (dir : Int) - (hd : Int) := IntWalk.i64_in _ (by omega)
  by_cases c1 : dir < hd + 30
  · have HX := bx (HNo.out (by rw [← HR0.out, if_pos (.inl c1)]))
    by_cases c2 : dir < hd
    · have c2I : (dir : Int) < (hd : Int) := by omega
      have c2K : decide (dir < hd) = true := decide_eq_true c2
      clear c1 c2
      go_enter Tryd.func37, Tryd.ntmps37
      go_wp2_with fail
      rw [HW1.out]
      rw [HG.out]
      go_wp2
      go_ret
      exact ⟨ret_v (by rw [HX.out]; rfl), by first | exact HB1.out | (rw [HG.out]; exact HB1.out)⟩
    · have c2I : ¬ (dir : Int) < (hd : Int) := by omega
      have c2K : decide (dir < hd) = false := decide_eq_false c2
      have c3I : (dir : Int) - (hd : Int) < 30 := by omega
      clear c1 c2
      go_enter Tryd.func37, Tryd.ntmps37
      go_wp2_with fail
      rw [HW1.out]
      rw [HG.out]
      go_wp2
      go_ret
      exact ⟨ret_v (by rw [HX.out]; rfl), by first | exact HB1.out | (rw [HG.out]; exact HB1.out)⟩
  have c1I : ¬ (dir : Int) < (hd : Int) := by omega
  have c1K : decide (dir < hd) = false := decide_eq_false (by omega)
  have c1J : ¬ (dir : Int) - (hd : Int) < 30 := by omega
  have c1L : decide ((dir : Int) - (hd : Int) < 30) = false := decide_eq_false c1J
  have hhd : hd + 30 ≤ dir := by omega
  obtain ⟨sg, hsg⟩ : ∃ sg, signA b hd 3 4 = sg := ⟨_, rfl⟩
  have hsgn := rsign_r A n c hd b 3 4 3 4 w1 w1 rfl rfl HN.out (by omega) (by omega) (HR1.out.more hg1) (Below.refl _ _)
  rw [hsg] at hsgn
  have hR1 := HR0.out
  rw [hsg] at hR1
  have HSG := bx hsgn
  clear hsgn hsg HR0
  cases sg with
  | false =>
    have HX := bx (HNo.out (by rw [← hR1, if_pos (.inr (.inl rfl))]))
    clear hR1 c1
    go_enter Tryd.func37, Tryd.ntmps37
    go_wp2_with fail
    rw [HW1.out]
    rw [HG.out]
    go_wp2_with fail
    refine HSG.out.mono ?_
    rintro e1 w2 ⟨rfl, rfl⟩
    go_wp2
    go_ret
    exact ⟨ret_v (by rw [HX.out]; rfl), by first | exact HB1.out | (rw [HG.out]; exact HB1.out)⟩
  | true =>
  have HR2 := bx hR1
  clear hR1 c1
  go_enter Tryd.func37, Tryd.ntmps37
  go_wp2_with fail
  rw [HW1.out]
  rw [HG.out]
  go_wp2_with fail
  refine HSG.out.mono ?_
  rintro e1 w1 ⟨rfl, rfl⟩
  go_wp2_with fail
  clear HSG HW1
  go_loopw [9] (fun iv wx => ∃ k q : Nat, k ≤ 24 ∧ iv = .int .i64 (k : Int) ∧ wx = w1.drewN q ∧ Bx (∀ j, j < k → b[hd + 4 + j]? = b[p + 6 + j]?)) (fun iv _ => 24 - (intOf iv).toNat)
  case atStart => exact ⟨0, 0, by omega, rfl, rfl, bx (fun j h => absurd h (by omega))⟩
  case round =>
    obtain ⟨k, q, hk, rfl, rfl, HEQ⟩ := hrel
    by_cases hk24 : k < 24
    · have hkI : (k : Int) < 24 := by omega
      obtain ⟨ad, x, rfl, _, hx, cx⟩ := HR1.out.byte (k := hd + 4 + k) (by have := HN.out; omega)
      obtain ⟨ad2, y, hA2, _, hy, cy⟩ := HR1.out.byte (k := p + 6 + k) (by have := HN.out; omega)
      injection hA2 with hA2
      subst hA2
      have u1 : IntKind.i64.wrap ((hd : Int) + 4) = (hd : Int) + 4 := IntWalk.i64_in _ (by omega)
      have u2 : IntKind.i64.wrap ((hd : Int) + 4 + (k : Int)) = (hd : Int) + 4 + (k : Int) := IntWalk.i64_in _ (by omega)
      have u3 : IntKind.i64.wrap ((p : Int) + 6) = (p : Int) + 6 := IntWalk.i64_in _ (by omega)
      have u4 : IntKind.i64.wrap ((p : Int) + 6 + (k : Int)) = (p : Int) + 6 + (k : Int) := IntWalk.i64_in _ (by omega)
      have u5 : ((hd : Int) + 4 + (k : Int)).toNat = hd + 4 + k := by omega
      have u6 : ((p : Int) + 6 + (k : Int)).toNat = p + 6 + k := by omega
      have u7 : (0 : Int) ≤ (hd : Int) + 4 + (k : Int) := by omega
      have u8 : (hd : Int) + 4 + (k : Int) < (n : Int) := by omega
      have u9 : (0 : Int) ≤ (p : Int) + 6 + (k : Int) := by omega
      have ua : (p : Int) + 6 + (k : Int) < (n : Int) := by omega
      by_cases hxy : x = y
      · have hb1 : ((x.toNat : Int) != (y.toNat : Int)) = false := by rw [hxy]; simp
        have HEQ2 : Bx (∀ j, j < k + 1 → b[hd + 4 + j]? = b[p + 6 + j]?) := bx (fun j hj => by
          by_cases e : j = k
          · subst e; rw [hx.out, hy.out, hxy]
          · exact HEQ.out j (by omega))
        clear hxy hx hy
        go_wp2
        go_quiet (fail)
        go_wp2
        go_roundw
        case rel => exact ⟨k + 1, q + nq, by omega, by go_num, rfl, HEQ2⟩
        case measure => simp [intOf]; omega
      · have hb1 : ((x.toNat : Int) != (y.toNat : Int)) = true := by rw [bne_iff_ne]; exact u8_ne hxy
        have HX := bx (HNo.out (by rw [← HR2.out, if_pos (.inr (.inr (piece_ne hk24 hx.out hy.out hxy)))]))
        clear hxy hx hy
        go_wp2
        go_quiet (fail)
        go_wp2
        go_ret
        exact ⟨ret_v (by rw [HX.out]; rfl), by rw [HG.out]; exact below_drewN (below_drewN HB1.out _) _⟩
    have hkI : ¬ (k : Int) < 24 := by omega
    obtain rfl : k = 24 := by omega
    have hR2 := HR2.out
    rw [if_neg (by rintro (h | h | h); omega; cases h; exact h (piece_ext HEQ.out))] at hR2
    obtain ⟨w2, hw2⟩ : ∃ w2, w1.drewN q = w2 := ⟨_, rfl⟩
    have hB2 : Bx (Below g w w2) := by rw [← hw2]; exact bx (below_drewN HB1.out _)
    have hR12 : Bx (RB w2 g A b) := by rw [← hw2]; exact bx (HR1.out.drewN q)
    have q0 : w2.cell? ⟨g, 0, none⟩ = some (.string sn) := by rw [← hw2]; exact k0
    have q2 : w2.cell? ⟨g, 2, none⟩ = some (.int .i64 (pk : Int)) := by rw [← hw2]; exact k2
    have q6 : w2.cell? ⟨g, 6, none⟩ = some (.int .i64 (hd : Int)) := by rw [← hw2]; exact k6
    have hgz : g < w2.heap.size := by rw [← hw2]; exact hglt
    rw [hw2]
    obtain ⟨ex, hex⟩ : ∃ ex, numA b (hd + 28) 2 = ex := ⟨_, rfl⟩
    have lex : ex < 65536 := by rw [← hex]; exact numA_2 _ _
    rw [hex] at hR2
    have HEX := bx hex
    have HR3 := bx hR2
    clear hw2 k0 k2 k6 hglt hg1 HB1 HR1 HR2 hR2 hex HEQ hk24 hk hkI c1K c1L c1I c1J d9
    have x1 : IntKind.i64.wrap ((dir : Int) - ((hd : Int) + 30)) = (dir : Int) - ((hd : Int) + 30) := IntWalk.i64_in _ (by omega)
    have x2 : IntKind.i64.wrap ((hd : Int) + 30 + (ln : Int)) = (hd : Int) + 30 + (ln : Int) := IntWalk.i64_in _ (by omega)
    have hF : ∀ a, a = hd + 30 + ln + ex → (dir < a ∨ dir < a + pk ∨ (b.drop (hd + 30)).take ln ≠ nm → ri = -1) ∧ (¬ (dir < a ∨ dir < a + pk ∨ (b.drop (hd + 30)).take ln ≠ nm) → ri = (a : Int)) := fun a ha => by
      subst ha
      exact ⟨fun h => HNo.out (by rw [← HR3.out, if_pos h]), fun h => HSo.out _ (by rw [← HR3.out, if_neg h])⟩
    obtain ⟨av, hav⟩ : ∃ av, av = hd + 30 + ln + ex := ⟨_, rfl⟩
    have HF := bx (hF av hav)
    have HAV := bx hav
    clear hF hav HR3 HNo HSo
    by_cases e1 : dir < hd + 30 + ln
    · have HX := bx (HF.out.1 (.inl (by have := HAV.out; omega)))
      have e1I : (dir : Int) - ((hd : Int) + 30) < (ln : Int) := by omega
      clear e1
      go_wp2
      go_quiet (fail)
      go_wp2
      go_ret
      exact ⟨ret_v (by rw [HX.out]; rfl), by rw [HG.out]; exact below_drewN hB2.out _⟩
    have e1I : ¬ (dir : Int) - ((hd : Int) + 30) < (ln : Int) := by omega
    have e1K : decide ((dir : Int) - ((hd : Int) + 30) < (ln : Int)) = false := decide_eq_false e1I
    obtain ⟨ad, x0, rfl, _, _, _⟩ := hR12.out.byte (k := hd) (by have := HN.out; omega)
    obtain ⟨s3, hs3⟩ : ∃ s, (⟨((b.drop (hd + 30)).take ln).toArray⟩ : ByteArray) = s := ⟨_, rfl⟩
    have hle : hd + 30 + ln ≤ b.length := by have := HN.out; omega
    have hcv3 := fun nq => run_cut_str (hR12.out.drewN nq) (i := hd + 30) (m := ln) (c := c - (hd + 30)) (n := ((hd : Int) + 30 + (ln : Int)).toNat - (hd + 30)) (by omega) hle hs3
    rw [show ad.add (hd + 30) = ⟨ad.block, ad.off + (hd + 29 + 1), none⟩ from add_pos ad (hd + 29)] at hcv3
    have u1 : IntKind.i64.wrap ((hd : Int) + 30) = (hd : Int) + 30 := IntWalk.i64_in _ (by omega)
    have v1 : (0 : Int) ≤ (hd : Int) + 30 := by omega
    have v2 : (hd : Int) + 30 ≤ (hd : Int) + 30 + (ln : Int) := by omega
    have v3 : (hd : Int) + 30 + (ln : Int) ≤ (c : Int) := by omega
    have v4 : ((hd : Int) + 30).toNat = hd + 30 := Int.toNat_natCast (hd + 30)
    have v5 : ¬ c = hd + 30 := by omega
    by_cases e5 : (b.drop (hd + 30)).take ln = nm
    case neg =>
      have hst : (s3.toList == sn.toList) = false := tl_diff (by rw [← hs3, ← HSN.out]; simpa using e5)
      have HX := bx (HF.out.1 (.inr (.inr e5)))
      clear hs3 e5 e1
      go_wp2
      go_quiet (fail)
      go_wp2
      go_ret
      exact ⟨ret_v (by rw [HX.out]; rfl), by rw [HG.out]; exact below_drewN hB2.out _⟩
    have hst : (s3.toList == sn.toList) = true := tl_same (by rw [← hs3, ← HSN.out]; simpa using e5)
    have HNB : Bx ((b.drop (hd + 30)).take ln = nm) := bx e5
    clear hs3 e5 e1
    go_wp2
    go_quiet (fail)
    rename Nat => nq
    go_wp2
    obtain ⟨w3, hw3⟩ : ∃ w3, w2.drewN nq = w3 := ⟨_, rfl⟩
    have hB3 : Bx (Below g w w3) := by rw [← hw3]; exact bx (below_drewN hB2.out _)
    have hR3 : Bx (RB w3 g (some ad) b) := by rw [← hw3]; exact bx (hR12.out.drewN nq)
    have r0 : w3.cell? ⟨g, 0, none⟩ = some (.string sn) := by rw [← hw3]; exact q0
    have r2 : w3.cell? ⟨g, 2, none⟩ = some (.int .i64 (pk : Int)) := by rw [← hw3]; exact q2
    have r6 : w3.cell? ⟨g, 6, none⟩ = some (.int .i64 (hd : Int)) := by rw [← hw3]; exact q6
    have hg3 : g < w3.heap.size := by rw [← hw3]; exact hgz
    rw [hw3]
    have HNUM := bx (rnum_r (some ad) n c hd 28 2 28 2 b w3.drew w3.drew HN.out hnc hc ((hR3.out.drew).more (Nat.le_of_lt hg3)) (Below.refl _ _) rfl rfl (by omega) (by omega) (by omega) HEX.out)
    clear hw3 q0 q2 q6 hgz hB2 hR12 hcv3 hst u1 v1 v2 v3 v4 v5 x1 e1K e1I HEX
    have hS0 : w3.drew.cell? ⟨g, 0, none⟩ = some (.string sn) ∧ w3.drew.cell? ⟨g, 6, none⟩ = some (.int .i64 (hd : Int)) := ⟨r0, r6⟩
    have u2 : IntKind.i64.wrap ((hd : Int) + 28) = (hd : Int) + 28 := IntWalk.i64_in _ (by omega)
    have u3 : IntKind.i64.wrap ((hd : Int) + 30 + (ln : Int)) = (hd : Int) + 30 + (ln : Int) := IntWalk.i64_in _ (by omega)
    have u4 : IntKind.i64.wrap ((hd : Int) + 30 + (ln : Int) + (ex : Int)) = (hd : Int) + 30 + (ln : Int) + (ex : Int) := IntWalk.i64_in _ (by omega)
    go_region_held3 (fun w' => w'.cell? ⟨g, 0, none⟩ = some (.string sn) ∧ w'.cell? ⟨g, 6, none⟩ = some (.int .i64 (hd : Int))) (first | exact hS0 | exact hS1) ((go_at_call 35; refine HNUM.out.mono ?_; rintro e w4 ⟨rfl, hb4⟩; have hS1 : w4.cell? ⟨g, 0, none⟩ = some (.string sn) ∧ w4.cell? ⟨g, 6, none⟩ = some (.int .i64 (hd : Int)) := ⟨(hb4.cell hg3).trans r0, (hb4.cell hg3).trans r6⟩))
    rename World => w4
    rename Below w3.drew.heap.size w3.drew w4 => hb4
    have t2 : w4.cell? ⟨g, 2, none⟩ = some (.int .i64 (pk : Int)) := (hb4.cell hg3).trans r2
    have HB4 : Bx (Below g w w4) := bx (hB3.out.trans ((below_drewN (Below.refl g w3) 1).trans (hb4.mono (Nat.le_of_lt hg3))))
    have hav' : (hd : Int) + 30 + (ln : Int) + (ex : Int) = (av : Int) := by have := HAV.out; omega
    rw [hav']
    clear hb4 hS0 hS1 hav' u2 u3 u4 HNUM r0 r2 r6 hg3 hB3 hR3
    have x5 : IntKind.i64.wrap ((dir : Int) - (av : Int)) = (dir : Int) - (av : Int) := IntWalk.i64_in _ (by have := HAV.out; omega)
    have havb : av ≤ 300000 := by have := HAV.out; omega
    by_cases e3 : dir < av
    · have HX := bx (HF.out.1 (.inl e3))
      have e3I : (dir : Int) < (av : Int) := by omega
      clear e3
      go_wp2
      go_ret
      exact ⟨ret_v (by rw [HX.out]; rfl), by rw [HG.out]; exact HB4.out⟩
    have e3I : ¬ (dir : Int) < (av : Int) := by omega
    by_cases e4 : dir < av + pk
    · have HX := bx (HF.out.1 (.inr (.inl e4)))
      have e4I : (dir : Int) - (av : Int) < (pk : Int) := by omega
      clear e3 e4
      go_wp2
      go_ret
      exact ⟨ret_v (by rw [HX.out]; rfl), by rw [HG.out]; exact HB4.out⟩
    have e4I : ¬ (dir : Int) - (av : Int) < (pk : Int) := by omega
    have HX := bx (HF.out.2 (by rintro (h | h | h); exact e3 h; exact e4 h; exact h HNB.out))
    clear e3 e4
    go_wp2
    go_ret
    exact ⟨ret_v (by rw [HX.out]; rfl), by rw [HG.out]; exact HB4.out⟩
end Go.Proofs.YtokojichjliieaaDoor
