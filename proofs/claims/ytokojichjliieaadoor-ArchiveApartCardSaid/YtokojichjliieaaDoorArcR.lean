/- Contract: samovarref09.Same. -/
import Derived.Test.YtokojichjliieaaDoorArcO
namespace Go.Proofs.YtokojichjliieaaDoor
open Go.RowKit
theorem rs_take {α : Type} {l : List α} {k : Nat} {x : α} (h : l[k]? = some x) : l.take (k + 1) = l.take k ++ [x] := by
  rw [List.take_add_one, h]; rfl
theorem int_ne {x y : Nat} (h : ¬ x = y) : ((x : Int) == (y : Int)) = false ∧ ((x : Int) != (y : Int)) = true ∧ ¬ (x : Int) = (y : Int) ∧ decide ((x : Int) = (y : Int)) = false := by
  have h' : ¬ (x : Int) = (y : Int) := by omega
  exact ⟨by rw [beq_eq_false_iff_ne]; exact h', by rw [bne_iff_ne]; exact h', h', decide_eq_false h'⟩
set_option maxRecDepth 100000 in
set_option maxHeartbeats 8000000 in
theorem sameRecs_any (A C : Option Addr) (n c m d : Nat) (l r : List (Rec × Nat)) (w : World) (hn : l.length = n) (hm : r.length = m) (hz : n ≤ 1000000) (hz2 : m ≤ 1000000) (hl : RS recL w w.heap.size A l) (hr : RS recL w w.heap.size C r) :
    Calls Tryd.prog 15 #[.slice A n c, .slice C m d] w fun e w' => e = .returned (.bool (decide (l = r))) ∧ Below w.heap.size w w' := by
  have HL := bx hn
  have HR := bx hm
  by_cases he : n = m
  case neg =>
    have HN : Bx (decide (l = r) = false) := bx (decide_eq_false (fun e => he (by rw [← hn, ← hm, e])))
    have heI : ((n : Int) != (m : Int)) = true := by rw [bne_iff_ne]; omega
    have HB := bx (Below.refl w.heap.size w)
    clear he hn hm hl hr
    go_enter Tryd.func15, Tryd.ntmps15
    go_wp2
    go_ret
    exact ⟨ret_bool HN.out.symm, HB.out⟩
  subst he
  clear hn hm
  go_enter Tryd.func15, Tryd.ntmps15
  go_wp2
  go_loopw [5] (fun i wr => ∃ k q : Nat, k ≤ n ∧ i = .int .i64 (k : Int) ∧ Bx (l.take k = r.take k) ∧ wr = w.drewN q) (fun i _ => n - (intOf i).toNat)
  case atStart => exact ⟨0, 0, by omega, rfl, bx rfl, rfl⟩
  case round =>
    obtain ⟨k, q, hk, rfl, heq, rfl⟩ := hrel
    by_cases hk0 : k < n
    · have i1 : (0 : Int) ≤ (k : Int) := by omega
      have i2 : (k : Int) < (n : Int) := by omega
      have i3 : (k : Int).toNat = k := by omega
      obtain ⟨ad, x, rfl, hlt, hx, hc0, hc1⟩ := hl.at_ recCels (by rw [HL.out]; exact hk0)
      obtain ⟨ad2, y, rfl, hlt2, hy, hd0, hd1⟩ := hr.at_ recCels (by rw [HR.out]; exact hk0)
      have HX := bx hx.out
      have HY := bx hy.out
      clear hx hy
      obtain ⟨⟨n1, m1, p1, s1, u1, h1⟩, a1⟩ := x
      obtain ⟨⟨n2, m2, p2, s2, u2, h2⟩, a2⟩ := y
      have HNE : Bx (¬ ((⟨n1, m1, p1, s1, u1, h1⟩, a1) : Rec × Nat) = (⟨n2, m2, p2, s2, u2, h2⟩, a2) → decide (l = r) = false) := bx (fun h => decide_eq_false (by
        rintro rfl
        have := HX.out.symm.trans HY.out
        exact h (by injection this)))
      have HTK : Bx (((⟨n1, m1, p1, s1, u1, h1⟩, a1) : Rec × Nat) = (⟨n2, m2, p2, s2, u2, h2⟩, a2) → l.take (k + 1) = r.take (k + 1)) := bx (fun h => by rw [rs_take HX.out, rs_take HY.out, heq.out, h])
      obtain ⟨x1, hx1⟩ : ∃ s : ByteArray, (⟨n1.toArray⟩ : ByteArray) = s := ⟨_, rfl⟩
      obtain ⟨x2, hx2⟩ : ∃ s : ByteArray, (⟨n2.toArray⟩ : ByteArray) = s := ⟨_, rfl⟩
      have HS1 : Bx (strV n1 = .string x1) := bx (by unfold strV; rw [hx1])
      have HS2 : Bx (strV n2 = .string x2) := bx (by unfold strV; rw [hx2])
      have e1 : x1.data.toList = n1 := by rw [← hx1]
      have e2 : x2.data.toList = n2 := by rw [← hx2]
      have c0 := hc0 _ rfl
      have d0 := hd0 _ rfl
      rw [HS1.out] at c0
      rw [HS2.out] at d0
      have c1 := hc1 0 _ rfl
      have d1 := hd1 0 _ rfl
      have c2 := hc1 1 _ rfl
      have d2 := hd1 1 _ rfl
      have c3 := hc1 2 _ rfl
      have d3 := hd1 2 _ rfl
      have c4 := hc1 3 _ rfl
      have d4 := hd1 3 _ rfl
      have c5 := hc1 4 _ rfl
      have d5 := hd1 4 _ rfl
      have c6 := hc1 5 _ rfl
      have d6 := hd1 5 _ rfl
      rw [Nat.zero_add] at c1 d1
      try rw [show 1 + 1 = 2 from rfl] at c2 d2
      try rw [show 2 + 1 = 3 from rfl] at c3 d3
      try rw [show 3 + 1 = 4 from rfl] at c4 d4
      try rw [show 4 + 1 = 5 from rfl] at c5 d5
      try rw [show 5 + 1 = 6 from rfl] at c6 d6
      clear hc0 hc1 hd0 hd1 hx1 hx2
      by_cases hnn : n1 = n2
      case neg =>
        have g1 : (x1.toList == x2.toList) = false := tl_diff (by rw [e1, e2]; exact hnn)
        have g2 : ¬ x1 = x2 := fun e => hnn (by rw [← e1, ← e2, e])
        have HN := bx (HNE.out (fun e => hnn (by injection e with e; injection e)))
        clear hnn e1 e2
        go_wp2
        go_quiet (fail)
        go_wp2
        go_ret
        exact ⟨ret_bool HN.out.symm, below_drewN (below_drewN (Below.refl _ _) _) _⟩
      subst hnn
      obtain rfl : x1 = x2 := ba_eq (by rw [e1, e2])
      by_cases hmm : m1 = m2
      case neg =>
        obtain ⟨g1, g2, g3, g4⟩ := int_ne hmm
        have HN := bx (HNE.out (fun e => hmm (by injection e with e; injection e)))
        clear hmm e1 e2
        go_wp2
        go_quiet (fail)
        go_wp2
        go_ret
        exact ⟨ret_bool HN.out.symm, below_drewN (below_drewN (Below.refl _ _) _) _⟩
      subst hmm
      by_cases hpp : p1 = p2
      case neg =>
        obtain ⟨g1, g2, g3, g4⟩ := int_ne hpp
        have HN := bx (HNE.out (fun e => hpp (by injection e with e; injection e)))
        clear hpp e1 e2
        go_wp2
        go_quiet (fail)
        go_wp2
        go_ret
        exact ⟨ret_bool HN.out.symm, below_drewN (below_drewN (Below.refl _ _) _) _⟩
      subst hpp
      by_cases hss : s1 = s2
      case neg =>
        obtain ⟨g1, g2, g3, g4⟩ := int_ne hss
        have HN := bx (HNE.out (fun e => hss (by injection e with e; injection e)))
        clear hss e1 e2
        go_wp2
        go_quiet (fail)
        go_wp2
        go_ret
        exact ⟨ret_bool HN.out.symm, below_drewN (below_drewN (Below.refl _ _) _) _⟩
      subst hss
      by_cases huu : u1 = u2
      case neg =>
        obtain ⟨g1, g2, g3, g4⟩ := int_ne huu
        have HN := bx (HNE.out (fun e => huu (by injection e with e; injection e)))
        clear huu e1 e2
        go_wp2
        go_quiet (fail)
        go_wp2
        go_ret
        exact ⟨ret_bool HN.out.symm, below_drewN (below_drewN (Below.refl _ _) _) _⟩
      subst huu
      by_cases haa : a1 = a2
      case neg =>
        obtain ⟨g1, g2, g3, g4⟩ := int_ne haa
        have HN := bx (HNE.out (fun e => haa (by injection e)))
        clear haa e1 e2
        go_wp2
        go_quiet (fail)
        go_wp2
        go_ret
        exact ⟨ret_bool HN.out.symm, below_drewN (below_drewN (Below.refl _ _) _) _⟩
      subst haa
      by_cases hhh : h1 = h2
      case neg =>
        obtain ⟨g1, g2, g3, g4⟩ := int_ne hhh
        have HN := bx (HNE.out (fun e => hhh (by injection e with e; injection e)))
        clear hhh e1 e2
        go_wp2
        go_quiet (fail)
        go_wp2
        go_ret
        exact ⟨ret_bool HN.out.symm, below_drewN (below_drewN (Below.refl _ _) _) _⟩
      subst hhh
      have HT := bx (HTK.out rfl)
      clear e1 e2
      go_wp2
      go_quiet (fail)
      rename_i nq
      go_wp2
      go_roundw
      case rel => exact ⟨k + 1, q + nq, by omega, by go_num, HT, rfl⟩
      case measure => simp [intOf]; omega
    · obtain rfl : k = n := by omega
      have HN : Bx (decide (l = r) = true) := bx (by
        have h1 := heq.out
        rw [List.take_of_length_le (by rw [HL.out]; exact Nat.le_refl _), List.take_of_length_le (by rw [HR.out]; exact Nat.le_refl _)] at h1
        exact decide_eq_true h1)
      have i2 : ¬ (k : Int) < (k : Int) := by omega
      go_wp2
      go_ret
      exact ⟨ret_bool HN.out.symm, below_drewN (Below.refl _ _) _⟩
end Go.Proofs.YtokojichjliieaaDoor
