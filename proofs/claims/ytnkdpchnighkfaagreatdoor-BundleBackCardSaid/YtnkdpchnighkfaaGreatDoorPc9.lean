/- What a directory answered, taken apart. What is known of a directory that is accepted, for the laws. Contract: samovarref09.Same. -/
import Derived.Test.YtnkdpchnighkfaaGreatDoorPc8
namespace Go.Proofs.YtnkdpchnighkfaaGreatDoor
open Go.RowKit
theorem cell_old {W w1 : World} {p : Addr} {v : Value} (hb : Below W.heap.size W w1) (h : W.cell? p = some v) : w1.cell? p = some v := (hb.cell (World.block_lt_of_cell? _ _ h)).trans h
theorem dirpost_err {R : Rz (List (Rec × Nat))} {k : Int} {w w' : World} {e : Ending} (h : DirPost R w e w') (hR : R = .err k) : e = .returned (.tuple #[.slice none 0 0, .int .i64 k]) ∧ Below w.heap.size w w' := by
  subst hR; exact ⟨h.2, h.1⟩
theorem dirpost_ok {R : Rz (List (Rec × Nat))} {l : List (Rec × Nat)} {w w' : World} {e : Ending} (h : DirPost R w e w') (hR : R = .ok l) : ∃ A c, e = .returned (.tuple #[.slice A l.length c, .int .i64 0]) ∧ OwS recL 7 w' w.heap.size 38 (.slice A l.length c) l ∧ RS recL w' w'.heap.size A l ∧ l.length ≤ c ∧ Below w.heap.size w w' := by
  subst hR
  obtain ⟨v, rfl, ho⟩ := h.2
  obtain ⟨A, c, rfl, hr, hc⟩ := ho.rd
  exact ⟨A, c, rfl, ho, hr, hc, h.1⟩
def dirKL : Rz (List (Rec × Nat)) → Int × List (Rec × Nat)
  | .err k => (k, [])
  | .ok l => (0, l)
theorem dirKL_len (b : List UInt8) : (dirKL (dirA b)).2.length ≤ 64 := by
  cases h : dirA b with
  | err k => exact Nat.zero_le _
  | ok l => obtain ⟨_, _, _, D⟩ := dirA_ok h; exact D.len
theorem dirpost_any {R : Rz (List (Rec × Nat))} {w w' : World} {e : Ending} {k : Int} {L : List (Rec × Nat)} (h : DirPost R w e w') (hR : dirKL R = (k, L)) : ∃ A c, e = .returned (.tuple #[.slice A L.length c, .int .i64 k]) ∧ RS recL w' w'.heap.size A L ∧ L.length ≤ c ∧ Below w.heap.size w w' := by
  cases R with
  | err j =>
    injection hR with h1 h2
    subst h1; subst h2
    exact ⟨none, 0, h.2, RS.nil, Nat.le_refl _, h.1⟩
  | ok l =>
    injection hR with h1 h2
    subst h1; subst h2
    obtain ⟨v, rfl, ho⟩ := h.2
    obtain ⟨A, c, rfl, hr, hc⟩ := ho.rd
    exact ⟨A, c, rfl, hr, hc, h.1⟩
end Go.Proofs.YtnkdpchnighkfaaGreatDoor
namespace Go.Proofs.YtnkdpchnighkfaaGreatDoor
open Go.RowKit
theorem dirA_pos {b : List UInt8} {k : Int} (h : dirA b = .err k) : 8 ≤ k ∧ k ≤ 16 := by
  unfold dirA at h
  split at h
  · injection h with h; omega
  cases he : endP b with
  | none => rw [he] at h; injection h with h; omega
  | some p =>
    rw [he] at h
    dsimp only at h
    split at h
    · injection h with h; omega
    · rw [book_cenR] at h
      cases hc : cenR b (numA b (p + 16) 4) p (numA b (p + 8) 2) with
      | err j => rw [hc] at h; injection h with h; have := cenR_pos hc; omega
      | ok l =>
        rw [hc] at h
        have h : locR b (numA b (p + 16) 4) [] l = .err k := h
        unfold locR at h
        split at h
        · injection h with h; omega
        · unfold locK at h
          split at h
          · injection h with h; omega
          · cases h
structure ApOk (b : List UInt8) (L : List (Rec × Nat)) : Prop where
  len : L.length ≤ 64
  one : ∀ (i : Nat) (x : Rec × Nat), L[i]? = some x → nameA x.1.name = true ∧ (x.1.method = 0 ∨ x.1.method = 8) ∧ x.1.head + 30 + x.1.name.length ≤ x.2 ∧ x.2 + x.1.packed + 22 ≤ b.length ∧ (b.drop (x.1.head + 30)).take x.1.name.length = x.1.name
  two : ∀ (k i : Nat) (x y : Rec × Nat), k < i → L[k]? = some x → L[i]? = some y → x.1.name ≠ y.1.name ∧ overA x y = false
theorem apOk {b : List UInt8} {L : List (Rec × Nat)} (h : dirA b = .ok L) : ApOk b L := by
  obtain ⟨_, p, dir, D⟩ := dirA_ok h
  have hp := (endP_some D.fin).1
  have hn := D.nums.2.2.2.2
  refine ⟨D.len, fun i x hx => ?_, fun k i x y hk hx hy => ⟨fun e => ?_, ?_⟩⟩
  · obtain ⟨a1, a2, a3, a4, a5⟩ := D.good x (List.mem_of_getElem? hx)
    exact ⟨a1, a2, a3, by omega, a5⟩
  · have h1 : (L.map (·.1.name))[k]? = some x.1.name := by rw [List.getElem?_map, hx]; rfl
    have h2 : (L.map (·.1.name))[i]? = some y.1.name := by rw [List.getElem?_map, hy]; rfl
    obtain ⟨hk1, e1⟩ := List.getElem?_eq_some_iff.1 h1
    obtain ⟨hi1, e2⟩ := List.getElem?_eq_some_iff.1 h2
    have := (List.nodup_iff_pairwise_ne.1 D.names)
    rw [List.pairwise_iff_getElem] at this
    exact this k i hk1 hi1 hk (by rw [e1, e2, e])
  · have := (anyOver_iff L).1 D.apart
    rw [List.pairwise_iff_getElem] at this
    obtain ⟨hk1, e1⟩ := List.getElem?_eq_some_iff.1 hx
    obtain ⟨hi1, e2⟩ := List.getElem?_eq_some_iff.1 hy
    have := this k i hk1 hi1 hk
    rwa [e1, e2] at this
def z7 : Array Value := #[.string ⟨#[]⟩, .int .i64 0, .int .i64 0, .int .i64 0, .int .i64 0, .int .i64 0, .int .i64 0]
theorem z7_eq : (#[.string ⟨#[]⟩, .int .i64 0, .int .i64 0, .int .i64 0, .int .i64 0, .int .i64 0, .int .i64 0] : Array Value) = z7 := rfl
theorem info_rec : (Tryz.prog.info? 38).map (·.size) = some 7 := by kernel_rfl
/-- A record's seven cells, the name as a text. -/
def recA7 (s : ByteArray) (me pk si su at_ hd : Nat) : Array Value := #[.string s, .int .i64 me, .int .i64 pk, .int .i64 si, .int .i64 su, .int .i64 at_, .int .i64 hd]
theorem recA7_one (s : ByteArray) (me pk si su at_ hd : Nat) : (recA7 s me pk si su at_ hd).all (·.oneCell') = true := by simp [recA7, Value.oneCell']
end Go.Proofs.YtnkdpchnighkfaaGreatDoor
namespace Go.Proofs.YtnkdpchnighkfaaGreatDoor
open Go.RowKit
theorem rs_take {α : Type} {l : List α} {k : Nat} {x : α} (h : l[k]? = some x) : l.take (k + 1) = l.take k ++ [x] := by
  rw [List.take_add_one, h]; rfl
theorem int_ne {x y : Nat} (h : ¬ x = y) : ((x : Int) == (y : Int)) = false ∧ ((x : Int) != (y : Int)) = true ∧ ¬ (x : Int) = (y : Int) ∧ decide ((x : Int) = (y : Int)) = false := by
  have h' : ¬ (x : Int) = (y : Int) := by omega
  exact ⟨by rw [beq_eq_false_iff_ne]; exact h', by rw [bne_iff_ne]; exact h', h', decide_eq_false h'⟩
set_option maxRecDepth 100000 in
set_option maxHeartbeats 8000000 in
theorem sameRecs_any (A C : Option Addr) (n c m d : Nat) (l r : List (Rec × Nat)) (w : World) (hn : l.length = n) (hm : r.length = m) (hz : n ≤ 1000000) (hz2 : m ≤ 1000000) (hl : RS recL w w.heap.size A l) (hr : RS recL w w.heap.size C r) :
    Calls Tryz.prog 11 #[.slice A n c, .slice C m d] w fun e w' => e = .returned (.bool (decide (l = r))) ∧ Below w.heap.size w w' := by
  have HL := bx hn
  have HR := bx hm
  by_cases he : n = m
  case neg =>
    have HN : Bx (decide (l = r) = false) := bx (decide_eq_false (fun e => he (by rw [← hn, ← hm, e])))
    have heI : ((n : Int) != (m : Int)) = true := by rw [bne_iff_ne]; omega
    have HB := bx (Below.refl w.heap.size w)
    clear he hn hm hl hr
    go_enter Tryz.func11, Tryz.ntmps11
    go_wp2
    go_ret
    exact ⟨ret_bool HN.out.symm, HB.out⟩
  subst he
  clear hn hm
  go_enter Tryz.func11, Tryz.ntmps11
  go_wp2
  go_loopw [5] (fun i wr => ∃ k q : Nat, k ≤ n ∧ i = .int .i64 (k : Int) ∧ Bx (l.take k = r.take k) ∧ wr = w.drewN q) (fun i _ => n - (intOf i).toNat)
  case atStart => exact ⟨0, 0, by omega, rfl, bx rfl, rfl⟩
  case round =>
    obtain ⟨k, q, hk, rfl, heq, rfl⟩ := hrel
    by_cases hk0 : k < n
    · have i1 : (0 : Int) ≤ (k : Int) := by omega
      have i2 : (k : Int) < (n : Int) := by omega
      have i3 : (k : Int).toNat = k := by omega
      obtain ⟨ad, x, rfl, hlt, hx, hc0, hc1⟩ := hl.at_ recCels (by rw [HL.out]; exact hk0)
      obtain ⟨ad2, y, rfl, hlt2, hy, hd0, hd1⟩ := hr.at_ recCels (by rw [HR.out]; exact hk0)
      have HX := bx hx.out
      have HY := bx hy.out
      clear hx hy
      obtain ⟨⟨n1, m1, p1, s1, u1, h1⟩, a1⟩ := x
      obtain ⟨⟨n2, m2, p2, s2, u2, h2⟩, a2⟩ := y
      have HNE : Bx (¬ ((⟨n1, m1, p1, s1, u1, h1⟩, a1) : Rec × Nat) = (⟨n2, m2, p2, s2, u2, h2⟩, a2) → decide (l = r) = false) := bx (fun h => decide_eq_false (by
        rintro rfl
        have := HX.out.symm.trans HY.out
        exact h (by injection this)))
      have HTK : Bx (((⟨n1, m1, p1, s1, u1, h1⟩, a1) : Rec × Nat) = (⟨n2, m2, p2, s2, u2, h2⟩, a2) → l.take (k + 1) = r.take (k + 1)) := bx (fun h => by rw [rs_take HX.out, rs_take HY.out, heq.out, h])
      obtain ⟨x1, hx1⟩ : ∃ s : ByteArray, (⟨n1.toArray⟩ : ByteArray) = s := ⟨_, rfl⟩
      obtain ⟨x2, hx2⟩ : ∃ s : ByteArray, (⟨n2.toArray⟩ : ByteArray) = s := ⟨_, rfl⟩
      have HS1 : Bx (strV n1 = .string x1) := bx (by unfold strV; rw [hx1])
      have HS2 : Bx (strV n2 = .string x2) := bx (by unfold strV; rw [hx2])
      have e1 : x1.data.toList = n1 := by rw [← hx1]
      have e2 : x2.data.toList = n2 := by rw [← hx2]
      have c0 := hc0 _ rfl
      have d0 := hd0 _ rfl
      rw [HS1.out] at c0
      rw [HS2.out] at d0
      have c1 := hc1 0 _ rfl
      have d1 := hd1 0 _ rfl
      have c2 := hc1 1 _ rfl
      have d2 := hd1 1 _ rfl
      have c3 := hc1 2 _ rfl
      have d3 := hd1 2 _ rfl
      have c4 := hc1 3 _ rfl
      have d4 := hd1 3 _ rfl
      have c5 := hc1 4 _ rfl
      have d5 := hd1 4 _ rfl
      have c6 := hc1 5 _ rfl
      have d6 := hd1 5 _ rfl
      rw [Nat.zero_add] at c1 d1
      try rw [show 1 + 1 = 2 from rfl] at c2 d2
      try rw [show 2 + 1 = 3 from rfl] at c3 d3
      try rw [show 3 + 1 = 4 from rfl] at c4 d4
      try rw [show 4 + 1 = 5 from rfl] at c5 d5
      try rw [show 5 + 1 = 6 from rfl] at c6 d6
      clear hc0 hc1 hd0 hd1 hx1 hx2
      by_cases hnn : n1 = n2
      case neg =>
        have g1 : (x1.toList == x2.toList) = false := tl_diff (by rw [e1, e2]; exact hnn)
        have g2 : ¬ x1 = x2 := fun e => hnn (by rw [← e1, ← e2, e])
        have HN := bx (HNE.out (fun e => hnn (by injection e with e; injection e)))
        clear hnn e1 e2
        go_wp2
        go_quiet (fail)
        go_wp2
        go_ret
        exact ⟨ret_bool HN.out.symm, below_drewN (below_drewN (Below.refl _ _) _) _⟩
      subst hnn
      obtain rfl : x1 = x2 := ba_eq (by rw [e1, e2])
      by_cases hmm : m1 = m2
      case neg =>
        obtain ⟨g1, g2, g3, g4⟩ := int_ne hmm
        have HN := bx (HNE.out (fun e => hmm (by injection e with e; injection e)))
        clear hmm e1 e2
        go_wp2
        go_quiet (fail)
        go_wp2
        go_ret
        exact ⟨ret_bool HN.out.symm, below_drewN (below_drewN (Below.refl _ _) _) _⟩
      subst hmm
      by_cases hpp : p1 = p2
      case neg =>
        obtain ⟨g1, g2, g3, g4⟩ := int_ne hpp
        have HN := bx (HNE.out (fun e => hpp (by injection e with e; injection e)))
        clear hpp e1 e2
        go_wp2
        go_quiet (fail)
        go_wp2
        go_ret
        exact ⟨ret_bool HN.out.symm, below_drewN (below_drewN (Below.refl _ _) _) _⟩
      subst hpp
      by_cases hss : s1 = s2
      case neg =>
        obtain ⟨g1, g2, g3, g4⟩ := int_ne hss
        have HN := bx (HNE.out (fun e => hss (by injection e with e; injection e)))
        clear hss e1 e2
        go_wp2
        go_quiet (fail)
        go_wp2
        go_ret
        exact ⟨ret_bool HN.out.symm, below_drewN (below_drewN (Below.refl _ _) _) _⟩
      subst hss
      by_cases huu : u1 = u2
      case neg =>
        obtain ⟨g1, g2, g3, g4⟩ := int_ne huu
        have HN := bx (HNE.out (fun e => huu (by injection e with e; injection e)))
        clear huu e1 e2
        go_wp2
        go_quiet (fail)
        go_wp2
        go_ret
        exact ⟨ret_bool HN.out.symm, below_drewN (below_drewN (Below.refl _ _) _) _⟩
      subst huu
      by_cases haa : a1 = a2
      case neg =>
        obtain ⟨g1, g2, g3, g4⟩ := int_ne haa
        have HN := bx (HNE.out (fun e => haa (by injection e)))
        clear haa e1 e2
        go_wp2
        go_quiet (fail)
        go_wp2
        go_ret
        exact ⟨ret_bool HN.out.symm, below_drewN (below_drewN (Below.refl _ _) _) _⟩
      subst haa
      by_cases hhh : h1 = h2
      case neg =>
        obtain ⟨g1, g2, g3, g4⟩ := int_ne hhh
        have HN := bx (HNE.out (fun e => hhh (by injection e with e; injection e)))
        clear hhh e1 e2
        go_wp2
        go_quiet (fail)
        go_wp2
        go_ret
        exact ⟨ret_bool HN.out.symm, below_drewN (below_drewN (Below.refl _ _) _) _⟩
      subst hhh
      have HT := bx (HTK.out rfl)
      clear e1 e2
      go_wp2
      go_quiet (fail)
      rename_i nq
      go_wp2
      go_roundw
      case rel => exact ⟨k + 1, q + nq, by omega, by go_num, HT, rfl⟩
      case measure => simp [intOf]; omega
    · obtain rfl : k = n := by omega
      have HN : Bx (decide (l = r) = true) := bx (by
        have h1 := heq.out
        rw [List.take_of_length_le (by rw [HL.out]; exact Nat.le_refl _), List.take_of_length_le (by rw [HR.out]; exact Nat.le_refl _)] at h1
        exact decide_eq_true h1)
      have i2 : ¬ (k : Int) < (k : Int) := by omega
      go_wp2
      go_ret
      exact ⟨ret_bool HN.out.symm, below_drewN (Below.refl _ _) _⟩
end Go.Proofs.YtnkdpchnighkfaaGreatDoor
