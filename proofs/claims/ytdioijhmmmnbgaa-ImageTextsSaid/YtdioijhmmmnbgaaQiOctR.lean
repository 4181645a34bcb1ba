/- Contracts of octet.Reader: New, Num, Bytes, Left, Bad. -/
import Derived.Test.YtdioijhmmmnbgaaQiOctBi
import Derived.Test.YtdioijhmmmnbgaaQiOctNu
import Derived.Deep.RegionHeld3
namespace Go.Proofs.Ytdioijhmmmnbgaa
open Go.RowKit
/-- A reader in block g: its bytes, its place, whether it is bad. -/
def Rdr (w : World) (g : Nat) (l : List UInt8) (at_ : Nat) (bad : Bool) : Prop :=
  ∃ A c, Bk w g 92 #[.slice A l.length c, .int .i64 at_, .bool bad] ∧ RB w g A l ∧ l.length ≤ c ∧ (c : Int) ≤ 9223372036854775807 ∧ (l.length : Int) ≤ 140737488355328 ∧ at_ ≤ l.length
theorem Rdr.below {w w' : World} {g : Nat} {l : List UInt8} {at_ : Nat} {bad : Bool} (h : Rdr w g l at_ bad) (hb : Below w.heap.size w w') : Rdr w' g l at_ bad := by
  obtain ⟨A, c, h1, h2, r⟩ := h
  exact ⟨A, c, h1.below hb h1.lt, h2.below hb (Nat.le_of_lt h1.lt), r⟩
theorem Rdr.grown {w w' : World} {g : Nat} {l : List UInt8} {at_ : Nat} {bad : Bool} {row : Option Nat} (h : Rdr w g l at_ bad) (hb : w.grownBy w' row) (hr : ∀ k, row = some k → g < k) : Rdr w' g l at_ bad := by
  obtain ⟨A, c, h1, h2, r⟩ := h
  exact ⟨A, c, h1.grown hb (fun e => by have := hr g e.symm; omega), h2.grown hb (Nat.le_of_lt h1.lt) (fun k hk => Nat.le_of_lt (hr k hk)), r⟩
set_option maxHeartbeats 400000 in
theorem new_fresh (A : Option Addr) (n c : Nat) (w : World) (l : List UInt8) (hn : l.length = n) (hl : (n : Int) ≤ 140737488355328) (hr : RB w w.heap.size A l) :
    Calls Try.prog 24 #[.slice A n c] w fun e w' => ∃ g, e = .returned (.pointer (some ⟨g, 0, none⟩)) ∧ w.heap.size ≤ g ∧ Rdr w' g l 0 false ∧ Below w.heap.size w w' ∧ ∀ w'' : World, (∀ k, w.heap.size ≤ k → k < w'.heap.size → w''.heap[k]? = w'.heap[k]?) → Rdr w'' g l 0 false := by
  subst hn
  go_enter Try.func24, Try.ntmps24
  go_wp2_with (at_builtin; go_loud (refine wpList_appL _ bV_one rfl _ _ rfl byteTy (by decide) w.heap.size _ [] rfl ?c0 w.heap.size _ l.length _ l rfl rfl ?c1 ?c2 ?c3 ?_))
  case c0 => exact OwL.lit0 w (Nat.le_refl _)
  case c1 => exact hr.alloc (Nat.le_refl _) _
  case c2 => simp; omega
  case c3 => simp
  intro v1 w1 hown _ _ hb1
  have hb2 := ((Below.refl w.heap.size w).alloc (Nat.le_refl _) _).trans hb1
  have HO := Lib.hid hown
  obtain ⟨A1, c1, rfl, hr1, hc1⟩ := hown.rd
  clear hb1
  go_wp2
  go_ret
  have HA : ∀ w'' : World, (∀ k, w.heap.size ≤ k → k < (w1.alloc (.cells #[.slice A1 l.length c1, .int .i64 0, .bool false] 92)).heap.size → w''.heap[k]? = (w1.alloc (.cells #[.slice A1 l.length c1, .int .i64 0, .bool false] 92)).heap[k]?) → Rdr w'' w1.heap.size l 0 false := by
    intro w'' ha
    have hB : Bk w'' w1.heap.size 92 #[.slice A1 l.length c1, .int .i64 0, .bool false] := (ha _ hb2.size (by simp)).trans (Bk.new _ _ _)
    have ho : OwB w'' w.heap.size 5 (.slice A1 l.length c1) l := OwL.agree (OwL.alloc HO.out _) fun k h1 h2 => ha k h1 h2
    have hrr := ho.rl
    refine ⟨A1, c1, hB, ?_, hc1.1, hc1.2, hl, by omega⟩
    exact RL.low HO.out.rl hrr
  exact ⟨_, rfl, hb2.size, ⟨A1, c1, Bk.new _ _ _, hr1.alloc (Nat.le_refl _) _, hc1.1, hc1.2, hl, by omega⟩, hb2.alloc hb2.size _, HA⟩
theorem new_any (A : Option Addr) (n c : Nat) (w : World) (l : List UInt8) (hn : l.length = n) (hl : (n : Int) ≤ 140737488355328) (hr : RB w w.heap.size A l) :
    Calls Try.prog 24 #[.slice A n c] w fun e w' => ∃ g, e = .returned (.pointer (some ⟨g, 0, none⟩)) ∧ w.heap.size ≤ g ∧ Rdr w' g l 0 false ∧ Below w.heap.size w w' :=
  (new_fresh A n c w l hn hl hr).mono fun _ _ ⟨g, he, hg, hr, hb, _⟩ => ⟨g, he, hg, hr, hb⟩
/-- Is a number of n bytes there? -/
def okN (l : List UInt8) (at_ : Nat) (bad : Bool) (n : Int) : Bool := !bad && decide (1 ≤ n) && decide (n ≤ 8) && decide ((at_ : Int) + n ≤ l.length)
def numV (l : List UInt8) (at_ : Nat) (bad : Bool) (n : Int) : Int := if okN l at_ bad n then wrap64 (beN ((l.drop at_).take n.toNat)) else 0
def numAt (l : List UInt8) (at_ : Nat) (bad : Bool) (n : Int) : Nat := if okN l at_ bad n then at_ + n.toNat else at_
def NumPost (w : World) (g : Nat) (l : List UInt8) (at_ : Nat) (bad : Bool) (n : Int) (e : Ending) (w' : World) : Prop :=
  e = .returned (.int .i64 (numV l at_ bad n)) ∧ Rdr w' g l (numAt l at_ bad n) (!okN l at_ bad n) ∧ w.grownBy w' (some g)
set_option maxHeartbeats 400000 in
theorem num_ok (g : Nat) (l : List UInt8) (at_ n : Nat) (w : World) (h : Rdr w g l at_ false) (h1 : 1 ≤ n) (h2 : n ≤ 8) (h3 : at_ + n ≤ l.length) :
    Calls Try.prog 58 #[.pointer (some ⟨g, 0, none⟩), .int .i64 n] w (NumPost w g l at_ false n) := by
  obtain ⟨A, c, hB, hr, hc, hc2, hl, hat⟩ := h
  have hk : okN l at_ false (n : Int) = true := by simp [okN]; omega
  unfold NumPost numV numAt
  rw [hk, if_pos rfl, if_pos rfl, Int.toNat_natCast]
  have c0 := hB.cell 0
  have c1 := hB.cell 1
  have c2 := hB.cell 2
  simp only [List.getElem?_toArray, List.getElem?_cons_zero, List.getElem?_cons_succ] at c0 c1 c2
  have f1 := hB.frz 1
  have hglt := hB.lt
  clear hk
  go_enter Try.func58, Try.ntmps58
  go_wp2_with fail
  go_quiet ((go_at_call 70; exact quiet_eq (big_ok _ _ _ _ _ l _ rfl hl hc hc2 h1 h2 h3 ((hr.more (Nat.le_of_lt hglt)).drewN _))))
  go_wp2
  go_ret
  refine ⟨rfl, ⟨A, c, ?_, ?_, hc, hc2, hl, h3⟩, ?_⟩
  · have := (hB.drewN nq).set 1 (.int .i64 ((at_ : Int) + n))
    simpa using this
  · exact (hr.drewN nq).setCell (Nat.le_refl _) _
  · exact gb_set (gb_drewN (World.grownBy.refl _ _) _) _ _
set_option maxHeartbeats 400000 in
theorem num_bad (g : Nat) (l : List UInt8) (at_ : Nat) (n : Int) (w : World) (h : Rdr w g l at_ true) :
    Calls Try.prog 58 #[.pointer (some ⟨g, 0, none⟩), .int .i64 n] w (NumPost w g l at_ true n) := by
  have h' := h
  obtain ⟨A, c, hB, hr, hc, hc2, hl, hat⟩ := h
  have hk : okN l at_ true (n : Int) = false := by simp [okN]
  unfold NumPost numV numAt
  rw [hk]
  have H := Lib.hid h'
  have c2 := hB.cell 2
  simp only [List.getElem?_toArray, List.getElem?_cons_zero, List.getElem?_cons_succ] at c2
  clear hk h'
  go_enter Try.func58, Try.ntmps58
  go_wp2
  go_ret
  exact ⟨rfl, H.out, World.grownBy.refl _ _⟩
set_option maxHeartbeats 400000 in
theorem num_not (g : Nat) (l : List UInt8) (at_ : Nat) (n : Int) (w : World) (h : Rdr w g l at_ false) (h1 : n < 1 ∨ 8 < n ∨ (1 ≤ n ∧ n ≤ 8 ∧ (l.length : Int) < at_ + n)) :
    Calls Try.prog 58 #[.pointer (some ⟨g, 0, none⟩), .int .i64 n] w (NumPost w g l at_ false n) := by
  obtain ⟨A, c, hB, hr, hc, hc2, hl, hat⟩ := h
  have hk : okN l at_ false (n : Int) = false := by
    simp only [okN, Bool.not_false, Bool.true_and]
    rcases h1 with h1 | h1 | h1 <;> simp <;> omega
  unfold NumPost numV numAt
  rw [hk]
  have c0 := hB.cell 0
  have c1 := hB.cell 1
  have c2 := hB.cell 2
  simp only [List.getElem?_toArray, List.getElem?_cons_zero, List.getElem?_cons_succ] at c0 c1 c2
  have f2 := hB.frz 2
  have hglt := hB.lt
  clear hk
  obtain ⟨x, hx, hcall⟩ : ∃ x : Int, (x = 1 ∨ x = 2) ∧ ∀ W : World, Calls Try.prog 70 #[.slice A l.length c, .int .i64 at_, .int .i64 n] W fun e w' => e = .returned (.tuple #[.int .i64 0, .int .i64 x]) ∧ W = w' := by
    rcases h1 with h1 | h1 | h1
    · exact ⟨1, .inl rfl, fun W => big_arg _ _ _ _ _ W (.inl h1)⟩
    · exact ⟨1, .inl rfl, fun W => big_arg _ _ _ _ _ W (.inr (.inl h1))⟩
    · exact ⟨2, .inr rfl, fun W => big_short _ _ _ _ _ W hl h1.1 h1.2.1 (by omega) (by omega)⟩
  have HC := Lib.hid hcall
  have hx0 : ((x : Int) != 0) = true := by rcases hx with rfl | rfl <;> rfl
  clear hcall h1 hx
  go_enter Try.func58, Try.ntmps58
  go_wp2_with fail
  go_quiet ((go_at_call 70; exact quiet_eq (HC.out _)))
  go_wp2
  go_ret
  refine ⟨rfl, ⟨A, c, ?_, ?_, hc, hc2, hl, hat⟩, ?_⟩
  · have := (hB.drewN nq).set 2 (.bool true)
    simpa using this
  · exact (hr.drewN nq).setCell (Nat.le_refl _) _
  · exact gb_set (gb_drewN (World.grownBy.refl _ _) _) _ _
theorem num_any (g : Nat) (l : List UInt8) (at_ : Nat) (bad : Bool) (n : Int) (w : World) (h : Rdr w g l at_ bad) :
    Calls Try.prog 58 #[.pointer (some ⟨g, 0, none⟩), .int .i64 n] w (NumPost w g l at_ bad n) := by
  cases bad
  · by_cases h1 : 1 ≤ n ∧ n ≤ 8 ∧ (at_ : Int) + n ≤ l.length
    · obtain ⟨m, rfl⟩ := Int.eq_ofNat_of_zero_le (show 0 ≤ n by omega)
      exact num_ok g l at_ m w h (by omega) (by omega) (by omega)
    · exact num_not g l at_ n w h (by omega)
  · exact num_bad g l at_ n w h
/-- Are n bytes there? -/
def okB (l : List UInt8) (at_ : Nat) (bad : Bool) (n : Int) : Bool := !bad && decide (0 ≤ n) && decide ((at_ : Int) + n ≤ l.length)
def bytV (l : List UInt8) (at_ : Nat) (bad : Bool) (n : Int) : List UInt8 := if okB l at_ bad n then (l.drop at_).take n.toNat else []
def bytAt (l : List UInt8) (at_ : Nat) (bad : Bool) (n : Int) : Nat := if okB l at_ bad n then at_ + n.toNat else at_
def BytPost (w : World) (g : Nat) (l : List UInt8) (at_ : Nat) (bad : Bool) (n : Int) (e : Ending) (w' : World) : Prop :=
  ∃ r, e = .returned r ∧ OwB w' w.heap.size 5 r (bytV l at_ bad n) ∧ Rdr w' g l (bytAt l at_ bad n) (!okB l at_ bad n) ∧ w.grownBy w' (some g)
set_option maxRecDepth 100000 in
set_option maxHeartbeats 1600000 in
theorem bytes_ok (g : Nat) (l : List UInt8) (at_ n : Nat) (w : World) (h : Rdr w g l at_ false) (h3 : at_ + n ≤ l.length) :
    Calls Try.prog 71 #[.pointer (some ⟨g, 0, none⟩), .int .i64 n] w (BytPost w g l at_ false n) := by
  obtain ⟨A, c, hB, hr, hc, hc2, hl, hat⟩ := h
  have hk : okB l at_ false (n : Int) = true := by simp [okB]; omega
  unfold BytPost bytV bytAt
  rw [hk, if_pos rfl, if_pos rfl, Int.toNat_natCast]
  have c0 := hB.cell 0
  have c1 := hB.cell 1
  have c2 := hB.cell 2
  simp only [List.getElem?_toArray, List.getElem?_cons_zero, List.getElem?_cons_succ] at c0 c1 c2
  have f1 := hB.frz 1
  have hglt := hB.lt
  have hd : decide ((n : Int) < 0) = false := by simp
  have hd2 : decide ((l.length : Int) - (at_ : Int) < (n : Int)) = false := by simp; omega
  clear hk
  go_enter Try.func71, Try.ntmps71
  go_wp2_with fail
  go_quiet (fail)
  go_wp2_with fail
  have B2 : Bk ((w.drewN nq).setCell ⟨g, 1, none⟩ (.int .i64 ((at_ : Int) + n))) g 92 #[.slice A l.length c, .int .i64 ((at_ : Int) + n), .bool false] := by
    have := (hB.drewN nq).set 1 (.int .i64 ((at_ : Int) + n))
    simpa using this
  have R2 : RB ((w.drewN nq).setCell ⟨g, 1, none⟩ (.int .i64 ((at_ : Int) + n))) g A l := (hr.drewN nq).setCell (Nat.le_refl _) _
  have G2 : w.grownBy ((w.drewN nq).setCell ⟨g, 1, none⟩ (.int .i64 ((at_ : Int) + n))) (some g) := gb_set (gb_drewN (World.grownBy.refl _ _) _) _ _
  clear hB hr c0 c1 c2 f1
  generalize (w.drewN nq).setCell ⟨g, 1, none⟩ (.int .i64 ((at_ : Int) + n)) = w2 at B2 R2 G2 ⊢
  have c0 := B2.cell 0
  have c1 := B2.cell 1
  simp only [List.getElem?_toArray, List.getElem?_cons_zero, List.getElem?_cons_succ] at c0 c1
  have w1 : IntKind.i64.wrap (at_ : Int) = at_ := IntWalk.i64_in _ (by omega)
  have s1 : (0 : Int) ≤ at_ := by omega
  have s2 : (at_ : Int) ≤ at_ + n := by omega
  have s3 : (at_ : Int) + n ≤ c := by omega
  have hg2 := B2.lt
  go_region_held3 (fun w' => w'.cell? ⟨g, 0, none⟩ = some (.slice A l.length c) ∧ w'.cell? ⟨g, 1, none⟩ = some (.int .i64 ((at_ : Int) + n)))
    (first
      | go_keep
      | (go_split_ands
         refine ⟨?_, ?_⟩
         · (rw [hgr.cell_far _ (by simp; omega) (by simp [Value.ownBlock]; omega)]; assumption)
         · (rw [hgr.cell_far _ (by simp; omega) (by simp [Value.ownBlock]; omega)]; assumption)))
    ((go_loud (refine step_appL _ bV_one (by rfl) (.tmp 40) (.tmp 55) (by rfl) byteTy (by decide) w2.heap.size (.slice (some ⟨w2.heap.size, 0, none⟩) 0 0) [] (by rfl) (OwL.drew (OwL.lit0 w2 (Nat.le_refl _))) g (if c = at_ then A else A.map (·.add at_)) (at_ + n - at_) (c - at_) ((l.drop at_).take n) (by rfl) (by simp; omega) (RL.drew (((R2.cut hc).take n).alloc (Nat.le_of_lt hg2) (.cells #[] 5))) (by simp; omega) (by simp) ?_); intro v' w' hown hgr hat hbel))
  have HB : Below w2.heap.size w2 w' := (((Below.refl w2.heap.size w2).alloc (Nat.le_refl _) (.cells #[] 5)).drew).trans hbel
  have GB : w.grownBy w' (some g) := gb_then G2 HB
  have fin : OwB w' w.heap.size 5 v' ((l.drop at_).take n) ∧ Rdr w' g l (at_ + n) false ∧ w.grownBy w' (some g) := by
    refine ⟨OwL.low hown G2.size, ⟨A, c, ?_, R2.below HB (Nat.le_of_lt hg2), hc, hc2, hl, h3⟩, GB⟩
    have := B2.below HB hg2
    rwa [← Int.natCast_add] at this
  clear hown hgr hat hbel HB GB B2 R2 G2
  go_wp2
  all_goals
    go_ret
    exact ⟨v', rfl, fin⟩
set_option maxHeartbeats 400000 in
theorem bytes_bad (g : Nat) (l : List UInt8) (at_ : Nat) (n : Int) (w : World) (h : Rdr w g l at_ true) :
    Calls Try.prog 71 #[.pointer (some ⟨g, 0, none⟩), .int .i64 n] w (BytPost w g l at_ true n) := by
  have H := Lib.hid h
  obtain ⟨A, c, hB, hr, hc, hc2, hl, hat⟩ := h
  have hk : okB l at_ true (n : Int) = false := by simp [okB]
  unfold BytPost bytV bytAt
  rw [hk]
  have c2 := hB.cell 2
  simp only [List.getElem?_toArray, List.getElem?_cons_zero, List.getElem?_cons_succ] at c2
  clear hk
  go_enter Try.func71, Try.ntmps71
  go_wp2
  go_ret
  exact ⟨_, rfl, OwL.nil, H.out, World.grownBy.refl _ _⟩
set_option maxHeartbeats 800000 in
theorem bytes_not (g : Nat) (l : List UInt8) (at_ : Nat) (n : Int) (w : World) (h : Rdr w g l at_ false) (h1 : n < 0 ∨ (0 ≤ n ∧ (l.length : Int) < at_ + n)) :
    Calls Try.prog 71 #[.pointer (some ⟨g, 0, none⟩), .int .i64 n] w (BytPost w g l at_ false n) := by
  obtain ⟨A, c, hB, hr, hc, hc2, hl, hat⟩ := h
  have hk : okB l at_ false (n : Int) = false := by
    simp only [okB, Bool.not_false, Bool.true_and]
    rcases h1 with h1 | h1 <;> simp <;> omega
  unfold BytPost bytV bytAt
  rw [hk]
  have c0 := hB.cell 0
  have c1 := hB.cell 1
  have c2 := hB.cell 2
  simp only [List.getElem?_toArray, List.getElem?_cons_zero, List.getElem?_cons_succ] at c0 c1 c2
  have f2 := hB.frz 2
  have hglt := hB.lt
  clear hk
  rcases h1 with h1 | ⟨h1, h2⟩
  · have hd : decide (n < 0) = true := by simpa using h1
    go_enter Try.func71, Try.ntmps71
    go_wp2_with fail
    go_quiet (fail)
    go_wp2
    go_ret
    refine ⟨_, rfl, OwL.nil, ⟨A, c, ?_, (hr.drewN nq).setCell (Nat.le_refl _) _, hc, hc2, hl, hat⟩, gb_set (gb_drewN (World.grownBy.refl _ _) _) _ _⟩
    have := (hB.drewN nq).set 2 (.bool true)
    simpa using this
  · have hd : decide (n < 0) = false := by simpa using h1
    have hd2 : decide ((l.length : Int) - (at_ : Int) < n) = true := by simp; omega
    go_enter Try.func71, Try.ntmps71
    go_wp2_with fail
    go_quiet (fail)
    go_wp2
    go_ret
    refine ⟨_, rfl, OwL.nil, ⟨A, c, ?_, (hr.drewN nq).setCell (Nat.le_refl _) _, hc, hc2, hl, hat⟩, gb_set (gb_drewN (World.grownBy.refl _ _) _) _ _⟩
    have := (hB.drewN nq).set 2 (.bool true)
    simpa using this
theorem bytes_any (g : Nat) (l : List UInt8) (at_ : Nat) (bad : Bool) (n : Int) (w : World) (h : Rdr w g l at_ bad) :
    Calls Try.prog 71 #[.pointer (some ⟨g, 0, none⟩), .int .i64 n] w (BytPost w g l at_ bad n) := by
  cases bad
  · by_cases h1 : 0 ≤ n ∧ (at_ : Int) + n ≤ l.length
    · obtain ⟨m, rfl⟩ := Int.eq_ofNat_of_zero_le h1.1
      exact bytes_ok g l at_ m w h (by omega)
    · exact bytes_not g l at_ n w h (by omega)
  · exact bytes_bad g l at_ n w h
set_option maxHeartbeats 400000 in
theorem left_any (g : Nat) (l : List UInt8) (at_ : Nat) (bad : Bool) (w : World) (h : Rdr w g l at_ bad) :
    Calls Try.prog 31 #[.pointer (some ⟨g, 0, none⟩)] w fun e w' => e = .returned (.int .i64 ((l.length : Int) - at_)) ∧ ∃ m, w' = w.drewN m := by
  obtain ⟨A, c, hB, hr, hc, hc2, hl, hat⟩ := h
  have c0 := hB.cell 0
  have c1 := hB.cell 1
  simp only [List.getElem?_toArray, List.getElem?_cons_zero, List.getElem?_cons_succ] at c0 c1
  go_enter Try.func31, Try.ntmps31
  go_wp2_with fail
  go_quiet (fail)
  go_wp2
  go_ret
  exact ⟨rfl, _, rfl⟩
set_option maxHeartbeats 400000 in
theorem bad_any (g : Nat) (l : List UInt8) (at_ : Nat) (bad : Bool) (w : World) (h : Rdr w g l at_ bad) :
    Calls Try.prog 59 #[.pointer (some ⟨g, 0, none⟩)] w fun e w' => e = .returned (.bool bad) ∧ w = w' := by
  obtain ⟨A, c, hB, hr, hc, hc2, hl, hat⟩ := h
  have c2 := hB.cell 2
  simp only [List.getElem?_toArray, List.getElem?_cons_zero, List.getElem?_cons_succ] at c2
  go_enter Try.func59, Try.ntmps59
  go_wp2
  go_ret
  exact ⟨rfl, rfl⟩
end Go.Proofs.Ytdioijhmmmnbgaa
