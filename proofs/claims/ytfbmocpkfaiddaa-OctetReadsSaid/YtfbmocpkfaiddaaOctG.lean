/- Contracts of the document's reader. -/
import Derived.Test.YtfbmocpkfaiddaaProg
import Derived.Test.YtfbmocpkfaiddaaOctE
import Derived.Deep.RegionHeld3
namespace Go.Proofs.Ytfbmocpkfaiddaa
open Go.RowKit

/-- The document's reader in block g. -/
def Rdx (w : World) (g : Nat) (l : List UInt8) (at_ : Nat) (bad : Bool) : Prop :=
  ∃ A c, Bk w g 38 #[.slice A l.length c, .int .i64 at_, .bool bad] ∧ RB w g A l ∧ l.length ≤ c ∧ (c : Int) ≤ 9223372036854775807 ∧ (l.length : Int) ≤ 140737488355328 ∧ at_ ≤ l.length

theorem Rdx.grown {w w' : World} {g : Nat} {l : List UInt8} {at_ : Nat} {bad : Bool} {row : Option Nat} (h : Rdx w g l at_ bad) (hb : w.grownBy w' row) (hr : ∀ k, row = some k → g < k) : Rdx w' g l at_ bad := by
  obtain ⟨A, c, h1, h2, r⟩ := h
  exact ⟨A, c, h1.grown hb (fun e => by have := hr g e.symm; omega), h2.grown hb (Nat.le_of_lt h1.lt) (fun k hk => Nat.le_of_lt (hr k hk)), r⟩
theorem Rdx.drewN {w : World} {g : Nat} {l : List UInt8} {at_ : Nat} {bad : Bool} (h : Rdx w g l at_ bad) (n : Nat) : Rdx (w.drewN n) g l at_ bad := h
/-- Bytes don't lie in a reader's block. -/
theorem rb_ne {w : World} {B g t n c : Nat} {ad : Addr} {A : Option Addr} {l : List UInt8} {p : Int} {b : Bool} (h : RB w B (some ad) l) (hl : l.map bV ≠ []) (hB : Bk w g t #[.slice A n c, .int .i64 p, .bool b]) : ad.block ≠ g := by
  intro e
  obtain ⟨ad', e', _, hc⟩ := h hl
  injection e' with e'
  subst e'
  match l, hl with
  | x :: r, _ =>
    have h0 := hc 0 (bV x) rfl
    have ha : ad.add 0 = ad := by simp [Addr.add]
    rw [ha] at h0
    unfold Bk at hB
    rw [← e] at hB
    simp only [World.cell?, hB] at h0
    split at h0
    · cases h0
    · match ho : ad.off with
      | 0 => rw [ho] at h0; simp [bV] at h0
      | 1 => rw [ho] at h0; simp [bV] at h0
      | 2 => rw [ho] at h0; simp [bV] at h0
      | q + 3 => rw [ho] at h0; simp at h0
/-- The other reader's block has turned. -/
theorem Rdx.far {w w' : World} {g g' : Nat} {l l' : List UInt8} {at_ at' : Nat} {bad bad' : Bool} (h : Rdx w g l at_ bad) (hr : Rdr w g' l' at' bad') (hb : w.grownBy w' (some g')) (hg : g' ≠ g) : Rdx w' g l at_ bad := by
  obtain ⟨A, c, h1, h2, r⟩ := h
  obtain ⟨_, _, hB, _⟩ := hr
  refine ⟨A, c, h1.grown hb (fun e => by injection e; omega), fun hn => ?_, r⟩
  obtain ⟨ad, rfl, hlt, hc⟩ := h2 hn
  refine ⟨ad, rfl, hlt, fun i u hu => ?_⟩
  have hne := rb_ne h2 hn hB
  have h3 := hc i u hu
  have hl := World.block_lt_of_cell? _ _ h3
  rw [← h3]
  exact World.cell?_of_block (hb.block _ hl (fun e => by rw [blk_add] at e; injection e with e; exact hne e))
theorem Rdr.far {w w' : World} {g g' : Nat} {l l' : List UInt8} {at_ at' : Nat} {bad bad' : Bool} (h : Rdr w g l at_ bad) (hr : Rdx w g' l' at' bad') (hb : w.grownBy w' (some g')) (hg : g' ≠ g) : Rdr w' g l at_ bad := by
  obtain ⟨A, c, h1, h2, r⟩ := h
  obtain ⟨_, _, hB, _⟩ := hr
  refine ⟨A, c, h1.grown hb (fun e => by injection e; omega), fun hn => ?_, r⟩
  obtain ⟨ad, rfl, hlt, hc⟩ := h2 hn
  refine ⟨ad, rfl, hlt, fun i u hu => ?_⟩
  have hne := rb_ne h2 hn hB
  have h3 := hc i u hu
  have hl := World.block_lt_of_cell? _ _ h3
  rw [← h3]
  exact World.cell?_of_block (hb.block _ hl (fun e => by rw [blk_add] at e; injection e with e; exact hne e))
theorem Rdx.drew {w : World} {g : Nat} {l : List UInt8} {at_ : Nat} {bad : Bool} (h : Rdx w g l at_ bad) : Rdx w.drew g l at_ bad := h
theorem Rdr.drew {w : World} {g : Nat} {l : List UInt8} {at_ : Nat} {bad : Bool} (h : Rdr w g l at_ bad) : Rdr w.drew g l at_ bad := h
theorem Rdx.lt {w : World} {g : Nat} {l : List UInt8} {at_ : Nat} {bad : Bool} (h : Rdx w g l at_ bad) : g < w.heap.size := by
  obtain ⟨_, _, hB, _⟩ := h; exact hB.lt
theorem Rdr.lt {w : World} {g : Nat} {l : List UInt8} {at_ : Nat} {bad : Bool} (h : Rdr w g l at_ bad) : g < w.heap.size := by
  obtain ⟨_, _, hB, _⟩ := h; exact hB.lt

def BytPostX (w : World) (g : Nat) (l : List UInt8) (at_ : Nat) (bad : Bool) (n : Int) (e : Ending) (w' : World) : Prop :=
  ∃ r, e = .returned r ∧ OwB w' w.heap.size 5 r (bytV l at_ bad n) ∧ Rdx w' g l (bytAt l at_ bad n) (!okB l at_ bad n) ∧ w.grownBy w' (some g)

set_option maxRecDepth 100000 in
set_option maxHeartbeats 1600000 in
theorem refBytes_ok (g : Nat) (l : List UInt8) (at_ n : Nat) (w : World) (h : Rdx w g l at_ false) (h3 : at_ + n ≤ l.length) :
    Calls Try.prog 25 #[.pointer (some ⟨g, 0, none⟩), .int .i64 n] w (BytPostX w g l at_ false n) := by
  obtain ⟨A, c, hB, hr, hc, hc2, hl, hat⟩ := h
  have hk : okB l at_ false (n : Int) = true := by simp [okB]; omega
  unfold BytPostX bytV bytAt
  rw [hk, if_pos rfl, if_pos rfl, Int.toNat_natCast]
  have c0 := hB.cell 0
  have c1 := hB.cell 1
  have c2 := hB.cell 2
  simp only [List.getElem?_toArray, List.getElem?_cons_zero, List.getElem?_cons_succ] at c0 c1 c2
  have f1 := hB.frz 1
  have hglt := hB.lt
  have hd : decide ((n : Int) < 0) = false := by simp
  have hd2 : decide ((l.length : Int) - (at_ : Int) < (n : Int)) = false := by simp; omega
  clear hk
  go_enter Try.func25, Try.ntmps25
  go_wp2_with fail
  go_quiet (fail)
  go_wp2_with fail
  have B2 : Bk ((w.drewN nq).setCell ⟨g, 1, none⟩ (.int .i64 ((at_ : Int) + n))) g 38 #[.slice A l.length c, .int .i64 ((at_ : Int) + n), .bool false] := by
    have := (hB.drewN nq).set 1 (.int .i64 ((at_ : Int) + n))
    simpa using this
  have R2 : RB ((w.drewN nq).setCell ⟨g, 1, none⟩ (.int .i64 ((at_ : Int) + n))) g A l := (hr.drewN nq).setCell (Nat.le_refl _) _
  have G2 : w.grownBy ((w.drewN nq).setCell ⟨g, 1, none⟩ (.int .i64 ((at_ : Int) + n))) (some g) := gb_set (gb_drewN (World.grownBy.refl _ _) _) _ _
  clear hB hr c0 c1 c2 f1
  generalize (w.drewN nq).setCell ⟨g, 1, none⟩ (.int .i64 ((at_ : Int) + n)) = w2 at B2 R2 G2 ⊢
  have c0 := B2.cell 0
  have c1 := B2.cell 1
  simp only [List.getElem?_toArray, List.getElem?_cons_zero, List.getElem?_cons_succ] at c0 c1
  have w1 : IntKind.i64.wrap (at_ : Int) = at_ := IntWalk.i64_in _ (by omega)
  have s1 : (0 : Int) ≤ at_ := by omega
  have s2 : (at_ : Int) ≤ at_ + n := by omega
  have s3 : (at_ : Int) + n ≤ c := by omega
  have hg2 := B2.lt
  go_region_held3 (fun w' => w'.cell? ⟨g, 0, none⟩ = some (.slice A l.length c) ∧ w'.cell? ⟨g, 1, none⟩ = some (.int .i64 ((at_ : Int) + n)))
    (first
      | go_keep
      | (go_split_ands
         refine ⟨?_, ?_⟩
         · (rw [hgr.cell_far _ (by simp; omega) (by simp [Value.ownBlock]; omega)]; assumption)
         · (rw [hgr.cell_far _ (by simp; omega) (by simp [Value.ownBlock]; omega)]; assumption)))
    ((refine step_appL _ bV_one (by rfl) (.tmp 39) (.tmp 54) (by rfl) byteTy (by decide) w2.heap.size (.slice (some ⟨w2.heap.size, 0, none⟩) 0 0) [] (by rfl) (OwL.drew (OwL.lit0 w2 (Nat.le_refl _))) g (if c = at_ then A else A.map (·.add at_)) (at_ + n - at_) (c - at_) ((l.drop at_).take n) (by rfl) (by simp; omega) (RL.drew (((R2.cut hc).take n).alloc (Nat.le_of_lt hg2) (.cells #[] 5))) (by simp; omega) (by simp) ?_; intro v' w' hown hgr hat hbel))
  have HB : Below w2.heap.size w2 w' := (((Below.refl w2.heap.size w2).alloc (Nat.le_refl _) (.cells #[] 5)).drew).trans hbel
  have GB : w.grownBy w' (some g) := gb_then G2 HB
  have fin : OwB w' w.heap.size 5 v' ((l.drop at_).take n) ∧ Rdx w' g l (at_ + n) false ∧ w.grownBy w' (some g) := by
    refine ⟨OwL.low hown G2.size, ⟨A, c, ?_, R2.below HB (Nat.le_of_lt hg2), hc, hc2, hl, h3⟩, GB⟩
    have := B2.below HB hg2
    rwa [← Int.natCast_add] at this
  clear hown hgr hat hbel HB GB B2 R2 G2
  go_wp2
  all_goals
    go_ret
    exact ⟨v', rfl, fin⟩
set_option maxHeartbeats 800000 in
theorem refBytes_bad (g : Nat) (l : List UInt8) (at_ : Nat) (n : Int) (w : World) (h : Rdx w g l at_ true) :
    Calls Try.prog 25 #[.pointer (some ⟨g, 0, none⟩), .int .i64 n] w (BytPostX w g l at_ true n) := by
  obtain ⟨A, c, hB, hr, hc, hc2, hl, hat⟩ := h
  have hk : okB l at_ true (n : Int) = false := by simp [okB]
  unfold BytPostX bytV bytAt
  rw [hk]
  have c2 := hB.cell 2
  simp only [List.getElem?_toArray, List.getElem?_cons_zero, List.getElem?_cons_succ] at c2
  have f2 := hB.frz 2
  clear hk
  go_enter Try.func25, Try.ntmps25
  go_wp2_with fail
  go_quiet (fail)
  go_wp2
  go_ret
  refine ⟨_, rfl, OwL.nil, ⟨A, c, ?_, (hr.drewN nq).setCell (Nat.le_refl _) _, hc, hc2, hl, hat⟩, gb_set (gb_drewN (World.grownBy.refl _ _) _) _ _⟩
  have := (hB.drewN nq).set 2 (.bool true)
  simpa using this
set_option maxHeartbeats 800000 in
theorem refBytes_not (g : Nat) (l : List UInt8) (at_ : Nat) (n : Int) (w : World) (h : Rdx w g l at_ false) (h1 : n < 0 ∨ (0 ≤ n ∧ (l.length : Int) < at_ + n)) :
    Calls Try.prog 25 #[.pointer (some ⟨g, 0, none⟩), .int .i64 n] w (BytPostX w g l at_ false n) := by
  obtain ⟨A, c, hB, hr, hc, hc2, hl, hat⟩ := h
  have hk : okB l at_ false (n : Int) = false := by
    simp only [okB, Bool.not_false, Bool.true_and]
    rcases h1 with h1 | h1 <;> simp <;> omega
  unfold BytPostX bytV bytAt
  rw [hk]
  have c0 := hB.cell 0
  have c1 := hB.cell 1
  have c2 := hB.cell 2
  simp only [List.getElem?_toArray, List.getElem?_cons_zero, List.getElem?_cons_succ] at c0 c1 c2
  have f2 := hB.frz 2
  have hglt := hB.lt
  clear hk
  rcases h1 with h1 | ⟨h1, h2⟩
  · have hd : decide (n < 0) = true := by simpa using h1
    go_enter Try.func25, Try.ntmps25
    go_wp2_with fail
    go_quiet (fail)
    go_wp2
    go_ret
    refine ⟨_, rfl, OwL.nil, ⟨A, c, ?_, (hr.drewN nq).setCell (Nat.le_refl _) _, hc, hc2, hl, hat⟩, gb_set (gb_drewN (World.grownBy.refl _ _) _) _ _⟩
    have := (hB.drewN nq).set 2 (.bool true)
    simpa using this
  · have hd : decide (n < 0) = false := by simpa using h1
    have hd2 : decide ((l.length : Int) - (at_ : Int) < n) = true := by simp; omega
    go_enter Try.func25, Try.ntmps25
    go_wp2_with fail
    go_quiet (fail)
    go_wp2
    go_ret
    refine ⟨_, rfl, OwL.nil, ⟨A, c, ?_, (hr.drewN nq).setCell (Nat.le_refl _) _, hc, hc2, hl, hat⟩, gb_set (gb_drewN (World.grownBy.refl _ _) _) _ _⟩
    have := (hB.drewN nq).set 2 (.bool true)
    simpa using this
theorem refBytes_any (g : Nat) (l : List UInt8) (at_ : Nat) (bad : Bool) (n : Int) (w : World) (h : Rdx w g l at_ bad) :
    Calls Try.prog 25 #[.pointer (some ⟨g, 0, none⟩), .int .i64 n] w (BytPostX w g l at_ bad n) := by
  cases bad
  · by_cases h1 : 0 ≤ n ∧ (at_ : Int) + n ≤ l.length
    · obtain ⟨m, rfl⟩ := Int.eq_ofNat_of_zero_le h1.1
      exact refBytes_ok g l at_ m w h (by omega)
    · exact refBytes_not g l at_ n w h (by omega)
  · exact refBytes_bad g l at_ n w h

def NumPostX (w : World) (g : Nat) (l : List UInt8) (at_ : Nat) (bad : Bool) (n : Int) (e : Ending) (w' : World) : Prop :=
  e = .returned (.int .i64 (numV l at_ bad n)) ∧ Rdx w' g l (numAt l at_ bad n) (!okN l at_ bad n) ∧ w.grownBy w' (some g)

theorem OwL.off {α : Type} {f : α → Value} {w w' : World} {base e g : Nat} {v : Value} {l : List α} (h : OwL f w base e v l) (hg : w.grownBy w' (some g)) (hlt : g < base) : OwL f w' base e v l := by
  refine OwL.kept h hg ?_
  cases hv : v.ownBlock with
  | none => exact .inl rfl
  | some k => right; intro e; injection e with e; have := (World.ownsRow.lt h k hv).1; omega
theorem bytV_len {l : List UInt8} (hl : (l.length : Int) ≤ 140737488355328) (at_ : Nat) (bad : Bool) (n : Int) : ((bytV l at_ bad n).length : Int) ≤ 140737488355328 := by
  unfold bytV
  split
  · simp; omega
  · simp
theorem numAt_ge (l : List UInt8) (at_ : Nat) (bad : Bool) (n : Int) : at_ ≤ numAt l at_ bad n := by unfold numAt; split <;> omega
theorem bytAt_ge (l : List UInt8) (at_ : Nat) (bad : Bool) (n : Int) : at_ ≤ bytAt l at_ bad n := by unfold bytAt; split <;> omega
theorem numV_of (l : List UInt8) (at_ : Nat) (bad : Bool) (n : Int) (h1 : 1 ≤ n) (h2 : n ≤ 8) : num64 (bytV l at_ bad n) = numV l at_ bad n ∧ bytAt l at_ bad n = numAt l at_ bad n ∧ okB l at_ bad n = okN l at_ bad n := by
  have e : okB l at_ bad n = okN l at_ bad n := by
    unfold okB okN
    have a : decide (0 ≤ n) = true := by simp; omega
    have b : decide (1 ≤ n) = true := by simp; omega
    have c : decide (n ≤ 8) = true := by simp; omega
    rw [a, b, c]; simp
  refine ⟨?_, ?_, e⟩
  · unfold bytV numV
    rw [e, num64_eq]
    split
    · rfl
    · simp [beN, wrap64]
  · unfold bytAt numAt; rw [e]
set_option maxHeartbeats 800000 in
theorem refNum_any (g : Nat) (l : List UInt8) (at_ : Nat) (bad : Bool) (n : Int) (w : World) (h : Rdx w g l at_ bad) :
    Calls Try.prog 21 #[.pointer (some ⟨g, 0, none⟩), .int .i64 n] w (NumPostX w g l at_ bad n) := by
  have hl : ∀ b m, ((bytV l at_ b m).length : Int) ≤ 140737488355328 := by
    obtain ⟨A, c, hB, hr, hc, hc2, hl, hat⟩ := h
    intro b m
    unfold bytV
    split
    · simp; omega
    · simp
  by_cases h1 : 1 ≤ n ∧ n ≤ 8
  · obtain ⟨e1, e2, e3⟩ := numV_of l at_ bad n h1.1 h1.2
    unfold NumPostX
    rw [← e1, ← e2, ← e3]
    obtain ⟨h2, h3⟩ := h1
    have HL := Lib.hid hl
    clear e1 e2 e3 hl
    go_enter Try.func21, Try.ntmps21
    go_wp2_with fail
    refine (refBytes_any g l at_ bad n _ h).mono ?_
    rintro e w1 ⟨r, rfl, ho, hx, hg⟩
    obtain ⟨A, c, rfl, hr, _⟩ := ho.rd
    go_wp2_with fail
    refine (number_any _ _ _ _ _ rfl (HL.out _ _) hr).mono ?_
    rintro e w2 ⟨rfl, rfl⟩
    go_wp2
    go_ret
    exact ⟨rfl, hx, hg⟩
  · have hk : okN l at_ bad n = false := by
      unfold okN
      by_cases a : 1 ≤ n
      · have : decide (n ≤ 8) = false := by simp; omega
        rw [this]; simp
      · have : decide (1 ≤ n) = false := by simp; omega
        rw [this]; simp
    unfold NumPostX numV numAt
    rw [hk]
    obtain ⟨A, c, hB, hr, hc, hc2, hll, hat⟩ := h
    have f2 := hB.frz 2
    have c2 := hB.cell 2
    simp only [List.getElem?_toArray, List.getElem?_cons_zero, List.getElem?_cons_succ] at c2
    have hX : Rdx (w.setCell ⟨g, 2, none⟩ (.bool true)) g l at_ true := by
      refine ⟨A, c, ?_, hr.setCell (Nat.le_refl _) _, hc, hc2, hll, hat⟩
      have := hB.set 2 (.bool true)
      simpa using this
    have hG : w.grownBy (w.setCell ⟨g, 2, none⟩ (.bool true)) (some g) := gb_set (World.grownBy.refl _ _) _ _
    have hb0 : bytV l at_ true n = [] ∧ bytAt l at_ true n = at_ ∧ okB l at_ true n = false := by simp [bytV, bytAt, okB]
    have HB := Lib.hid hb0
    have h2 : n < 1 ∨ 8 < n := by omega
    clear hb0 hk hB hr hl h1
    rcases h2 with h1 | h1
    all_goals
      go_enter Try.func21, Try.ntmps21
      go_wp2_with fail
      refine (refBytes_any g l at_ true n _ hX).mono ?_
      rintro e w1 ⟨r, rfl, ho, hx, hg⟩
      rw [HB.out.1] at ho
      rw [HB.out.2.1, HB.out.2.2] at hx
      obtain ⟨A2, c2', rfl, hr2, _⟩ := ho.rd
      go_wp2_with fail
      refine (number_any _ _ _ _ [] rfl (by simp) hr2).mono ?_
      rintro e w2 ⟨rfl, rfl⟩
      go_wp2
      go_ret
      exact ⟨rfl, hx, gb_trans hG hg⟩
end Go.Proofs.Ytfbmocpkfaiddaa
