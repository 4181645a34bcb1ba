/- Contracts of the document's reader within a greater struct (samovarref14.reading). -/
import Derived.Test.YtdioijhmmmnbgaaPi3
import Derived.Deep.RegionHeld3
namespace Go.Proofs.Ytdioijhmmmnbgaa
open Go.RowKit
/-- Signed. -/
def signV (n v : Int) : Int := if 1 ≤ n ∧ n ≤ 8 then wrap64 (v * 2 ^ (64 - 8 * n).toNat) / 2 ^ (64 - 8 * n).toNat else v
/-- The document's reader in block g. -/
def Rdq (E : Int) (w : World) (g : Nat) (l : List UInt8) (at_ : Nat) (bad : Bool) : Prop :=
  ∃ A c, Bk w g 62 #[.slice A l.length c, .int .i64 at_, .bool bad, .int .i64 E] ∧ RB w g A l ∧ l.length ≤ c ∧ (c : Int) ≤ 9223372036854775807 ∧ (l.length : Int) ≤ 140737488355328 ∧ at_ ≤ l.length

theorem Rdq.grown {E : Int} {w w' : World} {g : Nat} {l : List UInt8} {at_ : Nat} {bad : Bool} {row : Option Nat} (h : Rdq E w g l at_ bad) (hb : w.grownBy w' row) (hr : ∀ k, row = some k → g < k) : Rdq E w' g l at_ bad := by
  obtain ⟨A, c, h1, h2, r⟩ := h
  exact ⟨A, c, h1.grown hb (fun e => by have := hr g e.symm; omega), h2.grown hb (Nat.le_of_lt h1.lt) (fun k hk => Nat.le_of_lt (hr k hk)), r⟩
theorem Rdq.drewN {E : Int} {w : World} {g : Nat} {l : List UInt8} {at_ : Nat} {bad : Bool} (h : Rdq E w g l at_ bad) (n : Nat) : Rdq E (w.drewN n) g l at_ bad := h
theorem Rdq.drew {E : Int} {w : World} {g : Nat} {l : List UInt8} {at_ : Nat} {bad : Bool} (h : Rdq E w g l at_ bad) : Rdq E w.drew g l at_ bad := h
theorem Rdq.lt {E : Int} {w : World} {g : Nat} {l : List UInt8} {at_ : Nat} {bad : Bool} (h : Rdq E w g l at_ bad) : g < w.heap.size := by
  obtain ⟨_, _, hB, _⟩ := h; exact hB.lt

def BytPostQ (E : Int) (w : World) (g : Nat) (l : List UInt8) (at_ : Nat) (bad : Bool) (n : Int) (e : Ending) (w' : World) : Prop :=
  ∃ r, e = .returned r ∧ OwB w' w.heap.size 5 r (bytV l at_ bad n) ∧ Rdq E w' g l (bytAt l at_ bad n) (!okB l at_ bad n) ∧ w.grownBy w' (some g)

set_option maxRecDepth 100000 in
set_option maxHeartbeats 1600000 in
theorem rqBytes_ok {E : Int} (g : Nat) (l : List UInt8) (at_ n : Nat) (w : World) (h : Rdq E w g l at_ false) (h3 : at_ + n ≤ l.length) :
    Calls Try.prog 73 #[.pointer (some ⟨g, 0, none⟩), .int .i64 n] w (BytPostQ E w g l at_ false n) := by
  obtain ⟨A, c, hB, hr, hc, hc2, hl, hat⟩ := h
  have hk : okB l at_ false (n : Int) = true := by simp [okB]; omega
  unfold BytPostQ bytV bytAt
  rw [hk, if_pos rfl, if_pos rfl, Int.toNat_natCast]
  have c0 := hB.cell 0
  have c1 := hB.cell 1
  have c2 := hB.cell 2
  simp only [List.getElem?_toArray, List.getElem?_cons_zero, List.getElem?_cons_succ] at c0 c1 c2
  have f1 := hB.frz 1
  have hglt := hB.lt
  have hd : decide ((n : Int) < 0) = false := by simp
  have hd2 : decide ((l.length : Int) - (at_ : Int) < (n : Int)) = false := by simp; omega
  clear hk
  go_enter Try.func73, Try.ntmps73
  go_wp2_with fail
  go_quiet (fail)
  go_wp2_with fail
  have B2 : Bk ((w.drewN nq).setCell ⟨g, 1, none⟩ (.int .i64 ((at_ : Int) + n))) g 62 #[.slice A l.length c, .int .i64 ((at_ : Int) + n), .bool false, .int .i64 E] := by
    have := (hB.drewN nq).set 1 (.int .i64 ((at_ : Int) + n))
    simpa using this
  have R2 : RB ((w.drewN nq).setCell ⟨g, 1, none⟩ (.int .i64 ((at_ : Int) + n))) g A l := (hr.drewN nq).setCell (Nat.le_refl _) _
  have G2 : w.grownBy ((w.drewN nq).setCell ⟨g, 1, none⟩ (.int .i64 ((at_ : Int) + n))) (some g) := gb_set (gb_drewN (World.grownBy.refl _ _) _) _ _
  clear hB hr c0 c1 c2 f1
  generalize (w.drewN nq).setCell ⟨g, 1, none⟩ (.int .i64 ((at_ : Int) + n)) = w2 at B2 R2 G2 ⊢
  have c0 := B2.cell 0
  have c1 := B2.cell 1
  simp only [List.getElem?_toArray, List.getElem?_cons_zero, List.getElem?_cons_succ] at c0 c1
  have w1 : IntKind.i64.wrap (at_ : Int) = at_ := IntWalk.i64_in _ (by omega)
  have s1 : (0 : Int) ≤ at_ := by omega
  have s2 : (at_ : Int) ≤ at_ + n := by omega
  have s3 : (at_ : Int) + n ≤ c := by omega
  have hg2 := B2.lt
  go_region_held3 (fun w' => w'.cell? ⟨g, 0, none⟩ = some (.slice A l.length c) ∧ w'.cell? ⟨g, 1, none⟩ = some (.int .i64 ((at_ : Int) + n)))
    (first
      | go_keep
      | (go_split_ands
         refine ⟨?_, ?_⟩
         · (rw [hgr.cell_far _ (by simp; omega) (by simp [Value.ownBlock]; omega)]; assumption)
         · (rw [hgr.cell_far _ (by simp; omega) (by simp [Value.ownBlock]; omega)]; assumption)))
    ((refine step_appL _ bV_one (by rfl) (.tmp 39) (.tmp 54) (by rfl) byteTy (by decide) w2.heap.size (.slice (some ⟨w2.heap.size, 0, none⟩) 0 0) [] (by rfl) (OwL.drew (OwL.lit0 w2 (Nat.le_refl _))) g (if c = at_ then A else A.map (·.add at_)) (at_ + n - at_) (c - at_) ((l.drop at_).take n) (by rfl) (by simp; omega) (RL.drew (((R2.cut hc).take n).alloc (Nat.le_of_lt hg2) (.cells #[] 5))) (by simp; omega) (by simp) ?_; intro v' w' hown hgr hat hbel))
  have HB : Below w2.heap.size w2 w' := (((Below.refl w2.heap.size w2).alloc (Nat.le_refl _) (.cells #[] 5)).drew).trans hbel
  have GB : w.grownBy w' (some g) := gb_then G2 HB
  have fin : OwB w' w.heap.size 5 v' ((l.drop at_).take n) ∧ Rdq E w' g l (at_ + n) false ∧ w.grownBy w' (some g) := by
    refine ⟨OwL.low hown G2.size, ⟨A, c, ?_, R2.below HB (Nat.le_of_lt hg2), hc, hc2, hl, h3⟩, GB⟩
    have := B2.below HB hg2
    rwa [← Int.natCast_add] at this
  clear hown hgr hat hbel HB GB B2 R2 G2
  go_wp2
  all_goals
    go_ret
    exact ⟨v', rfl, fin⟩
set_option maxHeartbeats 800000 in
theorem rqBytes_bad {E : Int} (g : Nat) (l : List UInt8) (at_ : Nat) (n : Int) (w : World) (h : Rdq E w g l at_ true) :
    Calls Try.prog 73 #[.pointer (some ⟨g, 0, none⟩), .int .i64 n] w (BytPostQ E w g l at_ true n) := by
  obtain ⟨A, c, hB, hr, hc, hc2, hl, hat⟩ := h
  have hk : okB l at_ true (n : Int) = false := by simp [okB]
  unfold BytPostQ bytV bytAt
  rw [hk]
  have c2 := hB.cell 2
  simp only [List.getElem?_toArray, List.getElem?_cons_zero, List.getElem?_cons_succ] at c2
  have f2 := hB.frz 2
  clear hk
  go_enter Try.func73, Try.ntmps73
  go_wp2_with fail
  go_quiet (fail)
  go_wp2
  go_ret
  refine ⟨_, rfl, OwL.nil, ⟨A, c, ?_, (hr.drewN nq).setCell (Nat.le_refl _) _, hc, hc2, hl, hat⟩, gb_set (gb_drewN (World.grownBy.refl _ _) _) _ _⟩
  have := (hB.drewN nq).set 2 (.bool true)
  simpa using this
set_option maxHeartbeats 800000 in
theorem rqBytes_not {E : Int} (g : Nat) (l : List UInt8) (at_ : Nat) (n : Int) (w : World) (h : Rdq E w g l at_ false) (h1 : n < 0 ∨ (0 ≤ n ∧ (l.length : Int) < at_ + n)) :
    Calls Try.prog 73 #[.pointer (some ⟨g, 0, none⟩), .int .i64 n] w (BytPostQ E w g l at_ false n) := by
  obtain ⟨A, c, hB, hr, hc, hc2, hl, hat⟩ := h
  have hk : okB l at_ false (n : Int) = false := by
    simp only [okB, Bool.not_false, Bool.true_and]
    rcases h1 with h1 | h1 <;> simp <;> omega
  unfold BytPostQ bytV bytAt
  rw [hk]
  have c0 := hB.cell 0
  have c1 := hB.cell 1
  have c2 := hB.cell 2
  simp only [List.getElem?_toArray, List.getElem?_cons_zero, List.getElem?_cons_succ] at c0 c1 c2
  have f2 := hB.frz 2
  have hglt := hB.lt
  clear hk
  rcases h1 with h1 | ⟨h1, h2⟩
  · have hd : decide (n < 0) = true := by simpa using h1
    go_enter Try.func73, Try.ntmps73
    go_wp2_with fail
    go_quiet (fail)
    go_wp2
    go_ret
    refine ⟨_, rfl, OwL.nil, ⟨A, c, ?_, (hr.drewN nq).setCell (Nat.le_refl _) _, hc, hc2, hl, hat⟩, gb_set (gb_drewN (World.grownBy.refl _ _) _) _ _⟩
    have := (hB.drewN nq).set 2 (.bool true)
    simpa using this
  · have hd : decide (n < 0) = false := by simpa using h1
    have hd2 : decide ((l.length : Int) - (at_ : Int) < n) = true := by simp; omega
    go_enter Try.func73, Try.ntmps73
    go_wp2_with fail
    go_quiet (fail)
    go_wp2
    go_ret
    refine ⟨_, rfl, OwL.nil, ⟨A, c, ?_, (hr.drewN nq).setCell (Nat.le_refl _) _, hc, hc2, hl, hat⟩, gb_set (gb_drewN (World.grownBy.refl _ _) _) _ _⟩
    have := (hB.drewN nq).set 2 (.bool true)
    simpa using this
theorem rqBytes_any {E : Int} (g : Nat) (l : List UInt8) (at_ : Nat) (bad : Bool) (n : Int) (w : World) (h : Rdq E w g l at_ bad) :
    Calls Try.prog 73 #[.pointer (some ⟨g, 0, none⟩), .int .i64 n] w (BytPostQ E w g l at_ bad n) := by
  cases bad
  · by_cases h1 : 0 ≤ n ∧ (at_ : Int) + n ≤ l.length
    · obtain ⟨m, rfl⟩ := Int.eq_ofNat_of_zero_le h1.1
      exact rqBytes_ok g l at_ m w h (by omega)
    · exact rqBytes_not g l at_ n w h (by omega)
  · exact rqBytes_bad g l at_ n w h

def NumPostQ (E : Int) (w : World) (g : Nat) (l : List UInt8) (at_ : Nat) (bad : Bool) (n : Int) (e : Ending) (w' : World) : Prop :=
  e = .returned (.int .i64 (numV l at_ bad n)) ∧ Rdq E w' g l (numAt l at_ bad n) (!okN l at_ bad n) ∧ w.grownBy w' (some g)

theorem OwL.off {α : Type} {f : α → Value} {w w' : World} {base e g : Nat} {v : Value} {l : List α} (h : OwL f w base e v l) (hg : w.grownBy w' (some g)) (hlt : g < base) : OwL f w' base e v l := by
  refine OwL.kept h hg ?_
  cases hv : v.ownBlock with
  | none => exact .inl rfl
  | some k => right; intro e; injection e with e; have := (World.ownsRow.lt h k hv).1; omega
theorem bytV_len {l : List UInt8} (hl : (l.length : Int) ≤ 140737488355328) (at_ : Nat) (bad : Bool) (n : Int) : ((bytV l at_ bad n).length : Int) ≤ 140737488355328 := by
  unfold bytV
  split
  · simp; omega
  · simp
theorem numAt_ge (l : List UInt8) (at_ : Nat) (bad : Bool) (n : Int) : at_ ≤ numAt l at_ bad n := by unfold numAt; split <;> omega
theorem bytAt_ge (l : List UInt8) (at_ : Nat) (bad : Bool) (n : Int) : at_ ≤ bytAt l at_ bad n := by unfold bytAt; split <;> omega
theorem numV_of (l : List UInt8) (at_ : Nat) (bad : Bool) (n : Int) (h1 : 1 ≤ n) (h2 : n ≤ 8) : num64 (bytV l at_ bad n) = numV l at_ bad n ∧ bytAt l at_ bad n = numAt l at_ bad n ∧ okB l at_ bad n = okN l at_ bad n := by
  have e : okB l at_ bad n = okN l at_ bad n := by
    unfold okB okN
    have a : decide (0 ≤ n) = true := by simp; omega
    have b : decide (1 ≤ n) = true := by simp; omega
    have c : decide (n ≤ 8) = true := by simp; omega
    rw [a, b, c]; simp
  refine ⟨?_, ?_, e⟩
  · unfold bytV numV
    rw [e, num64_eq]
    split
    · rfl
    · simp [beN, wrap64]
  · unfold bytAt numAt; rw [e]
set_option maxHeartbeats 800000 in
theorem rqNum_any {E : Int} (g : Nat) (l : List UInt8) (at_ : Nat) (bad : Bool) (n : Int) (w : World) (h : Rdq E w g l at_ bad) :
    Calls Try.prog 62 #[.pointer (some ⟨g, 0, none⟩), .int .i64 n] w (NumPostQ E w g l at_ bad n) := by
  have hl : ∀ b m, ((bytV l at_ b m).length : Int) ≤ 140737488355328 := by
    obtain ⟨A, c, hB, hr, hc, hc2, hl, hat⟩ := h
    intro b m
    unfold bytV
    split
    · simp; omega
    · simp
  by_cases h1 : 1 ≤ n ∧ n ≤ 8
  · obtain ⟨e1, e2, e3⟩ := numV_of l at_ bad n h1.1 h1.2
    unfold NumPostQ
    rw [← e1, ← e2, ← e3]
    obtain ⟨h2, h3⟩ := h1
    have HL := Lib.hid hl
    clear e1 e2 e3 hl
    go_enter Try.func62, Try.ntmps62
    go_wp2_with fail
    refine (rqBytes_any g l at_ bad n _ h).mono ?_
    rintro e w1 ⟨r, rfl, ho, hx, hg⟩
    obtain ⟨A, c, rfl, hr, _⟩ := ho.rd
    go_wp2_with fail
    refine (number_any _ _ _ _ _ rfl (HL.out _ _) hr).mono ?_
    rintro e w2 ⟨rfl, rfl⟩
    go_wp2
    go_ret
    exact ⟨rfl, hx, hg⟩
  · have hk : okN l at_ bad n = false := by
      unfold okN
      by_cases a : 1 ≤ n
      · have : decide (n ≤ 8) = false := by simp; omega
        rw [this]; simp
      · have : decide (1 ≤ n) = false := by simp; omega
        rw [this]; simp
    unfold NumPostQ numV numAt
    rw [hk]
    obtain ⟨A, c, hB, hr, hc, hc2, hll, hat⟩ := h
    have f2 := hB.frz 2
    have c2 := hB.cell 2
    simp only [List.getElem?_toArray, List.getElem?_cons_zero, List.getElem?_cons_succ] at c2
    have hX : Rdq E (w.setCell ⟨g, 2, none⟩ (.bool true)) g l at_ true := by
      refine ⟨A, c, ?_, hr.setCell (Nat.le_refl _) _, hc, hc2, hll, hat⟩
      have := hB.set 2 (.bool true)
      simpa using this
    have hG : w.grownBy (w.setCell ⟨g, 2, none⟩ (.bool true)) (some g) := gb_set (World.grownBy.refl _ _) _ _
    have hb0 : bytV l at_ true n = [] ∧ bytAt l at_ true n = at_ ∧ okB l at_ true n = false := by simp [bytV, bytAt, okB]
    have HB := Lib.hid hb0
    have h2 : n < 1 ∨ 8 < n := by omega
    clear hb0 hk hB hr hl h1
    rcases h2 with h1 | h1
    all_goals
      go_enter Try.func62, Try.ntmps62
      go_wp2_with fail
      refine (rqBytes_any g l at_ true n _ hX).mono ?_
      rintro e w1 ⟨r, rfl, ho, hx, hg⟩
      rw [HB.out.1] at ho
      rw [HB.out.2.1, HB.out.2.2] at hx
      obtain ⟨A2, c2', rfl, hr2, _⟩ := ho.rd
      go_wp2_with fail
      refine (number_any _ _ _ _ [] rfl (by simp) hr2).mono ?_
      rintro e w2 ⟨rfl, rfl⟩
      go_wp2
      go_ret
      exact ⟨rfl, hx, gb_trans hG hg⟩
theorem signV_zero (n : Int) : signV n 0 = 0 := by
  unfold signV
  split
  · rw [Int.zero_mul, show (wrap64 0 : Int) = 0 by unfold wrap64; omega, Int.zero_ediv]
  · rfl
theorem wrap64_idem (v : Int) : wrap64 (wrap64 v) = wrap64 v := by unfold wrap64; omega
theorem signV_eight (v : Int) : signV 8 (wrap64 v) = wrap64 v := by
  unfold signV
  rw [if_pos (by omega), show (64 - 8 * 8 : Int).toNat = 0 from rfl, Int.pow_zero, Int.mul_one, Int.ediv_one, wrap64_idem]
/-- Below eight bytes: the number, less 256^n where its highest bit is set. -/
theorem signV_less (m : Nat) (y : Nat) (h1 : 1 ≤ m) (h2 : m < 8) (hy : y < 256 ^ m) :
    signV m (wrap64 y) = if ((256 ^ m : Nat) : Int) / 2 ≤ wrap64 y then wrap64 y - ((256 ^ m : Nat) : Int) else wrap64 y := by
  unfold signV
  rw [if_pos (by omega)]
  have h : m = 1 ∨ m = 2 ∨ m = 3 ∨ m = 4 ∨ m = 5 ∨ m = 6 ∨ m = 7 := by omega
  rcases h with rfl | rfl | rfl | rfl | rfl | rfl | rfl
  · rw [show (64 - 8 * ((1 : Nat) : Int)).toNat = 56 from rfl, show (2 : Int) ^ 56 = 72057594037927936 from rfl]
    rw [show 256 ^ 1 = 256 from rfl] at hy ⊢
    unfold wrap64; split <;> omega
  · rw [show (64 - 8 * ((2 : Nat) : Int)).toNat = 48 from rfl, show (2 : Int) ^ 48 = 281474976710656 from rfl]
    rw [show 256 ^ 2 = 65536 from rfl] at hy ⊢
    unfold wrap64; split <;> omega
  · rw [show (64 - 8 * ((3 : Nat) : Int)).toNat = 40 from rfl, show (2 : Int) ^ 40 = 1099511627776 from rfl]
    rw [show 256 ^ 3 = 16777216 from rfl] at hy ⊢
    unfold wrap64; split <;> omega
  · rw [show (64 - 8 * ((4 : Nat) : Int)).toNat = 32 from rfl, show (2 : Int) ^ 32 = 4294967296 from rfl]
    rw [show 256 ^ 4 = 4294967296 from rfl] at hy ⊢
    unfold wrap64; split <;> omega
  · rw [show (64 - 8 * ((5 : Nat) : Int)).toNat = 24 from rfl, show (2 : Int) ^ 24 = 16777216 from rfl]
    rw [show 256 ^ 5 = 1099511627776 from rfl] at hy ⊢
    unfold wrap64; split <;> omega
  · rw [show (64 - 8 * ((6 : Nat) : Int)).toNat = 16 from rfl, show (2 : Int) ^ 16 = 65536 from rfl]
    rw [show 256 ^ 6 = 281474976710656 from rfl] at hy ⊢
    unfold wrap64; split <;> omega
  · rw [show (64 - 8 * ((7 : Nat) : Int)).toNat = 8 from rfl, show (2 : Int) ^ 8 = 256 from rfl]
    rw [show 256 ^ 7 = 72057594037927936 from rfl] at hy ⊢
    unfold wrap64; split <;> omega

theorem okN_parts {l : List UInt8} {at_ : Nat} {bad : Bool} {n : Int} (h : okN l at_ bad n = true) : 1 ≤ n ∧ n ≤ 8 ∧ (at_ : Int) + n ≤ l.length := by
  simp only [okN, Bool.and_eq_true, decide_eq_true_eq] at h
  exact ⟨h.1.1.2, h.1.2, h.2⟩

/-- What the call of Num has left. -/
def NumLeftQ (E : Int) (w : World) (g : Nat) (l : List UInt8) (n V : Int) (a' : Nat) (bd : Bool) : Prop :=
  Calls Try.prog 62 #[.pointer (some ⟨g, 0, none⟩), .int .i64 n] w fun e w' => e = .returned (.int .i64 V) ∧ Rdq E w' g l a' bd ∧ w.grownBy w' (some g)

set_option maxHeartbeats 1000000 in
theorem rqSigned_keep {E : Int} (g : Nat) (l : List UInt8) (n V : Int) (a' : Nat) (bd : Bool) (w : World) (h : NumLeftQ E w g l n V a' bd) (hk : bd = true ∨ n = 8) :
    Calls Try.prog 65 #[.pointer (some ⟨g, 0, none⟩), .int .i64 n] w fun e w' => e = .returned (.int .i64 V) ∧ Rdq E w' g l a' bd ∧ w.grownBy w' (some g) := by
  rcases hk with rfl | rfl
  all_goals
    go_enter Try.func65, Try.ntmps65
    go_wp2_with fail
    refine Calls.mono h ?_
    rintro e w1 ⟨rfl, hx, hg⟩
    have HX := Lib.hid hx
    obtain ⟨A, c, hB, _⟩ := hx
    have c2 := hB.cell 2
    simp only [List.getElem?_toArray, List.getElem?_cons_zero, List.getElem?_cons_succ] at c2
    clear hB
    go_wp2
    all_goals
      go_ret
      exact ⟨rfl, HX.out, hg⟩
set_option maxHeartbeats 1000000 in
theorem rqSigned_turn {E : Int} (g : Nat) (l : List UInt8) (m q : Nat) (V : Int) (a' : Nat) (w : World) (h : NumLeftQ E w g l m V a' false) (h1 : 1 ≤ m) (h2 : m < 8) (hq : q = 256 ^ m) (hv0 : 0 ≤ V) (hv1 : V < q) :
    Calls Try.prog 65 #[.pointer (some ⟨g, 0, none⟩), .int .i64 m] w fun e w' => e = .returned (.int .i64 (if (q : Int) / 2 ≤ V then V - q else V)) ∧ Rdq E w' g l a' false ∧ w.grownBy w' (some g) := by
  have hq1 : 256 ≤ q := by rw [hq]; exact pow_mono (a := 1) (by omega)
  have hq2 : q ≤ 72057594037927936 := by rw [hq, ← pow7]; exact pow_mono (by omega)
  have h8 : ((m : Int) == 8) = false := by simp; omega
  have HQ := Lib.hid hq
  clear hq
  by_cases hc : (q : Int) / 2 ≤ V
  · rw [if_pos hc]
    go_enter Try.func65, Try.ntmps65
    go_wp2_with fail
    refine Calls.mono h ?_
    rintro e w1 ⟨rfl, hx, hg⟩
    have HX := Lib.hid hx
    obtain ⟨A, c, hB, _⟩ := hx
    have c2 := hB.cell 2
    simp only [List.getElem?_toArray, List.getElem?_cons_zero, List.getElem?_cons_succ] at c2
    clear hB
    go_wp2
    go_loop [6, 7] (fun a i => ∃ k z : Nat, k ≤ m ∧ z = 256 ^ k ∧ i = .int .i64 (k : Int) ∧ a = .int .i64 (z : Int)) (fun _ i => m - (intOf i).toNat)
    case atStart => exact ⟨0, 1, by omega, rfl, rfl, rfl⟩
    case round =>
      obtain ⟨k, z, hk, hz, rfl, rfl⟩ := hrel
      by_cases hk0 : k < m
      · have hz2 : z ≤ 281474976710656 := by rw [hz, show 281474976710656 = 256 ^ 6 from rfl]; exact pow_mono (by omega)
        have HZ := Lib.hid hz
        clear hz
        go_wp2
        go_round
        case rel => exact ⟨k + 1, z * 256, by omega, by rw [HZ.out, Nat.pow_succ], by go_num, by go_num⟩
        case measure => simp [intOf]; omega
      · obtain rfl : k = m := by omega
        obtain rfl : z = q := by rw [hz, HQ.out]
        clear hz
        go_wp2
        go_ret
        exact ⟨rfl, HX.out, hg⟩
  · rw [if_neg hc]
    go_enter Try.func65, Try.ntmps65
    go_wp2_with fail
    refine Calls.mono h ?_
    rintro e w1 ⟨rfl, hx, hg⟩
    have HX := Lib.hid hx
    obtain ⟨A, c, hB, _⟩ := hx
    have c2 := hB.cell 2
    simp only [List.getElem?_toArray, List.getElem?_cons_zero, List.getElem?_cons_succ] at c2
    clear hB
    go_wp2
    go_loop [6, 7] (fun a i => ∃ k z : Nat, k ≤ m ∧ z = 256 ^ k ∧ i = .int .i64 (k : Int) ∧ a = .int .i64 (z : Int)) (fun _ i => m - (intOf i).toNat)
    case atStart => exact ⟨0, 1, by omega, rfl, rfl, rfl⟩
    case round =>
      obtain ⟨k, z, hk, hz, rfl, rfl⟩ := hrel
      by_cases hk0 : k < m
      · have hz2 : z ≤ 281474976710656 := by rw [hz, show 281474976710656 = 256 ^ 6 from rfl]; exact pow_mono (by omega)
        have HZ := Lib.hid hz
        clear hz
        go_wp2
        go_round
        case rel => exact ⟨k + 1, z * 256, by omega, by rw [HZ.out, Nat.pow_succ], by go_num, by go_num⟩
        case measure => simp [intOf]; omega
      · obtain rfl : k = m := by omega
        obtain rfl : z = q := by rw [hz, HQ.out]
        clear hz
        go_wp2
        go_ret
        exact ⟨rfl, HX.out, hg⟩

theorem rqSigned_any {E : Int} (g : Nat) (l : List UInt8) (at_ : Nat) (bad : Bool) (n : Int) (w : World) (h : Rdq E w g l at_ bad) :
    Calls Try.prog 65 #[.pointer (some ⟨g, 0, none⟩), .int .i64 n] w fun e w' =>
      e = .returned (.int .i64 (signV n (numV l at_ bad n))) ∧ Rdq E w' g l (numAt l at_ bad n) (!okN l at_ bad n) ∧ w.grownBy w' (some g) := by
  have hN : NumLeftQ E w g l n (numV l at_ bad n) (numAt l at_ bad n) (!okN l at_ bad n) := rqNum_any g l at_ bad n w h
  by_cases hk : okN l at_ bad n = true
  · obtain ⟨h1, h2, h3⟩ := okN_parts hk
    obtain ⟨m, rfl⟩ := Int.eq_ofNat_of_zero_le (show 0 ≤ n by omega)
    have hv : numV l at_ bad (m : Int) = wrap64 (beN ((l.drop at_).take m)) := by unfold numV; rw [hk, if_pos rfl, Int.toNat_natCast]
    have hlt : beN ((l.drop at_).take m) < 256 ^ m := beN_lt_of _ (by simp; omega)
    rw [hk] at hN ⊢
    by_cases h8 : m = 8
    · subst h8
      have e8 : signV ((8 : Nat) : Int) (numV l at_ bad ((8 : Nat) : Int)) = numV l at_ bad ((8 : Nat) : Int) := by rw [hv]; exact signV_eight _
      rw [e8]
      exact rqSigned_keep g l _ _ _ _ w hN (.inr rfl)
    · have e7 := signV_less m _ (by omega) (by omega) hlt
      rw [← hv] at e7
      rw [e7]
      have hp : 256 ^ m ≤ 256 ^ 7 := pow_mono (by omega)
      rw [pow7] at hp
      exact rqSigned_turn g l m (256 ^ m) _ _ w hN (by omega) (by omega) rfl (by rw [hv]; unfold wrap64; omega) (by rw [hv]; unfold wrap64; omega)
  · have hk' : okN l at_ bad n = false := by simpa using hk
    have hv : numV l at_ bad n = 0 := by unfold numV; rw [hk']; rfl
    have hs : signV n (numV l at_ bad n) = numV l at_ bad n := by rw [hv, signV_zero]
    rw [hs]
    exact rqSigned_keep g l _ _ _ _ w hN (.inl (by rw [hk']; rfl))
end Go.Proofs.Ytdioijhmmmnbgaa
