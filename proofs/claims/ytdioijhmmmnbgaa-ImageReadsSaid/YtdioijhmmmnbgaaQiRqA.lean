/- Contracts of the document's reading of class files: say, num, bytes, count. -/
import Derived.Test.YtdioijhmmmnbgaaQiImX
import Derived.Test.YtdioijhmmmnbgaaPi1
import Derived.Test.YtdioijhmmmnbgaaPi2
namespace Go.Proofs.Ytdioijhmmmnbgaa
open Go.RowKit
/-- The document's reading in block g: it stands at a place of b, or at its first error. -/
def Rg (w : World) (g : Nat) (b : List UInt8) (s : Rz Nat) : Prop :=
  ∃ (E : Int) (at_ : Nat) (bad : Bool), Rdq E w g b at_ bad ∧ match s with
    | .ok p => E = 0 ∧ at_ = p ∧ bad = false
    | .err k => E = k ∧ k ≠ 0
def Onl (g k : Nat) : Prop := k = g
section
variable {w w' : World} {g B a : Nat} {b : List UInt8} {s : Rz Nat} {p : Nat} {k E : Int} {bd : Bool}
theorem Rdq.keep (h : Rdq E w g b a bd) (hk : ∀ k, k ≤ g → w'.heap[k]? = w.heap[k]?) : Rdq E w' g b a bd := by
  obtain ⟨A, c, h1, h2, r⟩ := h
  exact ⟨A, c, (hk g (Nat.le_refl _)).trans h1, Rd.keep h2 (fun q hq => cell_same (hk q.block (by omega))), r⟩
theorem Rdq.fail (h : Rdq E w g b a bd) (k : Int) : Rdq k (w.setCell ⟨g, 3, none⟩ (.int .i64 k)) g b a bd := by
  obtain ⟨A, c, hB, hr, r⟩ := h
  exact ⟨A, c, by simpa using hB.set 3 (.int .i64 k), hr.setCell (Nat.le_refl _) _, r⟩
/-- The cells of Off and of E. -/
theorem Rdq.cells (h : Rdq E w g b a bd) : w.cell? ⟨g, 1, none⟩ = some (.int .i64 (a : Int)) ∧ w.cell? ⟨g, 2, none⟩ = some (.bool bd) ∧ w.cell? ⟨g, 3, none⟩ = some (.int .i64 E) ∧ w.frozen? ⟨g, 3, none⟩ = false ∧ g < w.heap.size := by
  obtain ⟨A, c, hB, hr, r⟩ := h
  exact ⟨(hB.cell 1).trans rfl, (hB.cell 2).trans rfl, (hB.cell 3).trans rfl, hB.frz 3, hB.lt⟩
theorem Rdq.len (h : Rdq E w g b a bd) : (b.length : Int) ≤ 140737488355328 ∧ a ≤ b.length := by obtain ⟨A, c, _, _, _, _, h1, h2⟩ := h; exact ⟨h1, h2⟩
theorem Rg.lt (h : Rg w g b s) : g < w.heap.size := by obtain ⟨_, _, _, h1, _⟩ := h; exact h1.lt
theorem Rg.low (h : Rg w g b s) (hb : Below B w w') (h1 : g < B) : Rg w' g b s := by
  obtain ⟨E, a, bd, k1, r⟩ := h
  exact ⟨E, a, bd, k1.keep (fun k hk => hb.block k (Nat.lt_of_le_of_lt hk h1)), r⟩
theorem Rg.below (h : Rg w g b s) (hb : Below w.heap.size w w') : Rg w' g b s := h.low hb h.lt
theorem Rg.ok_ (h : Rg w g b (.ok p)) : Rdq 0 w g b p false := by
  obtain ⟨E, a, bd, h1, rfl, rfl, rfl⟩ := h; exact h1
theorem Rg.err_ (h : Rg w g b (.err k)) : (∃ a bd, Rdq k w g b a bd) ∧ k ≠ 0 := by
  obtain ⟨E, a, bd, h1, rfl, h2⟩ := h; exact ⟨⟨a, bd, h1⟩, h2⟩
theorem Rg.of_ok (h : Rdq 0 w g b p false) : Rg w g b (.ok p) := ⟨0, p, false, h, rfl, rfl, rfl⟩
theorem Rg.of_err (h : Rdq k w g b a bd) (hk : k ≠ 0) : Rg w g b (.err k) := ⟨k, a, bd, h, rfl, hk⟩
theorem onl_gb (hg : w.grownBy w' (some g)) : Ch w w' (Onl g) := Ch.of_grown hg (fun k e => by injection e with e; exact e.symm)
theorem onl_set (u : Value) (i : Nat) : Ch w (w.setCell ⟨g, i, none⟩ u) (Onl g) := Ch.setCell (S := Onl g) (p := ⟨g, i, none⟩) (Ch.refl w) (fun _ => rfl) u
theorem Onl.lt (h : g < B) : ∀ k, Onl g k → k < B := fun k e => by rw [show k = g from e]; exact h
theorem Rdq.gb (h : Rdq E w g b a bd) (hg : w.grownBy w' none) : Rdq E w' g b a bd := h.grown hg (fun k e => by cases e)
end
set_option maxHeartbeats 1000000 in
theorem rsay_any (g : Nat) (b : List UInt8) (s : Rz Nat) (q : Bool) (k : Int) (w : World) (h : Rg w g b s) (hk : k ≠ 0) :
    Calls Try.prog 32 #[.pointer (some ⟨g, 0, none⟩), .bool q, .int .i64 k] w fun e w' => (∃ v, e = .returned v) ∧ Rg w' g b (if q = true then failR s k else s) ∧ Ch w w' (Onl g) := by
  have HK := bx hk
  have HS := bx h
  cases q with
  | false =>
    clear h hk
    go_enter Try.func32, Try.ntmps32
    go_wp2
    go_end0
    exact ⟨⟨_, rfl⟩, HS.out, Ch.refl _⟩
  | true =>
    cases s with
    | ok p =>
      have h0 := h.ok_
      have HD := bx h0
      obtain ⟨_, _, c3, f3, hlt⟩ := h0.cells
      clear h hk h0
      go_enter Try.func32, Try.ntmps32
      go_wp2
      go_end0
      exact ⟨⟨_, rfl⟩, Rg.of_err (HD.out.fail k) HK.out, onl_set _ _⟩
    | err j =>
      obtain ⟨⟨a, bd, h0⟩, hj⟩ := h.err_
      obtain ⟨_, _, c3, f3, hlt⟩ := h0.cells
      have hI : (j == 0) = false := by rw [beq_eq_false_iff_ne]; exact hj
      clear h hk h0 hj
      go_enter Try.func32, Try.ntmps32
      go_wp2
      go_end0
      exact ⟨⟨_, rfl⟩, HS.out, Ch.refl _⟩
/-- What reading a number leaves. -/
def RNumPost (w : World) (g : Nat) (b : List UInt8) (hi : Int) (R : Rz (Nat × Nat)) (e : Ending) (w' : World) : Prop :=
  ∃ v : Int, e = .returned (.int .i64 v) ∧ 0 ≤ v ∧ v < hi ∧ (∀ x, R = .ok x → v = (x.1 : Int)) ∧ Rg w' g b (stR R) ∧ Ch w w' (Onl g)
theorem err_no {α : Type} {P : Prop} {k : Int} {x : α} (h : (Rz.err k : Rz α) = .ok x) : P := by cases h
theorem numV_small {b : List UInt8} {p n : Nat} {bd : Bool} (h4 : n ≤ 4) : 0 ≤ numV b p bd (n : Int) ∧ numV b p bd (n : Int) < ((256 ^ n : Nat) : Int) := by
  have hp : 0 < 256 ^ n := Nat.pow_pos (by omega)
  unfold numV
  split
  · rename_i hk
    obtain ⟨_, _, h3⟩ := okN_parts hk
    rw [Int.toNat_natCast]
    have hlt : beN ((b.drop p).take n) < 256 ^ n := beN_lt_of _ (by simp; omega)
    have h9 : 256 ^ n ≤ 256 ^ 4 := Nat.pow_le_pow_right (by omega) h4
    have p4 : (256 : Nat) ^ 4 = 4294967296 := by decide
    rw [show wrap64 ((beN ((b.drop p).take n) : Nat) : Int) = _ from IntWalk.wrap64_in _ ⟨by omega, by omega⟩]
    omega
  · omega
theorem okN_le {b : List UInt8} {p n : Nat} (h1 : 1 ≤ n) (h8 : n ≤ 8) : okN b p false (n : Int) = decide (p + n ≤ b.length) := by
  unfold okN
  rw [decide_eq_true (show (1 : Int) ≤ (n : Int) by omega), decide_eq_true (show (n : Int) ≤ 8 by omega), Bool.not_false, Bool.true_and, Bool.true_and, Bool.true_and, decide_eq_decide]
  omega
theorem okB_le {b : List UInt8} {p n : Nat} : okB b p false (n : Int) = decide (p + n ≤ b.length) := by
  unfold okB
  rw [decide_eq_true (show (0 : Int) ≤ (n : Int) by omega), Bool.not_false, Bool.true_and, Bool.true_and, decide_eq_decide]
  omega
/-- The same where all went well ahead: a number that isn't there is 0. -/
def RNumPostZ (w : World) (g : Nat) (b : List UInt8) (hi : Int) (R : Rz (Nat × Nat)) (e : Ending) (w' : World) : Prop :=
  ∃ v : Int, e = .returned (.int .i64 v) ∧ 0 ≤ v ∧ v < hi ∧ (∀ x, R = .ok x → v = (x.1 : Int)) ∧ Rg w' g b (stR R) ∧ Ch w w' (Onl g) ∧ ∀ k, R = .err k → v = 0
set_option maxHeartbeats 2000000 in
theorem rnum_ok (g n : Nat) (hi : Int) (b : List UInt8) (p : Nat) (w : World) (h : Rg w g b (.ok p)) (h1 : 1 ≤ n) (h4 : n ≤ 4) (hh : ((256 ^ n : Nat) : Int) = hi) :
    Calls Try.prog 33 #[.pointer (some ⟨g, 0, none⟩), .int .i64 (n : Int)] w (RNumPostZ w g b hi (onR (.ok p) (rdN n) b)) := by
  have HH := bx hh
  have h0 := h.ok_
  have HNUM := bx (rqNum_any g b p false (n : Int) w h0)
  have hv := numV_small (b := b) (p := p) (bd := false) h4
  have hok := okN_le (b := b) (p := p) h1 (show n ≤ 8 by omega)
  have HP := HNUM.out
  unfold NumPostQ at HP
  by_cases hp : p + n ≤ b.length
  · rw [decide_eq_true hp] at hok
    have ha : numAt b p false (n : Int) = p + n := by unfold numAt; rw [hok, if_pos rfl, Int.toNat_natCast]
    have he : onR (.ok p) (rdN n) b = .ok (beN ((b.drop p).take n), p + n) := by rw [onR_ok]; unfold rdN; rw [if_pos hp]
    have hlt : beN ((b.drop p).take n) < 256 ^ n := beN_lt_of _ (by simp; omega)
    have hvv : numV b p false (n : Int) = (beN ((b.drop p).take n) : Nat) := by
      unfold numV
      rw [hok, if_pos rfl, Int.toNat_natCast]
      have h9 : 256 ^ n ≤ 256 ^ 4 := Nat.pow_le_pow_right (by omega) h4
      have p4 : (256 : Nat) ^ 4 = 4294967296 := by decide
      exact IntWalk.wrap64_in _ ⟨by omega, by omega⟩
    rw [hok, ha] at HP
    obtain ⟨V, hV⟩ : ∃ V, numV b p false (n : Int) = V := ⟨_, rfl⟩
    rw [hV] at HP hv hvv
    have HV := bx hv
    have HVV := bx hvv
    have HE := bx he
    have HP := bx HP
    clear h h0 hv hV hvv he ha hok hlt hp HNUM hh h1 h4
    go_enter Try.func33, Try.ntmps33
    go_wp2_with fail
    refine HP.out.mono ?_
    rintro e w1 ⟨rfl, hr1, hg1⟩
    have HR1 := bx hr1
    have HG1 := bx hg1
    obtain ⟨_, c2, c3, f3, hlt⟩ := hr1.cells
    replace c2 : w1.cell? ⟨g, 2, none⟩ = some (.bool false) := c2
    clear hr1 hg1
    go_wp2
    go_ret
    rw [HE.out]
    exact ⟨V, rfl, HV.out.1, by rw [← HH.out]; exact HV.out.2, fun x hx => by injection hx with hx; rw [← hx]; exact HVV.out, Rg.of_ok HR1.out, onl_gb HG1.out, fun k hk => by cases hk⟩
  · rw [decide_eq_false hp] at hok
    have he : onR (.ok p) (rdN n) b = .err 2 := by rw [onR_ok]; unfold rdN; rw [if_neg hp]
    rw [hok] at HP
    obtain ⟨V, hV⟩ : ∃ V, numV b p false (n : Int) = V := ⟨_, rfl⟩
    obtain ⟨a', ha'⟩ : ∃ a', numAt b p false (n : Int) = a' := ⟨_, rfl⟩
    have hvz : numV b p false (n : Int) = 0 := by unfold numV; rw [hok]; rfl
    rw [hV, ha'] at HP
    rw [hV] at hv hvz
    have HVZ := bx hvz
    have HV := bx hv
    have HE := bx he
    have HP := bx HP
    clear h h0 hv hV hvz ha' he hok hp HNUM hh h1 h4
    go_enter Try.func33, Try.ntmps33
    go_wp2_with fail
    refine HP.out.mono ?_
    rintro e w1 ⟨rfl, hr1, hg1⟩
    have HR1 := bx hr1
    have HG1 := bx hg1
    obtain ⟨_, c2, c3, f3, hlt⟩ := hr1.cells
    replace c2 : w1.cell? ⟨g, 2, none⟩ = some (.bool true) := c2
    clear hr1 hg1
    go_wp2
    go_ret
    rw [HE.out]
    exact ⟨V, rfl, HV.out.1, by rw [← HH.out]; exact HV.out.2, fun x hx => err_no hx, Rg.of_err (HR1.out.fail 2) (by decide), (onl_gb HG1.out).trans (onl_set _ _) (fun _ _ h => h), fun k _ => HVZ.out⟩
set_option maxHeartbeats 2000000 in
theorem rnum_any (g n : Nat) (hi : Int) (b : List UInt8) (s : Rz Nat) (w : World) (h : Rg w g b s) (h1 : 1 ≤ n) (h4 : n ≤ 4) (hh : ((256 ^ n : Nat) : Int) = hi) :
    Calls Try.prog 33 #[.pointer (some ⟨g, 0, none⟩), .int .i64 (n : Int)] w (RNumPost w g b hi (onR s (rdN n) b)) := by
  have HH := bx hh
  have H14 := bx (And.intro h1 h4)
  cases s with
  | err j =>
    obtain ⟨⟨a, bd, h0⟩, hj⟩ := h.err_
    have HJ := bx hj
    have hI : (j == 0) = false := by rw [beq_eq_false_iff_ne]; exact hj
    have HNUM := bx (rqNum_any g b a bd (n : Int) w h0)
    have hv := numV_small (b := b) (p := a) (bd := bd) h4
    obtain ⟨V, hV⟩ : ∃ V, numV b a bd (n : Int) = V := ⟨_, rfl⟩
    rw [hV] at hv
    have HV := bx hv
    obtain ⟨a', ha'⟩ : ∃ a', numAt b a bd (n : Int) = a' := ⟨_, rfl⟩
    obtain ⟨bd', hbd⟩ : ∃ q, (!okN b a bd (n : Int)) = q := ⟨_, rfl⟩
    have HP := HNUM.out
    unfold NumPostQ at HP
    rw [hV, ha', hbd] at HP
    have HP := bx HP
    clear h h0 hj hv hV ha' hbd HNUM hh h1 h4
    go_enter Try.func33, Try.ntmps33
    go_wp2_with fail
    refine HP.out.mono ?_
    rintro e w1 ⟨rfl, hr1, hg1⟩
    have HR1 := bx hr1
    have HG1 := bx hg1
    obtain ⟨_, c2, c3, f3, hlt⟩ := hr1.cells
    clear hr1 hg1
    cases bd' with
    | false =>
      go_wp2
      go_ret
      exact ⟨V, rfl, HV.out.1, by rw [← HH.out]; exact HV.out.2, fun x hx => err_no hx, Rg.of_err HR1.out HJ.out, onl_gb HG1.out⟩
    | true =>
      go_wp2
      go_ret
      exact ⟨V, rfl, HV.out.1, by rw [← HH.out]; exact HV.out.2, fun x hx => err_no hx, Rg.of_err HR1.out HJ.out, onl_gb HG1.out⟩
  | ok p =>
    refine (rnum_ok g n hi b p w h h1 h4 hh).mono ?_
    rintro e w' ⟨v, a1, a2, a3, a4, a5, a6, _⟩
    exact ⟨v, a1, a2, a3, a4, a5, a6⟩
/-- What reading bytes leaves (it is asked where all went well). -/
def RBytPost (w : World) (g : Nat) (b : List UInt8) (R : Rz (List UInt8 × Nat)) (e : Ending) (w' : World) : Prop :=
  (∃ v, e = .returned v ∧ OwB w' w.heap.size 5 v (valB R)) ∧ Rg w' g b (stR R) ∧ Ch w w' (Onl g)
set_option maxHeartbeats 2000000 in
theorem rbytes_ok (g n p : Nat) (b : List UInt8) (w : World) (h : Rg w g b (.ok p)) :
    Calls Try.prog 63 #[.pointer (some ⟨g, 0, none⟩), .int .i64 (n : Int)] w (RBytPost w g b (onR (.ok p) (rdB n) b)) := by
  have h0 := h.ok_
  have hgl := h0.lt
  have HGL := bx hgl
  have HBYT := bx (rqBytes_any g b p false (n : Int) w h0)
  have hok := okB_le (b := b) (p := p) (n := n)
  have HP := HBYT.out
  unfold BytPostQ at HP
  by_cases hp : p + n ≤ b.length
  · rw [decide_eq_true hp] at hok
    have hv : bytV b p false (n : Int) = (b.drop p).take n := by unfold bytV; rw [hok, if_pos rfl, Int.toNat_natCast]
    have ha : bytAt b p false (n : Int) = p + n := by unfold bytAt; rw [hok, if_pos rfl, Int.toNat_natCast]
    have he : onR (.ok p) (rdB n) b = .ok ((b.drop p).take n, p + n) := by rw [onR_ok]; unfold rdB; rw [if_pos hp]
    rw [hok, ha, hv] at HP
    obtain ⟨l, hl⟩ : ∃ l, (b.drop p).take n = l := ⟨_, rfl⟩
    rw [hl] at HP he
    have HE := bx he
    have HP := bx HP
    clear h h0 hv ha he hok hp hl HBYT hgl
    go_enter Try.func63, Try.ntmps63
    go_wp2_with fail
    refine HP.out.mono ?_
    rintro e w1 ⟨v, rfl, ho1, hr1, hg1⟩
    have HR1 := bx hr1
    have HG1 := bx hg1
    have HO1 := bx ho1
    obtain ⟨AV, nV, cV, rfl, hnV, _⟩ := OwL.sl ho1
    obtain ⟨_, c2, c3, f3, hlt⟩ := hr1.cells
    replace c2 : w1.cell? ⟨g, 2, none⟩ = some (.bool false) := c2
    clear hr1 hg1 ho1 hnV
    go_wp2
    go_ret
    rw [HE.out]
    exact ⟨⟨_, rfl, HO1.out⟩, Rg.of_ok HR1.out, onl_gb HG1.out⟩
  · rw [decide_eq_false hp] at hok
    have hv : bytV b p false (n : Int) = [] := by unfold bytV; rw [hok]; rfl
    have he : onR (.ok p) (rdB n) b = .err 2 := by rw [onR_ok]; unfold rdB; rw [if_neg hp]
    rw [hok, hv] at HP
    obtain ⟨a', ha'⟩ : ∃ a', bytAt b p false (n : Int) = a' := ⟨_, rfl⟩
    rw [ha'] at HP
    have HE := bx he
    have HP := bx HP
    clear h h0 hv ha' he hok hp HBYT hgl
    go_enter Try.func63, Try.ntmps63
    go_wp2_with fail
    refine HP.out.mono ?_
    rintro e w1 ⟨v, rfl, ho1, hr1, hg1⟩
    have HR1 := bx hr1
    have HG1 := bx hg1
    have HO1 := bx ho1
    obtain ⟨AV, nV, cV, rfl, hnV, _⟩ := OwL.sl ho1
    obtain ⟨_, c2, c3, f3, hlt⟩ := hr1.cells
    replace c2 : w1.cell? ⟨g, 2, none⟩ = some (.bool true) := c2
    clear hr1 hg1 ho1 hnV
    go_wp2
    go_ret
    rw [HE.out]
    exact ⟨⟨_, rfl, HO1.out.ch (onl_set (g := g) (.int .i64 2) 3) (fun k hk e => by
      have hlo := (World.ownsRow.lt HO1.out k hk).1
      have := HGL.out
      rw [show k = g from e] at hlo
      omega)⟩, Rg.of_err (HR1.out.fail 2) (by decide), (onl_gb HG1.out).trans (onl_set _ _) (fun _ _ h => h)⟩
set_option maxHeartbeats 2000000 in
theorem rcount_any (g : Nat) (b : List UInt8) (s : Rz Nat) (w : World) (h : Rg w g b s) :
    Calls Try.prog 35 #[.pointer (some ⟨g, 0, none⟩)] w fun e w' => e = .returned (.int .i64 (valN (onR s cntI b))) ∧ Rg w' g b (stR (onR s cntI b)) ∧ Ch w w' (Onl g) := by
  have HN := bx (rnum_any g 2 65536 b s w h (by decide) (by decide) (by decide))
  rw [cnt_num]
  obtain ⟨r, hr⟩ : ∃ r, onR s (rdN 2) b = r := ⟨_, rfl⟩
  rw [hr] at HN
  rw [hr]
  obtain ⟨F, hF⟩ : ∃ F, r.bind (fun x => if 64 < x.1 then Rz.err 24 else Rz.ok x) = F := ⟨_, rfl⟩
  rw [hF]
  have HFB := bx hF
  clear h hr hF
  go_enter Try.func35, Try.ntmps35
  go_wp2_with fail
  refine HN.out.mono ?_
  rintro e w1 ⟨V, rfl, hv1, hv2, hv3, hs1, hc1⟩
  have HC1 := bx hc1
  have HV := bx hv3
  obtain ⟨q, hq⟩ : ∃ q, decide (64 < V) = q := ⟨_, rfl⟩
  have HQ := bx hq
  have HS := bx (rsay_any g b (stR r) q 24 w1 hs1 (by decide))
  obtain ⟨s2, hs2⟩ : ∃ s2, (if q = true then failR (stR r) 24 else stR r) = s2 := ⟨_, rfl⟩
  rw [hs2] at HS
  have HS2 := bx hs2
  clear hs1 hc1 hv3 hq hs2 HN
  go_wp2_with fail
  rw [HQ.out]
  refine HS.out.mono ?_
  rintro e w2 ⟨⟨v, rfl⟩, hs2, hc2⟩
  have HC2 := bx (HC1.out.trans hc2 (fun _ _ h => h))
  have HR2 := bx hs2
  clear hs2 hc2 HS
  have HF : Bx (stR F = s2 ∧ ∀ x, s2 = .ok x → V = valN F) := bx (by
    have hF := HFB.out
    cases r with
    | err k =>
      subst hF
      have e2 : s2 = .err k := by rw [← HS2.out]; split <;> rfl
      rw [e2]
      exact ⟨rfl, fun x hx => by cases hx⟩
    | ok x =>
      have hx := HV.out x rfl
      have hF : (if 64 < x.1 then Rz.err 24 else Rz.ok x) = F := hF
      by_cases h : 64 < x.1
      · have hq : q = true := by rw [← HQ.out]; exact decide_eq_true (by omega)
        rw [if_pos h] at hF
        have e2 : s2 = .err 24 := by rw [← HS2.out, if_pos hq]; rfl
        subst hF
        rw [e2]
        exact ⟨rfl, fun x hx => by cases hx⟩
      · have hq : ¬ q = true := by rw [← HQ.out]; simp; omega
        rw [if_neg h] at hF
        have e2 : s2 = .ok x.2 := by rw [← HS2.out, if_neg hq]; rfl
        subst hF
        rw [e2]
        exact ⟨rfl, fun y _ => hx⟩)
  clear HFB
  cases s2 with
  | err k =>
    obtain ⟨⟨a, bd, h0⟩, hj⟩ := HR2.out.err_
    obtain ⟨_, _, c3, f3, hlt⟩ := h0.cells
    have hI : (k != 0) = true := by rw [bne_iff_ne]; exact hj
    clear h0 hj
    go_wp2
    go_ret
    have hz : valN F = 0 := by
      have h1 := HF.out.1
      cases F with
      | err k => rfl
      | ok x => cases h1
    rw [hz, HF.out.1]
    exact ⟨rfl, HR2.out, HC2.out⟩
  | ok p =>
    obtain ⟨_, _, c3, f3, hlt⟩ := HR2.out.ok_.cells
    go_wp2
    go_ret
    rw [HF.out.1, ← HF.out.2 p rfl]
    exact ⟨rfl, HR2.out, HC2.out⟩
end Go.Proofs.Ytdioijhmmmnbgaa
