/- Contracts of image's source: fail, num, part, many. -/
import Derived.Test.YtdioijhmmmnbgaaPi3
import Derived.Test.YtdioijhmmmnbgaaPi1
import Derived.Test.YtdioijhmmmnbgaaPi2
namespace Go.Proofs.Ytdioijhmmmnbgaa
open Go.RowKit
/-- A source in block gs, its reader in block gr: it stands at a place of b, or at its first error. -/
def Src (w : World) (gs gr : Nat) (b : List UInt8) (s : Rz Nat) : Prop :=
  ∃ (at_ : Nat) (bad : Bool) (e : Int), Bk w gs 49 #[.pointer (some ⟨gr, 0, none⟩), .int .i64 e] ∧ Rdr w gr b at_ bad ∧ gs ≠ gr ∧ match s with
    | .ok p => e = 0 ∧ at_ = p ∧ bad = false
    | .err k => e = k ∧ k ≠ 0
def Two (gs gr : Nat) (k : Nat) : Prop := k = gs ∨ k = gr
section
variable {w w' : World} {gs gr : Nat} {b : List UInt8} {s : Rz Nat} {p : Nat} {k : Int}
theorem Rdr.keep {at_ : Nat} {bad : Bool} (h : Rdr w gr b at_ bad) (hk : ∀ k, k ≤ gr → w'.heap[k]? = w.heap[k]?) : Rdr w' gr b at_ bad := by
  obtain ⟨A, c, h1, h2, r⟩ := h
  exact ⟨A, c, (hk gr (Nat.le_refl _)).trans h1, Rd.keep h2 (fun q hq => cell_same (hk q.block (by omega))), r⟩
theorem Rdr.ltr {at_ : Nat} {bad : Bool} (h : Rdr w gr b at_ bad) : gr < w.heap.size := by obtain ⟨_, _, hB, _⟩ := h; exact hB.lt
theorem Src.lt (h : Src w gs gr b s) : gs < w.heap.size ∧ gr < w.heap.size := by
  obtain ⟨_, _, _, h1, h2, _⟩ := h; exact ⟨h1.lt, h2.ltr⟩
theorem Src.below (h : Src w gs gr b s) (hb : Below w.heap.size w w') : Src w' gs gr b s := by
  obtain ⟨a, bd, e, h1, h2, r⟩ := h
  exact ⟨a, bd, e, h1.below hb h1.lt, h2.below hb, r⟩
theorem Src.low {B : Nat} (h : Src w gs gr b s) (hb : Below B w w') (h1 : gs < B) (h2 : gr < B) : Src w' gs gr b s := by
  obtain ⟨a, bd, e, k1, k2, r⟩ := h
  exact ⟨a, bd, e, k1.below hb h1, k2.keep (fun k hk => hb.block k (Nat.lt_of_le_of_lt hk h2)), r⟩
theorem Two.lt {B : Nat} (h1 : gs < B) (h2 : gr < B) : ∀ k, Two gs gr k → k < B := fun k h => by rcases h with e | e <;> omega
theorem Src.ok_ (h : Src w gs gr b (.ok p)) : Bk w gs 49 #[.pointer (some ⟨gr, 0, none⟩), .int .i64 0] ∧ Rdr w gr b p false ∧ gs ≠ gr := by
  obtain ⟨a, bd, e, h1, h2, h3, rfl, rfl, rfl⟩ := h; exact ⟨h1, h2, h3⟩
theorem Src.err_ (h : Src w gs gr b (.err k)) : Bk w gs 49 #[.pointer (some ⟨gr, 0, none⟩), .int .i64 k] ∧ k ≠ 0 := by
  obtain ⟨a, bd, e, h1, h2, h3, rfl, h4⟩ := h; exact ⟨h1, h4⟩
/-- Bytes don't lie in a source's block. -/
theorem rb_src {B t : Nat} {ad : Addr} {l : List UInt8} {q : Option Addr} {e : Int} (h : RB w B (some ad) l) (hl : l.map bV ≠ []) (hB : Bk w gs t #[.pointer q, .int .i64 e]) : ad.block ≠ gs := by
  intro e2
  obtain ⟨ad', e', _, hc⟩ := h hl
  injection e' with e'
  subst e'
  match l, hl with
  | x :: r, _ =>
    have h0 := hc 0 (bV x) rfl
    have ha : ad.add 0 = ad := by simp [Addr.add]
    rw [ha] at h0
    unfold Bk at hB
    rw [← e2] at hB
    simp only [World.cell?, hB] at h0
    split at h0
    · cases h0
    · match ho : ad.off with
      | 0 => rw [ho] at h0; simp [bV] at h0
      | 1 => rw [ho] at h0; simp [bV] at h0
      | q + 2 => rw [ho] at h0; simp at h0
theorem Src.fail {at_ : Nat} {bad : Bool} {e : Int} (hB : Bk w gs 49 #[.pointer (some ⟨gr, 0, none⟩), .int .i64 e]) (hR : Rdr w gr b at_ bad) (hne : gs ≠ gr) (hk : k ≠ 0) :
    Src (w.setCell ⟨gs, 1, none⟩ (.int .i64 k)) gs gr b (.err k) := by
  obtain ⟨A, c, h1, h2, r⟩ := hR
  refine ⟨at_, bad, k, by simpa using hB.set 1 (.int .i64 k), ⟨A, c, h1.far (fun e => hne e.symm) _, fun hn => ?_, r⟩, hne, rfl, hk⟩
  obtain ⟨ad, rfl, hlt, hc⟩ := h2 hn
  have hgs := rb_src (w := w) (B := gr) (fun hn => ⟨ad, rfl, hlt, hc⟩) hn hB
  exact ⟨ad, rfl, hlt, fun i u hu => (World.cell?_setCell_other w ⟨gs, 1, none⟩ (ad.add i) _ (fun e => hgs (by have := congrArg Addr.block e; rw [blk_add] at this; exact this.symm))).trans (hc i u hu)⟩
theorem two_set (u : Value) : Ch w (w.setCell ⟨gs, 1, none⟩ u) (Two gs gr) := (Ch.refl w).setCell (fun _ => .inl rfl) u
theorem two_gb (hg : w.grownBy w' (some gr)) : Ch w w' (Two gs gr) := Ch.of_grown hg (fun k e => by injection e with e; exact .inr e.symm)
end
set_option maxHeartbeats 1000000 in
theorem sfail_raw (gs gr : Nat) (b : List UInt8) (at_ : Nat) (bad : Bool) (k : Int) (w : World) (hB : Bk w gs 49 #[.pointer (some ⟨gr, 0, none⟩), .int .i64 0]) (hR : Rdr w gr b at_ bad) (hne : gs ≠ gr) (hk : k ≠ 0) :
    Calls Try.prog 26 #[.pointer (some ⟨gs, 0, none⟩), .int .i64 k] w fun e w' => (∃ v, e = .returned v) ∧ Src w' gs gr b (.err k) ∧ Ch w w' (Two gs gr) := by
  have HK := bx hk
  have c1 : w.cell? ⟨gs, 1, none⟩ = some (.int .i64 0) := (hB.cell 1).trans rfl
  have f1 := hB.frz 1
  have hlt := hB.lt
  have HB := bx hB
  have HR := bx hR
  have HN := bx hne
  clear hB hR hne hk
  go_enter Try.func26, Try.ntmps26
  go_wp2
  go_end0
  exact ⟨⟨_, rfl⟩, Src.fail HB.out HR.out HN.out HK.out, two_set _⟩
set_option maxHeartbeats 1000000 in
theorem sfail_any (gs gr : Nat) (b : List UInt8) (s : Rz Nat) (k : Int) (w : World) (h : Src w gs gr b s) (hk : k ≠ 0) :
    Calls Try.prog 26 #[.pointer (some ⟨gs, 0, none⟩), .int .i64 k] w fun e w' => (∃ v, e = .returned v) ∧ Src w' gs gr b (failR s k) ∧ Ch w w' (Two gs gr) := by
  cases s with
  | ok p =>
    obtain ⟨hB, hR, hne⟩ := h.ok_
    exact sfail_raw gs gr b p false k w hB hR hne hk
  | err j =>
    obtain ⟨hB, hj⟩ := h.err_
    have HS := bx h
    have c1 : w.cell? ⟨gs, 1, none⟩ = some (.int .i64 j) := (hB.cell 1).trans rfl
    have hI : (j == 0) = false := by rw [beq_eq_false_iff_ne]; exact hj
    clear h hB hj hk
    go_enter Try.func26, Try.ntmps26
    go_wp2
    go_end0
    exact ⟨⟨_, rfl⟩, HS.out, Ch.refl _⟩
theorem wrap_bad (j : Int) : wrap64 (valN (.err j : Rz (Nat × Nat))) = 0 := by
  show wrap64 0 = 0
  unfold wrap64; omega
set_option maxHeartbeats 2000000 in
theorem snum_any (gs gr n : Nat) (b : List UInt8) (s : Rz Nat) (w : World) (h : Src w gs gr b s) (h1 : 1 ≤ n) (h8 : n ≤ 8) :
    Calls Try.prog 25 #[.pointer (some ⟨gs, 0, none⟩), .int .i64 (n : Int)] w fun e w' => e = .returned (.int .i64 (wrap64 (valN (onR s (rdN n) b)))) ∧ Src w' gs gr b (stR (onR s (rdN n) b)) ∧ Ch w w' (Two gs gr) := by
  have HS := bx h
  cases s with
  | err j =>
    obtain ⟨hB, hj⟩ := h.err_
    have c1 : w.cell? ⟨gs, 1, none⟩ = some (.int .i64 j) := (hB.cell 1).trans rfl
    have hI : (j != 0) = true := by rw [bne_iff_ne]; exact hj
    clear h hB hj
    go_enter Try.func25, Try.ntmps25
    go_wp2
    go_ret
    rw [onR_err, wrap_bad]
    exact ⟨rfl, HS.out, Ch.refl _⟩
  | ok p =>
    obtain ⟨hB, hR, hne⟩ := h.ok_
    have c0 : w.cell? ⟨gs, 0, none⟩ = some (.pointer (some ⟨gr, 0, none⟩)) := (hB.cell 0).trans rfl
    have c1 : w.cell? ⟨gs, 1, none⟩ = some (.int .i64 0) := (hB.cell 1).trans rfl
    have HB := bx hB
    have HN := bx hne
    have HNUM := bx (num_any gr b p false (n : Int) w hR)
    obtain ⟨hcs⟩ : Nonempty Unit := ⟨()⟩
    have hok : okN b p false (n : Int) = decide (p + n ≤ b.length) := by
      unfold okN
      rw [decide_eq_true (show (1 : Int) ≤ (n : Int) by omega), decide_eq_true (show (n : Int) ≤ 8 by omega), Bool.not_false, Bool.true_and, Bool.true_and, Bool.true_and, decide_eq_decide]
      omega
    have HOK := bx hok
    have hl8 : gs < w.heap.size := hB.lt
    clear h hB hR hne hok hcs
    go_enter Try.func25, Try.ntmps25
    go_wp2_with fail
    refine HNUM.out.mono ?_
    rintro e w1 ⟨rfl, hr1, hg1⟩
    have HB1 := bx (HB.out.grown hg1 (fun e => HN.out (by injection e)))
    have c0 : w1.cell? ⟨gs, 0, none⟩ = some (.pointer (some ⟨gr, 0, none⟩)) := (HB1.out.cell 0).trans rfl
    have c1 : w1.cell? ⟨gs, 1, none⟩ = some (.int .i64 0) := (HB1.out.cell 1).trans rfl
    have HG1 := bx hg1
    have HR1 := bx hr1
    have HBAD := bx (bad_any gr b _ _ w1 hr1)
    clear hg1 hr1 HNUM
    by_cases hp : p + n ≤ b.length
    · have hk1 : okN b p false (n : Int) = true := by rw [HOK.out]; exact decide_eq_true hp
      have hv : numV b p false (n : Int) = wrap64 (beN ((b.drop p).take n)) := by unfold numV; rw [hk1, if_pos rfl, Int.toNat_natCast]
      have ha : numAt b p false (n : Int) = p + n := by unfold numAt; rw [hk1, if_pos rfl, Int.toNat_natCast]
      have he : onR (.ok p) (rdN n) b = .ok (beN ((b.drop p).take n), p + n) := by rw [onR_ok]; unfold rdN; rw [if_pos hp]
      rw [hk1] at HBAD
      rw [ha, hk1] at HR1
      have HE := bx he
      obtain ⟨V, hV⟩ : ∃ V, wrap64 ((beN ((b.drop p).take n) : Nat) : Int) = V := ⟨_, rfl⟩
      rw [hV] at hv
      have HV := bx hV
      rw [hv]
      clear hk1 hv ha he hp hV
      go_wp2_with fail
      refine HBAD.out.mono ?_
      rintro e w2 ⟨rfl, rfl⟩
      go_wp2
      go_ret
      refine ⟨?_, ?_, two_gb HG1.out⟩
      · rw [HE.out]; exact congrArg (fun z => Ending.returned (.int .i64 z)) HV.out.symm
      · rw [HE.out]
        exact ⟨p + n, false, 0, HB1.out, HR1.out, HN.out, rfl, rfl, rfl⟩
    · have hk1 : okN b p false (n : Int) = false := by rw [HOK.out]; exact decide_eq_false hp
      have hv : numV b p false (n : Int) = 0 := by unfold numV; rw [hk1]; rfl
      have he : onR (.ok p) (rdN n) b = .err 2 := by rw [onR_ok]; unfold rdN; rw [if_neg hp]
      rw [hk1] at HBAD HR1
      have HE := bx he
      rw [hv]
      have HF := bx (sfail_raw gs gr b _ _ 2 w1 HB1.out HR1.out HN.out (by decide))
      clear hk1 hv he hp
      go_wp2_with fail
      refine HBAD.out.mono ?_
      rintro e w2 ⟨rfl, rfl⟩
      go_wp2_with fail
      refine HF.out.mono ?_
      rintro e w2 ⟨⟨v, rfl⟩, hs2, hc2⟩
      have HS2 := bx hs2
      have HC2 := bx ((two_gb (gs := gs) HG1.out).trans hc2 (fun _ _ h => h))
      clear hs2 hc2 HF
      go_wp2
      go_ret
      exact ⟨by rw [HE.out, wrap_bad]; rfl, by rw [HE.out]; exact HS2.out, HC2.out⟩
theorem wrap_small {x : Int} (h : 0 ≤ x) (h2 : x < 4294967296) : wrap64 x = x := IntWalk.wrap64_in _ ⟨by omega, by omega⟩
/-- A number of two bytes or of four. -/
theorem snum_small (gs gr n : Nat) (b : List UInt8) (s : Rz Nat) (w : World) (h : Src w gs gr b s) (h1 : 1 ≤ n) (h4 : n ≤ 4) :
    Calls Try.prog 25 #[.pointer (some ⟨gs, 0, none⟩), .int .i64 (n : Int)] w fun e w' => e = .returned (.int .i64 (valN (onR s (rdN n) b))) ∧ Src w' gs gr b (stR (onR s (rdN n) b)) ∧ Ch w w' (Two gs gr) := by
  have hv := valN_lt n s b
  have hp : 256 ^ n ≤ 256 ^ 4 := Nat.pow_le_pow_right (by omega) h4
  have p4 : (256 : Nat) ^ 4 = 4294967296 := by decide
  have hw := wrap_small hv.1 (by omega)
  have hc := snum_any gs gr n b s w h h1 (by omega)
  rw [hw] at hc
  exact hc
set_option maxHeartbeats 2000000 in
theorem spart_any (gs gr n : Nat) (b : List UInt8) (s : Rz Nat) (w : World) (h : Src w gs gr b s) :
    Calls Try.prog 60 #[.pointer (some ⟨gs, 0, none⟩), .int .i64 (n : Int)] w fun e w' => (∃ v, e = .returned v ∧ OwB w' w.heap.size 5 v (valB (onR s (rdB n) b))) ∧ Src w' gs gr b (stR (onR s (rdB n) b)) ∧ Ch w w' (Two gs gr) := by
  have HS := bx h
  cases s with
  | err j =>
    obtain ⟨hB, hj⟩ := h.err_
    have c1 : w.cell? ⟨gs, 1, none⟩ = some (.int .i64 j) := (hB.cell 1).trans rfl
    have hI : (j != 0) = true := by rw [bne_iff_ne]; exact hj
    clear h hB hj
    go_enter Try.func60, Try.ntmps60
    go_wp2
    go_ret
    exact ⟨⟨_, rfl, OwL.nil⟩, HS.out, Ch.refl _⟩
  | ok p =>
    obtain ⟨hB, hR, hne⟩ := h.ok_
    have c0 : w.cell? ⟨gs, 0, none⟩ = some (.pointer (some ⟨gr, 0, none⟩)) := (hB.cell 0).trans rfl
    have c1 : w.cell? ⟨gs, 1, none⟩ = some (.int .i64 0) := (hB.cell 1).trans rfl
    have HB := bx hB
    have HN := bx hne
    have HBYT := bx (bytes_any gr b p false (n : Int) w hR)
    have hok : okB b p false (n : Int) = decide (p + n ≤ b.length) := by
      unfold okB
      rw [decide_eq_true (show (0 : Int) ≤ (n : Int) by omega), Bool.not_false, Bool.true_and, Bool.true_and, decide_eq_decide]
      omega
    have HOK := bx hok
    have hl8 : gs < w.heap.size := hB.lt
    clear h hB hR hne hok
    go_enter Try.func60, Try.ntmps60
    go_wp2_with fail
    refine HBYT.out.mono ?_
    rintro e w1 ⟨v, rfl, ho1, hr1, hg1⟩
    have HB1 := bx (HB.out.grown hg1 (fun e => HN.out (by injection e)))
    have c0 : w1.cell? ⟨gs, 0, none⟩ = some (.pointer (some ⟨gr, 0, none⟩)) := (HB1.out.cell 0).trans rfl
    have c1 : w1.cell? ⟨gs, 1, none⟩ = some (.int .i64 0) := (HB1.out.cell 1).trans rfl
    have HG1 := bx hg1
    have HR1 := bx hr1
    have HO1 := bx ho1
    have HBAD := bx (bad_any gr b _ _ w1 hr1)
    obtain ⟨AV, nV, cV, rfl, hnV, _⟩ := OwL.sl ho1
    clear hg1 hr1 ho1 HBYT
    by_cases hp : p + n ≤ b.length
    · have hk1 : okB b p false (n : Int) = true := by rw [HOK.out]; exact decide_eq_true hp
      have hv : bytV b p false (n : Int) = (b.drop p).take n := by unfold bytV; rw [hk1, if_pos rfl, Int.toNat_natCast]
      have ha : bytAt b p false (n : Int) = p + n := by unfold bytAt; rw [hk1, if_pos rfl, Int.toNat_natCast]
      have he : onR (.ok p) (rdB n) b = .ok ((b.drop p).take n, p + n) := by rw [onR_ok]; unfold rdB; rw [if_pos hp]
      rw [hk1] at HBAD
      rw [ha, hk1] at HR1
      rw [hv] at HO1
      have HE := bx he
      clear hk1 hv ha he hp hnV
      go_wp2_with fail
      refine HBAD.out.mono ?_
      rintro e w2 ⟨rfl, rfl⟩
      go_wp2
      go_ret
      refine ⟨⟨_, rfl, ?_⟩, ?_, two_gb HG1.out⟩
      · rw [HE.out]; exact HO1.out
      · rw [HE.out]
        exact ⟨p + n, false, 0, HB1.out, HR1.out, HN.out, rfl, rfl, rfl⟩
    · have hk1 : okB b p false (n : Int) = false := by rw [HOK.out]; exact decide_eq_false hp
      have hv : bytV b p false (n : Int) = [] := by unfold bytV; rw [hk1]; rfl
      have he : onR (.ok p) (rdB n) b = .err 2 := by rw [onR_ok]; unfold rdB; rw [if_neg hp]
      rw [hk1] at HBAD HR1
      rw [hv] at HO1
      have HE := bx he
      have HF := bx (sfail_raw gs gr b _ _ 2 w1 HB1.out HR1.out HN.out (by decide))
      clear hk1 hv he hp hnV
      go_wp2_with fail
      refine HBAD.out.mono ?_
      rintro e w2 ⟨rfl, rfl⟩
      go_wp2_with fail
      refine HF.out.mono ?_
      rintro e w2 ⟨⟨v, rfl⟩, hs2, hc2⟩
      have HS2 := bx hs2
      have HO2 := bx (HO1.out.ch hc2 (fun k hk h => by
        have hlo := (World.ownsRow.lt HO1.out k hk).1
        rcases h with e | e
        · omega
        · have := HR1.out.ltr
          have h9 : gr < w.heap.size := by
            have := HS.out.lt.2; exact this
          omega))
      have HC2 := bx ((two_gb (gs := gs) HG1.out).trans hc2 (fun _ _ h => h))
      clear hs2 hc2 HF
      go_wp2
      go_ret
      exact ⟨⟨_, rfl, by rw [HE.out]; exact HO2.out⟩, by rw [HE.out]; exact HS2.out, HC2.out⟩
set_option maxHeartbeats 1000000 in
theorem smany_any (gs gr : Nat) (b : List UInt8) (s : Rz Nat) (w : World) (h : Src w gs gr b s) :
    Calls Try.prog 28 #[.pointer (some ⟨gs, 0, none⟩)] w fun e w' => e = .returned (.int .i64 (valN (onR s cntI b))) ∧ Src w' gs gr b (stR (onR s cntI b)) ∧ Ch w w' (Two gs gr) := by
  have HN := bx (snum_small gs gr 2 b s w h (by decide) (by decide))
  rw [cnt_num]
  obtain ⟨r, hr⟩ : ∃ r, onR s (rdN 2) b = r := ⟨_, rfl⟩
  have hv := valN_lt 2 s b
  rw [hr] at HN hv
  rw [hr]
  obtain ⟨V, hV⟩ : ∃ V, valN r = V := ⟨_, rfl⟩
  rw [hV] at HN hv
  have HV := bx hV
  have hv1 := hv.1
  have hv2 : V < 65536 := hv.2
  clear h hr hV hv
  go_enter Try.func28, Try.ntmps28
  go_wp2_with fail
  refine HN.out.mono ?_
  rintro e w1 ⟨rfl, hs1, hc1⟩
  have HS1 := bx hs1
  have HC1 := bx hc1
  clear hs1 hc1 HN
  by_cases h64 : 64 < V
  · cases r with
    | err k => exact absurd h64 (by rw [← HV.out]; show ¬ (64 : Int) < 0; decide)
    | ok x =>
      have hx : 64 < x.1 := by have : (x.1 : Int) = V := HV.out; omega
      have HF := bx (sfail_any gs gr b _ 24 w1 HS1.out (by decide))
      have HX := bx hx
      clear hx
      go_wp2_with fail
      refine HF.out.mono ?_
      rintro e w2 ⟨⟨v, rfl⟩, hs2, hc2⟩
      have HS2 := bx hs2
      have HC2 := bx (HC1.out.trans hc2 (fun _ _ h => h))
      clear hs2 hc2 HF
      go_wp2
      go_ret
      have e9 : (Rz.ok x).bind (fun x => if 64 < x.1 then Rz.err 24 else Rz.ok x) = .err 24 := by
        show (if 64 < x.1 then Rz.err 24 else Rz.ok x) = _
        rw [if_pos HX.out]
      rw [e9]
      exact ⟨rfl, HS2.out, HC2.out⟩
  · have e9 : r.bind (fun x => if 64 < x.1 then Rz.err 24 else Rz.ok x) = r := by
      cases r with
      | err k => rfl
      | ok x =>
        show (if 64 < x.1 then Rz.err 24 else Rz.ok x) = _
        rw [if_neg (by have : (x.1 : Int) = V := HV.out; omega)]
    have HE := bx e9
    clear e9
    go_wp2
    go_ret
    rw [HE.out]
    exact ⟨by rw [HV.out]; rfl, HS1.out, HC1.out⟩
end Go.Proofs.Ytdioijhmmmnbgaa
