/- Contracts: entry.Unpack. What Unpack and Find answered, taken apart. Contract: entry.Find. samovarlaw10.fixed: it answers true. Contracts: samovarref10.Unpack. Contract: samovarref10.Find. The walk of EntryHolds. Plain laws of the entries' statements: bytes turned in a window of four; a byte turned within one entry. -/
import Derived.Test.YtokojichjliieaaDoorPk3
import Derived.Test.YtokojichjliieaaDoorPk5
import Derived.Test.YtokojichjliieaaDoorPk10
import Derived.Laws.BitsLemmas
import Derived.Test.YtokojichjliieaaDoorPk8
import Derived.StillTailTactics
import Derived.Lib.SlBytesConst
import Derived.Test.YtokojichjliieaaDoorPk9
import Derived.Outline
namespace Go.Proofs.YtokojichjliieaaDoor
open Go.RowKit
theorem and_not8 (X : BitVec 64) : X &&& ~~~(8 : BitVec 64) = 0 ↔ X = 0 ∨ X = 8 := by
  have h8 : ∀ i, i < 64 → i ≠ 3 → (8 : BitVec 64).getLsbD i = false := by decide
  constructor
  · intro h
    have hb : ∀ i, i < 64 → i ≠ 3 → X.getLsbD i = false := by
      intro i hi h3
      have h1 := congrArg (fun Y : BitVec 64 => Y.getLsbD i) h
      simp only [BitVec.getLsbD_and, BitVec.getLsbD_not, h8 i hi h3] at h1
      simpa [hi] using h1
    by_cases h3 : X.getLsbD 3 = true
    · right
      apply BitVec.eq_of_getLsbD_eq
      intro i hi
      by_cases e : i = 3
      · subst e; rw [h3]; rfl
      · rw [hb i hi e, h8 i hi e]
    · left
      apply BitVec.eq_of_getLsbD_eq
      intro i hi
      by_cases e : i = 3
      · subst e; simpa using h3
      · rw [hb i hi e]; simp
  · rintro (h | h) <;> subst h <;> decide
theorem andNot8 (x : Int) (h1 : -9223372036854775808 ≤ x) (h2 : x ≤ 9223372036854775807) : bits .andNot .i64 x 8 = 0 ↔ x = 0 ∨ x = 8 := by
  have hd : bits .andNot .i64 x 8 = IntKind.i64.wrap ((BitVec.ofInt 64 x &&& ~~~BitVec.ofInt 64 8).toNat : Int) := rfl
  have h8 : BitVec.ofInt 64 8 = (8 : BitVec 64) := rfl
  have hX : (BitVec.ofInt 64 x &&& ~~~(8 : BitVec 64)).toNat < 18446744073709551616 := BitVec.isLt _
  rw [hd, h8]
  have hs : (BitVec.ofInt 64 x).toInt = x := by
    rw [BitVec.toInt_ofInt, Int.bmod_def, show ((2 ^ 64 : Nat) : Int) = 18446744073709551616 from rfl]
    split <;> omega
  constructor
  · intro h
    have h0 : BitVec.ofInt 64 x &&& ~~~(8 : BitVec 64) = 0 := by
      apply BitVec.eq_of_toNat_eq
      rw [IntKind.wrap_i64] at h
      show _ = 0
      omega
    rcases (and_not8 _).1 h0 with e | e
    · left; rw [e] at hs; rw [← hs]; rfl
    · right; rw [e] at hs; rw [← hs]; rfl
  · rintro (h | h) <;> subst h <;> decide
theorem unpA_ok {me pk si su : Int} {b o : List UInt8} (h : unpA me pk si su b = .ok o) : (b.length : Int) = pk ∧ (me = 0 ∨ me = 8) ∧ (o.length : Int) = si ∧ si ≤ 32768 ∧ (crcA 0 o : Int) = su := by
  unfold unpA at h
  split at h
  · cases h
  rename_i h1
  split at h
  · cases h
  rename_i h2
  cases ho : outA me pk si b with
  | err k => rw [ho] at h; cases h
  | ok z =>
    rw [ho] at h
    have h : endA' si su z = .ok o := h
    unfold endA' at h
    split at h
    · cases h
    split at h
    · cases h
    injection h with h
    subst h
    rename_i h3 h4
    exact ⟨by omega, by omega, by omega, by omega, by omega⟩
def UnpPost (R : Rz (List UInt8)) (w : World) (e : Ending) (w' : World) : Prop :=
  Below w.heap.size w w' ∧ match R with
    | .ok o => ∃ v, e = .returned (.tuple #[v, .int .i64 0]) ∧ OwB w' w.heap.size 5 v o ∧ o.length ≤ 32768
    | .err k => e = .returned (.tuple #[.slice none 0 0, .int .i64 k]) ∧ k ≠ 0
theorem unpPost_err {R : Rz (List UInt8)} {w w' : World} {k : Int} (h : R = .err k) (hb : Below w.heap.size w w') (hk : k ≠ 0 := by decide) : UnpPost R w (.returned (.tuple #[.slice none 0 0, .int .i64 k])) w' := by
  subst h; exact ⟨hb, rfl, hk⟩
theorem unpPost_ok {R : Rz (List UInt8)} {w w' : World} {v : Value} {l : List UInt8} (h : R = .ok l) (hb : Below w.heap.size w w') (ho : OwB w' w.heap.size 5 v l) (hl : l.length ≤ 32768) : UnpPost R w (.returned (.tuple #[v, .int .i64 0])) w' := by
  subst h; exact ⟨hb, v, rfl, ho, hl⟩
set_option maxRecDepth 100000 in
set_option maxHeartbeats 4000000 in
theorem unp_any (s : ByteArray) (me pk si su at_ hd : Int) (A : Option Addr) (n c : Nat) (b : List UInt8) (w : World) (hn : b.length = n) (hz : n ≤ 1000000000) (hr : RB w w.heap.size A b)
    (hme1 : -9223372036854775808 ≤ me) (hme2 : me ≤ 9223372036854775807) :
    Calls Tryd.prog 21 #[.agg #[.string s, .int .i64 me, .int .i64 pk, .int .i64 si, .int .i64 su, .int .i64 at_, .int .i64 hd], .slice A n c] w (UnpPost (unpA me pk si su b) w) := by
  obtain ⟨R, hRR⟩ : ∃ R, unpA me pk si su b = R := ⟨_, rfl⟩
  rw [hRR]
  have HE := bx hn
  have HRR := bx hRR
  have hB0 : Bx (Below w.heap.size w (w.alloc (.cells #[.string s, .int .i64 me, .int .i64 pk, .int .i64 si, .int .i64 su, .int .i64 at_, .int .i64 hd] 33))) := bx (bl_alloc (Below.refl w.heap.size w) (Nat.le_refl _) _)
  obtain ⟨g, hg⟩ : ∃ g, w.heap.size = g := ⟨_, rfl⟩
  have hK0 : Bk (w.alloc (.cells #[.string s, .int .i64 me, .int .i64 pk, .int .i64 si, .int .i64 su, .int .i64 at_, .int .i64 hd] 33)) g 33 #[.string s, .int .i64 me, .int .i64 pk, .int .i64 si, .int .i64 su, .int .i64 at_, .int .i64 hd] := Bk.newAt w _ _ hg
  have hR0 : RB (w.alloc (.cells #[.string s, .int .i64 me, .int .i64 pk, .int .i64 si, .int .i64 su, .int .i64 at_, .int .i64 hd] 33)) (w.alloc (.cells #[.string s, .int .i64 me, .int .i64 pk, .int .i64 si, .int .i64 su, .int .i64 at_, .int .i64 hd] 33)).heap.size A b := (hr.alloc (Nat.le_refl _) _).more (by simp)
  have HK0 := bx hK0
  have HR0 := bx hR0
  have HG := bx hg
  clear hn hRR hr hK0 hR0
  go_enter Tryd.func21, Tryd.ntmps21
  go_upto_region 1 with (fail)
  generalize w.alloc (.cells #[.string s, .int .i64 me, .int .i64 pk, .int .i64 si, .int .i64 su, .int .i64 at_, .int .i64 hd] 33) = w0 at HK0 HR0 hB0 ⊢
  have k1 : w0.cell? ⟨g, 1, none⟩ = some (.int .i64 me) := (HK0.out.cell 1).trans rfl
  have k2 : w0.cell? ⟨g, 2, none⟩ = some (.int .i64 pk) := (HK0.out.cell 2).trans rfl
  have k3 : w0.cell? ⟨g, 3, none⟩ = some (.int .i64 si) := (HK0.out.cell 3).trans rfl
  by_cases h1 : (n : Int) ≠ pk
  · have t1 : ((n : Int) != pk) = true := by rw [bne_iff_ne]; exact h1
    have HF : Bx (R = .err 1) := bx (by rw [← HRR.out, unpA, if_pos (.inl (by rw [HE.out]; exact h1))])
    clear h1
    go_wp2
    go_ret2
    exact unpPost_err HF.out hB0.out
  obtain rfl : pk = (n : Int) := by omega
  clear h1
  have t1 : ((n : Int) != (n : Int)) = false := by simp
  by_cases h2 : me ≠ 0 ∧ me ≠ 8
  · have t2 : (bits .andNot .i64 me 8 != 0) = true := by rw [bne_iff_ne]; intro e; have := (andNot8 me hme1 hme2).1 e; omega
    have HF : Bx (R = .err 1) := bx (by rw [← HRR.out, unpA, if_pos (.inr (.inl h2))])
    clear h2
    go_wp2
    go_ret2
    exact unpPost_err HF.out hB0.out
  have t2 : (bits .andNot .i64 me 8 != 0) = false := by rw [(andNot8 me hme1 hme2).2 (by omega)]; rfl
  by_cases h3 : si < 0
  · have HF : Bx (R = .err 1) := bx (by rw [← HRR.out, unpA, if_pos (.inr (.inr h3))])
    clear h2
    go_wp2
    go_ret2
    exact unpPost_err HF.out hB0.out
  by_cases h4 : 32768 < si
  · have HF : Bx (R = .err 17) := bx (by rw [← HRR.out, unpA, if_neg (by rw [HE.out]; omega), if_pos h4])
    clear h2
    go_wp2
    go_ret2
    exact unpPost_err HF.out hB0.out
  have HU : Bx (R = (outA me (n : Int) si b).bind (endA' si su)) := bx (by rw [← HRR.out, unpA, if_neg (by rw [HE.out]; omega), if_neg h4])
  by_cases h8 : me = 8
  · have t8 : (me == 8) = true := by rw [h8]; rfl
    have HO : Bx (outA me (n : Int) si b = (inflP b si).bind fun x => if x.2 < b.length then .err 18 else .ok x.1) := bx (by rw [outA, if_pos h8])
    clear h2 h8
    have HI := bx (iall_any A n c b si w0 HE.out hz HR0.out (by omega) (by omega))
    go_wp2_with fail
    refine HI.out.mono ?_
    intro e w1 hp
    cases hi : inflP b si with
    | err k =>
      obtain ⟨rfl, hb1, hk0⟩ := allErr hp hi
      have HF : Bx (R = .err k) := bx (by rw [HU.out, HO.out, hi]; rfl)
      have HB1 := bx (hB0.out.trans (hb1.mono hB0.out.size))
      have HK := bx hk0
      have hkb : (k != 0) = true := by rw [bne_iff_ne]; exact hk0
      clear hp hi hb1 hk0
      go_wp2
      go_ret2
      exact unpPost_err HF.out HB1.out HK.out
    | ok x =>
      obtain ⟨o, used⟩ := x
      obtain ⟨A1, m, c1, rfl, hm, hr1, hmc, hb1, _, ho1, ho2⟩ := allOk hp hi
      have HB1 := bx (hB0.out.trans (hb1.mono hB0.out.size))
      have HK1 := bx (HK0.out.below hb1 HK0.out.lt)
      have hm32 : m ≤ 32768 := by rw [hm.out]; exact ho2
      have HR1 := bx hr1
      have HO1 := bx ho1
      have HX : Bx (outA me (n : Int) si b = if used < b.length then .err 18 else .ok o) := bx (by rw [HO.out, hi]; rfl)
      clear hp hi hb1 hr1 ho1 ho2 k1 k2 k3
      by_cases h5 : used < n
      · have h5I : (used : Int) < (n : Int) := by omega
        have HF : Bx (R = .err 18) := bx (by rw [HU.out, HX.out, if_pos (by rw [HE.out]; exact h5)]; rfl)
        clear h5
        go_wp2
        go_ret2
        exact unpPost_err HF.out HB1.out
      have h5I : ¬ (used : Int) < (n : Int) := by omega
      have HZ : Bx (R = endA' si su o) := bx (by rw [HU.out, HX.out, if_neg (by rw [HE.out]; exact h5)]; rfl)
      have q3 : w1.cell? ⟨g, 3, none⟩ = some (.int .i64 si) := (HK1.out.cell 3).trans rfl
      have q4 : w1.cell? ⟨g, 4, none⟩ = some (.int .i64 su) := (HK1.out.cell 4).trans rfl
      have hOL : OwB w1 w.heap.size 5 (.slice A1 m c1) o := OwL.low HO1.out hB0.out.size
      have HOL := bx hOL
      clear hOL h5
      by_cases h7 : (m : Int) ≠ si
      · have t7 : ((m : Int) != si) = true := by rw [bne_iff_ne]; exact h7
        have HF : Bx (R = .err 18) := bx (by rw [HZ.out, endA', if_pos (by rw [← hm.out]; exact h7)])
        clear h7
        go_wp2
        go_ret2
        exact unpPost_err HF.out HB1.out
      have t7 : ((m : Int) != si) = false := by rw [show (m : Int) = si by omega]; simp
      obtain ⟨sm, hsm⟩ : ∃ sm, crcA 0 o = sm := ⟨_, rfl⟩
      have HSM := bx hsm
      have hgz := HK1.out.lt
      clear hsm
      go_upto_region 18 with (fail)
      have HS0 : w1.drew.cell? ⟨g, 4, none⟩ = some (.int .i64 su) := q4
      go_region_held3 (fun w' => w'.cell? ⟨g, 4, none⟩ = some (.int .i64 su)) (first | exact HS0 | go_keep | exact HS2) ((go_at_call 25; refine (of_any w1.heap.size 1 A1 m c1 o _ (hm.out.symm) (by omega) (((HR1.out.drewN 1).alloc (Nat.le_refl _) _).more (by simp)) (((Bk.new (w1.drewN 1) _ _).cell 0).trans rfl)).mono ?_; rintro e w2 ⟨rfl, hb2⟩; have HS2 : w2.cell? ⟨g, 4, none⟩ = some (.int .i64 su) := (hb2.cell (by simp; omega)).trans ((Below.cell (bl_alloc (Below.refl w1.heap.size w1.drew) (Nat.le_refl _) _) hgz).trans q4)))
      rename World => w2
      rename Below _ _ w2 => hb2
      have HB2 := bx (show Below w.heap.size w w2 from HB1.out.trans ((((bl_alloc (below_drewN (Below.refl w1.heap.size w1) 1) (Nat.le_refl _) _).trans (hb2.mono (by simp)))).mono HB1.out.size))
      have HO2 : Bx (OwB w2 w.heap.size 5 (.slice A1 m c1) o) := bx (((HOL.out.drewN 1).alloc _).below hb2)
      clear hb2 HS2 HS0
      by_cases h9 : (sm : Int) ≠ su
      · have t9 : ((sm : Int) != su) = true := by rw [bne_iff_ne]; exact h9
        have HF : Bx (R = .err 19) := bx (by rw [HZ.out, endA', if_neg (by rw [← hm.out]; exact h7), if_pos (by rw [HSM.out]; exact h9)])
        clear h9 h7
        rw [HSM.out]
        go_wp2
        go_ret2
        exact unpPost_err HF.out HB2.out
      have t9 : ((sm : Int) != su) = false := by rw [show (sm : Int) = su by omega]; simp
      have HF : Bx (R = .ok o) := bx (by rw [HZ.out, endA', if_neg (by rw [← hm.out]; exact h7), if_neg (by rw [HSM.out]; exact h9)])
      clear h9 h7
      rw [HSM.out]
      go_wp2
      go_ret2
      exact unpPost_ok HF.out HB2.out HO2.out (by rw [← hm.out]; exact hm32)
  · have t8 : (me == 8) = false := by rw [beq_eq_false_iff_ne]; exact h8
    by_cases h6 : (n : Int) ≠ si
    · have t6 : ((n : Int) != si) = true := by rw [bne_iff_ne]; exact h6
      have HF : Bx (R = .err 18) := bx (by rw [HU.out, outA, if_neg h8, if_pos h6]; rfl)
      clear h2 h6 h8
      go_wp2
      go_ret2
      exact unpPost_err HF.out hB0.out
    have t6 : ((n : Int) != si) = false := by rw [show (n : Int) = si by omega]; simp
    have HZ : Bx (R = endA' si su b) := bx (by rw [HU.out, outA, if_neg h8, if_neg h6]; rfl)
    have hm32 : n ≤ 32768 := by omega
    have HN : Bx ((([] : List UInt8).length + b.length) * 1 ≤ 140737488355328) := bx (by rw [HE.out]; simp; omega)
    have h6 := bx h6
    clear h2 h8
    go_wp2_with (at_builtin; refine wpList_appL _ bV_one rfl (.tmp 53) (.tmp 54) rfl byteTy (by decide) w0.heap.size _ [] rfl (OwL.lit0 w0 (Nat.le_refl _)) _ A n c b rfl HE.out (HR0.out.alloc (Nat.le_refl _) _) HN.out (le_alloc0 (Nat.le_refl _) _) ?_; intro v1 w1 own1 _ _ hb1; rw [List.nil_append] at own1; have HB1 := bx (hB0.out.trans (((bl_alloc (Below.refl w0.heap.size w0) (Nat.le_refl _) (.cells #[] 5)).trans hb1).mono hB0.out.size)); have HK1 := bx (HK0.out.below ((bl_alloc (Below.refl w0.heap.size w0) (Nat.le_refl _) (.cells #[] 5)).trans hb1) HK0.out.lt); have HOL := bx (OwL.low own1 hB0.out.size); obtain ⟨A1, c1, rfl, hr1, hmc, _⟩ := own1.rd; rw [HE.out]; rw [HE.out] at HOL; have HR1 := bx hr1; have q3 : w1.cell? ⟨g, 3, none⟩ = some (.int .i64 si) := (HK1.out.cell 3).trans rfl; have q4 : w1.cell? ⟨g, 4, none⟩ = some (.int .i64 su) := (HK1.out.cell 4).trans rfl; clear hb1 own1 hr1 hmc)
    have h7 : ¬ (n : Int) ≠ si := fun h => h6.out h
    have t7 : ((n : Int) != si) = false := by rw [show (n : Int) = si by omega]; simp
    obtain ⟨sm, hsm⟩ : ∃ sm, crcA 0 b = sm := ⟨_, rfl⟩
    have HSM := bx hsm
    have hgz := HK1.out.lt
    clear hsm
    go_upto_region 18 with (fail)
    have HS0 : w1.drew.cell? ⟨g, 4, none⟩ = some (.int .i64 su) := q4
    go_region_held3 (fun w' => w'.cell? ⟨g, 4, none⟩ = some (.int .i64 su)) (first | exact HS0 | go_keep | exact HS2) ((go_at_call 25; refine (of_any w1.heap.size 1 A1 n c1 b _ (HE.out) (by omega) (((HR1.out.drewN 1).alloc (Nat.le_refl _) _).more (by simp)) (((Bk.new (w1.drewN 1) _ _).cell 0).trans rfl)).mono ?_; rintro e w2 ⟨rfl, hb2⟩; have HS2 : w2.cell? ⟨g, 4, none⟩ = some (.int .i64 su) := (hb2.cell (by simp; omega)).trans ((Below.cell (bl_alloc (Below.refl w1.heap.size w1.drew) (Nat.le_refl _) _) hgz).trans q4)))
    rename World => w2
    rename Below _ _ w2 => hb2
    have HB2 := bx (show Below w.heap.size w w2 from HB1.out.trans ((((bl_alloc (below_drewN (Below.refl w1.heap.size w1) 1) (Nat.le_refl _) _).trans (hb2.mono (by simp)))).mono HB1.out.size))
    have HO2 : Bx (OwB w2 w.heap.size 5 (.slice A1 n c1) b) := bx (((HOL.out.drewN 1).alloc _).below hb2)
    clear hb2 HS2 HS0
    by_cases h9 : (sm : Int) ≠ su
    · have t9 : ((sm : Int) != su) = true := by rw [bne_iff_ne]; exact h9
      have HF : Bx (R = .err 19) := bx (by rw [HZ.out, endA', if_neg (by rw [HE.out]; exact h7), if_pos (by rw [HSM.out]; exact h9)])
      clear h9 h7
      rw [HSM.out]
      go_wp2
      go_ret2
      exact unpPost_err HF.out HB2.out
    have t9 : ((sm : Int) != su) = false := by rw [show (sm : Int) = su by omega]; simp
    have HF : Bx (R = .ok b) := bx (by rw [HZ.out, endA', if_neg (by rw [HE.out]; exact h7), if_neg (by rw [HSM.out]; exact h9)])
    clear h9 h7
    rw [HSM.out]
    go_wp2
    go_ret2
    exact unpPost_ok HF.out HB2.out HO2.out (by rw [HE.out]; exact hm32)
end Go.Proofs.YtokojichjliieaaDoor
namespace Go.Proofs.YtokojichjliieaaDoor
open Go.RowKit
theorem unpOk {R : Rz (List UInt8)} {w w' : World} {e : Ending} {l : List UInt8} (h : UnpPost R w e w') (hR : R = .ok l) : ∃ A k c, e = .returned (.tuple #[.slice A k c, .int .i64 0]) ∧ Bx (k = l.length) ∧ RB w' w'.heap.size A l ∧ k ≤ c ∧ (c : Int) ≤ 9223372036854775807 ∧ Below w.heap.size w w' ∧ OwB w' w.heap.size 5 (.slice A k c) l ∧ k ≤ 32768 := by
  subst hR
  obtain ⟨hb, v, rfl, hO, hl⟩ := h
  obtain ⟨A, c, rfl, hr, hc, hc2⟩ := OwL.rd hO
  exact ⟨A, _, c, rfl, ⟨rfl⟩, hr, hc, hc2, hb, hO, hl⟩
theorem unpErr {R : Rz (List UInt8)} {w w' : World} {e : Ending} {k : Int} (h : UnpPost R w e w') (hR : R = .err k) : e = .returned (.tuple #[.slice none 0 0, .int .i64 k]) ∧ Below w.heap.size w w' ∧ k ≠ 0 := by
  subst hR
  exact ⟨h.2.1, h.1, h.2.2⟩
/-- The answer as a pair: the error, the bytes. -/
def unpKL : Rz (List UInt8) → Int × List UInt8
  | .err k => (k, [])
  | .ok l => (0, l)
theorem unp_pair {R : Rz (List UInt8)} {w w' : World} {e : Ending} {k : Int} {L : List UInt8} (h : UnpPost R w e w') (hR : unpKL R = (k, L)) : ∃ A n c, e = .returned (.tuple #[.slice A n c, .int .i64 k]) ∧ Bx (n = L.length) ∧ RB w' w'.heap.size A L ∧ n ≤ c ∧ n ≤ 32768 ∧ Below w.heap.size w w' := by
  cases R with
  | err j =>
    injection hR with h1 h2
    subst h1; subst h2
    exact ⟨none, 0, 0, h.2.1, ⟨rfl⟩, RL.nil, Nat.le_refl _, by omega, h.1⟩
  | ok l =>
    injection hR with h1 h2
    subst h1; subst h2
    obtain ⟨A, n, c, rfl, hn, hr, hc, _, hb, _, h32⟩ := unpOk h rfl
    exact ⟨A, n, c, rfl, hn, hr, hc, h32, hb⟩
theorem unp_form {R : Rz (List UInt8)} {w w' : World} {e : Ending} (h : UnpPost R w e w') : ∃ v k, e = .returned (.tuple #[v, .int .i64 k]) := by
  cases R with
  | err j => exact ⟨_, _, h.2.1⟩
  | ok l =>
    obtain ⟨_, v, rfl, _⟩ := h
    exact ⟨_, _, rfl⟩
theorem unp_low {R : Rz (List UInt8)} {w w1 w' : World} {e : Ending} (h : UnpPost R w1 e w') (hb : Below w.heap.size w w1) : UnpPost R w e w' := by
  refine ⟨hb.trans (h.1.mono hb.size), ?_⟩
  cases R with
  | err j => exact h.2
  | ok l =>
    obtain ⟨_, v, rfl, hO, hl⟩ := h
    exact ⟨v, rfl, OwL.low hO hb.size, hl⟩
end Go.Proofs.YtokojichjliieaaDoor
namespace Go.Proofs.YtokojichjliieaaDoor
open Go.RowKit
set_option maxRecDepth 100000 in
set_option maxHeartbeats 8000000 in
theorem find_any (A0 : Option Addr) (n0 c0 : Nat) (l0 : List UInt8) (s : ByteArray) (w : World) (mx : Int) (e0 : l0.length = n0) (b0 : n0 ≤ 140737488351232) (hc0 : n0 ≤ c0) (hm0 : (c0 : Int) ≤ 9223372036854775807) (r0 : RB w w.heap.size A0 l0) (hm : w.cell? ⟨0, 0, none⟩ = some (.int .i64 mx)) :
    Calls Tryd.prog 23 #[.slice A0 n0 c0, .string s] w (UnpPost (findP l0 s.data.toList) w) := by
  obtain ⟨R, hRR⟩ : ∃ R, findP l0 s.data.toList = R := ⟨_, rfl⟩
  rw [hRR]
  have HRR : Bx ((dirA l0).bind (findL l0 s.data.toList) = R) := bx hRR
  have HE := bx e0
  have HR0 := bx r0
  obtain ⟨X, hX⟩ : ∃ X, dirA l0 = X := ⟨_, rfl⟩
  have HD := bx (dir_any A0 n0 c0 l0 w mx e0 b0 hc0 hm0 r0 hm)
  rw [hX] at HD HRR
  clear e0 r0 hm hRR
  go_enter Tryd.func23, Tryd.ntmps23
  cases X with
  | err k =>
    have hk := dirA_pos hX
    have hkI : (k != 0) = true := by rw [bne_iff_ne]; omega
    have HF : Bx (R = .err k) := bx (HRR.out.symm)
    have HK : Bx (k ≠ 0) := bx (by omega)
    clear hX HRR
    go_wp2_with fail
    refine HD.out.mono ?_
    intro e w2 hp
    obtain ⟨rfl, hb2⟩ := dirpost_err hp rfl
    have HB2 := bx hb2
    clear hp hb2 hk
    go_wp2
    go_ret2
    exact unpPost_err HF.out HB2.out HK.out
  | ok L =>
  have HOK := bx (apOk hX)
  have h64 := (dirA_ok hX).1
  obtain ⟨nL, hnL⟩ : ∃ nL, L.length = nL := ⟨_, rfl⟩
  have hnl64 : nL ≤ 64 := by rw [← hnL]; exact HOK.out.len
  have HNL := bx hnL
  have hn64 : n0 ≤ 65536 := by rw [← HE.out]; exact h64
  have HRF : Bx (findL l0 s.data.toList (L.drop 0) = R) := bx HRR.out
  clear hX hnL HRR h64
  go_wp2_with fail
  refine HD.out.mono ?_
  intro e w2 hp
  obtain ⟨A2, c2, rfl, _, hr2, hc2, hb2⟩ := dirpost_ok hp rfl
  have HR2 := bx hr2
  have HB2 := bx hb2
  rw [HNL.out] at hc2
  clear hp hb2 hr2
  rw [HNL.out]
  obtain ⟨B2, hB2⟩ : ∃ B2, w2.heap.size = B2 := ⟨_, rfl⟩
  have HBB := bx hB2
  have hwB : w.heap.size ≤ B2 := by rw [← hB2]; exact HB2.out.size
  have HCc := bx (show Below B2 w2 w2 from Below.refl _ _)
  clear hB2
  go_wp2_with fail
  go_loopw [20] (fun iv wx => ∃ t : Nat, t ≤ nL ∧ iv = .int .i64 (t : Int) ∧ Bx (Below B2 w2 wx) ∧ Bx (findL l0 s.data.toList (L.drop t) = R)) (fun i _ => nL - (intOf i).toNat)
  case atStart => exact ⟨0, by omega, rfl, HCc, HRF⟩
  case round =>
    clear HRF
    obtain ⟨t, ht, rfl, HW, HT⟩ := hrel
    have hszw : B2 ≤ wr.heap.size := by have := HW.out.size; have := HBB.out; omega
    by_cases htn : t < nL
    · have htI : (t : Int) < (nL : Int) := by omega
      have hrr : RS recL wr wr.heap.size A2 L := (HR2.out.below (HBB.out ▸ HW.out) (Nat.le_refl _)).more (by rw [HBB.out]; exact hszw)
      obtain ⟨ad, x, hA, _, hx, hc, hcs⟩ := hrr.at_ recCels (k := t) (by rw [HNL.out]; exact htn)
      subst hA
      have HX2 := bx (findL_at (b := l0) (nm := s.data.toList) hx.out)
      have HO := bx (HOK.out.one t _ hx.out)
      obtain ⟨⟨nm, me, pk, si, su, hd⟩, at2⟩ := x
      obtain ⟨o1, o2, o3, o4, o5⟩ := HO.out
      dsimp only at o1 o2 o3 o4 o5
      rw [HE.out] at o4
      obtain ⟨sn, hsn⟩ : ∃ s : ByteArray, (⟨nm.toArray⟩ : ByteArray) = s := ⟨_, rfl⟩
      have HSV : Bx (strV nm = .string sn) := bx (by unfold strV; rw [hsn])
      have HSL : Bx (sn.data.toList = nm) := bx (by rw [← hsn])
      have k0 := hc _ rfl
      have k1 := hcs 0 _ rfl
      have k2 := hcs 1 _ rfl
      have k3 := hcs 2 _ rfl
      have k4 := hcs 3 _ rfl
      have k5 := hcs 4 _ rfl
      have k6 := hcs 5 _ rfl
      rw [Nat.zero_add] at k1
      rw [HSV.out] at k0
      obtain ⟨gi, hgi⟩ : ∃ gi, wr.heap.size = gi := ⟨_, rfl⟩
      obtain ⟨w4, hw4⟩ : ∃ w4, (wr.alloc (.cells z7 33)).setRow wr.heap.size #[.string sn, .int .i64 (me : Int), .int .i64 (pk : Int), .int .i64 (si : Int), .int .i64 (su : Int), .int .i64 (at2 : Int), .int .i64 (hd : Int)] = w4 := ⟨_, rfl⟩
      have hK4 : Bk w4 gi 33 #[.string sn, .int .i64 (me : Int), .int .i64 (pk : Int), .int .i64 (si : Int), .int .i64 (su : Int), .int .i64 (at2 : Int), .int .i64 (hd : Int)] := by rw [← hw4, ← hgi]; exact ((Bk.new wr _ z7).setRow _)
      have hB4 : Below B2 w2 w4 := HW.out.trans (by rw [← hw4]; exact (bl_setRow (bl_alloc (Below.refl wr.heap.size wr) (Nat.le_refl _) _) (Nat.le_refl _) _).mono hszw)
      have hone : (#[.string sn, .int .i64 (me : Int), .int .i64 (pk : Int), .int .i64 (si : Int), .int .i64 (su : Int), .int .i64 (at2 : Int), .int .i64 (hd : Int)] : Array Value).all (·.oneCell') = true := by simp [Value.oneCell']
      have HONE := bx hone
      have HK4 := bx hK4
      have HB4 := bx hB4
      have n0c : w4.cell? ⟨gi, 0, none⟩ = some (.string sn) := (hK4.cell 0).trans rfl
      have HW4e := bx hw4
      have HGI := bx hgi
      have htc : (t : Int) ≤ (c2 : Int) := by omega
      have HME := bx o2
      clear hw4 hK4 hB4 hone hc hcs hx hrr hsn o1 o2 o5 hgi HO
      by_cases hnm : nm = s.data.toList
      · have hst : (sn.toList == s.toList) = true := tl_same (by rw [HSL.out]; exact hnm)
        have HF : Bx (unpA me pk si su ((l0.drop at2).take pk) = R) := bx (by rw [← HT.out, HX2.out]; exact (if_pos hnm).symm)
        clear hnm HX2 HT
        go_upto_region 8 with (refine wpList_store_row rfl 33 (.tmp 9) (.tmp 23) rfl wr.heap.size #[.string sn, .int .i64 (me : Int), .int .i64 (pk : Int), .int .i64 (si : Int), .int .i64 (su : Int), .int .i64 (at2 : Int), .int .i64 (hd : Int)] rfl rfl 33 z7 (Bk.new _ _ _) info_rec rfl HONE.out ?_; rw [z7_eq, HW4e.out, HGI.out])
        clear k0 k1 k2 k3 k4 k5 k6 HW4e HONE n0c
        have q0 : w4.cell? ⟨gi, 0, none⟩ = some (.string sn) := (HK4.out.cell 0).trans rfl
        have q1 : w4.cell? ⟨gi, 1, none⟩ = some (.int .i64 (me : Int)) := (HK4.out.cell 1).trans rfl
        have q2 : w4.cell? ⟨gi, 2, none⟩ = some (.int .i64 (pk : Int)) := (HK4.out.cell 2).trans rfl
        have q3 : w4.cell? ⟨gi, 3, none⟩ = some (.int .i64 (si : Int)) := (HK4.out.cell 3).trans rfl
        have q4 : w4.cell? ⟨gi, 4, none⟩ = some (.int .i64 (su : Int)) := (HK4.out.cell 4).trans rfl
        have q5 : w4.cell? ⟨gi, 5, none⟩ = some (.int .i64 (at2 : Int)) := (HK4.out.cell 5).trans rfl
        have q6 : w4.cell? ⟨gi, 6, none⟩ = some (.int .i64 (hd : Int)) := (HK4.out.cell 6).trans rfl
        have HW4 : Bx (Below w.heap.size w w4) := bx (HB2.out.trans (HB4.out.mono hwB))
        have HI4 : Bx (RB w4 w4.heap.size A0 l0) := bx ((HR0.out.below HW4.out (Nat.le_refl _)).more HW4.out.size)
        have u1 : IntKind.i64.wrap ((at2 : Int) + (pk : Int)) = (at2 : Int) + (pk : Int) := IntWalk.i64_in _ (by omega)
        have v1 : (0 : Int) ≤ (at2 : Int) := by omega
        have v2 : (at2 : Int) ≤ (at2 : Int) + (pk : Int) := by omega
        have v3 : (at2 : Int) + (pk : Int) ≤ (c0 : Int) := by omega
        have v4 : ((at2 : Int)).toNat = at2 := Int.toNat_natCast at2
        have v5 : ((at2 : Int) + (pk : Int)).toNat = at2 + pk := Int.toNat_natCast (at2 + pk)
        have v6 : ¬ c0 = at2 := by omega
        have hS5 : w4.drew.cell? ⟨gi, 0, none⟩ = some (.string sn) ∧ w4.drew.cell? ⟨gi, 1, none⟩ = some (.int .i64 (me : Int)) ∧ w4.drew.cell? ⟨gi, 2, none⟩ = some (.int .i64 (pk : Int)) ∧ w4.drew.cell? ⟨gi, 3, none⟩ = some (.int .i64 (si : Int)) ∧ w4.drew.cell? ⟨gi, 4, none⟩ = some (.int .i64 (su : Int)) ∧ w4.drew.cell? ⟨gi, 5, none⟩ = some (.int .i64 (at2 : Int)) ∧ w4.drew.cell? ⟨gi, 6, none⟩ = some (.int .i64 (hd : Int)) := ⟨q0, q1, q2, q3, q4, q5, q6⟩
        have HK5 : Bx (Bk w4.drew gi 33 #[.string sn, .int .i64 (me : Int), .int .i64 (pk : Int), .int .i64 (si : Int), .int .i64 (su : Int), .int .i64 (at2 : Int), .int .i64 (hd : Int)]) := bx (HK4.out.drewN 1)
        have HW5 : Bx (Below w.heap.size w w4.drew) := bx (below_drewN HW4.out 1)
        have HP : Bx (RB w4.drew w4.drew.heap.size (A0.map (·.add at2)) ((l0.drop at2).take pk)) := bx (((HI4.out.drewN 1).drop at2).take pk)
        have HPL : Bx (((l0.drop at2).take pk).length = pk) := bx (by rw [List.length_take, List.length_drop, HE.out]; omega)
        have HME1 : Bx (-9223372036854775808 ≤ (me : Int)) := bx (by omega)
        have HME2 : Bx ((me : Int) ≤ 9223372036854775807) := bx (by have := HME.out; omega)
        clear q0 q1 q2 q3 q4 q5 q6
        go_region_held3 (fun w' => w'.cell? ⟨gi, 0, none⟩ = some (.string sn) ∧ w'.cell? ⟨gi, 1, none⟩ = some (.int .i64 (me : Int)) ∧ w'.cell? ⟨gi, 2, none⟩ = some (.int .i64 (pk : Int)) ∧ w'.cell? ⟨gi, 3, none⟩ = some (.int .i64 (si : Int)) ∧ w'.cell? ⟨gi, 4, none⟩ = some (.int .i64 (su : Int)) ∧ w'.cell? ⟨gi, 5, none⟩ = some (.int .i64 (at2 : Int)) ∧ w'.cell? ⟨gi, 6, none⟩ = some (.int .i64 (hd : Int))) (first | exact hS5 | exact hS6) ((go_at_call 21; refine (unp_any sn me pk si su at2 hd (A0.map (·.add at2)) pk (c0 - at2) ((l0.drop at2).take pk) w4.drew HPL.out (by omega) HP.out HME1.out HME2.out).mono ?_; intro e w6 hp6; obtain ⟨v6, k6, rfl⟩ := unp_form hp6; have hS6 : w6.cell? ⟨gi, 0, none⟩ = some (.string sn) ∧ w6.cell? ⟨gi, 1, none⟩ = some (.int .i64 (me : Int)) ∧ w6.cell? ⟨gi, 2, none⟩ = some (.int .i64 (pk : Int)) ∧ w6.cell? ⟨gi, 3, none⟩ = some (.int .i64 (si : Int)) ∧ w6.cell? ⟨gi, 4, none⟩ = some (.int .i64 (su : Int)) ∧ w6.cell? ⟨gi, 5, none⟩ = some (.int .i64 (at2 : Int)) ∧ w6.cell? ⟨gi, 6, none⟩ = some (.int .i64 (hd : Int)) := ⟨(hp6.1.cell HK5.out.lt).trans hS5.1, (hp6.1.cell HK5.out.lt).trans hS5.2.1, (hp6.1.cell HK5.out.lt).trans hS5.2.2.1, (hp6.1.cell HK5.out.lt).trans hS5.2.2.2.1, (hp6.1.cell HK5.out.lt).trans hS5.2.2.2.2.1, (hp6.1.cell HK5.out.lt).trans hS5.2.2.2.2.2.1, (hp6.1.cell HK5.out.lt).trans hS5.2.2.2.2.2.2⟩))
        go_wp2
        go_ret2
        have hu := unp_low hp6 HW5.out
        rw [HF.out] at hu
        exact hu
      · have hst : (sn.toList == s.toList) = false := tl_diff (fun e => hnm (by rw [← HSL.out]; exact e))
        have HF : Bx (findL l0 s.data.toList (L.drop (t + 1)) = R) := bx (by rw [← HT.out, HX2.out]; exact (if_neg hnm).symm)
        clear hnm HX2 HT
        go_wp2_with (refine wpList_store_row rfl 33 (.tmp 9) (.tmp 23) rfl wr.heap.size #[.string sn, .int .i64 (me : Int), .int .i64 (pk : Int), .int .i64 (si : Int), .int .i64 (su : Int), .int .i64 (at2 : Int), .int .i64 (hd : Int)] rfl rfl 33 z7 (Bk.new _ _ _) info_rec rfl HONE.out ?_; rw [z7_eq, HW4e.out, HGI.out])
        go_roundw
        case rel => exact ⟨t + 1, by omega, by go_num, HB4, HF⟩
        case measure => simp [intOf]; omega
    have htI : ¬ (t : Int) < (nL : Int) := by omega
    have HF : Bx (R = .err 21) := bx (by rw [← HT.out, List.drop_eq_nil_of_le (by have := HNL.out; omega), findL])
    have HWr := bx (HB2.out.trans (HW.out.mono hwB))
    go_wp2
    go_ret2
    exact unpPost_err HF.out HWr.out
end Go.Proofs.YtokojichjliieaaDoor
namespace Go.Proofs.YtokojichjliieaaDoor
open Go.RowKit
theorem fxu1 : unpA 0 1 1 3904355907 [97] = .ok [97] := by kernel_rfl
theorem fxu2 : unpA 0 1 2 3904355907 [97] = .err 18 := by kernel_rfl
theorem fxu3 : unpA 0 1 1 0 [97] = .err 19 := by kernel_rfl
theorem fxu4 : unpA 0 1 40000 0 [97] = .err 17 := by kernel_rfl
theorem fxu5 : findP [] [97] = .err 9 := by kernel_rfl
set_option maxRecDepth 100000 in
set_option maxHeartbeats 8000000 in
theorem fixed10_any (mx : Int) (w : World) (hm : w.cell? ⟨0, 0, none⟩ = some (.int .i64 mx)) :
    Calls Tryd.prog 20 #[] w fun e w' => e = .returned (.bool true) ∧ Below w.heap.size w w' := by
  have HM := bx hm
  have hR0 : ∀ w : World, RB (w.alloc (.cells #[.int .u8 97] 5 (1, 2))) (w.alloc (.cells #[.int .u8 97] 5 (1, 2))).heap.size (some ⟨w.heap.size, 0, none⟩) [97] := fun w => (RL.news w [97] #[.int .u8 97] rfl 5 (1, 2)).top
  have HR0 := bx hR0
  have hA0 : ∀ W w : World, Below W.heap.size W w → Below W.heap.size W (w.alloc (.cells #[.int .u8 97] 5 (1, 2))) := fun W w h => bl_alloc h (Nat.le_refl _) _
  have HA0 := bx hA0
  have kc := fun (w : World) (C : Array Value) (n c : Nat) => Lib.run_convert_bytes_const (P := Tryd.prog) w 22 5 C n c Tryd.underlying22 Tryd.underlying5
  have HB0 := bx (Below.refl w.heap.size w)
  clear hm hR0 hA0
  go_enter Tryd.func20, Tryd.ntmps20
  go_wp2_with fail
  have hk := unp_any ⟨#[]⟩ 0 1 1 3904355907 0 0 (some ⟨w.heap.size, 0, none⟩) 1 1 [97] _ rfl (by omega) (HR0.out w) (by omega) (by omega)
  refine hk.mono ?_
  clear hk
  intro e w1 hp
  obtain ⟨A1, n1, c1, rfl, hn1, hr1, _, _, hb1, _⟩ := unpOk hp fxu1
  obtain rfl : n1 = 1 := hn1.out
  have HR1 := bx hr1
  have HB1 := bx ((HA0.out _ _ HB0.out).trans (hb1.mono (HA0.out _ _ HB0.out).size))
  clear hp hr1 hb1 hn1
  go_wp2_with fail
  have hk := unp_any ⟨#[]⟩ 0 1 2 3904355907 0 0 (some ⟨w1.heap.size, 0, none⟩) 1 1 [97] _ rfl (by omega) (HR0.out w1) (by omega) (by omega)
  refine hk.mono ?_
  clear hk
  intro e w2 hp
  obtain ⟨rfl, hb1, _⟩ := unpErr hp fxu2
  have HB2 := bx ((HA0.out _ _ HB1.out).trans (hb1.mono (HA0.out _ _ HB1.out).size))
  have HR2 := bx (HR1.out.step ((bl_alloc (Below.refl w1.heap.size w1) (Nat.le_refl _) (.cells #[.int .u8 97] 5 (1, 2))).trans (hb1.mono (by simp))))
  clear hp hb1
  go_wp2_with fail
  have hk := unp_any ⟨#[]⟩ 0 1 1 0 0 0 (some ⟨w2.heap.size, 0, none⟩) 1 1 [97] _ rfl (by omega) (HR0.out w2) (by omega) (by omega)
  refine hk.mono ?_
  clear hk
  intro e w3 hp
  obtain ⟨rfl, hb1, _⟩ := unpErr hp fxu3
  have HB3 := bx ((HA0.out _ _ HB2.out).trans (hb1.mono (HA0.out _ _ HB2.out).size))
  have HR3 := bx (HR2.out.step ((bl_alloc (Below.refl w2.heap.size w2) (Nat.le_refl _) (.cells #[.int .u8 97] 5 (1, 2))).trans (hb1.mono (by simp))))
  clear hp hb1
  go_wp2_with fail
  have hk := unp_any ⟨#[]⟩ 0 1 40000 0 0 0 (some ⟨w3.heap.size, 0, none⟩) 1 1 [97] _ rfl (by omega) (HR0.out w3) (by omega) (by omega)
  refine hk.mono ?_
  clear hk
  intro e w4 hp
  obtain ⟨rfl, hb1, _⟩ := unpErr hp fxu4
  have HB4 := bx ((HA0.out _ _ HB3.out).trans (hb1.mono (HA0.out _ _ HB3.out).size))
  have HR4 := bx (HR3.out.step ((bl_alloc (Below.refl w3.heap.size w3) (Nat.le_refl _) (.cells #[.int .u8 97] 5 (1, 2))).trans (hb1.mono (by simp))))
  clear hp hb1
  go_wp2_with fail
  refine (find_any none 0 0 [] ⟨#[97]⟩ w4 mx rfl (by omega) (Nat.le_refl _) (by decide) RL.nil (cell_old HB4.out HM.out)).mono ?_
  intro e w5 hp
  obtain ⟨rfl, hb1, _⟩ := unpErr hp fxu5
  have HB5 := bx (HB4.out.trans (hb1.mono HB4.out.size))
  have hr5 := HR4.out.step hb1
  have hcs := run_conv_str (P := Tryd.prog) (c := c1) (n := 1) Tryd.underlying22 Tryd.underlying5 Tryd.underlying9 rfl hr5
  clear hp hb1 hr5
  go_wp2
  go_ret
  exact ⟨rfl, HB5.out⟩
end Go.Proofs.YtokojichjliieaaDoor
namespace Go.Proofs.YtokojichjliieaaDoor
open Go.RowKit
theorem infl_used {b : List UInt8} {lim : Int} {o : List UInt8} {n : Nat} (h : inflP b lim = .ok (o, n)) : n ≤ b.length := by
  obtain ⟨p, h1, h2, _⟩ := infl_ok h
  have := (allP_more h1).2
  omega
set_option maxRecDepth 100000 in
set_option maxHeartbeats 4000000 in
theorem runp_any (s : ByteArray) (me pk si su at_ hd : Int) (A : Option Addr) (n c : Nat) (b : List UInt8) (w : World) (hn : b.length = n) (hz : n ≤ 1000000000) (hr : RB w w.heap.size A b)
    (hme1 : -9223372036854775808 ≤ me) (hme2 : me ≤ 9223372036854775807) :
    Calls Tryd.prog 22 #[.agg #[.string s, .int .i64 me, .int .i64 pk, .int .i64 si, .int .i64 su, .int .i64 at_, .int .i64 hd], .slice A n c] w (UnpPost (unpA me pk si su b) w) := by
  obtain ⟨R, hRR⟩ : ∃ R, unpA me pk si su b = R := ⟨_, rfl⟩
  rw [hRR]
  have HE := bx hn
  have HRR := bx hRR
  have hB0 : Bx (Below w.heap.size w (w.alloc (.cells #[.string s, .int .i64 me, .int .i64 pk, .int .i64 si, .int .i64 su, .int .i64 at_, .int .i64 hd] 33))) := bx (bl_alloc (Below.refl w.heap.size w) (Nat.le_refl _) _)
  obtain ⟨g, hg⟩ : ∃ g, w.heap.size = g := ⟨_, rfl⟩
  have hK0 : Bk (w.alloc (.cells #[.string s, .int .i64 me, .int .i64 pk, .int .i64 si, .int .i64 su, .int .i64 at_, .int .i64 hd] 33)) g 33 #[.string s, .int .i64 me, .int .i64 pk, .int .i64 si, .int .i64 su, .int .i64 at_, .int .i64 hd] := Bk.newAt w _ _ hg
  have hR0 : RB (w.alloc (.cells #[.string s, .int .i64 me, .int .i64 pk, .int .i64 si, .int .i64 su, .int .i64 at_, .int .i64 hd] 33)) (w.alloc (.cells #[.string s, .int .i64 me, .int .i64 pk, .int .i64 si, .int .i64 su, .int .i64 at_, .int .i64 hd] 33)).heap.size A b := (hr.alloc (Nat.le_refl _) _).more (by simp)
  have HK0 := bx hK0
  have HR0 := bx hR0
  have HG := bx hg
  clear hn hRR hr hK0 hR0
  go_enter Tryd.func22, Tryd.ntmps22
  go_upto_region 1 with (fail)
  generalize w.alloc (.cells #[.string s, .int .i64 me, .int .i64 pk, .int .i64 si, .int .i64 su, .int .i64 at_, .int .i64 hd] 33) = w0 at HK0 HR0 hB0 ⊢
  have k1 : w0.cell? ⟨g, 1, none⟩ = some (.int .i64 me) := (HK0.out.cell 1).trans rfl
  have k2 : w0.cell? ⟨g, 2, none⟩ = some (.int .i64 pk) := (HK0.out.cell 2).trans rfl
  have k3 : w0.cell? ⟨g, 3, none⟩ = some (.int .i64 si) := (HK0.out.cell 3).trans rfl
  by_cases h1 : (n : Int) ≠ pk
  · have t1 : ((n : Int) != pk) = true := by rw [bne_iff_ne]; exact h1
    have HF : Bx (R = .err 1) := bx (by rw [← HRR.out, unpA, if_pos (.inl (by rw [HE.out]; exact h1))])
    clear h1
    go_wp2
    go_ret2
    exact unpPost_err HF.out hB0.out
  obtain rfl : pk = (n : Int) := by omega
  clear h1
  have t1 : ((n : Int) != (n : Int)) = false := by simp
  by_cases h2 : me ≠ 0 ∧ me ≠ 8
  · have t2 : (me != 0) = true := by rw [bne_iff_ne]; exact h2.1
    have t3 : (me != 8) = true := by rw [bne_iff_ne]; exact h2.2
    have HF : Bx (R = .err 1) := bx (by rw [← HRR.out, unpA, if_pos (.inr (.inl h2))])
    clear h2
    go_wp2
    go_ret2
    exact unpPost_err HF.out hB0.out
  have h8 : me = 0 ∨ me = 8 := by omega
  clear h2
  rcases h8 with rfl | rfl
  · by_cases h3 : si < 0
    · have HF : Bx (R = .err 1) := bx (by rw [← HRR.out, unpA, if_pos (.inr (.inr h3))])
      go_wp2
      go_ret2
      exact unpPost_err HF.out hB0.out
    by_cases h4 : 32768 < si
    · have HF : Bx (R = .err 17) := bx (by rw [← HRR.out, unpA, if_neg (by rw [HE.out]; omega), if_pos h4])
      go_wp2
      go_ret2
      exact unpPost_err HF.out hB0.out
    have HU : Bx (R = (outA 0 (n : Int) si b).bind (endA' si su)) := bx (by rw [← HRR.out, unpA, if_neg (by rw [HE.out]; omega), if_neg h4])
    have HN : Bx ((([] : List UInt8).length + b.length) * 1 ≤ 140737488355328) := bx (by rw [HE.out]; simp; omega)
    go_upto_region 6 with (at_builtin; refine wpList_appL _ bV_one rfl (.tmp 33) (.tmp 34) rfl byteTy (by decide) w0.heap.size _ [] rfl (OwL.lit0 w0 (Nat.le_refl _)) _ A n c b rfl HE.out (HR0.out.alloc (Nat.le_refl _) _) HN.out (le_alloc0 (Nat.le_refl _) _) ?_; intro v1 w1 own1 _ _ hb1; rw [List.nil_append] at own1; have HB1 := bx (hB0.out.trans (((bl_alloc (Below.refl w0.heap.size w0) (Nat.le_refl _) (.cells #[] 5)).trans hb1).mono hB0.out.size)); have HK1 := bx (HK0.out.below ((bl_alloc (Below.refl w0.heap.size w0) (Nat.le_refl _) (.cells #[] 5)).trans hb1) HK0.out.lt); have HRA := bx (HR0.out.step ((bl_alloc (Below.refl w0.heap.size w0) (Nat.le_refl _) (.cells #[] 5)).trans hb1)); have HOL := bx (OwL.low own1 hB0.out.size); obtain ⟨A1, c1, rfl, hr1, hmc, _⟩ := own1.rd; rw [HE.out]; rw [HE.out] at HOL; have HR1 := bx hr1; have q1 : w1.cell? ⟨g, 1, none⟩ = some (.int .i64 0) := (HK1.out.cell 1).trans rfl; have q3 : w1.cell? ⟨g, 3, none⟩ = some (.int .i64 si) := (HK1.out.cell 3).trans rfl; have q4 : w1.cell? ⟨g, 4, none⟩ = some (.int .i64 su) := (HK1.out.cell 4).trans rfl; clear hb1 own1 hr1 hmc)
    have q3 : w1.cell? ⟨g, 3, none⟩ = some (.int .i64 si) := (HK1.out.cell 3).trans rfl
    have q4 : w1.cell? ⟨g, 4, none⟩ = some (.int .i64 su) := (HK1.out.cell 4).trans rfl
    by_cases h7 : (n : Int) ≠ si
    · have t7 : ((n : Int) != si) = true := by rw [bne_iff_ne]; exact h7
      have HF : Bx (R = .err 18) := bx (by rw [HU.out, outA, if_neg (by decide), if_pos h7]; rfl)
      clear h7
      go_wp2
      go_ret2
      exact unpPost_err HF.out HB1.out
    have HZ : Bx (R = endA' si su b) := bx (by rw [HU.out, outA, if_neg (by decide), if_neg h7]; rfl)
    have t7 : ((n : Int) != si) = false := by rw [show (n : Int) = si by omega]; simp
    obtain ⟨sm, hsm⟩ : ∃ sm, crcA 0 b = sm := ⟨_, rfl⟩
    have HSM := bx hsm
    have hmz : n ≤ 1000000000 := by omega
    have HS := fun w hr => rsum_any A1 n c1 b w (HE.out) (by omega) hr
    have HS' := bx HS
    clear hsm HS
    by_cases h9 : (sm : Int) ≠ su
    · have t9 : ((sm : Int) != su) = true := by rw [bne_iff_ne]; exact h9
      have HF : Bx (R = .err 19) := bx (by rw [HZ.out, endA', if_neg (by rw [HE.out]; exact h7), if_pos (by rw [HSM.out]; exact h9)])
      clear h9 h7
      go_wp2_with fail
      go_quiet ((go_at_call 26; exact quiet_eq ((HS'.out _ (HR1.out.drewN _)).mono fun e w' h => ⟨by rw [h.1, HSM.out], h.2.symm⟩)))
      go_wp2
      go_ret2
      exact unpPost_err HF.out (below_drewN HB1.out _)
    have t9 : ((sm : Int) != su) = false := by rw [show (sm : Int) = su by omega]; simp
    have HF : Bx (R = .ok b) := bx (by rw [HZ.out, endA', if_neg (by rw [HE.out]; exact h7), if_neg (by rw [HSM.out]; exact h9)])
    have hl32 : b.length ≤ 32768 := by rw [HE.out]; omega
    clear h9 h7
    go_wp2_with fail
    go_quiet ((go_at_call 26; exact quiet_eq ((HS'.out _ (HR1.out.drewN _)).mono fun e w' h => ⟨by rw [h.1, HSM.out], h.2.symm⟩)))
    go_wp2
    go_ret2
    exact unpPost_ok HF.out (below_drewN HB1.out _) (HOL.out.drewN _) hl32
  · by_cases h3 : si < 0
    · have HF : Bx (R = .err 1) := bx (by rw [← HRR.out, unpA, if_pos (.inr (.inr h3))])
      go_wp2
      go_ret2
      exact unpPost_err HF.out hB0.out
    by_cases h4 : 32768 < si
    · have HF : Bx (R = .err 17) := bx (by rw [← HRR.out, unpA, if_neg (by rw [HE.out]; omega), if_pos h4])
      go_wp2
      go_ret2
      exact unpPost_err HF.out hB0.out
    have HU : Bx (R = (outA 8 (n : Int) si b).bind (endA' si su)) := bx (by rw [← HRR.out, unpA, if_neg (by rw [HE.out]; omega), if_neg h4])
    have HN : Bx ((([] : List UInt8).length + b.length) * 1 ≤ 140737488355328) := bx (by rw [HE.out]; simp; omega)
    go_upto_region 6 with (at_builtin; refine wpList_appL _ bV_one rfl (.tmp 33) (.tmp 34) rfl byteTy (by decide) w0.heap.size _ [] rfl (OwL.lit0 w0 (Nat.le_refl _)) _ A n c b rfl HE.out (HR0.out.alloc (Nat.le_refl _) _) HN.out (le_alloc0 (Nat.le_refl _) _) ?_; intro v1 w1 own1 _ _ hb1; rw [List.nil_append] at own1; have HB1 := bx (hB0.out.trans (((bl_alloc (Below.refl w0.heap.size w0) (Nat.le_refl _) (.cells #[] 5)).trans hb1).mono hB0.out.size)); have HK1 := bx (HK0.out.below ((bl_alloc (Below.refl w0.heap.size w0) (Nat.le_refl _) (.cells #[] 5)).trans hb1) HK0.out.lt); have HRA := bx (HR0.out.step ((bl_alloc (Below.refl w0.heap.size w0) (Nat.le_refl _) (.cells #[] 5)).trans hb1)); have HOL := bx (OwL.low own1 hB0.out.size); obtain ⟨A1, c1, rfl, hr1, hmc, _⟩ := own1.rd; rw [HE.out]; rw [HE.out] at HOL; have HR1 := bx hr1; have q1 : w1.cell? ⟨g, 1, none⟩ = some (.int .i64 8) := (HK1.out.cell 1).trans rfl; have q3 : w1.cell? ⟨g, 3, none⟩ = some (.int .i64 si) := (HK1.out.cell 3).trans rfl; have q4 : w1.cell? ⟨g, 4, none⟩ = some (.int .i64 su) := (HK1.out.cell 4).trans rfl; clear hb1 own1 hr1 hmc)
    have HI := bx (rall_any A n c b si w1 HE.out hz HRA.out (by omega) (by omega))
    have HO : Bx (outA 8 (n : Int) si b = (inflP b si).bind fun x => if x.2 < b.length then .err 18 else .ok x.1) := bx (by rw [outA, if_pos rfl])
    obtain ⟨w00, hw00⟩ : ∃ w00, w1 = w00 := ⟨_, rfl⟩
    subst hw00
    go_wp2_with fail
    refine HI.out.mono ?_
    intro e w2 hp
    cases hi : inflP b si with
    | err k =>
      obtain ⟨rfl, hb2, hk0⟩ := allErr hp hi
      have HF : Bx (R = .err k) := bx (by rw [HU.out, HO.out, hi]; rfl)
      have HB2 := bx (HB1.out.trans (hb2.mono HB1.out.size))
      have HK := bx hk0
      have hkb : (k != 0) = true := by rw [bne_iff_ne]; exact hk0
      clear hp hi hb2 hk0
      go_wp2
      go_ret2
      exact unpPost_err HF.out HB2.out HK.out
    | ok x =>
      obtain ⟨o, used⟩ := x
      have hus := infl_used hi
      obtain ⟨A2, m, c2, rfl, hm, hr2, hmc, hb2, _, ho1, ho2⟩ := allOk hp hi
      have HB2 := bx (HB1.out.trans (hb2.mono HB1.out.size))
      have HK2 := bx (HK1.out.below hb2 HK1.out.lt)
      have hm32 : m ≤ 32768 := by rw [hm.out]; exact ho2
      have HR2 := bx hr2
      have HO2 := bx (OwL.low ho1 HB1.out.size)
      have HX : Bx (outA 8 (n : Int) si b = if used < b.length then .err 18 else .ok o) := bx (by rw [HO.out, hi]; rfl)
      rw [HE.out] at hus
      clear hp hi hb2 hr2 ho1 ho2 k1 k2 k3 HI HO
      by_cases h5 : used < n
      · have h5I : ((used : Int) != (n : Int)) = true := by rw [bne_iff_ne]; omega
        have HF : Bx (R = .err 18) := bx (by rw [HU.out, HX.out, if_pos (by rw [HE.out]; exact h5)]; rfl)
        clear h5
        go_wp2
        go_ret2
        exact unpPost_err HF.out HB2.out
      have h5I : ((used : Int) != (n : Int)) = false := by rw [show used = n by omega]; simp
      have HY : Bx (R = endA' si su o) := bx (by rw [HU.out, HX.out, if_neg (by rw [HE.out]; exact h5)]; rfl)
      clear h5
      have q3 : w2.cell? ⟨g, 3, none⟩ = some (.int .i64 si) := (HK2.out.cell 3).trans rfl
      have q4 : w2.cell? ⟨g, 4, none⟩ = some (.int .i64 su) := (HK2.out.cell 4).trans rfl
      by_cases h7 : (m : Int) ≠ si
      · have t7 : ((m : Int) != si) = true := by rw [bne_iff_ne]; exact h7
        have HF : Bx (R = .err 18) := bx (by rw [HY.out, endA', if_pos (by rw [← hm.out]; exact h7)])
        clear h7
        go_wp2
        go_ret2
        exact unpPost_err HF.out HB2.out
      have HZ : Bx (R = endA' si su o) := bx (HY.out)
      have t7 : ((m : Int) != si) = false := by rw [show (m : Int) = si by omega]; simp
      obtain ⟨sm, hsm⟩ : ∃ sm, crcA 0 o = sm := ⟨_, rfl⟩
      have HSM := bx hsm
      have hmz : m ≤ 1000000000 := by omega
      have HS := fun w hr => rsum_any A2 m c2 o w (hm.out.symm) (by omega) hr
      have HS' := bx HS
      clear hsm HS
      by_cases h9 : (sm : Int) ≠ su
      · have t9 : ((sm : Int) != su) = true := by rw [bne_iff_ne]; exact h9
        have HF : Bx (R = .err 19) := bx (by rw [HZ.out, endA', if_neg (by rw [← hm.out]; exact h7), if_pos (by rw [HSM.out]; exact h9)])
        clear h9 h7
        go_wp2_with fail
        go_quiet ((go_at_call 26; exact quiet_eq ((HS'.out _ (HR2.out.drewN _)).mono fun e w' h => ⟨by rw [h.1, HSM.out], h.2.symm⟩)))
        go_wp2
        go_ret2
        exact unpPost_err HF.out (below_drewN HB2.out _)
      have t9 : ((sm : Int) != su) = false := by rw [show (sm : Int) = su by omega]; simp
      have HF : Bx (R = .ok o) := bx (by rw [HZ.out, endA', if_neg (by rw [← hm.out]; exact h7), if_neg (by rw [HSM.out]; exact h9)])
      have hl32 : o.length ≤ 32768 := by rw [← hm.out]; omega
      clear h9 h7
      go_wp2_with fail
      go_quiet ((go_at_call 26; exact quiet_eq ((HS'.out _ (HR2.out.drewN _)).mono fun e w' h => ⟨by rw [h.1, HSM.out], h.2.symm⟩)))
      go_wp2
      go_ret2
      exact unpPost_ok HF.out (below_drewN HB2.out _) (HO2.out.drewN _) hl32
end Go.Proofs.YtokojichjliieaaDoor
namespace Go.Proofs.YtokojichjliieaaDoor
open Go.RowKit
set_option maxRecDepth 100000 in
set_option maxHeartbeats 8000000 in
theorem rfind_any (A0 : Option Addr) (n0 c0 : Nat) (l0 : List UInt8) (s : ByteArray) (w : World) (e0 : l0.length = n0) (b0 : n0 ≤ 140737488351232) (hc0 : n0 ≤ c0) (hm0 : (c0 : Int) ≤ 9223372036854775807) (r0 : RB w w.heap.size A0 l0) :
    Calls Tryd.prog 24 #[.slice A0 n0 c0, .string s] w (UnpPost (findP l0 s.data.toList) w) := by
  obtain ⟨R, hRR⟩ : ∃ R, findP l0 s.data.toList = R := ⟨_, rfl⟩
  rw [hRR]
  have HRR : Bx ((dirA l0).bind (findL l0 s.data.toList) = R) := bx hRR
  have HE := bx e0
  have HR0 := bx r0
  obtain ⟨X, hX⟩ : ∃ X, dirA l0 = X := ⟨_, rfl⟩
  have HD := bx (rdir_any A0 n0 c0 l0 w e0 b0 hc0 hm0 r0)
  rw [hX] at HD HRR
  clear e0 r0 hRR
  go_enter Tryd.func24, Tryd.ntmps24
  cases X with
  | err k =>
    have hk := dirA_pos hX
    have hkI : (k != 0) = true := by rw [bne_iff_ne]; omega
    have HF : Bx (R = .err k) := bx (HRR.out.symm)
    have HK : Bx (k ≠ 0) := bx (by omega)
    clear hX HRR
    go_wp2_with fail
    refine HD.out.mono ?_
    intro e w2 hp
    obtain ⟨rfl, hb2⟩ := dirpost_err hp rfl
    have HB2 := bx hb2
    clear hp hb2 hk
    go_wp2
    go_ret2
    exact unpPost_err HF.out HB2.out HK.out
  | ok L =>
  have HOK := bx (apOk hX)
  have h64 := (dirA_ok hX).1
  obtain ⟨nL, hnL⟩ : ∃ nL, L.length = nL := ⟨_, rfl⟩
  have hnl64 : nL ≤ 64 := by rw [← hnL]; exact HOK.out.len
  have HNL := bx hnL
  have hn64 : n0 ≤ 65536 := by rw [← HE.out]; exact h64
  have HRF : Bx (findL l0 s.data.toList (L.drop 0) = R) := bx HRR.out
  clear hX hnL HRR h64
  go_wp2_with fail
  refine HD.out.mono ?_
  intro e w2 hp
  obtain ⟨A2, c2, rfl, _, hr2, hc2, hb2⟩ := dirpost_ok hp rfl
  have HR2 := bx hr2
  have HB2 := bx hb2
  rw [HNL.out] at hc2
  clear hp hb2 hr2
  rw [HNL.out]
  obtain ⟨B2, hB2⟩ : ∃ B2, w2.heap.size = B2 := ⟨_, rfl⟩
  have HBB := bx hB2
  have hwB : w.heap.size ≤ B2 := by rw [← hB2]; exact HB2.out.size
  clear hB2
  go_wp2_with fail
  go_loopw [8] (fun iv wx => ∃ t : Nat, t ≤ nL ∧ iv = .int .i64 (t : Int) ∧ w2 = wx ∧ Bx (findL l0 s.data.toList (L.drop t) = R)) (fun i _ => nL - (intOf i).toNat)
  case atStart => exact ⟨0, by omega, rfl, rfl, HRF⟩
  case round =>
    clear HRF
    obtain ⟨t, ht, rfl, rfl, HT⟩ := hrel
    by_cases htn : t < nL
    · have htI : (t : Int) < (nL : Int) := by omega
      obtain ⟨ad, x, hA, had, hx, hc, hcs⟩ := HR2.out.at_ recCels (k := t) (by rw [HNL.out]; exact htn)
      subst hA
      have HX2 := bx (findL_at (b := l0) (nm := s.data.toList) hx.out)
      have HO := bx (HOK.out.one t _ hx.out)
      obtain ⟨⟨nm, me, pk, si, su, hd⟩, at2⟩ := x
      obtain ⟨o1, o2, o3, o4, o5⟩ := HO.out
      dsimp only at o1 o2 o3 o4 o5
      rw [HE.out] at o4
      obtain ⟨sn, hsn⟩ : ∃ s : ByteArray, (⟨nm.toArray⟩ : ByteArray) = s := ⟨_, rfl⟩
      have HSV : Bx (strV nm = .string sn) := bx (by unfold strV; rw [hsn])
      have HSL : Bx (sn.data.toList = nm) := bx (by rw [← hsn])
      have k0 := hc _ rfl
      have k1 := hcs 0 _ rfl
      have k2 := hcs 1 _ rfl
      have k3 := hcs 2 _ rfl
      have k4 := hcs 3 _ rfl
      have k5 := hcs 4 _ rfl
      have k6 := hcs 5 _ rfl
      rw [Nat.zero_add] at k1
      rw [HSV.out] at k0
      have htc : (t : Int) ≤ (c2 : Int) := by omega
      have HME := bx o2
      clear hc hcs hx hsn o1 o2 o5 HO
      by_cases hnm : nm = s.data.toList
      · have hst : (sn.toList == s.toList) = true := tl_same (by rw [HSL.out]; exact hnm)
        have HF : Bx (unpA me pk si su ((l0.drop at2).take pk) = R) := bx (by rw [← HT.out, HX2.out]; exact (if_pos hnm).symm)
        clear hnm HX2 HT
        go_upto_region 8 with (fail)
        have hS5 : w2.drew.cell? (ad.add (t * 7)) = some (.string sn) ∧ w2.drew.cell? ⟨(ad.add (t * 7)).block, (ad.add (t * 7)).off + 1, none⟩ = some (.int .i64 (me : Int)) ∧ w2.drew.cell? ⟨(ad.add (t * 7)).block, (ad.add (t * 7)).off + (1 + 1), none⟩ = some (.int .i64 (pk : Int)) ∧ w2.drew.cell? ⟨(ad.add (t * 7)).block, (ad.add (t * 7)).off + (2 + 1), none⟩ = some (.int .i64 (si : Int)) ∧ w2.drew.cell? ⟨(ad.add (t * 7)).block, (ad.add (t * 7)).off + (3 + 1), none⟩ = some (.int .i64 (su : Int)) ∧ w2.drew.cell? ⟨(ad.add (t * 7)).block, (ad.add (t * 7)).off + (4 + 1), none⟩ = some (.int .i64 (at2 : Int)) ∧ w2.drew.cell? ⟨(ad.add (t * 7)).block, (ad.add (t * 7)).off + (5 + 1), none⟩ = some (.int .i64 (hd : Int)) := ⟨k0, k1, k2, k3, k4, k5, k6⟩
        have HW5 : Bx (Below w.heap.size w w2.drew) := bx (below_drewN HB2.out 1)
        have HI4 : Bx (RB w2 w2.heap.size A0 l0) := bx ((HR0.out.below HB2.out (Nat.le_refl _)).more HB2.out.size)
        have HP : Bx (RB w2.drew w2.drew.heap.size (A0.map (·.add at2)) ((l0.drop at2).take pk)) := bx (((HI4.out.drewN 1).drop at2).take pk)
        have HPL : Bx (((l0.drop at2).take pk).length = pk) := bx (by rw [List.length_take, List.length_drop, HE.out]; omega)
        have u1 : IntKind.i64.wrap ((at2 : Int) + (pk : Int)) = (at2 : Int) + (pk : Int) := IntWalk.i64_in _ (by omega)
        have v1 : (0 : Int) ≤ (at2 : Int) := by omega
        have v2 : (at2 : Int) ≤ (at2 : Int) + (pk : Int) := by omega
        have v3 : (at2 : Int) + (pk : Int) ≤ (c0 : Int) := by omega
        have v4 : ((at2 : Int)).toNat = at2 := Int.toNat_natCast at2
        have v5 : ((at2 : Int) + (pk : Int)).toNat = at2 + pk := Int.toNat_natCast (at2 + pk)
        have v6 : ¬ c0 = at2 := by omega
        have HME1 : Bx (-9223372036854775808 ≤ (me : Int)) := bx (by omega)
        have HME2 : Bx ((me : Int) ≤ 9223372036854775807) := bx (by have := HME.out; omega)
        have HLT : Bx (ad.block < w2.heap.size) := bx had
        clear k0 k1 k2 k3 k4 k5 k6
        go_region_held3 (fun w' => w'.cell? (ad.add (t * 7)) = some (.string sn) ∧ w'.cell? ⟨(ad.add (t * 7)).block, (ad.add (t * 7)).off + 1, none⟩ = some (.int .i64 (me : Int)) ∧ w'.cell? ⟨(ad.add (t * 7)).block, (ad.add (t * 7)).off + (1 + 1), none⟩ = some (.int .i64 (pk : Int)) ∧ w'.cell? ⟨(ad.add (t * 7)).block, (ad.add (t * 7)).off + (2 + 1), none⟩ = some (.int .i64 (si : Int)) ∧ w'.cell? ⟨(ad.add (t * 7)).block, (ad.add (t * 7)).off + (3 + 1), none⟩ = some (.int .i64 (su : Int)) ∧ w'.cell? ⟨(ad.add (t * 7)).block, (ad.add (t * 7)).off + (4 + 1), none⟩ = some (.int .i64 (at2 : Int)) ∧ w'.cell? ⟨(ad.add (t * 7)).block, (ad.add (t * 7)).off + (5 + 1), none⟩ = some (.int .i64 (hd : Int))) (first | exact hS5 | exact hS6) ((go_at_call 22; refine (runp_any sn me pk si su at2 hd (A0.map (·.add at2)) pk (c0 - at2) ((l0.drop at2).take pk) w2.drew HPL.out (by omega) HP.out HME1.out HME2.out).mono ?_; intro e w6 hp6; obtain ⟨v6, k6, rfl⟩ := unp_form hp6; have hS6 : w6.cell? (ad.add (t * 7)) = some (.string sn) ∧ w6.cell? ⟨(ad.add (t * 7)).block, (ad.add (t * 7)).off + 1, none⟩ = some (.int .i64 (me : Int)) ∧ w6.cell? ⟨(ad.add (t * 7)).block, (ad.add (t * 7)).off + (1 + 1), none⟩ = some (.int .i64 (pk : Int)) ∧ w6.cell? ⟨(ad.add (t * 7)).block, (ad.add (t * 7)).off + (2 + 1), none⟩ = some (.int .i64 (si : Int)) ∧ w6.cell? ⟨(ad.add (t * 7)).block, (ad.add (t * 7)).off + (3 + 1), none⟩ = some (.int .i64 (su : Int)) ∧ w6.cell? ⟨(ad.add (t * 7)).block, (ad.add (t * 7)).off + (4 + 1), none⟩ = some (.int .i64 (at2 : Int)) ∧ w6.cell? ⟨(ad.add (t * 7)).block, (ad.add (t * 7)).off + (5 + 1), none⟩ = some (.int .i64 (hd : Int)) := ⟨(hp6.1.cell (by first | exact HLT.out | (rw [blk_add]; exact HLT.out))).trans hS5.1, (hp6.1.cell (by first | exact HLT.out | (rw [blk_add]; exact HLT.out))).trans hS5.2.1, (hp6.1.cell (by first | exact HLT.out | (rw [blk_add]; exact HLT.out))).trans hS5.2.2.1, (hp6.1.cell (by first | exact HLT.out | (rw [blk_add]; exact HLT.out))).trans hS5.2.2.2.1, (hp6.1.cell (by first | exact HLT.out | (rw [blk_add]; exact HLT.out))).trans hS5.2.2.2.2.1, (hp6.1.cell (by first | exact HLT.out | (rw [blk_add]; exact HLT.out))).trans hS5.2.2.2.2.2.1, (hp6.1.cell (by first | exact HLT.out | (rw [blk_add]; exact HLT.out))).trans hS5.2.2.2.2.2.2⟩))
        go_wp2
        go_ret2
        have hu := unp_low hp6 HW5.out
        rw [HF.out] at hu
        exact hu
      · have hst : (sn.toList == s.toList) = false := tl_diff (fun e => hnm (by rw [← HSL.out]; exact e))
        have HF : Bx (findL l0 s.data.toList (L.drop (t + 1)) = R) := bx (by rw [← HT.out, HX2.out]; exact (if_neg hnm).symm)
        clear hnm HX2 HT
        go_wp2
        go_roundw
        case rel => exact ⟨t + 1, by omega, by go_num, by first | rfl | trivial, HF⟩
        case measure => simp [intOf]; omega
    have htI : ¬ (t : Int) < (nL : Int) := by omega
    have HF : Bx (R = .err 21) := bx (by rw [← HT.out, List.drop_eq_nil_of_le (by have := HNL.out; omega), findL])
    go_wp2
    go_ret2
    exact unpPost_err HF.out HB2.out
end Go.Proofs.YtokojichjliieaaDoor
namespace Go.Proofs.YtokojichjliieaaDoor
open Go.RowKit
theorem inc_u8 (y : UInt8) : IntKind.u8.wrap ((y.toNat : Int) + 1) = ((y + 1).toNat : Int) := by
  rw [IntKind.wrap_u8, UInt8.toNat_add]
  have : (1 : UInt8).toNat = 1 := rfl
  rw [this]
  omega
theorem own_form {w : World} {base n c : Nat} {A : Option Addr} {e : TypeId} {l : List UInt8} (h : OwB w base e (.slice A n c) l) (hn : 0 < l.length) : ∃ g, A = some ⟨g, 0, none⟩ := by
  obtain ⟨g, cc, hv, _⟩ := World.ownsRow.form h hn
  injection hv with h1
  exact ⟨g, h1⟩
set_option maxRecDepth 100000 in
set_option maxHeartbeats 4000000 in
theorem entryHolds_walk (mx : Int) (w : World) (hm : w.cell? ⟨0, 0, none⟩ = some (.int .i64 mx)) (s : ByteArray) (me pk si su at_ hd : Int) (hm1 : -9223372036854775808 ≤ me) (hm2 : me ≤ 9223372036854775807) (_hs1 : -9223372036854775808 ≤ si) (_hs2 : si ≤ 9223372036854775807)
    (A1 : Option Addr) (n1 c1 : Nat) (l1 : List UInt8) (e1 : l1.length = n1) (_hc1 : n1 ≤ c1) (_hm1 : (c1 : Int) ≤ 9223372036854775807) (r1 : RB w w.heap.size A1 l1) (_b1 : n1 ≤ 140737488351232) :
    Calls Tryd.prog 9 #[.agg #[.string s, .int .i64 me, .int .i64 pk, .int .i64 si, .int .i64 su, .int .i64 at_, .int .i64 hd], .slice A1 n1 c1] w fun e w' => e = .returned (.bool true) ∧ Below w.heap.size w w' := by
  have HE := bx e1
  have hB0 : Bx (Below w.heap.size w (w.alloc (.cells #[.string s, .int .i64 me, .int .i64 pk, .int .i64 si, .int .i64 su, .int .i64 at_, .int .i64 hd] 33))) := bx (bl_alloc (Below.refl w.heap.size w) (Nat.le_refl _) _)
  obtain ⟨g, hg⟩ : ∃ g, w.heap.size = g := ⟨_, rfl⟩
  have HK0 := bx (Bk.newAt w 33 #[.string s, .int .i64 me, .int .i64 pk, .int .i64 si, .int .i64 su, .int .i64 at_, .int .i64 hd] hg)
  have HR := bx r1
  have HM0 := bx (cellB hB0.out hm)
  have HG := bx hg
  clear e1 r1 hm
  go_enter Tryd.func9, Tryd.ntmps9
  go_upto_region 1 with (fail)
  generalize w.alloc (.cells #[.string s, .int .i64 me, .int .i64 pk, .int .i64 si, .int .i64 su, .int .i64 at_, .int .i64 hd] 33) = w0 at HK0 hB0 HM0 ⊢
  go_wp2_with fail
  refine (fixed10_any mx w0 HM0.out).mono ?_
  rintro e w1 ⟨rfl, hb1⟩
  have HB1 := bx (hB0.out.trans (hb1.mono hB0.out.size))
  have HK1 := bx (HK0.out.below hb1 HK0.out.lt)
  clear hb1
  by_cases hz : 6000 < n1
  · have hzI : (6000 : Int) < (n1 : Int) := by omega
    go_wp2
    go_ret
    exact ⟨rfl, HB1.out⟩
  have hzI : ¬ (6000 : Int) < (n1 : Int) := by omega
  have HN : Bx ((([] : List UInt8).length + l1.length) * 1 ≤ 140737488355328) := bx (by have := HE.out; simp; omega)
  have HI1 := bx ((HR.out.below HB1.out (Nat.le_refl _)).more HB1.out.size)
  go_upto_region 6 with (at_builtin; refine wpList_appL _ bV_one rfl (.tmp 15) (.tmp 16) rfl byteTy (by decide) w1.heap.size _ [] rfl (OwL.lit0 w1 (Nat.le_refl _)) _ A1 n1 c1 l1 rfl HE.out (HI1.out.alloc (Nat.le_refl _) _) HN.out (le_alloc0 (Nat.le_refl _) _) ?_; intro v2 w2 own2 _ _ hb2; rw [List.nil_append] at own2; have HB2' := bx ((bl_alloc (Below.refl w1.heap.size w1) (Nat.le_refl _) (.cells #[] 5)).trans hb2); obtain ⟨A2, c2, rfl, hr2, hc2, hc2'⟩ := own2.rd; rw [HE.out]; rw [HE.out] at hc2; have HR2 := bx hr2; have HB2 := bx (HB1.out.trans (HB2'.out.mono HB1.out.size)); have HK2 := bx (HK1.out.below HB2'.out HK1.out.lt); clear hb2 own2 hr2; have q0 : w2.cell? ⟨g, 0, none⟩ = some (.string s) := (HK2.out.cell 0).trans rfl; have q1 : w2.cell? ⟨g, 1, none⟩ = some (.int .i64 me) := (HK2.out.cell 1).trans rfl; have q2 : w2.cell? ⟨g, 2, none⟩ = some (.int .i64 pk) := (HK2.out.cell 2).trans rfl; have q3 : w2.cell? ⟨g, 3, none⟩ = some (.int .i64 si) := (HK2.out.cell 3).trans rfl; have q4 : w2.cell? ⟨g, 4, none⟩ = some (.int .i64 su) := (HK2.out.cell 4).trans rfl; have q5 : w2.cell? ⟨g, 5, none⟩ = some (.int .i64 at_) := (HK2.out.cell 5).trans rfl; have q6 : w2.cell? ⟨g, 6, none⟩ = some (.int .i64 hd) := (HK2.out.cell 6).trans rfl)
  go_wp2_with fail
  obtain ⟨B2, hB2⟩ : ∃ B2, w2.heap.size = B2 := ⟨_, rfl⟩
  have HBB := bx hB2
  clear hB2
  have hk := unp_any s me pk si su at_ hd A2 n1 c2 l1 w2 HE.out (by omega) HR2.out hm1 hm2
  refine hk.mono ?_
  clear hk q0 q1 q2 q3 q4 q5 q6
  intro e w3 hp
  obtain ⟨X, hX⟩ : ∃ X, unpA me pk si su l1 = X := ⟨_, rfl⟩
  rw [hX] at hp
  cases X with
  | err k =>
    obtain ⟨rfl, hb3, hk0⟩ := unpErr hp rfl
    have HB3 := bx (HB2.out.trans (hb3.mono HB2.out.size))
    have hkb : (k != 0) = true := by rw [bne_iff_ne]; exact hk0
    clear hp hb3 hk0 hX
    go_wp2
    go_ret
    exact ⟨rfl, HB3.out⟩
  | ok o =>
  obtain ⟨A3, n3, c3, rfl, hn3, hr3, hc3, hc3', hb3, hO3, h33⟩ := unpOk hp rfl
  obtain ⟨x1, x2, x3, x4, x5⟩ := unpA_ok hX
  have hsi : (n3 : Int) = si := by rw [hn3.out]; exact x3
  have HSI := bx hsi
  have HSU := bx x5
  have HR3 := bx hr3
  have HB3 := bx (HB2.out.trans (hb3.mono HB2.out.size))
  have HK3 := bx (HK2.out.below hb3 HK2.out.lt)
  have HC3 : Bx (Below B2 w2 w3) := bx (HBB.out ▸ hb3)
  have HO3 : Bx (OwB w3 B2 5 (.slice A3 n3 c3) o) := bx (HBB.out ▸ hO3)
  clear hp hb3 hX x1 x2 x3 x4 x5 hr3 hO3
  obtain ⟨sm, hsm⟩ : ∃ sm, crcA 0 o = sm := ⟨_, rfl⟩
  have HSM := bx hsm
  rw [hsm] at HSU
  clear hsm hsi
  go_wp2_with fail
  have hk := of_any w3.heap.size 1 A3 n3 c3 o (w3.alloc (.cells #[.slice A3 n3 c3] 22)) hn3.out.symm (by omega) ((HR3.out.alloc (Nat.le_refl _) _).more (by simp)) (((Bk.new w3 _ _).cell 0).trans rfl)
  refine hk.mono ?_
  clear hk
  rintro e w4 ⟨rfl, hb4⟩
  rw [HSM.out]
  have hA4 : Below w3.heap.size w3 w4 := (bl_alloc (Below.refl w3.heap.size w3) (Nat.le_refl _) _).trans (hb4.mono (by simp))
  have HC4 : Bx (Below B2 w2 w4) := bx (HC3.out.trans (hA4.mono (by rw [← HBB.out]; exact HC3.out.size)))
  have HO4 : Bx (OwB w4 B2 5 (.slice A3 n3 c3) o) := bx (HO3.out.below hA4)
  have HLO : Bx (o.length = n3) := bx hn3.out.symm
  clear hb4 hA4 HC3 HO3 HR3
  go_wp2_with fail
  go_loopw [9, 34] (fun _ iv wx => ∃ (t : Nat) (lx : List UInt8), t ≤ n3 ∧ iv = .int .i64 (t : Int) ∧ Bx (lx.length = n3) ∧ Bx (OwB wx B2 5 (.slice A3 n3 c3) lx) ∧ Bx (Below B2 w2 wx)) (fun _ i _ => n3 - (intOf i).toNat)
  case atStart => exact ⟨0, o, by omega, rfl, HLO, HO4, HC4⟩
  case round =>
    obtain ⟨t, lx, ht, rfl, HLX, HOX, HCX⟩ := hrel
    by_cases htn : t < n3
    · have htI : (t : Int) < (n3 : Int) := by omega
      obtain ⟨g3, rfl⟩ := own_form HOX.out (by rw [HLX.out]; omega)
      obtain ⟨y, hy⟩ : ∃ y, lx[t]? = some y := ⟨_, List.getElem?_eq_getElem (by rw [HLX.out]; exact htn)⟩
      have hcell : wr.cell? ⟨g3, t, none⟩ = some (.int .u8 (y.toNat : Int)) := OwL.cell HOX.out hy
      have hfr := OwL.frz HOX.out t
      have hgb := OwL.blk HOX.out
      have hset := HOX.out.set t (y + 1)
      have HO5 : Bx (OwB (wr.setCell ⟨g3, t, none⟩ (.int .u8 ((y + 1).toNat : Int))) B2 5 (.slice (some ⟨g3, 0, none⟩) n3 c3) (lx.set t (y + 1))) := bx hset
      have HC5 : Bx (Below B2 w2 (wr.setCell ⟨g3, t, none⟩ (.int .u8 ((y + 1).toNat : Int)))) := bx (HCX.out.setCell (p := ⟨g3, t, none⟩) hgb.1 _)
      have HL5 : Bx ((lx.set t (y + 1)).length = n3) := bx (by rw [List.length_set]; exact HLX.out)
      have hinc := inc_u8 y
      have HINC := bx hinc
      clear hset hgb hy HOX HCX HLX
      go_wp2
      go_roundw
      case rel => exact ⟨t + 1, _, by omega, by go_num, HL5, HO5, HC5⟩
      case measure => simp [intOf]; omega
    have htI : ¬ (t : Int) < (n3 : Int) := by omega
    have HWr := bx (HB2.out.trans (HCX.out.mono (by rw [← HBB.out]; exact HB2.out.size)))
    have HKr := bx (HK2.out.below HCX.out (by rw [← HBB.out]; exact HK2.out.lt))
    have q3 : wr.cell? ⟨g, 3, none⟩ = some (.int .i64 si) := (HKr.out.cell 3).trans rfl
    have q4 : wr.cell? ⟨g, 4, none⟩ = some (.int .i64 su) := (HKr.out.cell 4).trans rfl
    have HR2r : Bx (RB wr wr.heap.size A2 l1) := bx ((HR2.out.below (HBB.out ▸ HCX.out) (Nat.le_refl _)).more (by rw [HBB.out]; have := HCX.out.size; rw [HBB.out] at this; exact this))
    have HI := bx ((HR.out.below HWr.out (Nat.le_refl _)).more HWr.out.size)
    have t1 : ((n3 : Int) == si) = true := by rw [HSI.out]; simp
    have t2 : ((sm : Int) == su) = true := by rw [HSU.out]; simp
    have t3 : (n3 : Int) ≤ 32768 := by omega
    go_wp2_with fail
    refine (same_any A2 A1 n1 c2 n1 c1 wr l1 l1 HE.out HE.out (by omega) (by omega) HR2r.out HI.out).mono ?_
    rintro e w6 ⟨rfl, hb6⟩
    rw [show decide (l1 = l1) = true by simp]
    have HB6 := bx (HWr.out.trans (hb6.mono HWr.out.size))
    clear hb6
    go_wp2
    go_ret
    exact ⟨rfl, HB6.out⟩
end Go.Proofs.YtokojichjliieaaDoor
namespace Go.Proofs.YtokojichjliieaaDoor
theorem burst_same {l c : List UInt8} {at_ : Nat} (hlen : c.length = l.length) (hp : ∀ k, k < at_ ∨ at_ + 4 ≤ k → c[k]? = l[k]?) (h : crcA 0 c = crcA 0 l) : c = l := by
  have hf : ∀ l : List UInt8, crcF 4294967295 l < 4294967296 := fun l => crcF_lt l _ (by omega)
  have hc : crcF 4294967295 c = crcF 4294967295 l := by
    have h1 : 4294967295 - crcF 4294967295 c = 4294967295 - crcF 4294967295 l := h
    have := hf l
    have := hf c
    omega
  have hz := crc_dif (c.zip l) 4294967295 4294967295
  rw [List.map_fst_zip (by omega), List.map_snd_zip (by omega), hc, Nat.xor_self, Nat.xor_self] at hz
  have hsame : ∀ (i : Nat) (x : UInt8 × UInt8), (c.zip l)[i]? = some x → c[i]? = l[i]? → x.1 = x.2 := by
    intro i x hx he
    obtain ⟨h1, h2⟩ := List.getElem?_zip_eq_some.1 hx
    rw [h1, h2] at he
    injection he
  have hsplit : c.zip l = (c.zip l).take at_ ++ (((c.zip l).drop at_).take 4 ++ (c.zip l).drop (at_ + 4)) := by
    rw [show (c.zip l).drop (at_ + 4) = ((c.zip l).drop at_).drop 4 by rw [List.drop_drop], List.take_append_drop, List.take_append_drop]
  have hall : ∀ x ∈ ((c.zip l).drop at_).take 4, x.1 = x.2 := by
    refine dif_burst lin_eight (p := (c.zip l).take at_) (q := (c.zip l).drop (at_ + 4)) ?_ ?_ (by simp; omega) ?_
    · intro x hx
      obtain ⟨i, hi⟩ := List.getElem?_of_mem hx
      rw [List.getElem?_take] at hi
      split at hi
      · rename_i hlt; exact hsame i x hi (hp i (.inl hlt))
      · cases hi
    · intro x hx
      obtain ⟨i, hi⟩ := List.getElem?_of_mem hx
      rw [List.getElem?_drop] at hi
      exact hsame _ x hi (hp _ (.inr (by omega)))
    · rw [← hsplit]; exact hz.symm
  apply List.ext_getElem?
  intro i
  by_cases hi : i < at_ ∨ at_ + 4 ≤ i
  · exact hp i hi
  · rcases Nat.lt_or_ge i l.length with hl | hl
    · have hzi : (c.zip l)[i]? = some (c[i]'(by omega), l[i]) := List.getElem?_zip_eq_some.2 ⟨List.getElem?_eq_getElem _, List.getElem?_eq_getElem _⟩
      have hm : (c[i]'(by omega), l[i]) ∈ ((c.zip l).drop at_).take 4 := by
        refine List.mem_of_getElem? (i := i - at_) ?_
        rw [List.getElem?_take, if_pos (by omega), List.getElem?_drop, show at_ + (i - at_) = i by omega, hzi]
      have := hall _ hm
      rw [List.getElem?_eq_getElem (by omega), List.getElem?_eq_getElem hl]
      congr 1
    · rw [List.getElem?_eq_none (by omega), List.getElem?_eq_none hl]
theorem localA_keep {b c : List UInt8} {s t dir a : Nat} {x : Rec × Nat} (h : ∀ i, i < s ∨ t ≤ i → b[i]? = c[i]?) (ha : localA b dir x = some a) (hw : a ≤ s ∨ t ≤ x.1.head) (hp : t ≤ x.2) : localA c dir x = some a := by
  have hd : x.1.head + 30 + x.1.name.length ≤ a := by
    unfold localA at ha
    split at ha
    · cases ha
    · split at ha
      · cases ha
      · injection ha with ha; omega
  have hr : ∀ i, x.1.head ≤ i → i < x.1.head + 30 + x.1.name.length → b[i]? = c[i]? := fun i h1 h2 => h i (by omega)
  have h1 : signA b x.1.head 3 4 = signA c x.1.head 3 4 := signA_eq fun i h1 _ => hr i (by omega) (by omega)
  have h2 : (b.drop (x.1.head + 4)).take 24 = (c.drop (x.1.head + 4)).take 24 := piece_eq fun i h1 _ => hr i (by omega) (by omega)
  have h3 : (b.drop (x.2 + 6)).take 24 = (c.drop (x.2 + 6)).take 24 := piece_eq fun i h1 _ => h i (by omega)
  have h4 : numA b (x.1.head + 28) 2 = numA c (x.1.head + 28) 2 := getD_numA fun i h1 _ => hr i (by omega) (by omega)
  have h5 : (b.drop (x.1.head + 30)).take x.1.name.length = (c.drop (x.1.head + 30)).take x.1.name.length := piece_eq fun i h1 _ => hr i (by omega) (by omega)
  unfold localA at ha ⊢
  rw [← h1, ← h2, ← h3, ← h4, ← h5]
  exact ha
theorem localsA_keep {b c : List UInt8} {s t dir : Nat} (h : ∀ i, i < s ∨ t ≤ i → b[i]? = c[i]?) : ∀ (l r : List (Rec × Nat)), localsA b dir l = some r → (∀ y ∈ r, y.2 ≤ s ∨ t ≤ y.1.head) → (∀ y ∈ l, t ≤ y.2) → localsA c dir l = some r := by
  intro l
  induction l with
  | nil => intro r hr _ _; exact hr
  | cons x l ih =>
    intro r hr hw hp
    rw [localsA] at hr
    cases ha : localA b dir x with
    | none => rw [ha] at hr; cases hr
    | some a =>
      cases hl : localsA b dir l with
      | none => rw [ha, hl] at hr; cases hr
      | some q =>
        rw [ha, hl] at hr
        injection hr with hr
        subst hr
        rw [localsA, localA_keep h ha (hw _ List.mem_cons_self) (hp _ List.mem_cons_self), ih q hl (fun y hy => hw y (List.mem_cons_of_mem _ hy)) (fun y hy => hp y (List.mem_cons_of_mem _ hy))]
/-- A byte within one entry's packed bytes that is another one. -/
theorem dirA_apart {b c : List UInt8} {K : Nat} {z : Rec × Nat} (hlen : b.length = c.length) {l : List (Rec × Nat)} (hb : dirA b = .ok l) (hz : l[K]? = some z) (h : ∀ i, i < z.2 ∨ z.2 + z.1.packed ≤ i → b[i]? = c[i]?) :
    dirA c = .err 9 ∨ dirA c = .ok l := by
  obtain ⟨h64, p, dir, D⟩ := dirA_ok hb
  have hgz := D.good z (List.mem_of_getElem? hz)
  obtain ⟨n1, n2, n3, n4, n5⟩ := D.nums
  obtain ⟨e1, e2, e3⟩ := endP_some D.fin
  have hk : ∀ i, z.2 + z.1.packed ≤ i → b[i]? = c[i]? := fun i hi => h i (.inr hi)
  cases hq : endP c with
  | none => left; unfold dirA; rw [if_neg (by omega), hq]
  | some q =>
    right
    obtain ⟨f1, f2, f3⟩ := endP_some hq
    have hqp : p = q := f3 p (by omega) (by rw [← endA_eq hlen hk (by omega)]; exact e2)
    subst hqp
    have nm : ∀ j m, numA c (p + j) m = numA b (p + j) m := fun j m => (getD_numA fun i h1 _ => hk i (by omega)).symm
    have key : bookA c dir p l.length = bookA b dir p l.length := by
      have hbk := D.book
      unfold bookA at hbk ⊢
      rw [← centA_eq (b := b) (c := c) (border := p) hk l.length dir [] (by omega)]
      cases hc : centA b p l.length dir [] with
      | err e => rfl
      | ok x =>
        obtain ⟨t, qq⟩ := x
        rw [hc] at hbk
        show (if qq ≠ p then Rz.err 11 else _) = (if qq ≠ p then Rz.err 11 else _)
        have hbk : (if qq ≠ p then Rz.err 11 else match localsA b dir t with
          | none => .err 15
          | some l => if anyOver l = true then .err 16 else .ok l) = .ok l := hbk
        have hloc : localsA c dir t = localsA b dir t := by
          obtain ⟨c1, _, _, _⟩ := centA_ok (p0 := dir) l.length dir [] t qq (Nat.le_refl _) ⟨by simp, by simp⟩ hc
          split at hbk
          · cases hbk
          · cases hl : localsA b dir t with
            | none => rw [hl] at hbk; cases hbk
            | some r =>
              rw [hl] at hbk
              have hbk : (if anyOver r = true then Rz.err 16 else .ok r) = .ok l := hbk
              split at hbk
              · cases hbk
              · injection hbk with hbk
                subst hbk
                refine localsA_keep h t r hl (fun y hy => ?_) (fun y hy => by have := (c1.good y hy).2.2.1; omega)
                obtain ⟨j, hj⟩ := List.getElem?_of_mem hy
                have hgy := D.good y hy
                by_cases hjK : j = K
                · subst hjK
                  rw [hj] at hz
                  injection hz with hz
                  subst hz
                  left; omega
                · have hpw := (anyOver_iff r).1 D.apart
                  rw [List.pairwise_iff_getElem] at hpw
                  obtain ⟨hj1, ej⟩ := List.getElem?_eq_some_iff.1 hj
                  obtain ⟨hk1, ek⟩ := List.getElem?_eq_some_iff.1 hz
                  rcases Nat.lt_or_gt_of_ne hjK with hlt | hgt
                  · have := hpw j K hj1 hk1 hlt
                    rw [ej, ek] at this
                    unfold overA at this
                    have := of_decide_eq_false this
                    omega
                  · have := hpw K j hk1 hj1 hgt
                    rw [ej, ek] at this
                    unfold overA at this
                    have := of_decide_eq_false this
                    omega
        rw [hloc]
    unfold dirA
    rw [if_neg (by omega), hq]
    show (if _ then _ else bookA c (numA c (p + 16) 4) p (numA c (p + 8) 2)) = _
    have hl64 := D.len
    rw [nm, nm, nm, nm, nm, if_neg (by omega), n4, n3, key]
    exact D.book
theorem findL_eq {b c nm : List UInt8} : ∀ {L : List (Rec × Nat)}, (∀ x ∈ L, x.1.name = nm → (b.drop x.2).take x.1.packed = (c.drop x.2).take x.1.packed) → findL b nm L = findL c nm L := by
  intro L
  induction L with
  | nil => intro _; rfl
  | cons x L ih =>
    intro h
    rw [findL, findL, ih (fun y hy => h y (List.mem_cons_of_mem _ hy))]
    by_cases e : x.1.name = nm
    · rw [h x List.mem_cons_self e]
    · rw [if_neg e, if_neg e]
theorem find_apart {b c : List UInt8} {K i : Nat} {z y : Rec × Nat} {l : List (Rec × Nat)} (hb : dirA b = .ok l) (hc : dirA c = .ok l) (hz : l[K]? = some z) (hy : l[i]? = some y) (hik : i ≠ K) (h : ∀ i, i < z.2 ∨ z.2 + z.1.packed ≤ i → b[i]? = c[i]?) :
    findP b y.1.name = findP c y.1.name := by
  have ok := apOk hb
  unfold findP
  rw [hb, hc]
  show findL b _ l = findL c _ l
  refine findL_eq fun x hx hn => ?_
  obtain ⟨j, hj⟩ := List.getElem?_of_mem hx
  have hji : j = i := by
    rcases Nat.lt_trichotomy j i with h1 | h1 | h1
    · exact absurd hn ((ok.two j i _ _ h1 hj hy).1)
    · exact h1
    · exact absurd hn.symm ((ok.two i j _ _ h1 hy hj).1)
  subst hji
  rw [hj] at hy
  injection hy with hy
  subst hy
  have hx1 := ok.one j _ hj
  have hz1 := ok.one K _ hz
  have hov : ¬ (x.1.head < z.2 + z.1.packed ∧ z.1.head < x.2 + x.1.packed) := by
    rcases Nat.lt_or_gt_of_ne hik with h1 | h1
    · have := (ok.two j K _ _ h1 hj hz).2
      unfold overA at this
      exact of_decide_eq_false this
    · have := (ok.two K j _ _ h1 hz hj).2
      unfold overA at this
      have := of_decide_eq_false this
      omega
  exact piece_eq fun i h1 h2 => h i (by omega)
end Go.Proofs.YtokojichjliieaaDoor
