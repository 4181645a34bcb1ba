/- Contracts: entry.Unpack. What Unpack and Find answered, taken apart. -/
import Derived.Test.YtlmcpkomjofcgaaDoorPp3
import Derived.Test.YtlmcpkomjofcgaaDoorPp6
import Derived.Test.YtlmcpkomjofcgaaDoorPp10
import Derived.Laws.BitsLemmas
namespace Go.Proofs.YtlmcpkomjofcgaaDoor
open Go.RowKit
theorem and_not8 (X : BitVec 64) : X &&& ~~~(8 : BitVec 64) = 0 ↔ X = 0 ∨ X = 8 := by
  have h8 : ∀ i, i < 64 → i ≠ 3 → (8 : BitVec 64).getLsbD i = false := by decide
  constructor
  · intro h
    have hb : ∀ i, i < 64 → i ≠ 3 → X.getLsbD i = false := by
      intro i hi h3
      have h1 := congrArg (fun Y : BitVec 64 => Y.getLsbD i) h
      simp only [BitVec.getLsbD_and, BitVec.getLsbD_not, h8 i hi h3] at h1
      simpa [hi] using h1
    by_cases h3 : X.getLsbD 3 = true
    · right
      apply BitVec.eq_of_getLsbD_eq
      intro i hi
      by_cases e : i = 3
      · subst e; rw [h3]; rfl
      · rw [hb i hi e, h8 i hi e]
    · left
      apply BitVec.eq_of_getLsbD_eq
      intro i hi
      by_cases e : i = 3
      · subst e; simpa using h3
      · rw [hb i hi e]; simp
  · rintro (h | h) <;> subst h <;> decide
theorem andNot8 (x : Int) (h1 : -9223372036854775808 ≤ x) (h2 : x ≤ 9223372036854775807) : bits .andNot .i64 x 8 = 0 ↔ x = 0 ∨ x = 8 := by
  have hd : bits .andNot .i64 x 8 = IntKind.i64.wrap ((BitVec.ofInt 64 x &&& ~~~BitVec.ofInt 64 8).toNat : Int) := rfl
  have h8 : BitVec.ofInt 64 8 = (8 : BitVec 64) := rfl
  have hX : (BitVec.ofInt 64 x &&& ~~~(8 : BitVec 64)).toNat < 18446744073709551616 := BitVec.isLt _
  rw [hd, h8]
  have hs : (BitVec.ofInt 64 x).toInt = x := by
    rw [BitVec.toInt_ofInt, Int.bmod_def, show ((2 ^ 64 : Nat) : Int) = 18446744073709551616 from rfl]
    split <;> omega
  constructor
  · intro h
    have h0 : BitVec.ofInt 64 x &&& ~~~(8 : BitVec 64) = 0 := by
      apply BitVec.eq_of_toNat_eq
      rw [IntKind.wrap_i64] at h
      show _ = 0
      omega
    rcases (and_not8 _).1 h0 with e | e
    · left; rw [e] at hs; rw [← hs]; rfl
    · right; rw [e] at hs; rw [← hs]; rfl
  · rintro (h | h) <;> subst h <;> decide
theorem unpA_ok {me pk si su : Int} {b o : List UInt8} (h : unpA me pk si su b = .ok o) : (b.length : Int) = pk ∧ (me = 0 ∨ me = 8) ∧ (o.length : Int) = si ∧ si ≤ 32768 ∧ (crcA 0 o : Int) = su := by
  unfold unpA at h
  split at h
  · cases h
  rename_i h1
  split at h
  · cases h
  rename_i h2
  cases ho : outA me pk si b with
  | err k => rw [ho] at h; cases h
  | ok z =>
    rw [ho] at h
    have h : endA' si su z = .ok o := h
    unfold endA' at h
    split at h
    · cases h
    split at h
    · cases h
    injection h with h
    subst h
    rename_i h3 h4
    exact ⟨by omega, by omega, by omega, by omega, by omega⟩
def UnpPost (R : Rz (List UInt8)) (w : World) (e : Ending) (w' : World) : Prop :=
  Below w.heap.size w w' ∧ match R with
    | .ok o => ∃ v, e = .returned (.tuple #[v, .int .i64 0]) ∧ OwB w' w.heap.size 5 v o ∧ o.length ≤ 32768
    | .err k => e = .returned (.tuple #[.slice none 0 0, .int .i64 k]) ∧ k ≠ 0
theorem unpPost_err {R : Rz (List UInt8)} {w w' : World} {k : Int} (h : R = .err k) (hb : Below w.heap.size w w') (hk : k ≠ 0 := by decide) : UnpPost R w (.returned (.tuple #[.slice none 0 0, .int .i64 k])) w' := by
  subst h; exact ⟨hb, rfl, hk⟩
theorem unpPost_ok {R : Rz (List UInt8)} {w w' : World} {v : Value} {l : List UInt8} (h : R = .ok l) (hb : Below w.heap.size w w') (ho : OwB w' w.heap.size 5 v l) (hl : l.length ≤ 32768) : UnpPost R w (.returned (.tuple #[v, .int .i64 0])) w' := by
  subst h; exact ⟨hb, v, rfl, ho, hl⟩
set_option maxRecDepth 100000 in
set_option maxHeartbeats 4000000 in
theorem unp_any (s : ByteArray) (me pk si su at_ hd : Int) (A : Option Addr) (n c : Nat) (b : List UInt8) (w : World) (hn : b.length = n) (hz : n ≤ 1000000000) (hr : RB w w.heap.size A b)
    (hme1 : -9223372036854775808 ≤ me) (hme2 : me ≤ 9223372036854775807) :
    Calls Tryd.prog 23 #[.agg #[.string s, .int .i64 me, .int .i64 pk, .int .i64 si, .int .i64 su, .int .i64 at_, .int .i64 hd], .slice A n c] w (UnpPost (unpA me pk si su b) w) := by
  obtain ⟨R, hRR⟩ : ∃ R, unpA me pk si su b = R := ⟨_, rfl⟩
  rw [hRR]
  have HE := bx hn
  have HRR := bx hRR
  have hB0 : Bx (Below w.heap.size w (w.alloc (.cells #[.string s, .int .i64 me, .int .i64 pk, .int .i64 si, .int .i64 su, .int .i64 at_, .int .i64 hd] 59))) := bx (bl_alloc (Below.refl w.heap.size w) (Nat.le_refl _) _)
  obtain ⟨g, hg⟩ : ∃ g, w.heap.size = g := ⟨_, rfl⟩
  have hK0 : Bk (w.alloc (.cells #[.string s, .int .i64 me, .int .i64 pk, .int .i64 si, .int .i64 su, .int .i64 at_, .int .i64 hd] 59)) g 59 #[.string s, .int .i64 me, .int .i64 pk, .int .i64 si, .int .i64 su, .int .i64 at_, .int .i64 hd] := Bk.newAt w _ _ hg
  have hR0 : RB (w.alloc (.cells #[.string s, .int .i64 me, .int .i64 pk, .int .i64 si, .int .i64 su, .int .i64 at_, .int .i64 hd] 59)) (w.alloc (.cells #[.string s, .int .i64 me, .int .i64 pk, .int .i64 si, .int .i64 su, .int .i64 at_, .int .i64 hd] 59)).heap.size A b := (hr.alloc (Nat.le_refl _) _).more (by simp)
  have HK0 := bx hK0
  have HR0 := bx hR0
  have HG := bx hg
  clear hn hRR hr hK0 hR0
  go_enter Tryd.func23, Tryd.ntmps23
  go_upto_region 1 with (fail)
  generalize w.alloc (.cells #[.string s, .int .i64 me, .int .i64 pk, .int .i64 si, .int .i64 su, .int .i64 at_, .int .i64 hd] 59) = w0 at HK0 HR0 hB0 ⊢
  have k1 : w0.cell? ⟨g, 1, none⟩ = some (.int .i64 me) := (HK0.out.cell 1).trans rfl
  have k2 : w0.cell? ⟨g, 2, none⟩ = some (.int .i64 pk) := (HK0.out.cell 2).trans rfl
  have k3 : w0.cell? ⟨g, 3, none⟩ = some (.int .i64 si) := (HK0.out.cell 3).trans rfl
  by_cases h1 : (n : Int) ≠ pk
  · have t1 : ((n : Int) != pk) = true := by rw [bne_iff_ne]; exact h1
    have HF : Bx (R = .err 1) := bx (by rw [← HRR.out, unpA, if_pos (.inl (by rw [HE.out]; exact h1))])
    clear h1
    go_wp2
    go_ret2
    exact unpPost_err HF.out hB0.out
  obtain rfl : pk = (n : Int) := by omega
  clear h1
  have t1 : ((n : Int) != (n : Int)) = false := by simp
  by_cases h2 : me ≠ 0 ∧ me ≠ 8
  · have t2 : (bits .andNot .i64 me 8 != 0) = true := by rw [bne_iff_ne]; intro e; have := (andNot8 me hme1 hme2).1 e; omega
    have HF : Bx (R = .err 1) := bx (by rw [← HRR.out, unpA, if_pos (.inr (.inl h2))])
    clear h2
    go_wp2
    go_ret2
    exact unpPost_err HF.out hB0.out
  have t2 : (bits .andNot .i64 me 8 != 0) = false := by rw [(andNot8 me hme1 hme2).2 (by omega)]; rfl
  by_cases h3 : si < 0
  · have HF : Bx (R = .err 1) := bx (by rw [← HRR.out, unpA, if_pos (.inr (.inr h3))])
    clear h2
    go_wp2
    go_ret2
    exact unpPost_err HF.out hB0.out
  by_cases h4 : 32768 < si
  · have HF : Bx (R = .err 17) := bx (by rw [← HRR.out, unpA, if_neg (by rw [HE.out]; omega), if_pos h4])
    clear h2
    go_wp2
    go_ret2
    exact unpPost_err HF.out hB0.out
  have HU : Bx (R = (outA me (n : Int) si b).bind (endA' si su)) := bx (by rw [← HRR.out, unpA, if_neg (by rw [HE.out]; omega), if_neg h4])
  by_cases h8 : me = 8
  · have t8 : (me == 8) = true := by rw [h8]; rfl
    have HO : Bx (outA me (n : Int) si b = (inflP b si).bind fun x => if x.2 < b.length then .err 18 else .ok x.1) := bx (by rw [outA, if_pos h8])
    clear h2 h8
    have HI := bx (iall_any A n c b si w0 HE.out hz HR0.out (by omega) (by omega))
    go_wp2_with fail
    refine HI.out.mono ?_
    intro e w1 hp
    cases hi : inflP b si with
    | err k =>
      obtain ⟨rfl, hb1, hk0⟩ := allErr hp hi
      have HF : Bx (R = .err k) := bx (by rw [HU.out, HO.out, hi]; rfl)
      have HB1 := bx (hB0.out.trans (hb1.mono hB0.out.size))
      have HK := bx hk0
      have hkb : (k != 0) = true := by rw [bne_iff_ne]; exact hk0
      clear hp hi hb1 hk0
      go_wp2
      go_ret2
      exact unpPost_err HF.out HB1.out HK.out
    | ok x =>
      obtain ⟨o, used⟩ := x
      obtain ⟨A1, m, c1, rfl, hm, hr1, hmc, hb1, _, ho1, ho2⟩ := allOk hp hi
      have HB1 := bx (hB0.out.trans (hb1.mono hB0.out.size))
      have HK1 := bx (HK0.out.below hb1 HK0.out.lt)
      have hm32 : m ≤ 32768 := by rw [hm.out]; exact ho2
      have HR1 := bx hr1
      have HO1 := bx ho1
      have HX : Bx (outA me (n : Int) si b = if used < b.length then .err 18 else .ok o) := bx (by rw [HO.out, hi]; rfl)
      clear hp hi hb1 hr1 ho1 ho2 k1 k2 k3
      by_cases h5 : used < n
      · have h5I : (used : Int) < (n : Int) := by omega
        have HF : Bx (R = .err 18) := bx (by rw [HU.out, HX.out, if_pos (by rw [HE.out]; exact h5)]; rfl)
        clear h5
        go_wp2
        go_ret2
        exact unpPost_err HF.out HB1.out
      have h5I : ¬ (used : Int) < (n : Int) := by omega
      have HZ : Bx (R = endA' si su o) := bx (by rw [HU.out, HX.out, if_neg (by rw [HE.out]; exact h5)]; rfl)
      have q3 : w1.cell? ⟨g, 3, none⟩ = some (.int .i64 si) := (HK1.out.cell 3).trans rfl
      have q4 : w1.cell? ⟨g, 4, none⟩ = some (.int .i64 su) := (HK1.out.cell 4).trans rfl
      have hOL : OwB w1 w.heap.size 5 (.slice A1 m c1) o := OwL.low HO1.out hB0.out.size
      have HOL := bx hOL
      clear hOL h5
      by_cases h7 : (m : Int) ≠ si
      · have t7 : ((m : Int) != si) = true := by rw [bne_iff_ne]; exact h7
        have HF : Bx (R = .err 18) := bx (by rw [HZ.out, endA', if_pos (by rw [← hm.out]; exact h7)])
        clear h7
        go_wp2
        go_ret2
        exact unpPost_err HF.out HB1.out
      have t7 : ((m : Int) != si) = false := by rw [show (m : Int) = si by omega]; simp
      obtain ⟨sm, hsm⟩ : ∃ sm, crcA 0 o = sm := ⟨_, rfl⟩
      have HSM := bx hsm
      have hgz := HK1.out.lt
      clear hsm
      go_upto_region 18 with (fail)
      have HS0 : w1.drew.cell? ⟨g, 4, none⟩ = some (.int .i64 su) := q4
      go_region_held3 (fun w' => w'.cell? ⟨g, 4, none⟩ = some (.int .i64 su)) (first | exact HS0 | go_keep | exact HS2) ((go_at_call 32; refine (of_any w1.heap.size 1 A1 m c1 o _ (hm.out.symm) (by omega) (((HR1.out.drewN 1).alloc (Nat.le_refl _) _).more (by simp)) (((Bk.new (w1.drewN 1) _ _).cell 0).trans rfl)).mono ?_; rintro e w2 ⟨rfl, hb2⟩; have HS2 : w2.cell? ⟨g, 4, none⟩ = some (.int .i64 su) := (hb2.cell (by simp; omega)).trans ((Below.cell (bl_alloc (Below.refl w1.heap.size w1.drew) (Nat.le_refl _) _) hgz).trans q4)))
      rename World => w2
      rename Below _ _ w2 => hb2
      have HB2 := bx (show Below w.heap.size w w2 from HB1.out.trans ((((bl_alloc (below_drewN (Below.refl w1.heap.size w1) 1) (Nat.le_refl _) _).trans (hb2.mono (by simp)))).mono HB1.out.size))
      have HO2 : Bx (OwB w2 w.heap.size 5 (.slice A1 m c1) o) := bx (((HOL.out.drewN 1).alloc _).below hb2)
      clear hb2 HS2 HS0
      by_cases h9 : (sm : Int) ≠ su
      · have t9 : ((sm : Int) != su) = true := by rw [bne_iff_ne]; exact h9
        have HF : Bx (R = .err 19) := bx (by rw [HZ.out, endA', if_neg (by rw [← hm.out]; exact h7), if_pos (by rw [HSM.out]; exact h9)])
        clear h9 h7
        rw [HSM.out]
        go_wp2
        go_ret2
        exact unpPost_err HF.out HB2.out
      have t9 : ((sm : Int) != su) = false := by rw [show (sm : Int) = su by omega]; simp
      have HF : Bx (R = .ok o) := bx (by rw [HZ.out, endA', if_neg (by rw [← hm.out]; exact h7), if_neg (by rw [HSM.out]; exact h9)])
      clear h9 h7
      rw [HSM.out]
      go_wp2
      go_ret2
      exact unpPost_ok HF.out HB2.out HO2.out (by rw [← hm.out]; exact hm32)
  · have t8 : (me == 8) = false := by rw [beq_eq_false_iff_ne]; exact h8
    by_cases h6 : (n : Int) ≠ si
    · have t6 : ((n : Int) != si) = true := by rw [bne_iff_ne]; exact h6
      have HF : Bx (R = .err 18) := bx (by rw [HU.out, outA, if_neg h8, if_pos h6]; rfl)
      clear h2 h6 h8
      go_wp2
      go_ret2
      exact unpPost_err HF.out hB0.out
    have t6 : ((n : Int) != si) = false := by rw [show (n : Int) = si by omega]; simp
    have HZ : Bx (R = endA' si su b) := bx (by rw [HU.out, outA, if_neg h8, if_neg h6]; rfl)
    have hm32 : n ≤ 32768 := by omega
    have HN : Bx ((([] : List UInt8).length + b.length) * 1 ≤ 140737488355328) := bx (by rw [HE.out]; simp; omega)
    have h6 := bx h6
    clear h2 h8
    go_wp2_with (at_builtin; refine wpList_appL _ bV_one rfl (.tmp 53) (.tmp 54) rfl byteTy (by decide) w0.heap.size _ [] rfl (OwL.lit0 w0 (Nat.le_refl _)) _ A n c b rfl HE.out (HR0.out.alloc (Nat.le_refl _) _) HN.out (le_alloc0 (Nat.le_refl _) _) ?_; intro v1 w1 own1 _ _ hb1; rw [List.nil_append] at own1; have HB1 := bx (hB0.out.trans (((bl_alloc (Below.refl w0.heap.size w0) (Nat.le_refl _) (.cells #[] 5)).trans hb1).mono hB0.out.size)); have HK1 := bx (HK0.out.below ((bl_alloc (Below.refl w0.heap.size w0) (Nat.le_refl _) (.cells #[] 5)).trans hb1) HK0.out.lt); have HOL := bx (OwL.low own1 hB0.out.size); obtain ⟨A1, c1, rfl, hr1, hmc, _⟩ := own1.rd; rw [HE.out]; rw [HE.out] at HOL; have HR1 := bx hr1; have q3 : w1.cell? ⟨g, 3, none⟩ = some (.int .i64 si) := (HK1.out.cell 3).trans rfl; have q4 : w1.cell? ⟨g, 4, none⟩ = some (.int .i64 su) := (HK1.out.cell 4).trans rfl; clear hb1 own1 hr1 hmc)
    have h7 : ¬ (n : Int) ≠ si := fun h => h6.out h
    have t7 : ((n : Int) != si) = false := by rw [show (n : Int) = si by omega]; simp
    obtain ⟨sm, hsm⟩ : ∃ sm, crcA 0 b = sm := ⟨_, rfl⟩
    have HSM := bx hsm
    have hgz := HK1.out.lt
    clear hsm
    go_upto_region 18 with (fail)
    have HS0 : w1.drew.cell? ⟨g, 4, none⟩ = some (.int .i64 su) := q4
    go_region_held3 (fun w' => w'.cell? ⟨g, 4, none⟩ = some (.int .i64 su)) (first | exact HS0 | go_keep | exact HS2) ((go_at_call 32; refine (of_any w1.heap.size 1 A1 n c1 b _ (HE.out) (by omega) (((HR1.out.drewN 1).alloc (Nat.le_refl _) _).more (by simp)) (((Bk.new (w1.drewN 1) _ _).cell 0).trans rfl)).mono ?_; rintro e w2 ⟨rfl, hb2⟩; have HS2 : w2.cell? ⟨g, 4, none⟩ = some (.int .i64 su) := (hb2.cell (by simp; omega)).trans ((Below.cell (bl_alloc (Below.refl w1.heap.size w1.drew) (Nat.le_refl _) _) hgz).trans q4)))
    rename World => w2
    rename Below _ _ w2 => hb2
    have HB2 := bx (show Below w.heap.size w w2 from HB1.out.trans ((((bl_alloc (below_drewN (Below.refl w1.heap.size w1) 1) (Nat.le_refl _) _).trans (hb2.mono (by simp)))).mono HB1.out.size))
    have HO2 : Bx (OwB w2 w.heap.size 5 (.slice A1 n c1) b) := bx (((HOL.out.drewN 1).alloc _).below hb2)
    clear hb2 HS2 HS0
    by_cases h9 : (sm : Int) ≠ su
    · have t9 : ((sm : Int) != su) = true := by rw [bne_iff_ne]; exact h9
      have HF : Bx (R = .err 19) := bx (by rw [HZ.out, endA', if_neg (by rw [HE.out]; exact h7), if_pos (by rw [HSM.out]; exact h9)])
      clear h9 h7
      rw [HSM.out]
      go_wp2
      go_ret2
      exact unpPost_err HF.out HB2.out
    have t9 : ((sm : Int) != su) = false := by rw [show (sm : Int) = su by omega]; simp
    have HF : Bx (R = .ok b) := bx (by rw [HZ.out, endA', if_neg (by rw [HE.out]; exact h7), if_neg (by rw [HSM.out]; exact h9)])
    clear h9 h7
    rw [HSM.out]
    go_wp2
    go_ret2
    exact unpPost_ok HF.out HB2.out HO2.out (by rw [HE.out]; exact hm32)
end Go.Proofs.YtlmcpkomjofcgaaDoor
namespace Go.Proofs.YtlmcpkomjofcgaaDoor
open Go.RowKit
theorem unpOk {R : Rz (List UInt8)} {w w' : World} {e : Ending} {l : List UInt8} (h : UnpPost R w e w') (hR : R = .ok l) : ∃ A k c, e = .returned (.tuple #[.slice A k c, .int .i64 0]) ∧ Bx (k = l.length) ∧ RB w' w'.heap.size A l ∧ k ≤ c ∧ (c : Int) ≤ 9223372036854775807 ∧ Below w.heap.size w w' ∧ OwB w' w.heap.size 5 (.slice A k c) l ∧ k ≤ 32768 := by
  subst hR
  obtain ⟨hb, v, rfl, hO, hl⟩ := h
  obtain ⟨A, c, rfl, hr, hc, hc2⟩ := OwL.rd hO
  exact ⟨A, _, c, rfl, ⟨rfl⟩, hr, hc, hc2, hb, hO, hl⟩
theorem unpErr {R : Rz (List UInt8)} {w w' : World} {e : Ending} {k : Int} (h : UnpPost R w e w') (hR : R = .err k) : e = .returned (.tuple #[.slice none 0 0, .int .i64 k]) ∧ Below w.heap.size w w' ∧ k ≠ 0 := by
  subst hR
  exact ⟨h.2.1, h.1, h.2.2⟩
/-- The answer as a pair: the error, the bytes. -/
def unpKL : Rz (List UInt8) → Int × List UInt8
  | .err k => (k, [])
  | .ok l => (0, l)
theorem unp_pair {R : Rz (List UInt8)} {w w' : World} {e : Ending} {k : Int} {L : List UInt8} (h : UnpPost R w e w') (hR : unpKL R = (k, L)) : ∃ A n c, e = .returned (.tuple #[.slice A n c, .int .i64 k]) ∧ Bx (n = L.length) ∧ RB w' w'.heap.size A L ∧ n ≤ c ∧ n ≤ 32768 ∧ Below w.heap.size w w' := by
  cases R with
  | err j =>
    injection hR with h1 h2
    subst h1; subst h2
    exact ⟨none, 0, 0, h.2.1, ⟨rfl⟩, RL.nil, Nat.le_refl _, by omega, h.1⟩
  | ok l =>
    injection hR with h1 h2
    subst h1; subst h2
    obtain ⟨A, n, c, rfl, hn, hr, hc, _, hb, _, h32⟩ := unpOk h rfl
    exact ⟨A, n, c, rfl, hn, hr, hc, h32, hb⟩
theorem unp_form {R : Rz (List UInt8)} {w w' : World} {e : Ending} (h : UnpPost R w e w') : ∃ v k, e = .returned (.tuple #[v, .int .i64 k]) := by
  cases R with
  | err j => exact ⟨_, _, h.2.1⟩
  | ok l =>
    obtain ⟨_, v, rfl, _⟩ := h
    exact ⟨_, _, rfl⟩
theorem unp_low {R : Rz (List UInt8)} {w w1 w' : World} {e : Ending} (h : UnpPost R w1 e w') (hb : Below w.heap.size w w1) : UnpPost R w e w' := by
  refine ⟨hb.trans (h.1.mono hb.size), ?_⟩
  cases R with
  | err j => exact h.2
  | ok l =>
    obtain ⟨_, v, rfl, hO, hl⟩ := h
    exact ⟨v, rfl, OwL.low hO hb.size, hl⟩
end Go.Proofs.YtlmcpkomjofcgaaDoor
