/- Contracts: entry.Unpack. What Unpack and Find answered, taken apart. Contracts: samovarref10.Unpack. -/
import Derived.Test.YtlmcpkomjofcgaaGreatDoorPv3
import Derived.Test.YtlmcpkomjofcgaaGreatDoorPv6
import Derived.Test.YtlmcpkomjofcgaaGreatDoorPv11
import Derived.Laws.BitsLemmas
import Derived.Test.YtlmcpkomjofcgaaGreatDoorPv10
namespace Go.Proofs.YtlmcpkomjofcgaaGreatDoor
open Go.RowKit
theorem and_not8 (X : BitVec 64) : X &&& ~~~(8 : BitVec 64) = 0 ↔ X = 0 ∨ X = 8 := by
  have h8 : ∀ i, i < 64 → i ≠ 3 → (8 : BitVec 64).getLsbD i = false := by decide
  constructor
  · intro h
    have hb : ∀ i, i < 64 → i ≠ 3 → X.getLsbD i = false := by
      intro i hi h3
      have h1 := congrArg (fun Y : BitVec 64 => Y.getLsbD i) h
      simp only [BitVec.getLsbD_and, BitVec.getLsbD_not, h8 i hi h3] at h1
      simpa [hi] using h1
    by_cases h3 : X.getLsbD 3 = true
    · right
      apply BitVec.eq_of_getLsbD_eq
      intro i hi
      by_cases e : i = 3
      · subst e; rw [h3]; rfl
      · rw [hb i hi e, h8 i hi e]
    · left
      apply BitVec.eq_of_getLsbD_eq
      intro i hi
      by_cases e : i = 3
      · subst e; simpa using h3
      · rw [hb i hi e]; simp
  · rintro (h | h) <;> subst h <;> decide
theorem andNot8 (x : Int) (h1 : -9223372036854775808 ≤ x) (h2 : x ≤ 9223372036854775807) : bits .andNot .i64 x 8 = 0 ↔ x = 0 ∨ x = 8 := by
  have hd : bits .andNot .i64 x 8 = IntKind.i64.wrap ((BitVec.ofInt 64 x &&& ~~~BitVec.ofInt 64 8).toNat : Int) := rfl
  have h8 : BitVec.ofInt 64 8 = (8 : BitVec 64) := rfl
  have hX : (BitVec.ofInt 64 x &&& ~~~(8 : BitVec 64)).toNat < 18446744073709551616 := BitVec.isLt _
  rw [hd, h8]
  have hs : (BitVec.ofInt 64 x).toInt = x := by
    rw [BitVec.toInt_ofInt, Int.bmod_def, show ((2 ^ 64 : Nat) : Int) = 18446744073709551616 from rfl]
    split <;> omega
  constructor
  · intro h
    have h0 : BitVec.ofInt 64 x &&& ~~~(8 : BitVec 64) = 0 := by
      apply BitVec.eq_of_toNat_eq
      rw [IntKind.wrap_i64] at h
      show _ = 0
      omega
    rcases (and_not8 _).1 h0 with e | e
    · left; rw [e] at hs; rw [← hs]; rfl
    · right; rw [e] at hs; rw [← hs]; rfl
  · rintro (h | h) <;> subst h <;> decide
def UnpPost (R : Rz (List UInt8)) (w : World) (e : Ending) (w' : World) : Prop :=
  Below w.heap.size w w' ∧ match R with
    | .ok o => ∃ v, e = .returned (.tuple #[v, .int .i64 0]) ∧ OwB w' w.heap.size 5 v o ∧ o.length ≤ 32768
    | .err k => e = .returned (.tuple #[.slice none 0 0, .int .i64 k]) ∧ k ≠ 0
theorem unpPost_err {R : Rz (List UInt8)} {w w' : World} {k : Int} (h : R = .err k) (hb : Below w.heap.size w w') (hk : k ≠ 0 := by decide) : UnpPost R w (.returned (.tuple #[.slice none 0 0, .int .i64 k])) w' := by
  subst h; exact ⟨hb, rfl, hk⟩
theorem unpPost_ok {R : Rz (List UInt8)} {w w' : World} {v : Value} {l : List UInt8} (h : R = .ok l) (hb : Below w.heap.size w w') (ho : OwB w' w.heap.size 5 v l) (hl : l.length ≤ 32768) : UnpPost R w (.returned (.tuple #[v, .int .i64 0])) w' := by
  subst h; exact ⟨hb, v, rfl, ho, hl⟩
set_option maxRecDepth 100000 in
set_option maxHeartbeats 4000000 in
theorem unp_any (s : ByteArray) (me pk si su at_ hd : Int) (A : Option Addr) (n c : Nat) (b : List UInt8) (w : World) (hn : b.length = n) (hz : n ≤ 1000000000) (hr : RB w w.heap.size A b)
    (hme1 : -9223372036854775808 ≤ me) (hme2 : me ≤ 9223372036854775807) :
    Calls Tryz.prog 36 #[.agg #[.string s, .int .i64 me, .int .i64 pk, .int .i64 si, .int .i64 su, .int .i64 at_, .int .i64 hd], .slice A n c] w (UnpPost (unpA me pk si su b) w) := by
  obtain ⟨R, hRR⟩ : ∃ R, unpA me pk si su b = R := ⟨_, rfl⟩
  rw [hRR]
  have HE := bx hn
  have HRR := bx hRR
  have hB0 : Bx (Below w.heap.size w (w.alloc (.cells #[.string s, .int .i64 me, .int .i64 pk, .int .i64 si, .int .i64 su, .int .i64 at_, .int .i64 hd] 71))) := bx (bl_alloc (Below.refl w.heap.size w) (Nat.le_refl _) _)
  obtain ⟨g, hg⟩ : ∃ g, w.heap.size = g := ⟨_, rfl⟩
  have hK0 : Bk (w.alloc (.cells #[.string s, .int .i64 me, .int .i64 pk, .int .i64 si, .int .i64 su, .int .i64 at_, .int .i64 hd] 71)) g 71 #[.string s, .int .i64 me, .int .i64 pk, .int .i64 si, .int .i64 su, .int .i64 at_, .int .i64 hd] := Bk.newAt w _ _ hg
  have hR0 : RB (w.alloc (.cells #[.string s, .int .i64 me, .int .i64 pk, .int .i64 si, .int .i64 su, .int .i64 at_, .int .i64 hd] 71)) (w.alloc (.cells #[.string s, .int .i64 me, .int .i64 pk, .int .i64 si, .int .i64 su, .int .i64 at_, .int .i64 hd] 71)).heap.size A b := (hr.alloc (Nat.le_refl _) _).more (by simp)
  have HK0 := bx hK0
  have HR0 := bx hR0
  have HG := bx hg
  clear hn hRR hr hK0 hR0
  go_enter Tryz.func36, Tryz.ntmps36
  go_upto_region 1 with (fail)
  generalize w.alloc (.cells #[.string s, .int .i64 me, .int .i64 pk, .int .i64 si, .int .i64 su, .int .i64 at_, .int .i64 hd] 71) = w0 at HK0 HR0 hB0 ⊢
  have k1 : w0.cell? ⟨g, 1, none⟩ = some (.int .i64 me) := (HK0.out.cell 1).trans rfl
  have k2 : w0.cell? ⟨g, 2, none⟩ = some (.int .i64 pk) := (HK0.out.cell 2).trans rfl
  have k3 : w0.cell? ⟨g, 3, none⟩ = some (.int .i64 si) := (HK0.out.cell 3).trans rfl
  by_cases h1 : (n : Int) ≠ pk
  · have t1 : ((n : Int) != pk) = true := by rw [bne_iff_ne]; exact h1
    have HF : Bx (R = .err 1) := bx (by rw [← HRR.out, unpA, if_pos (.inl (by rw [HE.out]; exact h1))])
    clear h1
    go_wp2
    go_ret2
    exact unpPost_err HF.out hB0.out
  obtain rfl : pk = (n : Int) := by omega
  clear h1
  have t1 : ((n : Int) != (n : Int)) = false := by simp
  by_cases h2 : me ≠ 0 ∧ me ≠ 8
  · have t2 : (bits .andNot .i64 me 8 != 0) = true := by rw [bne_iff_ne]; intro e; have := (andNot8 me hme1 hme2).1 e; omega
    have HF : Bx (R = .err 1) := bx (by rw [← HRR.out, unpA, if_pos (.inr (.inl h2))])
    clear h2
    go_wp2
    go_ret2
    exact unpPost_err HF.out hB0.out
  have t2 : (bits .andNot .i64 me 8 != 0) = false := by rw [(andNot8 me hme1 hme2).2 (by omega)]; rfl
  by_cases h3 : si < 0
  · have HF : Bx (R = .err 1) := bx (by rw [← HRR.out, unpA, if_pos (.inr (.inr h3))])
    clear h2
    go_wp2
    go_ret2
    exact unpPost_err HF.out hB0.out
  by_cases h4 : 32768 < si
  · have HF : Bx (R = .err 17) := bx (by rw [← HRR.out, unpA, if_neg (by rw [HE.out]; omega), if_pos h4])
    clear h2
    go_wp2
    go_ret2
    exact unpPost_err HF.out hB0.out
  have HU : Bx (R = (outA me (n : Int) si b).bind (endA' si su)) := bx (by rw [← HRR.out, unpA, if_neg (by rw [HE.out]; omega), if_neg h4])
  by_cases h8 : me = 8
  · have t8 : (me == 8) = true := by rw [h8]; rfl
    have HO : Bx (outA me (n : Int) si b = (inflP b si).bind fun x => if x.2 < b.length then .err 18 else .ok x.1) := bx (by rw [outA, if_pos h8])
    clear h2 h8
    have HI := bx (iall_any A n c b si w0 HE.out hz HR0.out (by omega) (by omega))
    go_wp2_with fail
    refine HI.out.mono ?_
    intro e w1 hp
    cases hi : inflP b si with
    | err k =>
      obtain ⟨rfl, hb1, hk0⟩ := allErr hp hi
      have HF : Bx (R = .err k) := bx (by rw [HU.out, HO.out, hi]; rfl)
      have HB1 := bx (hB0.out.trans (hb1.mono hB0.out.size))
      have HK := bx hk0
      have hkb : (k != 0) = true := by rw [bne_iff_ne]; exact hk0
      clear hp hi hb1 hk0
      go_wp2
      go_ret2
      exact unpPost_err HF.out HB1.out HK.out
    | ok x =>
      obtain ⟨o, used⟩ := x
      obtain ⟨A1, m, c1, rfl, hm, hr1, hmc, hb1, _, ho1, ho2⟩ := allOk hp hi
      have HB1 := bx (hB0.out.trans (hb1.mono hB0.out.size))
      have HK1 := bx (HK0.out.below hb1 HK0.out.lt)
      have hm32 : m ≤ 32768 := by rw [hm.out]; exact ho2
      have HR1 := bx hr1
      have HO1 := bx ho1
      have HX : Bx (outA me (n : Int) si b = if used < b.length then .err 18 else .ok o) := bx (by rw [HO.out, hi]; rfl)
      clear hp hi hb1 hr1 ho1 ho2 k1 k2 k3
      by_cases h5 : used < n
      · have h5I : (used : Int) < (n : Int) := by omega
        have HF : Bx (R = .err 18) := bx (by rw [HU.out, HX.out, if_pos (by rw [HE.out]; exact h5)]; rfl)
        clear h5
        go_wp2
        go_ret2
        exact unpPost_err HF.out HB1.out
      have h5I : ¬ (used : Int) < (n : Int) := by omega
      have HZ : Bx (R = endA' si su o) := bx (by rw [HU.out, HX.out, if_neg (by rw [HE.out]; exact h5)]; rfl)
      have q3 : w1.cell? ⟨g, 3, none⟩ = some (.int .i64 si) := (HK1.out.cell 3).trans rfl
      have q4 : w1.cell? ⟨g, 4, none⟩ = some (.int .i64 su) := (HK1.out.cell 4).trans rfl
      have hOL : OwB w1 w.heap.size 5 (.slice A1 m c1) o := OwL.low HO1.out hB0.out.size
      have HOL := bx hOL
      clear hOL h5
      by_cases h7 : (m : Int) ≠ si
      · have t7 : ((m : Int) != si) = true := by rw [bne_iff_ne]; exact h7
        have HF : Bx (R = .err 18) := bx (by rw [HZ.out, endA', if_pos (by rw [← hm.out]; exact h7)])
        clear h7
        go_wp2
        go_ret2
        exact unpPost_err HF.out HB1.out
      have t7 : ((m : Int) != si) = false := by rw [show (m : Int) = si by omega]; simp
      obtain ⟨sm, hsm⟩ : ∃ sm, crcA 0 o = sm := ⟨_, rfl⟩
      have HSM := bx hsm
      have hgz := HK1.out.lt
      clear hsm
      go_upto_region 18 with (fail)
      have HS0 : w1.drew.cell? ⟨g, 4, none⟩ = some (.int .i64 su) := q4
      go_region_held3 (fun w' => w'.cell? ⟨g, 4, none⟩ = some (.int .i64 su)) (first | exact HS0 | go_keep | exact HS2) ((go_at_call 52; refine (of_any w1.heap.size 1 A1 m c1 o _ (hm.out.symm) (by omega) (((HR1.out.drewN 1).alloc (Nat.le_refl _) _).more (by simp)) (((Bk.new (w1.drewN 1) _ _).cell 0).trans rfl)).mono ?_; rintro e w2 ⟨rfl, hb2⟩; have HS2 : w2.cell? ⟨g, 4, none⟩ = some (.int .i64 su) := (hb2.cell (by simp; omega)).trans ((Below.cell (bl_alloc (Below.refl w1.heap.size w1.drew) (Nat.le_refl _) _) hgz).trans q4)))
      rename World => w2
      rename Below _ _ w2 => hb2
      have HB2 := bx (show Below w.heap.size w w2 from HB1.out.trans ((((bl_alloc (below_drewN (Below.refl w1.heap.size w1) 1) (Nat.le_refl _) _).trans (hb2.mono (by simp)))).mono HB1.out.size))
      have HO2 : Bx (OwB w2 w.heap.size 5 (.slice A1 m c1) o) := bx (((HOL.out.drewN 1).alloc _).below hb2)
      clear hb2 HS2 HS0
      by_cases h9 : (sm : Int) ≠ su
      · have t9 : ((sm : Int) != su) = true := by rw [bne_iff_ne]; exact h9
        have HF : Bx (R = .err 19) := bx (by rw [HZ.out, endA', if_neg (by rw [← hm.out]; exact h7), if_pos (by rw [HSM.out]; exact h9)])
        clear h9 h7
        rw [HSM.out]
        go_wp2
        go_ret2
        exact unpPost_err HF.out HB2.out
      have t9 : ((sm : Int) != su) = false := by rw [show (sm : Int) = su by omega]; simp
      have HF : Bx (R = .ok o) := bx (by rw [HZ.out, endA', if_neg (by rw [← hm.out]; exact h7), if_neg (by rw [HSM.out]; exact h9)])
      clear h9 h7
      rw [HSM.out]
      go_wp2
      go_ret2
      exact unpPost_ok HF.out HB2.out HO2.out (by rw [← hm.out]; exact hm32)
  · have t8 : (me == 8) = false := by rw [beq_eq_false_iff_ne]; exact h8
    by_cases h6 : (n : Int) ≠ si
    · have t6 : ((n : Int) != si) = true := by rw [bne_iff_ne]; exact h6
      have HF : Bx (R = .err 18) := bx (by rw [HU.out, outA, if_neg h8, if_pos h6]; rfl)
      clear h2 h6 h8
      go_wp2
      go_ret2
      exact unpPost_err HF.out hB0.out
    have t6 : ((n : Int) != si) = false := by rw [show (n : Int) = si by omega]; simp
    have HZ : Bx (R = endA' si su b) := bx (by rw [HU.out, outA, if_neg h8, if_neg h6]; rfl)
    have hm32 : n ≤ 32768 := by omega
    have HN : Bx ((([] : List UInt8).length + b.length) * 1 ≤ 140737488355328) := bx (by rw [HE.out]; simp; omega)
    have h6 := bx h6
    clear h2 h8
    go_wp2_with (at_builtin; refine wpList_appL _ bV_one rfl (.tmp 53) (.tmp 54) rfl byteTy (by decide) w0.heap.size _ [] rfl (OwL.lit0 w0 (Nat.le_refl _)) _ A n c b rfl HE.out (HR0.out.alloc (Nat.le_refl _) _) HN.out (le_alloc0 (Nat.le_refl _) _) ?_; intro v1 w1 own1 _ _ hb1; rw [List.nil_append] at own1; have HB1 := bx (hB0.out.trans (((bl_alloc (Below.refl w0.heap.size w0) (Nat.le_refl _) (.cells #[] 5)).trans hb1).mono hB0.out.size)); have HK1 := bx (HK0.out.below ((bl_alloc (Below.refl w0.heap.size w0) (Nat.le_refl _) (.cells #[] 5)).trans hb1) HK0.out.lt); have HOL := bx (OwL.low own1 hB0.out.size); obtain ⟨A1, c1, rfl, hr1, hmc, _⟩ := own1.rd; rw [HE.out]; rw [HE.out] at HOL; have HR1 := bx hr1; have q3 : w1.cell? ⟨g, 3, none⟩ = some (.int .i64 si) := (HK1.out.cell 3).trans rfl; have q4 : w1.cell? ⟨g, 4, none⟩ = some (.int .i64 su) := (HK1.out.cell 4).trans rfl; clear hb1 own1 hr1 hmc)
    have h7 : ¬ (n : Int) ≠ si := fun h => h6.out h
    have t7 : ((n : Int) != si) = false := by rw [show (n : Int) = si by omega]; simp
    obtain ⟨sm, hsm⟩ : ∃ sm, crcA 0 b = sm := ⟨_, rfl⟩
    have HSM := bx hsm
    have hgz := HK1.out.lt
    clear hsm
    go_upto_region 18 with (fail)
    have HS0 : w1.drew.cell? ⟨g, 4, none⟩ = some (.int .i64 su) := q4
    go_region_held3 (fun w' => w'.cell? ⟨g, 4, none⟩ = some (.int .i64 su)) (first | exact HS0 | go_keep | exact HS2) ((go_at_call 52; refine (of_any w1.heap.size 1 A1 n c1 b _ (HE.out) (by omega) (((HR1.out.drewN 1).alloc (Nat.le_refl _) _).more (by simp)) (((Bk.new (w1.drewN 1) _ _).cell 0).trans rfl)).mono ?_; rintro e w2 ⟨rfl, hb2⟩; have HS2 : w2.cell? ⟨g, 4, none⟩ = some (.int .i64 su) := (hb2.cell (by simp; omega)).trans ((Below.cell (bl_alloc (Below.refl w1.heap.size w1.drew) (Nat.le_refl _) _) hgz).trans q4)))
    rename World => w2
    rename Below _ _ w2 => hb2
    have HB2 := bx (show Below w.heap.size w w2 from HB1.out.trans ((((bl_alloc (below_drewN (Below.refl w1.heap.size w1) 1) (Nat.le_refl _) _).trans (hb2.mono (by simp)))).mono HB1.out.size))
    have HO2 : Bx (OwB w2 w.heap.size 5 (.slice A1 n c1) b) := bx (((HOL.out.drewN 1).alloc _).below hb2)
    clear hb2 HS2 HS0
    by_cases h9 : (sm : Int) ≠ su
    · have t9 : ((sm : Int) != su) = true := by rw [bne_iff_ne]; exact h9
      have HF : Bx (R = .err 19) := bx (by rw [HZ.out, endA', if_neg (by rw [HE.out]; exact h7), if_pos (by rw [HSM.out]; exact h9)])
      clear h9 h7
      rw [HSM.out]
      go_wp2
      go_ret2
      exact unpPost_err HF.out HB2.out
    have t9 : ((sm : Int) != su) = false := by rw [show (sm : Int) = su by omega]; simp
    have HF : Bx (R = .ok b) := bx (by rw [HZ.out, endA', if_neg (by rw [HE.out]; exact h7), if_neg (by rw [HSM.out]; exact h9)])
    clear h9 h7
    rw [HSM.out]
    go_wp2
    go_ret2
    exact unpPost_ok HF.out HB2.out HO2.out (by rw [HE.out]; exact hm32)
end Go.Proofs.YtlmcpkomjofcgaaGreatDoor
namespace Go.Proofs.YtlmcpkomjofcgaaGreatDoor
open Go.RowKit
/-- The answer as a pair: the error, the bytes. -/
def unpKL : Rz (List UInt8) → Int × List UInt8
  | .err k => (k, [])
  | .ok l => (0, l)
theorem unp_form {R : Rz (List UInt8)} {w w' : World} {e : Ending} (h : UnpPost R w e w') : ∃ v k, e = .returned (.tuple #[v, .int .i64 k]) := by
  cases R with
  | err j => exact ⟨_, _, h.2.1⟩
  | ok l =>
    obtain ⟨_, v, rfl, _⟩ := h
    exact ⟨_, _, rfl⟩
end Go.Proofs.YtlmcpkomjofcgaaGreatDoor
namespace Go.Proofs.YtlmcpkomjofcgaaGreatDoor
open Go.RowKit
theorem infl_used {b : List UInt8} {lim : Int} {o : List UInt8} {n : Nat} (h : inflP b lim = .ok (o, n)) : n ≤ b.length := by
  obtain ⟨p, h1, h2, _⟩ := infl_ok h
  have := (allP_more h1).2
  omega
set_option maxRecDepth 100000 in
set_option maxHeartbeats 4000000 in
theorem runp_any (s : ByteArray) (me pk si su at_ hd : Int) (A : Option Addr) (n c : Nat) (b : List UInt8) (w : World) (hn : b.length = n) (hz : n ≤ 1000000000) (hr : RB w w.heap.size A b)
    (hme1 : -9223372036854775808 ≤ me) (hme2 : me ≤ 9223372036854775807) :
    Calls Tryz.prog 28 #[.agg #[.string s, .int .i64 me, .int .i64 pk, .int .i64 si, .int .i64 su, .int .i64 at_, .int .i64 hd], .slice A n c] w (UnpPost (unpA me pk si su b) w) := by
  obtain ⟨R, hRR⟩ : ∃ R, unpA me pk si su b = R := ⟨_, rfl⟩
  rw [hRR]
  have HE := bx hn
  have HRR := bx hRR
  have hB0 : Bx (Below w.heap.size w (w.alloc (.cells #[.string s, .int .i64 me, .int .i64 pk, .int .i64 si, .int .i64 su, .int .i64 at_, .int .i64 hd] 71))) := bx (bl_alloc (Below.refl w.heap.size w) (Nat.le_refl _) _)
  obtain ⟨g, hg⟩ : ∃ g, w.heap.size = g := ⟨_, rfl⟩
  have hK0 : Bk (w.alloc (.cells #[.string s, .int .i64 me, .int .i64 pk, .int .i64 si, .int .i64 su, .int .i64 at_, .int .i64 hd] 71)) g 71 #[.string s, .int .i64 me, .int .i64 pk, .int .i64 si, .int .i64 su, .int .i64 at_, .int .i64 hd] := Bk.newAt w _ _ hg
  have hR0 : RB (w.alloc (.cells #[.string s, .int .i64 me, .int .i64 pk, .int .i64 si, .int .i64 su, .int .i64 at_, .int .i64 hd] 71)) (w.alloc (.cells #[.string s, .int .i64 me, .int .i64 pk, .int .i64 si, .int .i64 su, .int .i64 at_, .int .i64 hd] 71)).heap.size A b := (hr.alloc (Nat.le_refl _) _).more (by simp)
  have HK0 := bx hK0
  have HR0 := bx hR0
  have HG := bx hg
  clear hn hRR hr hK0 hR0
  go_enter Tryz.func28, Tryz.ntmps28
  go_upto_region 1 with (fail)
  generalize w.alloc (.cells #[.string s, .int .i64 me, .int .i64 pk, .int .i64 si, .int .i64 su, .int .i64 at_, .int .i64 hd] 71) = w0 at HK0 HR0 hB0 ⊢
  have k1 : w0.cell? ⟨g, 1, none⟩ = some (.int .i64 me) := (HK0.out.cell 1).trans rfl
  have k2 : w0.cell? ⟨g, 2, none⟩ = some (.int .i64 pk) := (HK0.out.cell 2).trans rfl
  have k3 : w0.cell? ⟨g, 3, none⟩ = some (.int .i64 si) := (HK0.out.cell 3).trans rfl
  by_cases h1 : (n : Int) ≠ pk
  · have t1 : ((n : Int) != pk) = true := by rw [bne_iff_ne]; exact h1
    have HF : Bx (R = .err 1) := bx (by rw [← HRR.out, unpA, if_pos (.inl (by rw [HE.out]; exact h1))])
    clear h1
    go_wp2
    go_ret2
    exact unpPost_err HF.out hB0.out
  obtain rfl : pk = (n : Int) := by omega
  clear h1
  have t1 : ((n : Int) != (n : Int)) = false := by simp
  by_cases h2 : me ≠ 0 ∧ me ≠ 8
  · have t2 : (me != 0) = true := by rw [bne_iff_ne]; exact h2.1
    have t3 : (me != 8) = true := by rw [bne_iff_ne]; exact h2.2
    have HF : Bx (R = .err 1) := bx (by rw [← HRR.out, unpA, if_pos (.inr (.inl h2))])
    clear h2
    go_wp2
    go_ret2
    exact unpPost_err HF.out hB0.out
  have h8 : me = 0 ∨ me = 8 := by omega
  clear h2
  rcases h8 with rfl | rfl
  · by_cases h3 : si < 0
    · have HF : Bx (R = .err 1) := bx (by rw [← HRR.out, unpA, if_pos (.inr (.inr h3))])
      go_wp2
      go_ret2
      exact unpPost_err HF.out hB0.out
    by_cases h4 : 32768 < si
    · have HF : Bx (R = .err 17) := bx (by rw [← HRR.out, unpA, if_neg (by rw [HE.out]; omega), if_pos h4])
      go_wp2
      go_ret2
      exact unpPost_err HF.out hB0.out
    have HU : Bx (R = (outA 0 (n : Int) si b).bind (endA' si su)) := bx (by rw [← HRR.out, unpA, if_neg (by rw [HE.out]; omega), if_neg h4])
    have HN : Bx ((([] : List UInt8).length + b.length) * 1 ≤ 140737488355328) := bx (by rw [HE.out]; simp; omega)
    go_upto_region 6 with (at_builtin; refine wpList_appL _ bV_one rfl (.tmp 33) (.tmp 34) rfl byteTy (by decide) w0.heap.size _ [] rfl (OwL.lit0 w0 (Nat.le_refl _)) _ A n c b rfl HE.out (HR0.out.alloc (Nat.le_refl _) _) HN.out (le_alloc0 (Nat.le_refl _) _) ?_; intro v1 w1 own1 _ _ hb1; rw [List.nil_append] at own1; have HB1 := bx (hB0.out.trans (((bl_alloc (Below.refl w0.heap.size w0) (Nat.le_refl _) (.cells #[] 5)).trans hb1).mono hB0.out.size)); have HK1 := bx (HK0.out.below ((bl_alloc (Below.refl w0.heap.size w0) (Nat.le_refl _) (.cells #[] 5)).trans hb1) HK0.out.lt); have HRA := bx (HR0.out.step ((bl_alloc (Below.refl w0.heap.size w0) (Nat.le_refl _) (.cells #[] 5)).trans hb1)); have HOL := bx (OwL.low own1 hB0.out.size); obtain ⟨A1, c1, rfl, hr1, hmc, _⟩ := own1.rd; rw [HE.out]; rw [HE.out] at HOL; have HR1 := bx hr1; have q1 : w1.cell? ⟨g, 1, none⟩ = some (.int .i64 0) := (HK1.out.cell 1).trans rfl; have q3 : w1.cell? ⟨g, 3, none⟩ = some (.int .i64 si) := (HK1.out.cell 3).trans rfl; have q4 : w1.cell? ⟨g, 4, none⟩ = some (.int .i64 su) := (HK1.out.cell 4).trans rfl; clear hb1 own1 hr1 hmc)
    have q3 : w1.cell? ⟨g, 3, none⟩ = some (.int .i64 si) := (HK1.out.cell 3).trans rfl
    have q4 : w1.cell? ⟨g, 4, none⟩ = some (.int .i64 su) := (HK1.out.cell 4).trans rfl
    by_cases h7 : (n : Int) ≠ si
    · have t7 : ((n : Int) != si) = true := by rw [bne_iff_ne]; exact h7
      have HF : Bx (R = .err 18) := bx (by rw [HU.out, outA, if_neg (by decide), if_pos h7]; rfl)
      clear h7
      go_wp2
      go_ret2
      exact unpPost_err HF.out HB1.out
    have HZ : Bx (R = endA' si su b) := bx (by rw [HU.out, outA, if_neg (by decide), if_neg h7]; rfl)
    have t7 : ((n : Int) != si) = false := by rw [show (n : Int) = si by omega]; simp
    obtain ⟨sm, hsm⟩ : ∃ sm, crcA 0 b = sm := ⟨_, rfl⟩
    have HSM := bx hsm
    have hmz : n ≤ 1000000000 := by omega
    have HS := fun w hr => rsum_any A1 n c1 b w (HE.out) (by omega) hr
    have HS' := bx HS
    clear hsm HS
    by_cases h9 : (sm : Int) ≠ su
    · have t9 : ((sm : Int) != su) = true := by rw [bne_iff_ne]; exact h9
      have HF : Bx (R = .err 19) := bx (by rw [HZ.out, endA', if_neg (by rw [HE.out]; exact h7), if_pos (by rw [HSM.out]; exact h9)])
      clear h9 h7
      go_wp2_with fail
      go_quiet ((go_at_call 42; exact quiet_eq ((HS'.out _ (HR1.out.drewN _)).mono fun e w' h => ⟨by rw [h.1, HSM.out], h.2.symm⟩)))
      go_wp2
      go_ret2
      exact unpPost_err HF.out (below_drewN HB1.out _)
    have t9 : ((sm : Int) != su) = false := by rw [show (sm : Int) = su by omega]; simp
    have HF : Bx (R = .ok b) := bx (by rw [HZ.out, endA', if_neg (by rw [HE.out]; exact h7), if_neg (by rw [HSM.out]; exact h9)])
    have hl32 : b.length ≤ 32768 := by rw [HE.out]; omega
    clear h9 h7
    go_wp2_with fail
    go_quiet ((go_at_call 42; exact quiet_eq ((HS'.out _ (HR1.out.drewN _)).mono fun e w' h => ⟨by rw [h.1, HSM.out], h.2.symm⟩)))
    go_wp2
    go_ret2
    exact unpPost_ok HF.out (below_drewN HB1.out _) (HOL.out.drewN _) hl32
  · by_cases h3 : si < 0
    · have HF : Bx (R = .err 1) := bx (by rw [← HRR.out, unpA, if_pos (.inr (.inr h3))])
      go_wp2
      go_ret2
      exact unpPost_err HF.out hB0.out
    by_cases h4 : 32768 < si
    · have HF : Bx (R = .err 17) := bx (by rw [← HRR.out, unpA, if_neg (by rw [HE.out]; omega), if_pos h4])
      go_wp2
      go_ret2
      exact unpPost_err HF.out hB0.out
    have HU : Bx (R = (outA 8 (n : Int) si b).bind (endA' si su)) := bx (by rw [← HRR.out, unpA, if_neg (by rw [HE.out]; omega), if_neg h4])
    have HN : Bx ((([] : List UInt8).length + b.length) * 1 ≤ 140737488355328) := bx (by rw [HE.out]; simp; omega)
    go_upto_region 6 with (at_builtin; refine wpList_appL _ bV_one rfl (.tmp 33) (.tmp 34) rfl byteTy (by decide) w0.heap.size _ [] rfl (OwL.lit0 w0 (Nat.le_refl _)) _ A n c b rfl HE.out (HR0.out.alloc (Nat.le_refl _) _) HN.out (le_alloc0 (Nat.le_refl _) _) ?_; intro v1 w1 own1 _ _ hb1; rw [List.nil_append] at own1; have HB1 := bx (hB0.out.trans (((bl_alloc (Below.refl w0.heap.size w0) (Nat.le_refl _) (.cells #[] 5)).trans hb1).mono hB0.out.size)); have HK1 := bx (HK0.out.below ((bl_alloc (Below.refl w0.heap.size w0) (Nat.le_refl _) (.cells #[] 5)).trans hb1) HK0.out.lt); have HRA := bx (HR0.out.step ((bl_alloc (Below.refl w0.heap.size w0) (Nat.le_refl _) (.cells #[] 5)).trans hb1)); have HOL := bx (OwL.low own1 hB0.out.size); obtain ⟨A1, c1, rfl, hr1, hmc, _⟩ := own1.rd; rw [HE.out]; rw [HE.out] at HOL; have HR1 := bx hr1; have q1 : w1.cell? ⟨g, 1, none⟩ = some (.int .i64 8) := (HK1.out.cell 1).trans rfl; have q3 : w1.cell? ⟨g, 3, none⟩ = some (.int .i64 si) := (HK1.out.cell 3).trans rfl; have q4 : w1.cell? ⟨g, 4, none⟩ = some (.int .i64 su) := (HK1.out.cell 4).trans rfl; clear hb1 own1 hr1 hmc)
    have HI := bx (rall_any A n c b si w1 HE.out hz HRA.out (by omega) (by omega))
    have HO : Bx (outA 8 (n : Int) si b = (inflP b si).bind fun x => if x.2 < b.length then .err 18 else .ok x.1) := bx (by rw [outA, if_pos rfl])
    obtain ⟨w00, hw00⟩ : ∃ w00, w1 = w00 := ⟨_, rfl⟩
    subst hw00
    go_wp2_with fail
    refine HI.out.mono ?_
    intro e w2 hp
    cases hi : inflP b si with
    | err k =>
      obtain ⟨rfl, hb2, hk0⟩ := allErr hp hi
      have HF : Bx (R = .err k) := bx (by rw [HU.out, HO.out, hi]; rfl)
      have HB2 := bx (HB1.out.trans (hb2.mono HB1.out.size))
      have HK := bx hk0
      have hkb : (k != 0) = true := by rw [bne_iff_ne]; exact hk0
      clear hp hi hb2 hk0
      go_wp2
      go_ret2
      exact unpPost_err HF.out HB2.out HK.out
    | ok x =>
      obtain ⟨o, used⟩ := x
      have hus := infl_used hi
      obtain ⟨A2, m, c2, rfl, hm, hr2, hmc, hb2, _, ho1, ho2⟩ := allOk hp hi
      have HB2 := bx (HB1.out.trans (hb2.mono HB1.out.size))
      have HK2 := bx (HK1.out.below hb2 HK1.out.lt)
      have hm32 : m ≤ 32768 := by rw [hm.out]; exact ho2
      have HR2 := bx hr2
      have HO2 := bx (OwL.low ho1 HB1.out.size)
      have HX : Bx (outA 8 (n : Int) si b = if used < b.length then .err 18 else .ok o) := bx (by rw [HO.out, hi]; rfl)
      rw [HE.out] at hus
      clear hp hi hb2 hr2 ho1 ho2 k1 k2 k3 HI HO
      by_cases h5 : used < n
      · have h5I : ((used : Int) != (n : Int)) = true := by rw [bne_iff_ne]; omega
        have HF : Bx (R = .err 18) := bx (by rw [HU.out, HX.out, if_pos (by rw [HE.out]; exact h5)]; rfl)
        clear h5
        go_wp2
        go_ret2
        exact unpPost_err HF.out HB2.out
      have h5I : ((used : Int) != (n : Int)) = false := by rw [show used = n by omega]; simp
      have HY : Bx (R = endA' si su o) := bx (by rw [HU.out, HX.out, if_neg (by rw [HE.out]; exact h5)]; rfl)
      clear h5
      have q3 : w2.cell? ⟨g, 3, none⟩ = some (.int .i64 si) := (HK2.out.cell 3).trans rfl
      have q4 : w2.cell? ⟨g, 4, none⟩ = some (.int .i64 su) := (HK2.out.cell 4).trans rfl
      by_cases h7 : (m : Int) ≠ si
      · have t7 : ((m : Int) != si) = true := by rw [bne_iff_ne]; exact h7
        have HF : Bx (R = .err 18) := bx (by rw [HY.out, endA', if_pos (by rw [← hm.out]; exact h7)])
        clear h7
        go_wp2
        go_ret2
        exact unpPost_err HF.out HB2.out
      have HZ : Bx (R = endA' si su o) := bx (HY.out)
      have t7 : ((m : Int) != si) = false := by rw [show (m : Int) = si by omega]; simp
      obtain ⟨sm, hsm⟩ : ∃ sm, crcA 0 o = sm := ⟨_, rfl⟩
      have HSM := bx hsm
      have hmz : m ≤ 1000000000 := by omega
      have HS := fun w hr => rsum_any A2 m c2 o w (hm.out.symm) (by omega) hr
      have HS' := bx HS
      clear hsm HS
      by_cases h9 : (sm : Int) ≠ su
      · have t9 : ((sm : Int) != su) = true := by rw [bne_iff_ne]; exact h9
        have HF : Bx (R = .err 19) := bx (by rw [HZ.out, endA', if_neg (by rw [← hm.out]; exact h7), if_pos (by rw [HSM.out]; exact h9)])
        clear h9 h7
        go_wp2_with fail
        go_quiet ((go_at_call 42; exact quiet_eq ((HS'.out _ (HR2.out.drewN _)).mono fun e w' h => ⟨by rw [h.1, HSM.out], h.2.symm⟩)))
        go_wp2
        go_ret2
        exact unpPost_err HF.out (below_drewN HB2.out _)
      have t9 : ((sm : Int) != su) = false := by rw [show (sm : Int) = su by omega]; simp
      have HF : Bx (R = .ok o) := bx (by rw [HZ.out, endA', if_neg (by rw [← hm.out]; exact h7), if_neg (by rw [HSM.out]; exact h9)])
      have hl32 : o.length ≤ 32768 := by rw [← hm.out]; omega
      clear h9 h7
      go_wp2_with fail
      go_quiet ((go_at_call 42; exact quiet_eq ((HS'.out _ (HR2.out.drewN _)).mono fun e w' h => ⟨by rw [h.1, HSM.out], h.2.symm⟩)))
      go_wp2
      go_ret2
      exact unpPost_ok HF.out (below_drewN HB2.out _) (HO2.out.drewN _) hl32
end Go.Proofs.YtlmcpkomjofcgaaGreatDoor
