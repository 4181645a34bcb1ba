/- The walks of InflateReads, SqueezeBack. -/
import Derived.Test.YtbhljigppljjbaaRfG
import Derived.Test.YtbhljigppljjbaaSqzK
namespace Go.Proofs.Ytbhljigppljjbaa
open Go.RowKit

theorem dec_self (l : List UInt8) : decide (l = l) = true := by simp
set_option maxRecDepth 100000 in
set_option maxHeartbeats 2000000 in
theorem inflateReads_walk (w : World) (A : Option Addr) (n c : Nat) (l : List UInt8) (e0 : l.length = n) (_hc : n ≤ c) (_hm : (c : Int) ≤ 9223372036854775807) (r0 : RB w w.heap.size A l) (_b0 : n ≤ 140737488351232)
    (x1 : Int) (h1 : -9223372036854775808 ≤ x1 ∧ x1 ≤ 9223372036854775807) :
    Calls Try.prog 3 #[.slice A n c, .int .i64 x1] w fun e w' => e = .returned (.bool true) ∧ Below w.heap.size w w' := by
  have h11 := h1.1
  have h12 := h1.2
  have HL := bx e0
  clear e0 h1
  go_enter Try.func3, Try.ntmps3
  by_cases hbig : 6000 < n
  · go_wp2_with fail
    refine (ifixed_any w).mono ?_
    rintro e w1 ⟨rfl, hb1⟩
    go_wp2
    go_ret
    exact ⟨rfl, hb1⟩
  · go_wp2_with fail
    refine (ifixed_any w).mono ?_
    rintro e w1 ⟨rfl, hb1⟩
    have HN : Bx ((([] : List UInt8).length + l.length) * 1 ≤ 140737488355328) := bx (by rw [HL.out]; simp; omega)
    have hr1 := r0.step hb1
    go_wp2_with (at_builtin; refine wpList_appL _ bV_one rfl (.tmp 17) (.tmp 18) rfl byteTy (by decide) w1.heap.size _ [] rfl (OwL.lit0 w1 (Nat.le_refl _)) w1.heap.size A n c l rfl HL.out (RL.alloc hr1 (Nat.le_refl _) _) HN.out (le_alloc0 (Nat.le_refl _) _) ?_; intro v2 w2 hown _ _ hb2; rw [List.nil_append] at hown; obtain ⟨A2, n2, c2, rfl, hn2, hr2⟩ := OwL.sl hown)
    have hb12 := ((Below.refl w1.heap.size w1).alloc (Nat.le_refl _) _).trans hb2
    have hB2 := hb1.trans (hb12.mono hb1.size)
    have hn2' : n2 = n := by rw [hn2.out, HL.out]
    have HN2 := bx hn2'
    clear hown hb2 hb12 hb1 hn2'
    have hk := iall_any A2 n2 c2 l x1 w2 hn2.out.symm (by rw [HN2.out]; omega) hr2 h11 h12
    refine hk.mono ?_
    clear hk
    rintro e w3 hp3
    have hB3 := hB2.trans (hp3.1.mono hB2.size)
    have hr23 := hr2.step hp3.1
    have hr3 := r0.step hB3
    obtain ⟨R, hR⟩ : ∃ R, inflP l x1 = R := ⟨_, rfl⟩
    have HR := bx hR
    rw [hR] at hp3
    cases R with
    | err k =>
      obtain ⟨rfl, _, hk0⟩ := allErr hp3 rfl
      clear hp3 hR hr2 hB2
      go_wp2_with fail
      have hk := rall_any A n c l x1 w3 HL.out (by omega) hr3 h11 h12
      refine hk.mono ?_
      clear hk
      rintro e w4 hp4
      rw [HR.out] at hp4
      obtain ⟨rfl, hb4, _⟩ := allErr hp4 rfl
      have hB4 := hB3.trans (hb4.mono hB3.size)
      have hr24 := hr23.step hb4
      have hr4 := r0.step hB4
      have hkk : (k == k) = true := beq_self_eq_true _
      clear hp4 hb4 hr23 hr3 hB3 hk0
      go_wp2_with fail
      refine (same_any none none 0 0 0 0 w4 [] [] rfl rfl (by omega) (by omega) RL.nil RL.nil).mono ?_
      rintro e w5 ⟨rfl, hb5⟩
      have hB5 := hB4.trans (hb5.mono hB4.size)
      have hr25 := hr24.step hb5
      have hr5 := r0.step hB5
      clear hb5 hr24 hr4 hB4
      go_wp2_with fail
      refine (same_any A2 A n2 c2 n c w5 l l hn2.out.symm HL.out (by rw [HN2.out]; omega) (by omega) hr25 hr5).mono ?_
      rintro e w6 ⟨rfl, hb6⟩
      have HB := bx (hB5.trans (hb6.mono hB5.size))
      clear hb6 hB5 hr25 hr5
      go_wp2
      go_ret
      exact ⟨by simp, HB.out⟩
    | ok z =>
      obtain ⟨o, m⟩ := z
      obtain ⟨A3, k3, c3, rfl, hk3, hro, _, _, _, _, ho⟩ := allOk hp3 rfl
      clear hp3 hR hr2 hB2
      go_wp2_with fail
      have hk := rall_any A n c l x1 w3 HL.out (by omega) hr3 h11 h12
      refine hk.mono ?_
      clear hk
      rintro e w4 hp4
      rw [HR.out] at hp4
      obtain ⟨A4, k4, c4, rfl, hk4, hro4, _, hb4, _, _, _⟩ := allOk hp4 rfl
      have hB4 := hB3.trans (hb4.mono hB3.size)
      have hr24 := hr23.step hb4
      have hro3 := hro.step hb4
      have hmm : ((m : Int) == (m : Int)) = true := beq_self_eq_true _
      have hk3b : k3 ≤ 32768 := by rw [hk3.out]; exact ho
      have hk4b : k4 ≤ 32768 := by rw [hk4.out]; exact ho
      clear hp4 hb4 hr23 hr3 hB3 hro
      go_wp2_with fail
      refine (same_any A3 A4 k3 c3 k4 c4 w4 o o hk3.out.symm hk4.out.symm (by omega) (by omega) hro3 hro4).mono ?_
      rintro e w5 ⟨rfl, hb5⟩
      have hdd : decide (o = o) = true := by simp
      rw [hdd]
      have hB5 := hB4.trans (hb5.mono hB4.size)
      have hr25 := hr24.step hb5
      have hr5 := r0.step hB5
      clear hb5 hr24 hB4 hro3 hro4 hdd
      go_wp2_with fail
      refine (same_any A2 A n2 c2 n c w5 l l hn2.out.symm HL.out (by rw [HN2.out]; omega) (by omega) hr25 hr5).mono ?_
      rintro e w6 ⟨rfl, hb6⟩
      have HB := bx (hB5.trans (hb6.mono hB5.size))
      clear hb6 hB5 hr25 hr5
      go_wp2
      go_ret
      exact ⟨by simp, HB.out⟩
set_option maxRecDepth 100000 in
set_option maxHeartbeats 2000000 in
theorem sall_big (A : Option Addr) (n c : Nat) (w : World) (hbig : 32768 < n) :
    Calls Try.prog 16 #[.slice A n c] w fun e w' => e = .returned (.tuple #[.slice none 0 0, .int .i64 8]) ∧ w = w' := by
  have hbI : (32768 : Int) < (n : Int) := by omega
  go_enter Try.func16, Try.ntmps16
  go_wp2
  go_ret2
  exact ⟨rfl, rfl⟩
set_option maxRecDepth 100000 in
set_option maxHeartbeats 2000000 in
theorem squeezeBack_walk (w : World) (A : Option Addr) (n c : Nat) (l : List UInt8) (e0 : l.length = n) (_hc : n ≤ c) (_hm : (c : Int) ≤ 9223372036854775807) (r0 : RB w w.heap.size A l) (b0 : n ≤ 140737488351232) :
    Calls Try.prog 7 #[.slice A n c] w fun e w' => e = .returned (.bool true) ∧ Below w.heap.size w w' := by
  have HL := bx e0
  clear e0
  go_enter Try.func7, Try.ntmps7
  go_wp2_with fail
  refine (sfixed_any w).mono ?_
  rintro e w1 ⟨rfl, hb1⟩
  have HN : Bx ((([] : List UInt8).length + l.length) * 1 ≤ 140737488355328) := bx (by rw [HL.out]; simp; omega)
  have hr1 := r0.step hb1
  go_wp2_with (at_builtin; refine wpList_appL _ bV_one rfl (.tmp 16) (.tmp 17) rfl byteTy (by decide) w1.heap.size _ [] rfl (OwL.lit0 w1 (Nat.le_refl _)) w1.heap.size A n c l rfl HL.out (RL.alloc hr1 (Nat.le_refl _) _) HN.out (le_alloc0 (Nat.le_refl _) _) ?_; intro v2 w2 hown _ _ hb2; rw [List.nil_append] at hown; obtain ⟨A2, c2, rfl, hr2, hc2, _⟩ := OwL.rd hown)
  have hb12 := ((Below.refl w1.heap.size w1).alloc (Nat.le_refl _) _).trans hb2
  have hB2 := hb1.trans (hb12.mono hb1.size)
  clear hown hb2 hb12 hb1
  rw [HL.out] at hc2 ⊢
  by_cases hbig : 32768 < n
  · have hbI : (32768 : Int) < (n : Int) := by omega
    refine (sall_big A2 n c2 w2 hbig).mono ?_
    rintro e w3 ⟨rfl, rfl⟩
    go_wp2
    go_ret
    exact ⟨rfl, hB2⟩
  · have hbI : ¬ (32768 : Int) < (n : Int) := by omega
    have h32 : l.length ≤ 32768 := by rw [HL.out]; omega
    refine (sall_any A2 n c2 l w2 HL.out (by omega) hc2 hr2).mono ?_
    rintro e w3 hp3
    obtain ⟨A3, k3, c3, rfl, hk3, hr3, hkc3, hb3, h4, h5, _⟩ := allSOk hp3 h32
    have hB3 := hB2.trans (hb3.mono hB2.size)
    have hr23 := hr2.step hb3
    clear hp3 hb3 hr2 hB2
    by_cases h5000 : 5000 < n
    · have h5I : (5000 : Int) < (n : Int) := by omega
      clear hr3 hr23
      go_wp2
      go_ret
      exact ⟨rfl, hB3⟩
    · have h5I : ¬ (5000 : Int) < (n : Int) := by omega
      go_wp2_with fail
      refine (sall_any A2 n c2 l w3 HL.out (by omega) hc2 hr23).mono ?_
      rintro e w4 hp4
      obtain ⟨A4, k4, c4, rfl, hk4, hr4, hkc4, hb4, h6, h7, _⟩ := allSOk hp4 h32
      have hB4 := hB3.trans (hb4.mono hB3.size)
      have hr24 := hr23.step hb4
      have hr34 := hr3.step hb4
      have hbk := sqz_back h32 (lim := n) (by rw [HL.out]; exact Nat.le_refl _) (by omega)
      rw [← hk3.out] at hbk
      clear hp4 hb4 hr23 hr3 hB3
      go_wp2_with fail
      have hk := iall_any A3 k3 c3 (sqzP l) (n : Int) w4 hk3.out.symm (by omega) hr34 (by omega) (by omega)
      refine hk.mono ?_
      clear hk
      rintro e w5 hp5
      obtain ⟨A5, k5, c5, rfl, hk5, hr5, _, hb5, _, _, _⟩ := allOk hp5 hbk
      have hB5 := hB4.trans (hb5.mono hB4.size)
      have hr25 := hr24.step hb5
      have hr35 := hr34.step hb5
      have hr45 := hr4.step hb5
      clear hp5 hb5 hr24 hr34 hr4 hB4
      go_wp2_with fail
      have hk := rall_any A3 k3 c3 (sqzP l) (n : Int) w5 hk3.out.symm (by omega) hr35 (by omega) (by omega)
      refine hk.mono ?_
      clear hk
      rintro e w6 hp6
      obtain ⟨A6, k6, c6, rfl, hk6, hr6, _, hb6, _, _, _⟩ := allOk hp6 hbk
      have hB6 := hB5.trans (hb6.mono hB5.size)
      have hr26 := hr25.step hb6
      have hr36 := hr35.step hb6
      have hr46 := hr45.step hb6
      have hr56 := hr5.step hb6
      have hr06 := r0.step hB6
      have hk5' : k5 = n := by rw [hk5.out, HL.out]
      have hk6' : k6 = n := by rw [hk6.out, HL.out]
      have HK5 := bx hk5'
      have HK6 := bx hk6'
      have hkb : ((k3 : Int) == (k3 : Int)) = true := beq_self_eq_true _
      clear hp6 hb6 hr25 hr35 hr45 hr5 hB5 hk5' hk6' hbk
      go_wp2_with fail
      refine (same_any A5 A k5 c5 n c w6 l l hk5.out.symm HL.out (by rw [HK5.out]; omega) (by omega) hr56 hr06).mono ?_
      rintro e w7 ⟨rfl, hb7⟩
      rw [dec_self]
      have hB7 := hB6.trans (hb7.mono hB6.size)
      have hr27 := hr26.step hb7
      have hr37 := hr36.step hb7
      have hr47 := hr46.step hb7
      have hr67 := hr6.step hb7
      have hr07 := r0.step hB7
      clear hb7 hr26 hr36 hr46 hr6 hr56 hr06 hB6
      go_wp2_with fail
      refine (same_any A6 A k6 c6 n c w7 l l hk6.out.symm HL.out (by rw [HK6.out]; omega) (by omega) hr67 hr07).mono ?_
      rintro e w8 ⟨rfl, hb8⟩
      rw [dec_self]
      have hB8 := hB7.trans (hb8.mono hB7.size)
      have hr28 := hr27.step hb8
      have hr38 := hr37.step hb8
      have hr48 := hr47.step hb8
      have hr08 := r0.step hB8
      clear hb8 hr27 hr37 hr47 hr67 hr07 hB7
      go_wp2_with fail
      refine (same_any A3 A4 k3 c3 k4 c4 w8 (sqzP l) (sqzP l) hk3.out.symm hk4.out.symm (by omega) (by omega) hr38 hr48).mono ?_
      rintro e w9 ⟨rfl, hb9⟩
      have hds : decide (sqzP l = sqzP l) = true := by simp
      rw [hds]
      have hB9 := hB8.trans (hb9.mono hB8.size)
      have hr29 := hr28.step hb9
      have hr09 := r0.step hB9
      clear hb9 hr28 hr38 hr48 hr08 hB8 hds
      go_wp2_with fail
      refine (same_any A2 A n c2 n c w9 l l HL.out HL.out (by omega) (by omega) hr29 hr09).mono ?_
      rintro e w10 ⟨rfl, hb10⟩
      rw [dec_self]
      have HB := bx (hB9.trans (hb10.mono hB9.size))
      clear hb10 hB9 hr29 hr09
      go_wp2
      go_ret
      exact ⟨rfl, HB.out⟩
end Go.Proofs.Ytbhljigppljjbaa
