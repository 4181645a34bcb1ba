/- Contract: (*squeeze.out).copy. -/
import Derived.Test.YtbhljigppljjbaaSqzA
namespace Go.Proofs.Ytbhljigppljjbaa
open Go.RowKit

theorem lit_ok {s : Nat} (h : s < 288) : fixLit.getD s 0 ≠ 0 ∧ fixLit.getD s 0 ≤ 15 ∧ wordP fixLit s < 32768 := by
  have e := lit_len s h
  have h1 : fixLit.getD s 0 ≠ 0 ∧ fixLit.getD s 0 ≤ 15 := by rw [e]; split <;> (try split) <;> (try split) <;> omega
  refine ⟨h1.1, h1.2, ?_⟩
  have := word_lt code_lit (by rw [lit_n]; exact h) h1.1 h1.2
  have h2 : 2 ^ fixLit.getD s 0 ≤ 2 ^ 15 := Nat.pow_le_pow_right (by decide) h1.2
  omega
theorem dst_ok {s : Nat} (h : s < 32) : fixDist.getD s 0 ≠ 0 ∧ fixDist.getD s 0 ≤ 15 ∧ wordP fixDist s < 32768 := by
  have e := dst_len s h
  have h1 : fixDist.getD s 0 ≠ 0 ∧ fixDist.getD s 0 ≤ 15 := by rw [e]; omega
  refine ⟨h1.1, h1.2, ?_⟩
  have := word_lt code_dst (by rw [dst_n]; exact h) h1.1 h1.2
  have h2 : 2 ^ fixDist.getD s 0 ≤ 2 ^ 15 := Nat.pow_le_pow_right (by decide) h1.2
  omega
theorem putSym_len (l : List Nat) (S : Pt) (s : Nat) : (putSym l S s).2 = S.2 + l.getD s 0 := putW_len _ _ _
theorem WrS.cells {Av : Nat → Prop} {w : World} {g : Nat} {C D : Value} {S : Pt} (h : WrS Av w g C D S) : w.cell? ⟨g, 2, none⟩ = some C ∧ w.cell? ⟨g, 3, none⟩ = some D := by
  obtain ⟨v, h1, _⟩ := h
  exact ⟨(h1.cell 2).trans rfl, (h1.cell 3).trans rfl⟩
set_option maxHeartbeats 2000000 in
theorem scopy_any (Av : Nat → Prop) (g gl lol gd lod n far : Nat) (S : Pt) (w : World) (hW : WrS Av w g (.pointer (some ⟨gl, 0, none⟩)) (.pointer (some ⟨gd, 0, none⟩)) S) (hC : PCd w lol gl fixLit) (hD : PCd w lod gd fixDist) (hA : InAv Av lol gl) (hB : InAv Av lod gd)
    (h3 : 3 ≤ n) (h258 : n ≤ 258) (hf1 : 1 ≤ far) (hf2 : far ≤ 32768) (hS : S.2 + 80 ≤ 400000) :
    Calls Try.prog 31 #[.pointer (some ⟨g, 0, none⟩), .int .i64 (n : Int), .int .i64 (far : Int)] w fun e w' => e = .returned (.tuple #[]) ∧ WrS Av w' g (.pointer (some ⟨gl, 0, none⟩)) (.pointer (some ⟨gd, 0, none⟩)) (putDst (putLen S n) far) ∧ Kp Av w w' := by
  obtain ⟨U, hU⟩ : ∃ U, putLen S n = U := ⟨_, rfl⟩
  obtain ⟨T, hT⟩ : ∃ T, putDst U far = T := ⟨_, rfl⟩
  rw [hU, hT]
  obtain ⟨s1, m1, w1', hc1⟩ : ∃ s1 m1 w1', classP (n - 3) 4 = (s1, m1, w1') := ⟨_, _, _, rfl⟩
  obtain ⟨s2, m2, w2', hc2⟩ : ∃ s2 m2 w2', classP (far - 1) 2 = (s2, m2, w2') := ⟨_, _, _, rfl⟩
  have hcs2 := class_spread (v := far - 1) (per := 2) (by decide)
  have hcd2 := class_dst (v := far - 1) (by omega)
  rw [hc2] at hcs2 hcd2
  simp only at hcs2 hcd2
  have hm2 : m2 < 1048576 := by
    have : 2 ^ w2' ≤ 2 ^ 13 := Nat.pow_le_pow_right (by decide) hcd2.2
    omega
  have HT : Bx (T = putN (putSym fixDist U s2) w2' m2) := bx (by rw [← hT, putDst, hc2])
  have hd2 := dst_ok (s := s2) (by omega)
  have HC2 := bx hc2
  obtain ⟨c2, c3⟩ := hW.cells
  by_cases h8 : n = 258
  · have HU : Bx (U = putSym fixLit S 285) := bx (by rw [← hU, putLen, if_pos h8])
    have hl := lit_ok (s := 285) (by omega)
    have hlen : (putSym fixLit S 285).2 ≤ S.2 + 15 := by rw [putSym_len]; omega
    have H8 := bx h8
    have hnb : ((n : Int) == 258) = true := by rw [h8]; rfl
    have hp := sput_any Av g gl lol 285 (.pointer (some ⟨gl, 0, none⟩)) (.pointer (some ⟨gd, 0, none⟩)) S fixLit w hW hC hA (by rw [lit_n]; omega) hl.1 hl.2.1 (by rw [lit_n]; omega) hl.2.2 (by omega)
    have HP := bx hp
    clear hU hT hc1 hc2 hcs2 hp h8
    go_enter Try.func31, Try.ntmps31
    go_wp2_with fail
    refine HP.out.mono ?_
    rintro e w1 ⟨rfl, hW1, hK1⟩
    rw [← HU.out] at hW1 hlen
    have hD1 := hD.kp hK1 hB
    obtain ⟨d2, d3⟩ := hW1.cells
    clear c2 c3
    go_wp2_with fail
    refine (class_any ((far : Int) - 1) (far - 1) 2 w1 (by omega) (by omega) (.inl rfl)).mono ?_
    rintro e w2 ⟨rfl, rfl⟩
    rw [HC2.out]
    go_wp2_with fail
    refine (sput_any Av g gd lod s2 _ _ U fixDist w1 hW1 hD1 hB (by rw [dst_n]; omega) hd2.1 hd2.2.1 (by rw [dst_n]; omega) hd2.2.2 (by omega)).mono ?_
    rintro e w3 ⟨rfl, hW3, hK3⟩
    have hlen3 : (putSym fixDist U s2).2 ≤ U.2 + 15 := by rw [putSym_len]; omega
    go_wp2_with fail
    refine (wput_any Av g _ _ (putSym fixDist U s2) w2' m2 w3 hW3 (by omega) hm2 (by omega)).mono ?_
    rintro e w4 ⟨rfl, hW4, hK4⟩
    rw [← HT.out] at hW4
    have hKK := (hK1.trans hK3).trans hK4
    go_wp2_with fail
    go_end0
    exact ⟨rfl, hW4, hKK⟩
  · have HU : Bx (U = putN (putSym fixLit S (257 + s1)) w1' m1) := bx (by rw [← hU, putLen, if_neg h8, hc1])
    have hcs1 := class_spread (v := n - 3) (per := 4) (by decide)
    have hcl1 := class_len (n - 3) (by omega)
    rw [hc1] at hcs1 hcl1
    simp only at hcs1 hcl1
    have hw1 : w1' ≤ 13 := by
      have hx : ∀ v, v < 255 → (classP v 4).2.2 ≤ 13 := by decide +kernel
      have := hx (n - 3) (by omega)
      rw [hc1] at this; exact this
    have hm1 : m1 < 1048576 := by
      have : 2 ^ w1' ≤ 2 ^ 13 := Nat.pow_le_pow_right (by decide) hw1
      omega
    have hl := lit_ok (s := 257 + s1) (by omega)
    have hlen : (putSym fixLit S (257 + s1)).2 ≤ S.2 + 15 := by rw [putSym_len]; omega
    have hnb : ((n : Int) == 258) = false := by rw [beq_eq_false_iff_ne]; omega
    have HC1 := bx hc1
    clear hU hT hc1 hc2 hcs2 hcs1 h8
    go_enter Try.func31, Try.ntmps31
    go_wp2_with fail
    refine (class_any ((n : Int) - 3) (n - 3) 4 w (by omega) (by omega) (.inr rfl)).mono ?_
    rintro e w0 ⟨rfl, rfl⟩
    rw [HC1.out]
    have hsum : (257 : Int) + (s1 : Int) = ((257 + s1 : Nat) : Int) := by omega
    have HS := bx hsum
    clear hsum
    go_wp2_with fail
    rw [HS.out]
    refine (sput_any Av g gl lol (257 + s1) _ _ S fixLit w hW hC hA (by rw [lit_n]; omega) hl.1 hl.2.1 (by rw [lit_n]; omega) hl.2.2 (by omega)).mono ?_
    rintro e w1 ⟨rfl, hW1, hK1⟩
    have hD1 := hD.kp hK1 hB
    go_wp2_with fail
    refine (wput_any Av g _ _ (putSym fixLit S (257 + s1)) w1' m1 w1 hW1 (by omega) hm1 (by omega)).mono ?_
    rintro e w2 ⟨rfl, hW2, hK2⟩
    rw [← HU.out] at hW2
    have hU2 : U.2 ≤ S.2 + 28 := by rw [HU.out]; show (putSym fixLit S (257 + s1)).2 + w1' ≤ _; omega
    have hD2 := hD1.kp hK2 hB
    obtain ⟨d2, d3⟩ := hW2.cells
    clear c2 c3
    go_wp2_with fail
    refine (class_any ((far : Int) - 1) (far - 1) 2 w2 (by omega) (by omega) (.inl rfl)).mono ?_
    rintro e w3 ⟨rfl, rfl⟩
    rw [HC2.out]
    go_wp2_with fail
    refine (sput_any Av g gd lod s2 _ _ U fixDist w2 hW2 hD2 hB (by rw [dst_n]; omega) hd2.1 hd2.2.1 (by rw [dst_n]; omega) hd2.2.2 (by omega)).mono ?_
    rintro e w4 ⟨rfl, hW4, hK4⟩
    have hlen3 : (putSym fixDist U s2).2 ≤ U.2 + 15 := by rw [putSym_len]; omega
    go_wp2_with fail
    refine (wput_any Av g _ _ (putSym fixDist U s2) w2' m2 w4 hW4 (by omega) hm2 (by omega)).mono ?_
    rintro e w5 ⟨rfl, hW5, hK5⟩
    rw [← HT.out] at hW5
    have hKK := ((hK1.trans hK2).trans hK4).trans hK5
    go_wp2_with fail
    go_end0
    exact ⟨rfl, hW5, hKK⟩
end Go.Proofs.Ytbhljigppljjbaa
