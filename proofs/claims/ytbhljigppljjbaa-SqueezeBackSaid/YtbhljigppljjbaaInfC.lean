/- Contract: (*inflate.state).stored. -/
import Derived.Test.YtbhljigppljjbaaInfT
import Derived.Outline
namespace Go.Proofs.Ytbhljigppljjbaa
open Go.RowKit

theorem drop_take_at {b : List UInt8} {f n k : Nat} (h : f + k < b.length) (hk : k < n) : ((b.drop f).take n)[k]? = some (b.getD (f + k) 0) := by
  rw [List.getElem?_take, if_pos hk, List.getElem?_drop, List.getElem?_eq_getElem h, List.getD_eq_getElem?_getD, List.getElem?_eq_getElem h]; rfl
theorem u16_two (x y : UInt8) : bits .or .u16 (x.toNat : Int) ((y.toNat : Int) * 256) = ((x.toNat + 256 * y.toNat : Nat) : Int) := by
  have hk : ∀ n : Int, 0 ≤ n → n < 2 ^ 16 → IntKind.u16.wrap n = n := fun n h0 h1 => by
    have : IntKind.u16.wrap n = n % 65536 := by simp [IntKind.wrap, IntKind.bits, IntKind.signed]
    rw [this]; omega
  have hx := x.toNat_lt
  have hy := y.toNat_lt
  have e : (y.toNat : Int) * 256 = ((2 ^ 8 * y.toNat : Nat) : Int) := by rw [Int.natCast_mul, Int.mul_comm]; rfl
  rw [e, (bits_nat .u16 16 (by decide) hk x.toNat (2 ^ 8 * y.toNat) (by omega) (by omega)).2, Nat.or_comm, ← Nat.two_pow_add_eq_or_of_lt hx]
  omega
theorem xor_all (m : Nat) (hm : m < 65536) : 65535 ^^^ m = 65535 - m := by
  apply Nat.eq_of_testBit_eq
  intro i
  have e : 65535 - m = 2 ^ 16 - (m + 1) := by omega
  rw [e, Nat.testBit_two_pow_sub_succ hm, Nat.testBit_xor, show (65535 : Nat) = 2 ^ 16 - 1 by decide, Nat.testBit_two_pow_sub_one]
  by_cases h : i < 16
  · simp [h]
  · have : m.testBit i = false := Nat.testBit_lt_two_pow (Nat.lt_of_lt_of_le hm (by
      have : 2 ^ 16 ≤ 2 ^ i := Nat.pow_le_pow_right (by decide) (by omega)
      omega))
    simp [h, this]
theorem u16_not (m : Nat) (hm : m < 65536) : bits .xor .u16 (if IntKind.u16.signed = true then -1 else IntKind.u16.max) (m : Int) = ((65535 - m : Nat) : Int) := by
  rw [← xor_all m hm]
  have hk : ∀ n : Int, 0 ≤ n → n < 2 ^ 16 → IntKind.u16.wrap n = n := fun n h0 h1 => by
    have : IntKind.u16.wrap n = n % 65536 := by simp [IntKind.wrap, IntKind.bits, IntKind.signed]
    rw [this]; omega
  show bits .xor .u16 ((65535 : Nat) : Int) (m : Int) = _
  have h1 : 65535 ^^^ m < 2 ^ 16 := Nat.xor_lt_two_pow (by decide) hm
  simp only [bits, BitVec.ofInt_natCast, BitVec.toNat_xor, BitVec.toNat_ofNat]
  have e1 : 65535 % 2 ^ IntKind.u16.bits = 65535 := by decide
  have e2 : m % 2 ^ IntKind.u16.bits = m := Nat.mod_eq_of_lt hm
  rw [e1, e2]
  exact hk _ (Int.natCast_nonneg _) (by omega)
theorem add_zero (a : Addr) : a.add 0 = a := by unfold Addr.add; simp
set_option maxRecDepth 100000 in
set_option maxHeartbeats 1000000 in
theorem istored_any (gs gr B : Nat) (b : List UInt8) (p lim : Nat) (out : List UInt8) (w : World) (h : ISt w gs gr B b p lim out) :
    Calls Try.prog 34 #[.pointer (some ⟨gs, 0, none⟩)] w (IPost (storedP b lim p out) w gs gr b lim) := by
  obtain ⟨R, hRR⟩ : ∃ R, storedP b lim p out = R := ⟨_, rfl⟩
  rw [hRR]
  have HR := bx hRR
  clear hRR
  have hlt := h.lt
  obtain ⟨v, hK, hR, hO, hv, hgs, hol, hlim⟩ := id h
  have hble := hR.le
  obtain ⟨f, hf⟩ : ∃ f, (p + 7) / 8 = f := ⟨_, rfl⟩
  have HFF := bx hf
  have c0 : w.cell? ⟨gs, 0, none⟩ = some (.pointer (some ⟨gr, 0, none⟩)) := (hK.cell 0).trans rfl
  clear hf
  by_cases h4 : b.length < f + 4
  · have HF : Bx (R = .err 2) := bx (by rw [← HR.out, storedP, HFF.out, if_pos h4])
    go_enter Try.func34, Try.ntmps34
    go_wp2_with fail
    refine (bbytes_short gr b p 4 w hR (by omega) (by rw [HFF.out]; exact h4)).mono ?_
    rintro e w1 ⟨rfl, hb1⟩
    go_wp2
    go_ret
    exact iPost_err HF.out (hb1.mono (by omega))
  · go_enter Try.func34, Try.ntmps34
    go_wp2_with fail
    refine (bbytes_ok gr b p 4 f w hR (by omega) HFF.out (by omega)).mono ?_
    rintro e w1 ⟨A1, cc1, rfl, hcc1, hr1, hA1, hR1, hg1⟩
    have hS1 := h.next hg1 hR1
    obtain ⟨ad, x0, hA0, hadb, hx0, hc0⟩ := RL.byte hr1 (k := 0) (by simp; omega)
    obtain ⟨ad1, x1, hA1', _, hx1, hc1⟩ := RL.byte hr1 (k := 1) (by simp; omega)
    obtain ⟨ad2, x2, hA2', _, hx2, hc2⟩ := RL.byte hr1 (k := 2) (by simp; omega)
    obtain ⟨ad3, x3, hA3', _, hx3, hc3⟩ := RL.byte hr1 (k := 3) (by simp; omega)
    rw [hA0] at hA1' hA2' hA3' hA1
    injection hA1' with e1
    injection hA2' with e2
    injection hA3' with e3
    subst e1 e2 e3 hA0
    have b0 : byteN b f = x0.toNat := by
      have := drop_take_at (b := b) (f := f) (n := 4) (k := 0) (by omega) (by omega)
      rw [hx0.out] at this; injection this with this; unfold byteN; rw [this]; rfl
    have b1 : byteN b (f + 1) = x1.toNat := by
      have := drop_take_at (b := b) (f := f) (n := 4) (k := 1) (by omega) (by omega)
      rw [hx1.out] at this; injection this with this; unfold byteN; rw [this]
    have b2 : byteN b (f + 2) = x2.toNat := by
      have := drop_take_at (b := b) (f := f) (n := 4) (k := 2) (by omega) (by omega)
      rw [hx2.out] at this; injection this with this; unfold byteN; rw [this]
    have b3 : byteN b (f + 3) = x3.toNat := by
      have := drop_take_at (b := b) (f := f) (n := 4) (k := 3) (by omega) (by omega)
      rw [hx3.out] at this; injection this with this; unfold byteN; rw [this]
    have HR2 : Bx (R = (if x0.toNat + 256 * x1.toNat + (x2.toNat + 256 * x3.toNat) ≠ 65535 then .err 4 else if lim < out.length + (x0.toNat + 256 * x1.toNat) then .err 8
        else if b.length < f + 4 + (x0.toNat + 256 * x1.toNat) then .err 2 else .ok (out ++ (b.drop (f + 4)).take (x0.toNat + 256 * x1.toNat), 8 * (f + 4 + (x0.toNat + 256 * x1.toNat))))) := bx (by
      rw [← HR.out, storedP, HFF.out, if_neg (by omega), b0, b1, b2, b3])
    have hor1 := u16_two x0 x1
    have hor2 := u16_two x2 x3
    have hx08 := x0.toNat_lt
    have hx18 := x1.toNat_lt
    have hx28 := x2.toNat_lt
    have hx38 := x3.toNat_lt
    obtain ⟨n0, hn0⟩ : ∃ n0, x0.toNat + 256 * x1.toNat = n0 := ⟨_, rfl⟩
    obtain ⟨m0, hm0⟩ : ∃ m0, x2.toNat + 256 * x3.toNat = m0 := ⟨_, rfl⟩
    rw [hn0] at HR2 hor1
    rw [hm0] at HR2 hor2
    have hn16 : n0 < 65536 := by omega
    have hm16 : m0 < 65536 := by omega
    have hxor := u16_not m0 hm16
    have hc0' : w1.cell? ad = some (.int .u8 (x0.toNat : Int)) := by rw [add_zero] at hc0; exact hc0
    have hc1' : w1.cell? ⟨ad.block, ad.off + 1, none⟩ = some (.int .u8 (x1.toNat : Int)) := by rw [add_pos] at hc1; exact hc1
    have hc2' : w1.cell? ⟨ad.block, ad.off + 2, none⟩ = some (.int .u8 (x2.toNat : Int)) := by rw [add_pos] at hc2; exact hc2
    have hc3' : w1.cell? ⟨ad.block, ad.off + 3, none⟩ = some (.int .u8 (x3.toNat : Int)) := by rw [add_pos] at hc3; exact hc3
    clear hc0 hc1 hc2 hc3 b0 b1 b2 b3 hn0 hm0
    have hb1 : Below gr w w1 := gb_under hg1 (by have := hR.lt; omega)
    go_wp2
    go_quiet (fail)
    rename Nat => nq1
    have hS1 : ISt (w1.drewN nq1) gs gr B b (8 * (f + 4)) lim out := hS1
    have hb1 : Below gr w (w1.drewN nq1) := below_drewN hb1 nq1
    have hc2' : (w1.drewN nq1).cell? ⟨ad.block, ad.off + 2, none⟩ = some (.int .u8 (x2.toNat : Int)) := hc2'
    have hc3' : (w1.drewN nq1).cell? ⟨ad.block, ad.off + 3, none⟩ = some (.int .u8 (x3.toNat : Int)) := hc3'
    clear hc0' hc1' hr1 hR1 hA1 hg1
    generalize w1.drewN nq1 = w1 at hS1 hb1 hc2' hc3' ⊢
    go_wp2
    go_quiet (fail)
    rename Nat => nq2
    have hS2 := hS1.drewN nq2
    have hb2 : Below gr w (w1.drewN nq2) := below_drewN hb1 nq2
    by_cases hnm : n0 + m0 = 65535
    · have hne : ((n0 : Int) != ((65535 - m0 : Nat) : Int)) = false := by rw [bne_eq_false_iff_eq]; omega
      rw [if_neg (by omega)] at HR2
      obtain ⟨v1, hK1, hRx, hO1, hv1, _⟩ := id hS2
      have d0 : (w1.drewN nq2).cell? ⟨gs, 0, none⟩ = some (.pointer (some ⟨gr, 0, none⟩)) := (hK1.cell 0).trans rfl
      obtain ⟨Av, cv, rfl, hrv, hcv, _⟩ := OwL.rd hO1
      have d1 : (w1.drewN nq2).cell? ⟨gs, 1, none⟩ = some (.slice Av out.length cv) := (hK1.cell 1).trans rfl
      have d2 : (w1.drewN nq2).cell? ⟨gs, 2, none⟩ = some (.int .i64 (lim : Int)) := (hK1.cell 2).trans rfl
      have z1 := hK1.frz 1
      have i1 : IntKind.i64.wrap ((lim : Int) - (out.length : Int)) = (lim : Int) - (out.length : Int) := IntWalk.i64_in _ (by omega)
      have HNM := bx hnm
      clear hnm hor1 hor2 hxor hc2' hc3' c0 hK hR hO hv hS1 hb1
      generalize w1.drewN nq2 = w2 at hK1 hS2 hb2 d0 d1 d2 z1 hRx hO1 hrv ⊢
      go_wp2_with fail
      by_cases hlong : lim < out.length + n0
      · have HF : Bx (R = .err 8) := bx (by rw [HR2.out, if_pos hlong])
        have hgt : (lim : Int) - (out.length : Int) < (n0 : Int) := by omega
        clear HR2
        go_quiet (fail)
        rename Nat => nq3
        go_wp2
        go_ret
        exact iPost_err HF.out (below_drewN hb2 _)
      · have hgt : ¬ (lim : Int) - (out.length : Int) < (n0 : Int) := by omega
        rw [if_neg hlong] at HR2
        go_quiet (fail)
        rename Nat => nq3
        clear i1 hgt
        have hS3 := hS2.drewN nq3
        have hb3 := below_drewN hb2 nq3
        have d0' : (w2.drewN nq3).cell? ⟨gs, 0, none⟩ = some (.pointer (some ⟨gr, 0, none⟩)) := d0
        have d1' : (w2.drewN nq3).cell? ⟨gs, 1, none⟩ = some (.slice Av out.length cv) := d1
        have z1' : (w2.drewN nq3).frozen? ⟨gs, 1, none⟩ = false := z1
        have hO3 := hO1.drewN nq3
        have hR3 : BRd (w2.drewN nq3) gr b (8 * (f + 4)) := hRx
        have hK3 := hK1.drewN nq3
        clear d0 d1 d2 z1 hO1 hRx hS2 hb2 hrv hK1
        generalize w2.drewN nq3 = w3 at hK3 hS3 hb3 d0' d1' z1' hO3 hR3 ⊢
        have hf4 : (8 * (f + 4) + 7) / 8 = f + 4 := by omega
        by_cases hshort : b.length < f + 4 + n0
        · have HF : Bx (R = .err 2) := bx (by rw [HR2.out, if_pos hshort])
          go_wp2_with fail
          refine (bbytes_short gr b (8 * (f + 4)) n0 w3 hR3 (by omega) (by rw [hf4]; exact hshort)).mono ?_
          rintro e w4 ⟨rfl, hb4⟩
          have d1'' : w4.cell? ⟨gs, 1, none⟩ = some (.slice Av out.length cv) := by rw [hb4.cell (by exact hS3.lt.2)]; exact d1'
          have z1'' : w4.frozen? ⟨gs, 1, none⟩ = false := by rw [hb4.frozen (by exact hS3.lt.2)]; exact z1'
          have HB := bx (hb3.trans (hb4.mono (by have := hS3.lt; omega)))
          have hO4 := hO3.below hb4
          have HL : Bx ((out.length + ([] : List UInt8).length) * 1 ≤ 140737488355328) := bx (by simp; omega)
          have hlz : gs + 1 ≤ w4.heap.size := by have := hS3.lt; have := hb4.size; omega
          clear HR2
          go_wp2_with (at_builtin; refine wpList_appL _ bV_one rfl (.tmp 68) (.tmp 69) rfl byteTy (by decide) (gs + 1) _ out rfl hO4 0 none 0 0 [] rfl rfl RL.nil HL.out hlz ?_; intro v5 w5 hO5 hg5 _ hb5; obtain ⟨A5, n5, c5, rfl, _, _⟩ := OwL.sl hO5; have e1 := (hb5.cell (p := ⟨gs, 1, none⟩) (Nat.lt_succ_self gs)).trans d1''; have e2 := (hb5.frozen (p := ⟨gs, 1, none⟩) (Nat.lt_succ_self gs)).trans z1'')
          have HB5 := bx ((HB.out.trans (hb5.mono (by omega))).setCell (p := ⟨gs, 1, none⟩) (by show gr ≤ gs; omega) (.slice A5 n5 c5))
          go_ret
          exact iPost_err HF.out HB5.out
        · have HF : Bx (R = .ok (out ++ (b.drop (f + 4)).take n0, 8 * (f + 4 + n0))) := bx (by rw [HR2.out, if_neg hshort])
          go_wp2_with fail
          refine (bbytes_ok gr b (8 * (f + 4)) n0 (f + 4) w3 hR3 (by omega) hf4 (by omega)).mono ?_
          rintro e w4 ⟨A4, c4, rfl, hcc4, hr4, hA4, hR4, hg4⟩
          have hgs3 := hS3.lt
          have hK4 := hK3.grown hg4 (fun e => by injection e; omega)
          have hO4 := hO3.keptAt hg4 (by omega)
          have hb4 := hb3.trans (gb_under hg4 (by omega))
          have hz4 := hg4.size
          have d1'' : w4.cell? ⟨gs, 1, none⟩ = some (.slice Av out.length cv) := (hK4.cell 1).trans rfl
          have z1'' := hK4.frz 1
          have hlen : ((b.drop (f + 4)).take n0).length = n0 := by simp; omega
          have HL0 := bx hlen
          have HL : Bx ((out.length + ((b.drop (f + 4)).take n0).length) * 1 ≤ 140737488355328) := bx (by rw [hlen]; omega)
          have hlz : gs + 1 ≤ w4.heap.size := by omega
          clear HR2 hlen hK3 hO3 hg4 hR3 d0' d1' z1' hb3
          go_wp2_with (at_builtin; refine wpList_appL _ bV_one rfl (.tmp 68) (.tmp 69) rfl byteTy (by decide) (gs + 1) _ out rfl hO4 w4.heap.size A4 n0 c4 _ rfl HL0.out hr4 HL.out hlz ?_; intro v5 w5 hO5 hg5 _ hb5; obtain ⟨A5, n5, c5, rfl, _, _⟩ := OwL.sl hO5; have e1 := (hb5.cell (p := ⟨gs, 1, none⟩) (Nat.lt_succ_self gs)).trans d1''; have e2 := (hb5.frozen (p := ⟨gs, 1, none⟩) (Nat.lt_succ_self gs)).trans z1'')
          have HB5 := bx ((hb4.trans (hb5.mono (by omega))).setCell (p := ⟨gs, 1, none⟩) (by show gr ≤ gs; omega) (.slice A5 n5 c5))
          have hK5 : Bk (w5.setCell ⟨gs, 1, none⟩ (.slice A5 n5 c5)) gs 44 #[.pointer (some ⟨gr, 0, none⟩), (.slice A5 n5 c5), .int .i64 (lim : Int)] := by
            have := (hK4.below hb5 (by omega)).set 1 (.slice A5 n5 c5)
            simpa using this
          have hR5 : BRd (w5.setCell ⟨gs, 1, none⟩ (.slice A5 n5 c5)) gr b (8 * (f + 4 + n0)) := (hR4.below hb5 (by omega)).keep fun i hi => Below.heap_setCell w5 ⟨gs, 1, none⟩ (.slice A5 n5 c5) i (by show i ≠ gs; omega)
          have hO6 : OwB (w5.setCell ⟨gs, 1, none⟩ (.slice A5 n5 c5)) (gs + 1) 5 (.slice A5 n5 c5) (out ++ (b.drop (f + 4)).take n0) := hO5.agree fun k hk1 _ => Below.heap_setCell w5 ⟨gs, 1, none⟩ (.slice A5 n5 c5) k (by show k ≠ gs; omega)
          have HS : Bx (ISt (w5.setCell ⟨gs, 1, none⟩ (.slice A5 n5 c5)) gs gr (w5.setCell ⟨gs, 1, none⟩ (.slice A5 n5 c5)).heap.size b (8 * (f + 4 + n0)) lim (out ++ (b.drop (f + 4)).take n0)) := bx
            ⟨.slice A5 n5 c5, hK5, hR5, hO6, fun k hk => (World.ownsRow.lt hO6 k hk).2, hgs3.1, by rw [List.length_append, HL0.out]; omega, hlim⟩
          go_ret
          exact iPost_ok HF.out HB5.out HS.out
    · have hne : ((n0 : Int) != ((65535 - m0 : Nat) : Int)) = true := by rw [bne_iff_ne]; omega
      have HF : Bx (R = .err 4) := bx (by rw [HR2.out, if_pos hnm])
      clear HR2 hnm
      go_wp2
      go_ret
      exact iPost_err HF.out hb2
end Go.Proofs.Ytbhljigppljjbaa
