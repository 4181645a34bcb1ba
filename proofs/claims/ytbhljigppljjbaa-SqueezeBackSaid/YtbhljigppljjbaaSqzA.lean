/- Contracts: (*prefix.Code).Word, squeeze.class, (*squeeze.out).put. -/
import Derived.Test.YtbhljigppljjbaaWrt
import Derived.Test.YtbhljigppljjbaaSqzD
import Derived.Test.YtbhljigppljjbaaPfxC
namespace Go.Proofs.Ytbhljigppljjbaa
open Go.RowKit

theorem ret_i3 {a b c d e f : Int} (h1 : a = b) (h2 : c = d) (h3 : e = f) : Ending.returned (.tuple #[.int .i64 a, .int .i64 c, .int .i64 e]) = .returned (.tuple #[.int .i64 b, .int .i64 d, .int .i64 f]) := by rw [h1, h2, h3]
theorem MapT.run_at {κ : Type} {f : κ → Value} {P : Program} {k : TypeId} {w : World} {b n : Nat} {G : κ → Option Value} {t e : TypeId} {z v : Value} (hown : MapT f w P k b n G) (K : Maps.Keyed P k) (ht : P.underlying t = some (.map k e)) (hz : (zeroValue e).run P w = .ok z w) {y : κ} {kl : Lit} (hkey : keyOf P k (f y) = some kl) (hG : (G y).getD z = v) :
    (Instr.lookup t (.map (some b)) (f y) false).run P w = .ok v w := by
  obtain ⟨F, ⟨D, h, r⟩, rG⟩ := hown
  obtain ⟨r1, r2⟩ := r kl (K.key hkey)
  have hF := rG y kl hkey
  obtain ⟨u, ps, hrun, hv⟩ := h.lookup K ht hz (zd := .held z) (zp := []) rfl hkey
  have hv' : u = (F kl).getD z := by
    rw [r1] at hv
    unfold heldR at hv
    simp only [Option.some.injEq, Prod.mk.injEq] at hv
    cases hF : F kl with
    | none => rw [hF] at hv; simpa using hv.1
    | some u => rw [hF] at hv; simpa using hv.1
  rw [hrun, hv', hF, hG]
set_option maxHeartbeats 1000000 in
theorem pword_any (g lo s : Nat) (l : List Nat) (w : World) (hC : PCd w lo g l) (hs : s < l.length) (hm : l.getD s 0 ≠ 0) (h15 : l.getD s 0 ≤ 15) (hl : l.length ≤ 288) (hw : wordP l s < 32768) :
    Calls Try.prog 42 #[.pointer (some ⟨g, 0, none⟩), .int .i64 (s : Int)] w fun e w' => e = .returned (.tuple #[.int .i64 (wordP l s : Int), .int .i64 (l.getD s 0 : Int)]) ∧ Below w.heap.size w w' := by
  obtain ⟨ms, mw, n1, n2, hB, _, hM, _, _, _, _⟩ := hC
  have c1 : w.cell? ⟨g, 1, none⟩ = some (.map (some mw)) := (hB.cell 1).trans rfl
  have hki : keyOf Try.prog 3 (iV (s : Int)) = some (.int .i64 (s : Int)) := Maps.keyOf_int_mk Try.underlying3 (Go.WalkArith.wf_i64 (by omega))
  have hG : (wrdG l l.length (s : Int)).getD (wordV (0, 0)) = .agg #[.int .u8 (l.getD s 0 : Int), .int .u16 (wordP l s : Int)] := by
    unfold wrdG
    rw [if_pos (by omega), Int.toNat_natCast]
    unfold wordOf
    rw [if_neg hm]; rfl
  have hlk := hM.run_at (Maps.int_keyed Try.underlying3) Try.underlying94 (zero_word w) hki hG
  have hiv : iV (s : Int) = .int .i64 (s : Int) := rfl
  rw [hiv] at hlk
  obtain ⟨m, hmm⟩ : ∃ m, l.getD s 0 = m := ⟨_, rfl⟩
  obtain ⟨W, hWW⟩ : ∃ W, wordP l s = W := ⟨_, rfl⟩
  rw [hmm, hWW] at hlk ⊢
  rw [hmm] at h15
  rw [hWW] at hw
  have hbl := bl_alloc (Below.refl w.heap.size w) (Nat.le_refl _) (.cells #[.int .u8 (m : Int), .int .u16 (W : Int)] 99)
  have HB := bx hbl
  clear hiv hG hki hmm hWW hM hB hbl hm
  go_enter Try.func42, Try.ntmps42
  go_wp2
  go_quiet (fail)
  rename Nat => nq
  go_wp2
  go_ret2
  exact ⟨rfl, below_drewN HB.out nq⟩
theorem and_mask64 (v n : Nat) (hv : v < 32768) (hn : n ≤ 15) : bits .and .i64 (v : Int) (2 ^ n - 1) = ((v % 2 ^ n : Nat) : Int) := by
  have hk : ∀ x : Int, 0 ≤ x → x < 2 ^ 16 → IntKind.i64.wrap x = x := fun x h0 h1 => IntWalk.i64_in _ (by omega)
  rw [bits_mask .i64 16 (by decide) hk n (by omega) _ (by omega) (by omega)]
  simp
theorem wide_step {f v per k : Nat} (h : 2 * per ≤ v / 2 ^ k) : wideF (f + 1) v per k = wideF f v per (k + 1) := by rw [wideF, if_pos h]
theorem wide_end {f v per k : Nat} (h : ¬ 2 * per ≤ v / 2 ^ k) : wideF f v per k = k := by
  cases f with
  | zero => rfl
  | succ f => rw [wideF, if_neg h]
set_option maxHeartbeats 1000000 in
theorem class_any (a : Int) (v per : Nat) (w : World) (ha : a = (v : Int)) (hv : v < 32768) (hp : per = 2 ∨ per = 4) :
    Calls Try.prog 43 #[.int .i64 a, .int .i64 (per : Int)] w fun e w' => e = .returned (.tuple #[.int .i64 ((classP v per).1 : Int), .int .i64 ((classP v per).2.1 : Int), .int .i64 ((classP v per).2.2 : Int)]) ∧ w = w' := by
  subst ha
  obtain ⟨c, hc⟩ : ∃ c, classP v per = c := ⟨_, rfl⟩
  rw [hc]
  have hp2 : 2 ≤ per ∧ per ≤ 4 := by omega
  by_cases h : v < 2 * per
  · have HC : Bx (c = (v, 0, 0)) := bx (by rw [← hc, classP, if_pos h])
    have hI : (v : Int) < 2 * (per : Int) := by omega
    clear hc
    go_enter Try.func43, Try.ntmps43
    go_wp2
    go_ret3
    rw [HC.out]
    exact ⟨rfl, rfl⟩
  · have HC : Bx (c = (per * (wideP v per + 1) + v / 2 ^ wideP v per - per, v % 2 ^ wideP v per, wideP v per)) := bx (by rw [← hc, classP, if_neg h])
    have hI : ¬ (v : Int) < 2 * (per : Int) := by omega
    clear hc
    go_enter Try.func43, Try.ntmps43
    go_wp2
    go_loopg [6] v (fun κ kk wr => ∃ k : Nat, κ = v - k ∧ k ≤ 15 ∧ kk = .int .i64 (k : Int) ∧ Bx (2 ^ k ≤ v) ∧ Bx (wideP v per = wideF (v - k) v per k) ∧ w = wr)
    case atStart => exact ⟨0, by omega, by omega, rfl, bx (by simp; omega), bx rfl, rfl⟩
    case round =>
      obtain ⟨k, hgk, hk, rfl, hpw, hwd, rfl⟩ := hrel
      obtain ⟨q, hq⟩ : ∃ q, v / 2 ^ k = q := ⟨_, rfl⟩
      have hqI : (v : Int) / 2 ^ k = (q : Int) := by rw [← hq]; simp
      have hkv : k < v := Nat.lt_of_lt_of_le Nat.lt_two_pow_self hpw.out
      by_cases hgo : 2 * per ≤ q
      · have HW : Bx (wideP v per = wideF (v - (k + 1)) v per (k + 1)) := bx (by
          rw [hwd.out, show v - k = (v - (k + 1)) + 1 by omega, wide_step (by rw [hq]; exact hgo)])
        have h2 : 2 ^ (k + 1) ≤ v := by
          rw [Nat.pow_succ]
          have := Nat.mul_le_of_le_div (2 ^ k) 4 v (by rw [hq]; omega)
          omega
        have h14 : k ≤ 14 := by
          rcases Nat.lt_or_ge 14 k with h | h
          · have : 2 ^ 16 ≤ 2 ^ (k + 1) := Nat.pow_le_pow_right (by decide) (by omega)
            omega
          · exact h
        have hgI : 2 * (per : Int) ≤ (q : Int) := by omega
        have H2 := bx h2
        clear hq h2
        go_wp2
        go_roundg (v - (k + 1))
        case rel => exact ⟨k + 1, rfl, by omega, by go_num, H2, HW, rfl⟩
        case measure => omega
      · have HW : Bx (wideP v per = k) := bx (by rw [hwd.out, wide_end (by rw [hq]; exact hgo)])
        have hgI : ¬ 2 * (per : Int) ≤ (q : Int) := by omega
        have hand := and_mask64 v k hv hk
        have hq32 : q < 32768 := by rw [← hq]; exact Nat.lt_of_le_of_lt (Nat.div_le_self _ _) hv
        have HQ := bx hq
        have hper : per * (k + 1) ≤ 4 * 16 := Nat.mul_le_mul hp2.2 (by omega)
        have hperI : (per : Int) * ((k : Int) + 1) = ((per * (k + 1) : Nat) : Int) := by simp
        obtain ⟨pk, hpk⟩ : ∃ pk, per * (k + 1) = pk := ⟨_, rfl⟩
        rw [hpk] at hper hperI
        have HPK := bx hpk
        have h2k : (2 : Int) ^ k ≤ 32768 ∧ 0 < (2 : Int) ^ k := by
          have h1 : (2 : Nat) ^ k ≤ 2 ^ 15 := Nat.pow_le_pow_right (by decide) hk
          have h2 : 0 < (2 : Nat) ^ k := Nat.two_pow_pos k
          have e : (2 : Int) ^ k = ((2 ^ k : Nat) : Int) := by simp
          rw [e]; omega
        clear hq hpk
        go_wp2
        go_ret3
        have hc1 : c = (pk + q - per, v % 2 ^ k, k) := by rw [HC.out, HW.out, HQ.out, HPK.out]
        have hle : per ≤ pk + q := by
          have h1 := HPK.out
          have h2 : per * 1 ≤ per * (k + 1) := Nat.mul_le_mul (Nat.le_refl _) (by omega)
          omega
        rw [hc1]
        exact ⟨ret_i3 (by show (pk : Int) + (q : Int) - (per : Int) = ((pk + q - per : Nat) : Int); omega) (by simp) rfl, rfl⟩
/-- The code's blocks are among those that stay. -/
def InAv (Av : Nat → Prop) (lo g : Nat) : Prop := ∀ k, lo ≤ k → k ≤ g → Av k
theorem PCd.kp {Av : Nat → Prop} {w w' : World} {lo g : Nat} {l : List Nat} (h : PCd w lo g l) (hk : Kp Av w w') (hA : InAv Av lo g) : PCd w' lo g l := h.keep fun i h1 h2 => hk.same i (hA i h1 h2)
theorem WrS.step {Av : Nat → Prop} {w w' : World} {g : Nat} {C D : Value} {S : Pt} (h : WrS Av w g C D S) (hb : Below w.heap.size w w') : WrS Av w' g C D S := by
  obtain ⟨v, h1, h2, h3, h4, h5, h6⟩ := h
  exact ⟨v, h1.below hb h1.lt, h2.below hb, h3, h4, fun k hk => Nat.lt_of_lt_of_le (h5 k hk) hb.size, h6⟩
theorem Kp.step {Av : Nat → Prop} {a b c : World} (h : Kp Av a b) (hA : ∀ k, Av k → k < a.heap.size) (hb : Below b.heap.size b c) : Kp Av a c :=
  ⟨hb.os.trans h.os, hb.tape.trans h.tape, hb.output.trans h.output, Nat.le_trans h.size hb.size, fun k hk => (hb.block k (Nat.lt_of_lt_of_le (hA k hk) h.size)).trans (h.same k hk)⟩
theorem WrS.av {Av : Nat → Prop} {w : World} {g : Nat} {C D : Value} {S : Pt} (h : WrS Av w g C D S) : ∀ k, Av k → k < w.heap.size := by
  obtain ⟨_, _, _, _, _, h5, _⟩ := h; exact h5
set_option maxHeartbeats 1000000 in
theorem sput_any (Av : Nat → Prop) (g gc lo s : Nat) (C D : Value) (S : Pt) (l : List Nat) (w : World) (hW : WrS Av w g C D S) (hC : PCd w lo gc l) (hA : InAv Av lo gc) (hs : s < l.length) (hm : l.getD s 0 ≠ 0) (h15 : l.getD s 0 ≤ 15) (hl : l.length ≤ 288) (hw : wordP l s < 32768) (hS : S.2 + 16 ≤ 400000) :
    Calls Try.prog 30 #[.pointer (some ⟨g, 0, none⟩), .pointer (some ⟨gc, 0, none⟩), .int .i64 (s : Int)] w fun e w' => e = .returned (.tuple #[]) ∧ WrS Av w' g C D (putSym l S s) ∧ Kp Av w w' := by
  obtain ⟨n, hn⟩ : ∃ n, l.getD s 0 = n := ⟨_, rfl⟩
  obtain ⟨W, hWW⟩ : ∃ W, wordP l s = W := ⟨_, rfl⟩
  have HT : Bx (putSym l S s = putW n S W) := bx (by unfold putSym; rw [hn, hWW])
  have HC1 := bx (pword_any gc lo s l w hC hs hm h15 hl hw)
  rw [hn, hWW] at HC1
  rw [hn] at h15
  rw [hWW] at hw
  rw [HT.out]
  have hAv := hW.av
  clear hn hWW hm hs
  go_enter Try.func30, Try.ntmps30
  go_wp2_with fail
  refine HC1.out.mono ?_
  rintro e w1 ⟨rfl, hb1⟩
  have hW1 := hW.step hb1
  have hK1 : Kp Av w w1 := (Kp.refl w).step hAv hb1
  clear hb1 hW hC HC1
  go_wp2_with fail
  go_loopg [8] n (fun κ kk wr => ∃ (j : Nat) (T : Pt), κ = n - j ∧ j ≤ n ∧ kk = .int .i64 ((n : Int) - 1 - (j : Int)) ∧ WrS Av wr g C D T ∧ Kp Av w wr ∧ Bx (putW n S W = putW (n - j) T W) ∧ T.2 + (n - j) ≤ 400000)
  case atStart => exact ⟨0, S, by omega, by omega, by go_num, hW1, hK1, bx rfl, by omega⟩
  case round =>
    clear hW1 hK1
    obtain ⟨j, T, hgk, hj, rfl, hWr, hKr, hpw, hT⟩ := hrel
    by_cases hjn : j < n
    · obtain ⟨k, hk⟩ : ∃ k, n - j = k + 1 := ⟨n - j - 1, by omega⟩
      have hkI : (n : Int) - 1 - (j : Int) = (k : Int) := by omega
      rw [hkI]
      have hk15 : k < 15 := by omega
      obtain ⟨x, hx⟩ : ∃ x, W / 2 ^ k = x := ⟨_, rfl⟩
      have hxI : (W : Int) / 2 ^ k = (x : Int) := by rw [← hx]; simp
      have hxb : x < 1048576 := by rw [← hx]; exact Nat.lt_of_le_of_lt (Nat.div_le_self _ _) (by omega)
      have HP : Bx (putW n S W = putW k (putN T 1 x) W) := bx (by rw [hpw.out, hk, putW, hx])
      have HK := bx hk
      have hT2 : (putN T 1 x).2 + k ≤ 400000 := by show T.2 + 1 + k ≤ _; omega
      clear hk hx hpw hkI
      go_wp2_with fail
      refine (wput_any Av g C D T 1 x wr hWr (by omega) hxb (by omega)).mono ?_
      rintro e w2 ⟨rfl, hW2, hK2⟩
      have hK3 := hKr.trans hK2
      go_wp2_with fail
      go_roundg (n - (j + 1))
      case rel => exact ⟨j + 1, _, rfl, by omega, by have := HK.out; go_num, hW2, hK3, by have := HK.out; rw [show n - (j + 1) = k by omega]; exact HP, by have := HK.out; omega⟩
      case measure => omega
    · obtain rfl : j = n := by omega
      have HP : Bx (putW j S W = T) := bx (by rw [hpw.out, Nat.sub_self]; rfl)
      go_wp2_with fail
      go_end0
      rw [HP.out]
      exact ⟨rfl, hWr, hKr⟩
end Go.Proofs.Ytbhljigppljjbaa
