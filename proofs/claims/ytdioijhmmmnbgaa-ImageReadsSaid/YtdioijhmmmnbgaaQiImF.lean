/- Contracts: image.needs, image.small, (image.pool).is. -/
import Derived.Test.YtdioijhmmmnbgaaProg
import Derived.Test.YtdioijhmmmnbgaaPi2
import Derived.Test.YtdioijhmmmnbgaaPi7
import Derived.Test.YtdioijhmmmnbgaaPi1
import Derived.Outline
import Derived.Deep.DeepCutAuto
import Derived.Deep.CutBlock
namespace Go.Proofs.Ytdioijhmmmnbgaa
open Go.RowKit
def niV (k : Int) : Value := .int .i64 k
theorem intK : Maps.Keyed Try.prog 3 := Maps.int_keyed Try.underlying3
theorem niV_inj (x y : Int) (h : niV x = niV y) : x = y := by unfold niV at h; injection h
theorem niKey (k : Int) (h : -9223372036854775808 ≤ k ∧ k ≤ 9223372036854775807) : keyOf Try.prog 3 (niV k) = some (.int .i64 k) := by
  refine Maps.keyOf_int_mk Try.underlying3 ?_
  simp [Lit.wf, show IntKind.i64.min = -9223372036854775808 from rfl, show IntKind.i64.max = 9223372036854775807 from rfl]; omega
def wantV (x : Int × Int) : Value := .agg #[.int .i64 x.1, .int .i64 x.2]
def needG (k : Int) : Option Value := (wantA k).map wantV
theorem needG_chain (x : Int) : needG x = if x = 12 then some (.agg #[.int .i64 1, .int .i64 1]) else if x = 11 then some (.agg #[.int .i64 7, .int .i64 12]) else if x = 10 then some (.agg #[.int .i64 7, .int .i64 12]) else if x = 9 then some (.agg #[.int .i64 7, .int .i64 12])
    else if x = 8 then some (.agg #[.int .i64 1, .int .i64 0]) else if x = 7 then some (.agg #[.int .i64 1, .int .i64 0]) else if x = 5 then some (.agg #[.int .i64 0, .int .i64 0]) else if x = 3 then some (.agg #[.int .i64 0, .int .i64 0]) else if x = 1 then some (.agg #[.int .i64 0, .int .i64 0]) else none := by
  by_cases h1 : x = 1
  · subst h1; rfl
  by_cases h3 : x = 3
  · subst h3; rfl
  by_cases h5 : x = 5
  · subst h5; rfl
  by_cases h7 : x = 7
  · subst h7; rfl
  by_cases h8 : x = 8
  · subst h8; rfl
  by_cases h9 : x = 9
  · subst h9; rfl
  by_cases h10 : x = 10
  · subst h10; rfl
  by_cases h11 : x = 11
  · subst h11; rfl
  by_cases h12 : x = 12
  · subst h12; rfl
  rw [if_neg h12, if_neg h11, if_neg h10, if_neg h9, if_neg h8, if_neg h7, if_neg h5, if_neg h3, if_neg h1]
  unfold needG wantA
  rw [if_neg (by omega), if_neg (by omega), if_neg (by omega), if_neg h12]; rfl
def NM (w0 w : World) (g n : Nat) (G : Int → Option Value) : Prop := Below w0.heap.size w0 w ∧ w0.heap.size ≤ g ∧ MapT niV w Try.prog 3 g n G
theorem NM.put {w0 w : World} {g n : Nat} {G : Int → Option Value} (h : NM w0 w g n G) (hn : n < 100) (y : Int) (hy : 0 ≤ y ∧ y ≤ 100) (v : Value) :
    ∃ w', (Instr.mapUpdate 101 (.map (some g)) (.int .i64 y) v).run Try.prog w = .ok () w' ∧ NM w0 w' g (n + 1) (fun q => if q = y then some v else G q) := by
  obtain ⟨h1, h2, h3⟩ := h
  obtain ⟨w', r1, g1, M1⟩ := h3.storeRun intK Try.underlying101 niV_inj (Nat.lt_trans hn (by decide)) y v (niKey y ⟨by omega, by omega⟩)
  exact ⟨w', r1, h1.grown g1 h1.size (fun k e => by injection e with e; omega), h2, M1⟩
set_option maxRecDepth 100000 in
set_option maxHeartbeats 2000000 in
theorem needs_any (w : World) : Calls Try.prog 69 #[] w fun e w' => ∃ g, e = .returned (.map (some g)) ∧ w.heap.size ≤ g ∧ MapT niV w' Try.prog 3 g 9 needG ∧ Below w.heap.size w w' := by
  obtain ⟨B, hB⟩ : ∃ B, w.heap.size = B := ⟨_, rfl⟩
  have HB := bx hB
  have HKB := bx (Bk.newAt w 104 #[.int .i64 7, .int .i64 12] hB)
  have hb0 := bl_alloc (Below.refl w.heap.size w) (Nat.le_refl _) (.cells #[.int .i64 7, .int .i64 12] 104)
  have HB0 := bx hb0
  have hz0 : (w.alloc (.cells #[.int .i64 7, .int .i64 12] 104)).heap.size = B + 1 := by rw [← hB]; simp
  have hmm := @run_makeMap Try.prog
  clear hb0 hB
  go_enter Try.func69, Try.ntmps69
  go_upto_region 2 with (fail)
  rw [HB.out]
  generalize w.alloc (.cells #[.int .i64 7, .int .i64 12] 104) = w0 at HKB HB0 hz0 ⊢
  have K0 : NM w0 (w0.alloc (.map #[] 0)) (B + 1) 0 (fun _ => none) := ⟨bl_alloc (Below.refl _ _) (Nat.le_refl _) _, Nat.le_of_eq hz0, MapT.madeAt w0 _ _ hz0⟩
  obtain ⟨w1, r1, K1⟩ := K0.put (by decide) 1 (by decide) (.agg #[.int .i64 0, .int .i64 0])
  obtain ⟨w2, r2, K2⟩ := K1.put (by decide) 3 (by decide) (.agg #[.int .i64 0, .int .i64 0])
  obtain ⟨w3, r3, K3⟩ := K2.put (by decide) 5 (by decide) (.agg #[.int .i64 0, .int .i64 0])
  obtain ⟨w4, r4, K4⟩ := K3.put (by decide) 7 (by decide) (.agg #[.int .i64 1, .int .i64 0])
  obtain ⟨w5, r5, K5⟩ := K4.put (by decide) 8 (by decide) (.agg #[.int .i64 1, .int .i64 0])
  obtain ⟨w6, r6, K6⟩ := K5.put (by decide) 9 (by decide) (.agg #[.int .i64 7, .int .i64 12])
  obtain ⟨w7, r7, K7⟩ := K6.put (by decide) 10 (by decide) (.agg #[.int .i64 7, .int .i64 12])
  obtain ⟨w8, r8, K8⟩ := K7.put (by decide) 11 (by decide) (.agg #[.int .i64 7, .int .i64 12])
  obtain ⟨w9, r9, K9⟩ := K8.put (by decide) 12 (by decide) (.agg #[.int .i64 1, .int .i64 1])
  have HK9 := bx K9
  have c50 : w5.cell? ⟨B, 0, none⟩ = some (.int .i64 7) := ((HKB.out.below K5.1 (by omega)).cell 0).trans rfl
  have c51 : w5.cell? ⟨B, 1, none⟩ = some (.int .i64 12) := ((HKB.out.below K5.1 (by omega)).cell 1).trans rfl
  have c60 : w6.cell? ⟨B, 0, none⟩ = some (.int .i64 7) := ((HKB.out.below K6.1 (by omega)).cell 0).trans rfl
  have c61 : w6.cell? ⟨B, 1, none⟩ = some (.int .i64 12) := ((HKB.out.below K6.1 (by omega)).cell 1).trans rfl
  have c70 : w7.cell? ⟨B, 0, none⟩ = some (.int .i64 7) := ((HKB.out.below K7.1 (by omega)).cell 0).trans rfl
  have c71 : w7.cell? ⟨B, 1, none⟩ = some (.int .i64 12) := ((HKB.out.below K7.1 (by omega)).cell 1).trans rfl
  clear K0 K1 K2 K3 K4 K5 K6 K7 K8 K9
  go_wp2
  go_ret
  refine ⟨_, rfl, by rw [HB.out]; omega, HK9.out.2.2.ext (fun x => ?_), HB0.out.trans (HK9.out.1.mono HB0.out.size)⟩
  exact needG_chain x
theorem u2P_iff' (x : Int) : u2P x = true ↔ 0 ≤ x ∧ x ≤ 65535 := by unfold u2P; simp
set_option maxHeartbeats 1000000 in
theorem small_any (A : Option Addr) (n c : Nat) (l : List Int) (w : World) (hn : l.length = n) (hb : n ≤ 100) (hr : RL iV w w.heap.size A l) :
    Calls Try.prog 48 #[.slice A n c] w fun e w' => e = .returned (.bool (l.all u2P)) ∧ w = w' := by
  have HL := bx hn
  have HR := bx hr
  obtain ⟨R, hR⟩ : ∃ R, l.all u2P = R := ⟨_, rfl⟩
  rw [hR]
  have HRR := bx hR
  have HA0 : Bx ((l.take 0).all u2P = true) := bx rfl
  clear hn hr hR
  go_enter Try.func48, Try.ntmps48
  go_wp2
  go_loop [7] (fun i => ∃ k : Nat, k ≤ n ∧ i = .int .i64 (k : Int) ∧ Bx ((l.take k).all u2P = true)) (fun i => n - (intOf i).toNat)
  case atStart => exact ⟨0, by omega, rfl, HA0⟩
  case round =>
    clear HA0
    obtain ⟨k, hk, rfl, HA⟩ := hrel
    by_cases hkn : k < n
    · have hkI : (k : Int) < (n : Int) := by omega
      obtain ⟨ad, x, rfl, _, hx, p0⟩ := RL.num HR.out (k := k) (by rw [HL.out]; exact hkn)
      have HX := bx hx.out
      clear hx
      by_cases hu : u2P x = true
      · have hx2 := (u2P_iff' x).1 hu
        have HN : Bx ((l.take (k + 1)).all u2P = true) := bx (by rw [List.take_add_one, HX.out, List.all_append, HA.out]; simp [hu])
        have hd : ((x / 65536 : Int) != 0) = false := by rw [show x / 65536 = 0 by omega]; rfl
        have hd2 : ((x / 2 ^ 16 : Int) != 0) = false := by rw [show (2 : Int) ^ 16 = 65536 from rfl]; exact hd
        have hx20 := hx2.1
        clear hu hx2
        go_wp2
        go_round
        case rel => exact ⟨k + 1, by omega, by go_num, HN⟩
        case measure => simp [intOf]; omega
      · have hx2 : ¬ (0 ≤ x ∧ x ≤ 65535) := fun h => hu ((u2P_iff' x).2 h)
        have HN : Bx (R = false) := bx (by
          rw [← HRR.out, List.all_eq_false]
          exact ⟨x, List.mem_of_getElem? HX.out, by simpa using hu⟩)
        have hd : ((x / 65536 : Int) != 0) = true := by rw [bne_iff_ne]; omega
        have hd2 : ((x / 2 ^ 16 : Int) != 0) = true := by rw [show (2 : Int) ^ 16 = 65536 from rfl]; exact hd
        clear hu hx2
        go_wp2
        go_ret
        exact ⟨by rw [HN.out]; rfl, rfl⟩
    · obtain rfl : n = k := by omega
      have hkI : ¬ (n : Int) < (n : Int) := by omega
      have HN : Bx (R = true) := bx (by
        have := HA.out
        rw [List.take_of_length_le (by rw [HL.out]; exact Nat.le_refl _)] at this
        rw [← HRR.out]; exact this)
      go_wp2
      go_ret
      exact ⟨by rw [HN.out]; rfl, rfl⟩
/-- What stands at a place. -/
theorem cst_at {w : World} {B : Nat} {A : Option Addr} {L : List Cst} (h : RS cstC w B A L) {k : Nat} (hk : k < L.length) :
    ∃ ad x, A = some ad ∧ ad.block < B ∧ Bx (L[k]? = some x) ∧ w.cell? (ad.add (k * 5)) = some (.int .i64 x.tag) ∧ w.cell? ⟨(ad.add (k * 5)).block, (ad.add (k * 5)).off + 1, none⟩ = some (.int .i64 x.a) ∧ w.cell? ⟨(ad.add (k * 5)).block, (ad.add (k * 5)).off + 2, none⟩ = some (.int .i64 x.b) ∧
      w.cell? ⟨(ad.add (k * 5)).block, (ad.add (k * 5)).off + 3, none⟩ = some (.int .i64 x.num) ∧ w.cell? ⟨(ad.add (k * 5)).block, (ad.add (k * 5)).off + 4, none⟩ = some (.string ⟨x.text.toArray⟩) := by
  obtain ⟨ad, x, hA, hlt, hx, hc, hcs⟩ := h.at_ cstCels hk
  exact ⟨ad, x, hA, hlt, bx hx.out, hc _ rfl, hcs 0 _ rfl, hcs 1 _ rfl, hcs 2 _ rfl, hcs 3 _ rfl⟩
set_option maxHeartbeats 1000000 in
theorem is_any (A : Option Addr) (n c : Nat) (L : List Cst) (at_ tg : Int) (w : World) (hn : L.length = n) (_hb : (n : Int) ≤ 9223372036854775807) (ht : tg ≠ 0) (hr : RS cstC w w.heap.size A L) :
    Calls Try.prog 50 #[.slice A n c, .int .i64 at_, .int .i64 tg] w fun e w' => e = .returned (.bool (decide (tagP L at_ = tg))) ∧ w = w' := by
  have HL := bx hn
  have HR := bx hr
  have HT := bx ht
  obtain ⟨R, hR⟩ : ∃ R, decide (tagP L at_ = tg) = R := ⟨_, rfl⟩
  rw [hR]
  have HRR := bx hR
  clear hn hr ht hR
  by_cases h1 : at_ < 1
  · have d1 : decide ((1 : Int) ≤ at_) = false := by simp; omega
    have HN : Bx (R = false) := bx (by rw [← HRR.out]; refine decide_eq_false (fun e => HT.out ?_); unfold tagP at e; rw [if_pos h1] at e; exact e.symm)
    clear h1
    go_enter Try.func50, Try.ntmps50
    go_wp2
    go_ret
    exact ⟨by rw [HN.out]; rfl, rfl⟩
  obtain ⟨k, rfl⟩ : ∃ k : Nat, at_ = (k : Int) := ⟨at_.toNat, by omega⟩
  have d1 : (1 : Int) ≤ (k : Int) := by omega
  by_cases h2 : k < n
  · obtain ⟨ad, x, rfl, _, HX, p0, _⟩ := cst_at HR.out (k := k) (by rw [HL.out]; exact h2)
    have h2I : (k : Int) < (n : Int) := by omega
    have h2J : (0 : Int) ≤ (k : Int) := by omega
    have h2K : (k : Int).toNat = k := by omega
    have HTG : Bx (tagP L (k : Int) = x.tag) := bx (by unfold tagP; rw [if_neg h1, Int.toNat_natCast, HX.out])
    by_cases h3 : x.tag = tg
    · have d3 : (x.tag == tg) = true := by rw [beq_iff_eq]; exact h3
      have HN : Bx (R = true) := bx (by rw [← HRR.out]; exact decide_eq_true (by rw [HTG.out]; exact h3))
      clear h1 h2 h3
      go_enter Try.func50, Try.ntmps50
      go_wp2
      go_ret
      exact ⟨by rw [HN.out]; rfl, rfl⟩
    · have d3 : (x.tag == tg) = false := by rw [beq_eq_false_iff_ne]; exact h3
      have HN : Bx (R = false) := bx (by rw [← HRR.out]; exact decide_eq_false (by rw [HTG.out]; exact h3))
      clear h1 h2 h3
      go_enter Try.func50, Try.ntmps50
      go_wp2
      go_ret
      exact ⟨by rw [HN.out]; rfl, rfl⟩
  · have h2I : ¬ (k : Int) < (n : Int) := by omega
    have HN : Bx (R = false) := bx (by
      rw [← HRR.out]; refine decide_eq_false (fun e => HT.out ?_)
      unfold tagP at e; rw [if_neg h1, Int.toNat_natCast, List.getElem?_eq_none (by rw [HL.out]; omega)] at e; exact e.symm)
    clear h1 h2
    go_enter Try.func50, Try.ntmps50
    go_wp2
    go_ret
    exact ⟨by rw [HN.out]; rfl, rfl⟩
end Go.Proofs.Ytdioijhmmmnbgaa
