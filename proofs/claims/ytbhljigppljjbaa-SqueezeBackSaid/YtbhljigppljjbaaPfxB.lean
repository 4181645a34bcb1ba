/- Contract: (*prefix.Code).Next. -/
import Derived.Test.YtbhljigppljjbaaPfxA
namespace Go.Proofs.Ytbhljigppljjbaa
open Go.RowKit

/-- What Next answers. -/
def NextPost (R : Rz (Nat × Nat)) (w : World) (gr : Nat) (b : List UInt8) (e : Ending) (w' : World) : Prop :=
  w.grownBy w' (some gr) ∧ match R with
    | .ok x => e = .returned (.tuple #[.int .i64 (x.1 : Int), .int .i64 0]) ∧ BRd w' gr b x.2
    | .err k => e = .returned (.tuple #[.int .i64 0, .int .i64 k])
theorem nextPost_ok {R : Rz (Nat × Nat)} {w w' : World} {gr : Nat} {b : List UInt8} {s p : Nat} (h : R = .ok (s, p)) (hg : w.grownBy w' (some gr)) (hB : BRd w' gr b p) : NextPost R w gr b (.returned (.tuple #[.int .i64 (s : Int), .int .i64 0])) w' := by
  subst h; exact ⟨hg, rfl, hB⟩
theorem nextPost_err {R : Rz (Nat × Nat)} {w w' : World} {gr : Nat} {b : List UInt8} {k : Int} (h : R = .err k) (hg : w.grownBy w' (some gr)) : NextPost R w gr b (.returned (.tuple #[.int .i64 0, .int .i64 k])) w' := by
  subst h; exact ⟨hg, rfl⟩
theorem nextF_end {l : List Nat} {b : List UInt8} {n c p : Nat} : nextF l b 0 n c p = .err 6 := rfl
theorem nextF_short {l : List Nat} {b : List UInt8} {f n c p : Nat} (h : 8 * b.length < p + 1) : nextF l b (f + 1) n c p = .err 2 := by rw [nextF, if_neg (by omega)]
theorem nextF_hit {l : List Nat} {b : List UInt8} {f n c p s : Nat} (h : p + 1 ≤ 8 * b.length) (hs : symAt l (n + 1) (2 * c + bitAt b p) = some s) : nextF l b (f + 1) n c p = .ok (s, p + 1) := by rw [nextF, if_pos h, hs]
theorem nextF_miss {l : List Nat} {b : List UInt8} {f n c p : Nat} (h : p + 1 ≤ 8 * b.length) (hs : symAt l (n + 1) (2 * c + bitAt b p) = none) : nextF l b (f + 1) n c p = nextF l b f (n + 1) (2 * c + bitAt b p) (p + 1) := by rw [nextF, if_pos h, hs]
theorem bits_word {c d : Nat} (hc : c < 32768) (hd : d < 2) : bits .or .u16 ((c : Int) * 2) (d : Int) = ((2 * c + d : Nat) : Int) := by
  have hk : ∀ n : Int, 0 ≤ n → n < 2 ^ 16 → IntKind.u16.wrap n = n := fun n h0 h1 => by
    have : IntKind.u16.wrap n = n % 65536 := by simp [IntKind.wrap, IntKind.bits, IntKind.signed]
    rw [this]; omega
  rw [bits_join .u16 16 (by decide) hk 1 _ _ (by omega) (by omega) (by omega) (by omega) (by omega) (by omega)]
  omega
set_option maxRecDepth 100000 in
set_option maxHeartbeats 4000000 in
theorem pnext_any (g lo gr : Nat) (l : List Nat) (b : List UInt8) (p : Nat) (w : World) (hC : PCd w lo g l) (hR : BRd w gr b p) (hlo : gr < lo) :
    Calls Try.prog 46 #[.pointer (some ⟨g, 0, none⟩), .pointer (some ⟨gr, 0, none⟩)] w (NextPost (nextP l b p) w gr b) := by
  obtain ⟨R, hRR⟩ : ∃ R, nextP l b p = R := ⟨_, rfl⟩
  rw [hRR]
  have HR : Hid (R = nextF l b (mostP l - 0) 0 0 p) := Lib.hid (by rw [← hRR]; rfl)
  obtain ⟨gw, hgw⟩ : ∃ gw, w.heap.size = gw := ⟨_, rfl⟩
  have hlt := hC.lt
  have hglt : g < gw := by omega
  have hgwle : w.heap.size ≤ gw := by omega
  have hB0 : Bk (w.alloc (.cells #[.int .u8 0, .int .u16 0] 99)) gw 99 #[.int .u8 ((0 : Nat) : Int), .int .u16 ((0 : Nat) : Int)] := Bk.newAt _ _ _ hgw
  have hC0 := hC.below (bl_alloc (Below.refl w.heap.size w) (Nat.le_refl _) (.cells #[.int .u8 0, .int .u16 0] 99)) (by omega)
  have hR0 := hR.step (bl_alloc (Below.refl w.heap.size w) (Nat.le_refl _) (.cells #[.int .u8 0, .int .u16 0] 99))
  have hG0 := gb_alloc (World.grownBy.refl w (some gr)) (.cells #[.int .u8 0, .int .u16 0] 99)
  have HGW := Lib.hid hgw
  clear hRR hC hR
  go_enter Try.func46, Try.ntmps46
  go_wp2_with fail
  clear hgw
  generalize w.alloc (.cells #[.int .u8 0, .int .u16 0] 99) = w1 at hB0 hC0 hR0 hG0 ⊢
  go_loopg [7, 8, 9, 10, 24, 43] (mostP l) (fun k _ _ _ _ _ _ wr => ∃ n c q : Nat, k = mostP l - n ∧ n ≤ mostP l ∧ c < 2 ^ n ∧ Bk wr gw 99 #[.int .u8 (n : Int), .int .u16 (c : Int)] ∧ BRd wr gr b q ∧ PCd wr lo g l ∧ w.grownBy wr (some gr) ∧
    Hid (R = nextF l b (mostP l - n) n c q))
  case atStart => exact ⟨0, 0, p, by omega, by omega, by decide, hB0, hR0, hC0, hG0, HR⟩
  case round =>
    clear hB0 hC0 hR0 hG0
    obtain ⟨n, c, q, hgk, hn, hc, hB, hRd, hC, hG, hgo⟩ := hrel
    obtain ⟨ms, mw, n1, n2, hCB, hMS, hMW, hml, hmw, hmost, hkr⟩ := id hC
    have k2 : wr.cell? ⟨g, 2, none⟩ = some (.int .u8 (mostP l : Int)) := (hCB.cell 2).trans rfl
    have v0 : wr.cell? ⟨gw, 0, none⟩ = some (.int .u8 (n : Int)) := (hB.cell 0).trans rfl
    by_cases hnm : n < mostP l
    · have hf : mostP l - n = (mostP l - (n + 1)) + 1 := by omega
      have HGO : Hid (R = nextF l b ((mostP l - (n + 1)) + 1) n c q) := Lib.hid (hf ▸ hgo.out)
      have hnmI : (n : Int) < (mostP l : Int) := by omega
      clear hf
      go_wp2
      go_quiet (fail)
      rename_i nq
      have hRd2 : BRd (wr.drewN nq) gr b q := hRd
      have hB2 : Bk (wr.drewN nq) gw 99 #[.int .u8 (n : Int), .int .u16 (c : Int)] := hB
      have hC2 : PCd (wr.drewN nq) lo g l := hC
      have hG2 := gb_drewN hG nq
      clear k2 v0 hRd hB hC hG hCB hMS hMW
      generalize wr.drewN nq = w2 at hRd2 hB2 hC2 hG2 ⊢
      by_cases hq : q + 1 ≤ 8 * b.length
      · go_wp2_with fail
        refine (btake_ok gr b q 1 w2 hRd2 (by omega) hq).mono ?_
        rintro e w3 ⟨rfl, hRd3, hg3⟩
        obtain ⟨d, hd⟩ : ∃ d, bitAt b q = d := ⟨_, rfl⟩
        have hd2 : d < 2 := by rw [← hd]; exact bitAt_lt b q
        have HTV : Hid (takeN b q 1 = d) := Lib.hid (by rw [← hd]; simp [takeN])
        rw [HTV.out]
        obtain ⟨cd, hcd⟩ : ∃ cd, 2 * c + d = cd := ⟨_, rfl⟩
        have hpow : 2 ^ n ≤ 2 ^ 14 := Nat.pow_le_pow_right (by decide) (by omega)
        have hc14 : c < 16384 := Nat.lt_of_lt_of_le hc hpow
        have hor : bits .or .u16 ((c : Int) * 2) (d : Int) = (cd : Int) := by rw [← hcd]; exact bits_word (by omega) hd2
        have HCD : Hid (cd < 2 ^ (n + 1) ∧ cd < 32768) := Lib.hid ⟨by rw [← hcd, Nat.pow_succ]; omega, by omega⟩
        have hB3 := hB2.grown hg3 (fun e => by injection e; omega)
        have hC3 := hC2.grown hg3 (fun k hk => by injection hk; omega)
        have hG3 := gb_trans hG2 hg3
        have v0 : w3.cell? ⟨gw, 0, none⟩ = some (.int .u8 (n : Int)) := (hB3.cell 0).trans rfl
        have v1 : w3.cell? ⟨gw, 1, none⟩ = some (.int .u16 (c : Int)) := (hB3.cell 1).trans rfl
        have z0 := hB3.frz 0
        have z1 := hB3.frz 1
        have hn15 : (n : Int) < 15 := by omega
        have hc2 : (c : Int) < 16384 := by omega
        have hd3 : (d : Int) < 2 := by omega
        have HHD := Lib.hid hd
        have HCC := Lib.hid hcd
        have hB4 : Bk ((w3.setCell ⟨gw, 0, none⟩ (.int .u8 ((n : Int) + 1))).setCell ⟨gw, 1, none⟩ (.int .u16 (cd : Int))) gw 99 #[.int .u8 ((n : Int) + 1), .int .u16 (cd : Int)] := by
          have := (hB3.set 0 (.int .u8 ((n : Int) + 1))).set 1 (.int .u16 (cd : Int))
          simpa using this
        have hsame : ∀ i, i < gw → ((w3.setCell ⟨gw, 0, none⟩ (.int .u8 ((n : Int) + 1))).setCell ⟨gw, 1, none⟩ (.int .u16 (cd : Int))).heap[i]? = w3.heap[i]? := fun i hi =>
          (Below.heap_setCell _ ⟨gw, 1, none⟩ _ i (by show i ≠ gw; omega)).trans (Below.heap_setCell _ ⟨gw, 0, none⟩ _ i (by show i ≠ gw; omega))
        have hC4 := hC3.keep (fun i _ hi => hsame i (by omega))
        have hR4 := hRd3.keep (fun i hi => hsame i (by omega))
        have hG4 := gb_new (gb_new hG3 (p := ⟨gw, 0, none⟩) (by exact hgwle) (.int .u8 ((n : Int) + 1))) (p := ⟨gw, 1, none⟩) (by exact hgwle) (.int .u16 (cd : Int))
        have HB4 := Lib.hid hB4
        have HC4 := Lib.hid hC4
        have HR4 := Lib.hid hR4
        have HG4 := Lib.hid hG4
        clear hpow hc hcd hd hB2 hC2 hG2 hRd2 hRd3 hg3 hB3 hC3 hG3 hsame hB4 hC4 hR4 hG4
        go_wp2
        have hB4 := HB4.out
        have hC4 := HC4.out
        have hR4 := HR4.out
        have hG4 := HG4.out
        clear HB4 HC4 HR4 HG4 v0 v1 z0 z1
        generalize ((w3.setCell ⟨gw, 0, none⟩ (.int .u8 ((n : Int) + 1))).setCell ⟨gw, 1, none⟩ (.int .u16 (cd : Int))) = w4 at hB4 hC4 hR4 hG4 ⊢
        obtain ⟨ms, mw, n1, n2, hCB, hMS, hMW, hml, hmw, hmost, hkr⟩ := id hC4
        have k0 : w4.cell? ⟨g, 0, none⟩ = some (.map (some ms)) := (hCB.cell 0).trans rfl
        have v0 : w4.cell? ⟨gw, 0, none⟩ = some (.int .u8 ((n : Int) + 1)) := (hB4.cell 0).trans rfl
        have v1 : w4.cell? ⟨gw, 1, none⟩ = some (.int .u16 (cd : Int)) := (hB4.cell 1).trans rfl
        obtain ⟨kl, hkl⟩ := word_key (x := (n + 1, cd)) (by show n + 1 < 256; omega) (by have := HCD.out.2; show cd < 65536; omega)
        have hlk := fun nq => (hMS.drewN nq).run_ok wordK Try.underlying93 (z := .int .i64 0) (by kernel_rfl) hkl
        have hwv : wordV (n + 1, cd) = .agg #[.int .u8 ((n : Int) + 1), .int .u16 (cd : Int)] := rfl
        rw [hwv] at hlk
        clear hkl hwv hCB hMS hMW hor
        cases hsy : symAt l (n + 1) cd with
        | some s =>
          have hg : symG l l.length (n + 1, cd) = some (.int .i64 (s : Int)) := by unfold symG; rw [show symK l l.length (n + 1) cd = some s from hsy]; rfl
          rw [hg] at hlk
          have hlk2 : ∀ nq, (Instr.lookup 93 (.map (some ms)) (.agg #[.int .u8 ((n : Int) + 1), .int .u16 (cd : Int)]) true).run Try.prog (w4.drewN nq) = .ok (.tuple #[.int .i64 (s : Int), .bool true]) (w4.drewN nq) := hlk
          have HF := Lib.hid (HGO.out.trans (nextF_hit hq (by rw [HHD.out, HCC.out]; exact hsy)))
          clear hlk hg hsy
          go_quiet (fail)
          rename Nat => nq2
          have hR5 : BRd (w4.drewN nq2) gr b (q + 1) := hR4
          have hG5 := gb_drewN hG4 nq2
          go_wp2
          go_ret2
          exact nextPost_ok HF.out hG5 hR5
        | none =>
          have hg : symG l l.length (n + 1, cd) = none := by unfold symG; rw [show symK l l.length (n + 1) cd = none from hsy]; rfl
          rw [hg] at hlk
          have hlk2 : ∀ nq, (Instr.lookup 93 (.map (some ms)) (.agg #[.int .u8 ((n : Int) + 1), .int .u16 (cd : Int)]) true).run Try.prog (w4.drewN nq) = .ok (.tuple #[.int .i64 0, .bool false]) (w4.drewN nq) := hlk
          have HF := Lib.hid (HGO.out.trans (nextF_miss hq (by rw [HHD.out, HCC.out]; exact hsy)))
          have HF2 : Hid (R = nextF l b (mostP l - (n + 1)) (n + 1) cd (q + 1)) := Lib.hid (by rw [HF.out, HHD.out, HCC.out])
          clear hlk hg hsy
          go_quiet (fail)
          rename Nat => nq2
          have hR5 : BRd (w4.drewN nq2) gr b (q + 1) := hR4
          have hG5 := gb_drewN hG4 nq2
          have hC5 : PCd (w4.drewN nq2) lo g l := hC4
          have hB5 : Bk (w4.drewN nq2) gw 99 #[.int .u8 ((n : Int) + 1), .int .u16 (cd : Int)] := hB4
          have HNC : Hid (((n + 1 : Nat) : Int) = (n : Int) + 1) := Lib.hid (by omega)
          go_wp2
          go_roundg (mostP l - (n + 1))
          case rel => exact ⟨n + 1, cd, q + 1, rfl, by omega, HCD.out.1, by rw [HNC.out]; exact hB5, hR5, hC5, hG5, HF2⟩
          case measure => omega
      · have HF := Lib.hid (HGO.out.trans (nextF_short (by omega)))
        go_wp2_with fail
        refine (btake_short gr b q 1 w2 hRd2 (by omega) (by omega)).mono ?_
        rintro e w3 ⟨rfl, hb3⟩
        have hg3 := gb_then hG2 hb3
        go_wp2
        go_ret2
        exact nextPost_err HF.out hg3
    · obtain rfl : n = mostP l := by omega
      have HF : Hid (R = .err 6) := Lib.hid (by rw [hgo.out, Nat.sub_self]; rfl)
      go_wp2
      go_quiet (fail)
      rename_i nq
      have hG2 := gb_drewN hG nq
      go_wp2
      go_ret2
      exact nextPost_err HF.out hG2
end Go.Proofs.Ytbhljigppljjbaa
