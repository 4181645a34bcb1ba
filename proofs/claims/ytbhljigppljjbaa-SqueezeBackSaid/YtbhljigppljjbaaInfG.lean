/- Contract: inflate.All. -/
import Derived.Test.YtbhljigppljjbaaInfF
namespace Go.Proofs.Ytbhljigppljjbaa
open Go.RowKit

/-- What unpacking answers: bytes in memory that was made by the call, and how many were taken; or an error. -/
def AllPost (R : Rz (List UInt8 × Nat)) (w : World) (e : Ending) (w' : World) : Prop :=
  Below w.heap.size w w' ∧ match R with
    | .ok x => ∃ v, e = .returned (.tuple #[v, .int .i64 (x.2 : Int), .int .i64 0]) ∧ OwB w' w.heap.size 5 v x.1 ∧ x.1.length ≤ 32768
    | .err k => e = .returned (.tuple #[.slice none 0 0, .int .i64 0, .int .i64 k]) ∧ k ≠ 0
theorem allPost_err {R : Rz (List UInt8 × Nat)} {w w' : World} {k : Int} (h : R = .err k) (hb : Below w.heap.size w w') (hk : k ≠ 0 := by decide) : AllPost R w (.returned (.tuple #[.slice none 0 0, .int .i64 0, .int .i64 k])) w' := by
  subst h; exact ⟨hb, rfl, hk⟩
theorem allPost_ok {R : Rz (List UInt8 × Nat)} {w w' : World} {v : Value} {l : List UInt8} {n : Nat} (h : R = .ok (l, n)) (hb : Below w.heap.size w w') (ho : OwB w' w.heap.size 5 v l) (hl : l.length ≤ 32768) : AllPost R w (.returned (.tuple #[v, .int .i64 (n : Int), .int .i64 0])) w' := by
  subst h; exact ⟨hb, v, rfl, ho, hl⟩
theorem BRd.drewN {w : World} {g : Nat} {b : List UInt8} {p : Nat} (h : BRd w g b p) (n : Nat) : BRd (w.drewN n) g b p := h.keep (fun _ _ => rfl)
set_option maxRecDepth 100000 in
set_option maxHeartbeats 2000000 in
theorem iall_any (A : Option Addr) (n c : Nat) (b : List UInt8) (lim : Int) (w : World) (hn : b.length = n) (hz : n ≤ 1000000000) (hr : RB w w.heap.size A b) (hlim1 : -9223372036854775808 ≤ lim) (hlim2 : lim ≤ 9223372036854775807) :
    Calls Try.prog 12 #[.slice A n c, .int .i64 lim] w (AllPost (inflP b lim) w) := by
  obtain ⟨R, hRR⟩ : ∃ R, inflP b lim = R := ⟨_, rfl⟩
  rw [hRR]
  by_cases hbad : lim < 0 ∨ 32768 < lim
  · have HF : Bx (R = .err 1) := bx (by rw [← hRR, inflP, if_pos hbad])
    clear hRR
    rcases (by omega : lim < 0 ∨ 0 ≤ lim) with hb1 | hb1
    · go_enter Try.func12, Try.ntmps12
      go_wp2
      go_ret3
      exact allPost_err HF.out (Below.refl _ _)
    · have hb2 : 32768 < lim := by omega
      go_enter Try.func12, Try.ntmps12
      go_wp2
      go_ret3
      exact allPost_err HF.out (Below.refl _ _)
  · obtain ⟨L, rfl⟩ : ∃ L : Nat, lim = (L : Int) := ⟨lim.toNat, by omega⟩
    have hL : L ≤ 32768 := by omega
    have HG : Bx (R = (allB L b (8 * b.length + 1) 0 []).bind fun x => .ok (x.1, (x.2 + 7) / 8)) := bx (by rw [← hRR, inflP, if_neg hbad, Int.toNat_natCast]; rfl)
    clear hRR hbad hlim1 hlim2
    go_enter Try.func12, Try.ntmps12
    go_wp2_with fail
    refine (bnew_any A n c b w hn hz hr).mono ?_
    rintro e w1 ⟨gr, rfl, hgr, hR1, hb1⟩
    obtain ⟨gs, hgs⟩ : ∃ gs, w1.heap.size = gs := ⟨_, rfl⟩
    have hgrs : gr < gs := by have := hR1.lt; omega
    have hS2 : ISt (w1.alloc (.cells #[.pointer (some ⟨gr, 0, none⟩), .slice none 0 0, .int .i64 (L : Int)] 44)) gs gr gs b 0 L [] :=
      ⟨.slice none 0 0, Bk.newAt _ _ _ hgs, hR1.keep (fun i hi => Below.heap_alloc _ _ i (by omega)), OwL.nil, fun k hk => (by cases hk), hgrs, by simp, hL⟩
    have hB2 : Below w.heap.size w (w1.alloc (.cells #[.pointer (some ⟨gr, 0, none⟩), .slice none 0 0, .int .i64 (L : Int)] 44)) := hb1.alloc hb1.size _
    have hz2 : gs ≤ (w1.alloc (.cells #[.pointer (some ⟨gr, 0, none⟩), .slice none 0 0, .int .i64 (L : Int)] 44)).heap.size := by simp [hgs]
    have HS2 := bx hS2
    have HB2 := bx hB2
    have HZ2 := bx hz2
    clear hS2 hB2 hz2 hb1 hR1
    go_wp2_with fail
    have hS2 := HS2.out
    have hB2 := HB2.out
    have hz2 := HZ2.out
    clear HS2 HB2 HZ2
    generalize w1.alloc (.cells #[.pointer (some ⟨gr, 0, none⟩), .slice none 0 0, .int .i64 (L : Int)] 44) = w2 at hS2 hB2 hz2 ⊢
    have hgw : w.heap.size ≤ gr := hgr
    go_loopg [] (8 * b.length + 1) (fun κ wr => ∃ (q B : Nat) (o : List UInt8), ISt wr gs gr B b q L o ∧ B ≤ wr.heap.size ∧ Below w.heap.size w wr ∧ 8 * b.length < q + κ ∧ q ≤ 8 * b.length ∧ Bx (R = (allB L b κ q o).bind fun x => .ok (x.1, (x.2 + 7) / 8)))
    case atStart => exact ⟨0, gs, [], hS2, hz2, hB2, by omega, by omega, HG⟩
    case round =>
      clear hS2 hB2 hz2 HG
      obtain ⟨q, B, o, hS, hBw, hB, hgk, hq, hgo⟩ := hrel
      obtain ⟨κ, rfl⟩ : ∃ κ, gk = κ + 1 := ⟨gk - 1, by omega⟩
      have hble : b.length ≤ 1000000000 := by omega
      cases hbk : blkP L o b q with
      | err k =>
        have HF : Bx (R = .err k) := bx (by rw [hgo.out, allB, hbk]; rfl)
        have HBK := bx hbk
        clear hbk
        go_wp2_with fail
        refine (iblock_any gs gr B b q L o wr hS hBw).mono ?_
        rintro e w3 ⟨hb3, hp⟩
        rw [HBK.out] at hp
        obtain ⟨⟨t, rfl⟩, hk0⟩ := hp
        have HB := bx (hB.trans (hb3.mono hgw))
        have hkb : (k != 0) = true := by rw [bne_iff_ne]; exact hk0
        have HK0 := bx hk0
        clear hk0 hb3
        go_wp2
        go_ret3
        exact allPost_err HF.out HB.out HK0.out
      | ok x =>
        obtain ⟨⟨t, o2⟩, q2⟩ := x
        have hmore := blk_more hbk
        have HG2 : Bx (R = (if t = true then Rz.ok (o2, q2) else allB L b κ q2 o2).bind fun x => .ok (x.1, (x.2 + 7) / 8)) := bx (by rw [hgo.out, allB, hbk]; rfl)
        have HBK := bx hbk
        clear hbk
        go_wp2_with fail
        refine (iblock_any gs gr B b q L o wr hS hBw).mono ?_
        rintro e w3 ⟨hb3, hp⟩
        rw [HBK.out] at hp
        obtain ⟨rfl, hS3⟩ := hp
        have hB3 := hB.trans (hb3.mono hgw)
        clear hb3 hS hB hgo
        cases t with
        | false =>
          have HG3 : Bx (R = (allB L b κ q2 o2).bind fun x => .ok (x.1, (x.2 + 7) / 8)) := bx (by rw [HG2.out, if_neg (by simp)])
          have hq2 : q + 3 ≤ q2 ∧ q2 ≤ 8 * b.length := hmore
          go_wp2_with fail
          go_roundg κ
          case rel => exact ⟨q2, _, o2, hS3, Nat.le_refl _, hB3, by omega, hq2.2, HG3⟩
          case measure => omega
        | true =>
          have HF : Bx (R = .ok (o2, (q2 + 7) / 8)) := bx (by rw [HG2.out, if_pos rfl]; rfl)
          obtain ⟨v, hK, hR3, hO, hv, hgs3, hol, hlim⟩ := hS3
          obtain ⟨Av, nv, cv, rfl, hnv, hrv⟩ := OwL.sl hO
          have c0 : w3.cell? ⟨gs, 0, none⟩ = some (.pointer (some ⟨gr, 0, none⟩)) := (hK.cell 0).trans rfl
          have c1 : w3.cell? ⟨gs, 1, none⟩ = some (.slice Av nv cv) := (hK.cell 1).trans rfl
          have hq2 : q + 3 ≤ q2 ∧ q2 ≤ 8 * b.length := hmore
          have i1 : IntKind.i64.wrap ((q2 : Int) + 7) = (q2 : Int) + 7 := IntWalk.i64_in _ (by omega)
          have i2 : (0 : Int) ≤ (q2 : Int) + 7 := by omega
          have HQ := bx hq2
          have HM := bx hmore
          clear hK hrv hmore hq2
          go_wp2_with fail
          go_quiet ((go_at_call 21; exact quiet_eq (bat_any gr b q2 _ (BRd.drewN hR3 _))))
          rename Nat => nq
          clear i1 i2
          go_wp2
          go_ret3
          have hOb : OwB (w3.drewN nq) w.heap.size 5 (.slice Av nv cv) o2 := (OwL.low hO (by omega)).drewN nq
          exact allPost_ok HF.out (below_drewN hB3 nq) hOb (by omega)
end Go.Proofs.Ytbhljigppljjbaa
