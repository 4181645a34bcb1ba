/- Contract: (*inflate.state).block. -/
import Derived.Test.YtbhljigppljjbaaInfC
import Derived.Test.YtbhljigppljjbaaInfD
import Derived.Test.YtbhljigppljjbaaInfE
namespace Go.Proofs.Ytbhljigppljjbaa
open Go.RowKit

def BlkPost (R : Rz ((Bool × List UInt8) × Nat)) (w : World) (gs gr : Nat) (b : List UInt8) (lim : Nat) (e : Ending) (w' : World) : Prop :=
  Below gr w w' ∧ match R with
    | .ok x => e = .returned (.tuple #[.bool x.1.1, .int .i64 0]) ∧ ISt w' gs gr w'.heap.size b x.2 lim x.1.2
    | .err k => (∃ t : Bool, e = .returned (.tuple #[.bool t, .int .i64 k])) ∧ k ≠ 0
theorem blkPost_err {R : Rz ((Bool × List UInt8) × Nat)} {w w' : World} {gs gr : Nat} {b : List UInt8} {lim : Nat} {k : Int} {t : Bool} (h : R = .err k) (hb : Below gr w w') (hk : k ≠ 0 := by decide) : BlkPost R w gs gr b lim (.returned (.tuple #[.bool t, .int .i64 k])) w' := by
  subst h; exact ⟨hb, ⟨t, rfl⟩, hk⟩
theorem blkPost_ok {R : Rz ((Bool × List UInt8) × Nat)} {w w' : World} {gs gr : Nat} {b out : List UInt8} {lim q : Nat} {t : Bool} (h : R = .ok ((t, out), q)) (hb : Below gr w w') (hS : ISt w' gs gr w'.heap.size b q lim out) : BlkPost R w gs gr b lim (.returned (.tuple #[.bool t, .int .i64 0])) w' := by
  subst h; exact ⟨hb, rfl, hS⟩
/-- What a block's body answers goes on as the block's answer. -/
theorem blk_of_body {R0 : Rz (List UInt8 × Nat)} {R : Rz ((Bool × List UInt8) × Nat)} {w w1 w' : World} {gs gr : Nat} {b : List UInt8} {lim : Nat} {t : Bool} {e : Ending} (h : R = R0.bind fun z => .ok ((t, z.1), z.2)) (hb : Below gr w w1) (hp : IPost R0 w1 gs gr b lim e w') :
    ∃ k : Int, e = .returned (.int .i64 k) ∧ BlkPost R w gs gr b lim (.returned (.tuple #[.bool t, .int .i64 k])) w' := by
  obtain ⟨h1, h2⟩ := hp
  cases R0 with
  | ok z => exact ⟨0, h2.1, blkPost_ok h (hb.trans h1) h2.2⟩
  | err k => exact ⟨k, h2.1, blkPost_err h (hb.trans h1) h2.2⟩
set_option maxRecDepth 100000 in
set_option maxHeartbeats 2000000 in
theorem iblock_any (gs gr B : Nat) (b : List UInt8) (p lim : Nat) (out : List UInt8) (w : World) (h : ISt w gs gr B b p lim out) (hBw : B ≤ w.heap.size) :
    Calls Try.prog 20 #[.pointer (some ⟨gs, 0, none⟩)] w (BlkPost (blkP lim out b p) w gs gr b lim) := by
  obtain ⟨R, hRR⟩ : ∃ R, blkP lim out b p = R := ⟨_, rfl⟩
  rw [hRR]
  have hlt := h.lt
  have h' := h
  have hB0 : Below gr w (w.alloc (.cells #[.int .i64 1, .int .i64 2] 3)) := bl_alloc (Below.refl gr w) (by omega) _
  have hS1 := h.step (bl_alloc (Below.refl w.heap.size w) (Nat.le_refl _) (.cells #[.int .i64 1, .int .i64 2] 3))
  obtain ⟨v1, hK1, hR1, hO1, hv1, hgs, hol, hlim⟩ := id hS1
  have c1 : (w.alloc (.cells #[.int .i64 1, .int .i64 2] 3)).cell? ⟨gs, 0, none⟩ = some (.pointer (some ⟨gr, 0, none⟩)) := (hK1.cell 0).trans rfl
  have hws : RN (w.alloc (.cells #[.int .i64 1, .int .i64 2] 3)) (w.alloc (.cells #[.int .i64 1, .int .i64 2] 3)).heap.size (some ⟨w.heap.size, 0, none⟩) [1, 2] := (RL.news w [1, 2] #[.int .i64 1, .int .i64 2] rfl _ _).top
  clear hK1 hO1 hv1 h'
  rcases blk_cases lim out b p with ⟨ht1, ht2⟩ | ⟨x, y, q, ht1, ht2, hx, hy, hq, hpq⟩
  · have HF : Bx (R = .err 2) := bx (by rw [← hRR, ht2])
    have HT := bx ht1
    clear hRR ht1 ht2
    go_enter Try.func20, Try.ntmps20
    go_wp2_with fail
    refine (itake_any gs gr (some ⟨w.heap.size, 0, none⟩) 2 2 [1, 2] b p _ c1 hgs (by simp; omega) hR1 rfl (by omega) (by simp) hws (fun ad e => by injection e with e; subst e; exact hlt.2)).mono ?_
    rintro e w1 ⟨hg1, hp⟩
    rw [HT.out] at hp
    obtain rfl := hp
    have HB := bx (hB0.trans (gb_under hg1 hR1.lt))
    clear c1 hg1
    go_wp2
    go_ret2
    exact blkPost_err HF.out HB.out
  · have HG : Bx (R = (bodyP lim out y b q).bind fun z => .ok ((decide (x = 1), z.1), z.2)) := bx (by rw [← hRR, ht2])
    have HT := bx ht1
    clear hRR ht1 ht2
    go_enter Try.func20, Try.ntmps20
    go_wp2_with fail
    refine (itake_any gs gr (some ⟨w.heap.size, 0, none⟩) 2 2 [1, 2] b p _ c1 hgs (by simp; omega) hR1 rfl (by omega) (by simp) hws (fun ad e => by injection e with e; subst e; exact hlt.2)).mono ?_
    rintro e w1 ⟨hg1, hp⟩
    rw [HT.out] at hp
    obtain ⟨A1, cc1, rfl, hA1, hR2⟩ := hp
    have hS2 := hS1.next hg1 hR2
    have hB2 := hB0.trans (gb_under hg1 hR1.lt)
    obtain ⟨ad, x0, rfl, hadb, hx0, hc0⟩ := RL.atl hA1 (k := 0) (by simp)
    obtain ⟨ad', y0, hA', _, hy0, hc1⟩ := RL.atl hA1 (k := 1) (by simp)
    injection hA' with hA'
    subst hA'
    obtain rfl : x = x0 := by have := hx0.out; injection this
    obtain rfl : y = y0 := by have := hy0.out; injection this
    have hc0' : w1.cell? ad = some (.int .i64 (x : Int)) := by rw [show ad.add 0 = ad by unfold Addr.add; simp] at hc0; exact hc0
    have hc1' : w1.cell? ⟨ad.block, ad.off + 1, none⟩ = some (.int .i64 (y : Int)) := by rw [add_pos] at hc1; exact hc1
    have hxb : ((x : Int) == 1) = decide (x = 1) := by
      rw [Bool.eq_iff_iff]; simp; omega
    clear hc0 hc1 hx0 hy0 hA1 hws hB0 hS1 hR1 hR2 c1 hg1
    by_cases hy0 : y = 0
    · subst hy0
      have HG2 : Bx (R = (storedP b lim q out).bind fun z => .ok ((decide (x = 1), z.1), z.2)) := bx (by rw [HG.out, bodyP, if_pos rfl])
      go_wp2_with fail
      refine (istored_any gs gr B b q lim out w1 hS2).mono ?_
      rintro e w2 hp
      obtain ⟨k, rfl, hP⟩ := blk_of_body HG2.out hB2 hp
      clear hc0' hc1' hp
      have HP := bx hP
      clear hP
      go_wp2
      go_ret2
      exact HP.out
    · have hy0b : ((y : Int) == 0) = false := by rw [beq_eq_false_iff_ne]; omega
      by_cases hy3 : y = 3
      · subst hy3
        have HF : Bx (R = .err 3) := bx (by rw [HG.out, bodyP, if_neg hy0, if_pos rfl]; rfl)
        have HB := bx hB2
        clear hy0 hy0b
        go_wp2
        go_ret2
        exact blkPost_err HF.out HB.out
      · have hy3b : ((y : Int) == 3) = false := by rw [beq_eq_false_iff_ne]; omega
        have HG2 : Bx (R = (if y = 2 then (toldP b q).bind fun u => codedP lim out u.1.1 u.1.2 b u.2 else codedP lim out fixLit fixDist b q).bind fun z => .ok ((decide (x = 1), z.1), z.2)) := bx (by rw [HG.out, bodyP, if_neg hy0, if_neg hy3])
        clear hy0 hy3 HG
        go_wp2_with fail
        refine (fixed_any w1).mono ?_
        rintro e w2 ⟨A2, A3, cc2, cc3, rfl, hL2, hD2, hb2⟩
        have hS3 := hS2.step hb2
        have hB3 := hB2.trans (hb2.mono (by have := hS2.lt; omega))
        have hc1'' : w2.cell? ⟨ad.block, ad.off + 1, none⟩ = some (.int .i64 (y : Int)) := (hb2.cell (p := ⟨ad.block, ad.off + 1, none⟩) hadb).trans hc1'
        clear hc0' hc1' hS2 hB2 hb2 hy0b hy3b
        go_upto_if 41 with (fail)
        go_cut [5, 7, 8, 42, 43, 44, 45, 46, 47, 48, 49, 50] (fun _ a c _ _ _ _ _ _ _ _ _ wx => ∃ A n cc A' n' cc' l d q', a = .slice A n cc ∧ c = .slice A' n' cc' ∧ l.length = n ∧ d.length = n' ∧ RN wx wx.heap.size A l ∧ RN wx wx.heap.size A' d ∧ ISt wx gs gr B b q' lim out ∧ Below gr w wx ∧
            (∀ t ∈ l, t ≤ 15) ∧ (∀ t ∈ d, t ≤ 15) ∧ n ≤ 288 ∧ n' ≤ 288 ∧ Bx (R = (codedP lim out l d b q').bind fun z => .ok ((decide (x = 1), z.1), z.2)))
        case first =>
          by_cases hy2 : y = 2
          · subst hy2
            rw [if_pos rfl] at HG2
            go_wp2_with fail
            refine (itold_any gs gr B b q lim out w2 hS3).mono ?_
            rintro e w3 ⟨hg3, hp⟩
            cases hT2 : toldP b q with
            | err k =>
              rw [hT2] at hp
              obtain ⟨rfl, hk0⟩ := hp
              have HF : Bx (R = .err k) := bx (by rw [HG2.out, hT2]; rfl)
              have HB := bx (hB3.trans (gb_under hg3 (by have := hS3.lt; omega)))
              have hkb : (k != 0) = true := by rw [bne_iff_ne]; exact hk0
              have HK0 := bx hk0
              clear hT2 hg3 hk0 hc1''
              go_wp2
              go_ret2
              exact blkPost_err HF.out HB.out HK0.out
            | ok u =>
              rw [hT2] at hp
              obtain ⟨⟨l, d⟩, q'⟩ := u
              obtain ⟨A, n, cc, A', n', cc', rfl, e1, e2, e3, e4, e5, e6, e7, e8, e9⟩ := hp
              have HG3 : Bx (R = (codedP lim out l d b q').bind fun z => .ok ((decide (x = 1), z.1), z.2)) := bx (by rw [HG2.out, hT2]; rfl)
              have HALL := bx (And.intro e1 (And.intro e2 (And.intro e3 (And.intro e4 (And.intro (hS3.next hg3 e5) (And.intro (hB3.trans (gb_under hg3 (by have := hS3.lt; omega))) (And.intro e6 (And.intro e7 (And.intro e8 (And.intro e9 HG3))))))))))
              clear hT2 hg3 e1 e2 e3 e4 e5 e6 e7 e8 e9 hc1''
              go_wp2
              go_meet
              case rel => exact ⟨A, n, cc, A', n', cc', l, d, q', rfl, rfl, HALL.out⟩
          · have hy2b : ((y : Int) == 2) = false := by rw [beq_eq_false_iff_ne]; omega
            rw [if_neg hy2] at HG2
            have HALL := bx (And.intro fixLit_len (And.intro (show fixDist.length = 32 from List.length_replicate ..) (And.intro hL2 (And.intro hD2 (And.intro hS3 (And.intro hB3 (And.intro (show ∀ t ∈ fixLit, t ≤ 15 by decide +kernel) (And.intro (show ∀ t ∈ fixDist, t ≤ 15 by decide +kernel) (And.intro (show 288 ≤ 288 from Nat.le_refl _) (And.intro (show 32 ≤ 288 by omega) HG2))))))))))
            clear hy2
            go_wp2
            go_meet
            case rel => exact ⟨A2, 288, cc2, A3, 32, cc3, fixLit, fixDist, q, rfl, rfl, HALL.out⟩
        case rest =>
          clear hc1'' hS3 hB3 hL2 hD2 HG2
          obtain ⟨A, n, cc, A', n', cc', l, d, q', rfl, rfl, hl, hd, hL, hD, hS, hB, h15, h16, hn1, hn2, hgo⟩ := hcut
          have hwcs := hB.size
          have H15 := bx h15
          have H16 := bx h16
          have HL := bx hl
          have HD := bx hd
          clear h15 h16 hl hd
          go_wp2_with fail
          refine (pnew_any A n cc l false wc HL.out hn1 H15.out hL).mono ?_
          rintro e w4 ⟨hb4, hp⟩
          have hS4 := hS.step hb4
          have hB4 := hB.trans (hb4.mono (by have := hS.lt; omega))
          have hD4 := hD.step hb4
          have hwc := hb4.size
          have hSl := hS.lt
          cases hcb : codeB l false with
          | false =>
            have HF : Bx (R = .err 5) := bx (by rw [hgo.out, codedP, if_pos hcb]; rfl)
            rw [hcb, if_neg (by simp)] at hp
            obtain rfl := hp
            have HB := bx hB4
            clear hcb
            go_wp2
            go_ret2
            exact blkPost_err HF.out HB.out
          | true =>
            rw [hcb, if_pos rfl] at hp
            obtain ⟨g1, rfl, hC1⟩ := hp
            have HG3 : Bx (R = (if codeB d true = false then .err 5 else symP l d lim out b q').bind fun z => .ok ((decide (x = 1), z.1), z.2)) := bx (by rw [hgo.out, codedP, if_neg (by rw [hcb]; simp)])
            have hg1l := hC1.lt
            clear hcb hgo hb4 hS hB hD hL
            go_wp2_with fail
            refine (pnew_any A' n' cc' d true w4 HD.out hn2 H16.out hD4).mono ?_
            rintro e w5 ⟨hb5, hp⟩
            have hS5 := hS4.step hb5
            have hB5 := hB4.trans (hb5.mono (by have := hS4.lt; omega))
            have hC15 := hC1.below hb5 hg1l.2
            cases hcb : codeB d true with
            | false =>
              have HF : Bx (R = .err 5) := bx (by rw [HG3.out, if_pos hcb]; rfl)
              rw [hcb, if_neg (by simp)] at hp
              obtain rfl := hp
              have HB := bx hB5
              clear hcb
              go_wp2
              go_ret2
              exact blkPost_err HF.out HB.out
            | true =>
              rw [hcb, if_pos rfl] at hp
              obtain ⟨g2, rfl, hC2⟩ := hp
              have HG4 : Bx (R = (symP l d lim out b q').bind fun z => .ok ((decide (x = 1), z.1), z.2)) := bx (by rw [HG3.out, if_neg (by rw [hcb]; simp)])
              clear hcb HG3 hb5
              go_wp2_with fail
              refine (isymbols_any gs gr wc.heap.size wc.heap.size g1 w4.heap.size g2 b l d q' lim out w5 (hS5.more (by omega)) hC15 hC2 (Nat.le_refl _) hwc (by omega) (by omega)).mono ?_
              rintro e w6 hp
              obtain ⟨k, rfl, hP⟩ := blk_of_body HG4.out hB5 hp
              clear hp
              have HP := bx hP
              clear hP
              go_wp2
              go_ret2
              exact HP.out
end Go.Proofs.Ytbhljigppljjbaa
