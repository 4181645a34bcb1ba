/- Contract: samovarref09.local. -/
import Derived.Test.YtokojichjliieaaDoorArcL
import Derived.Deep.RegionHeld3
namespace Go.Proofs.YtokojichjliieaaDoor
open Go.RowKit
def locI : Option Nat → Int
  | none => -1
  | some a => (a : Int)
theorem piece_ext {b : List UInt8} {i j m : Nat} (h : ∀ k, k < m → b[i + k]? = b[j + k]?) : (b.drop i).take m = (b.drop j).take m := by
  apply List.ext_getElem?
  intro k
  rw [List.getElem?_take, List.getElem?_take]
  split
  · rw [List.getElem?_drop, List.getElem?_drop]; exact h k (by omega)
  · rfl
theorem piece_ne {b : List UInt8} {i j m k : Nat} {x y : UInt8} (hk : k < m) (hx : b[i + k]? = some x) (hy : b[j + k]? = some y) (hne : x ≠ y) : (b.drop i).take m ≠ (b.drop j).take m := fun e => by
  have := congrArg (·[k]?) e
  simp only [List.getElem?_take, List.getElem?_drop, if_pos hk, hx, hy] at this
  injection this with this
  exact hne this
set_option maxRecDepth 100000 in
set_option maxHeartbeats 8000000 in
theorem rloc_any (A : Option Addr) (n c dir p : Nat) (b : List UInt8) (nm : List UInt8) (me pk si su hd : Nat) (at0 : Int) (w : World) (hn : b.length = n) (hz : n ≤ 70000) (hnc : n ≤ c) (hc : (c : Int) ≤ 9223372036854775807) (hr : RB w w.heap.size A b) (hdir : dir + 22 ≤ n) (hp : p + 46 ≤ n)
    (hhead : hd < 4294967296) (_hpk : pk < 4294967296) (hnm : nm.length < 65536) :
    Calls Tryd.prog 37 #[.slice A n c, .agg #[strV nm, .int .i64 (me : Int), .int .i64 (pk : Int), .int .i64 (si : Int), .int .i64 (su : Int), .int .i64 at0, .int .i64 (hd : Int)], .int .i64 (p : Int), .int .i64 (dir : Int)] w
      fun e w' => e = .returned (.int .i64 (locI (localA b dir (⟨nm, me, pk, si, su, hd⟩, p)))) ∧ Below w.heap.size w w' := by
  obtain ⟨R, hR⟩ : ∃ R, localA b dir (⟨nm, me, pk, si, su, hd⟩, p) = R := ⟨_, rfl⟩
  rw [hR]
  obtain ⟨ri, hri⟩ : ∃ ri, locI R = ri := ⟨_, rfl⟩
  rw [hri]
  have HNo : Bx (R = none → ri = -1) := bx (fun h => by rw [← hri, h]; rfl)
  have HSo : Bx (∀ a, R = some a → ri = (a : Int)) := bx (fun a h => by rw [← hri, h]; rfl)
  unfold localA at hR
  dsimp only at hR
  obtain ⟨sn, hsn⟩ : ∃ s, (⟨nm.toArray⟩ : ByteArray) = s := ⟨_, rfl⟩
  obtain ⟨ln, hln⟩ : ∃ ln, nm.length = ln := ⟨_, rfl⟩
  have hss : sn.size = ln := by rw [← hsn, ← hln]; rfl
  have HSN := bx hsn
  rw [hln] at hR hnm
  obtain ⟨w1, hw1⟩ : ∃ w1, w.alloc (.cells #[.string sn, .int .i64 (me : Int), .int .i64 (pk : Int), .int .i64 (si : Int), .int .i64 (su : Int), .int .i64 at0, .int .i64 (hd : Int)] 33) = w1 := ⟨_, rfl⟩
  obtain ⟨g, hg⟩ : ∃ g, w.heap.size = g := ⟨_, rfl⟩
  have hk : Bk w1 g 33 #[.string sn, .int .i64 (me : Int), .int .i64 (pk : Int), .int .i64 (si : Int), .int .i64 (su : Int), .int .i64 at0, .int .i64 (hd : Int)] := by rw [← hw1]; exact Bk.newAt _ _ _ hg
  have k0 : w1.cell? ⟨g, 0, none⟩ = some (.string sn) := (hk.cell 0).trans rfl
  have k2 : w1.cell? ⟨g, 2, none⟩ = some (.int .i64 (pk : Int)) := (hk.cell 2).trans rfl
  have k6 : w1.cell? ⟨g, 6, none⟩ = some (.int .i64 (hd : Int)) := (hk.cell 6).trans rfl
  have HB1 : Bx (Below w.heap.size w w1) := bx (by rw [← hw1]; exact bl_alloc (Below.refl _ _) (Nat.le_refl _) _)
  have HR1 : Bx (RB w1 g A b) := bx (by rw [← hw1, ← hg]; exact hr.alloc (Nat.le_refl _) _)
  have hglt : g < w1.heap.size := hk.lt
  have hg1 : g ≤ w1.heap.size := by rw [← hg]; exact HB1.out.size
  have HW1 := bx hw1
  have HG := bx hg
  have HN := bx hn
  have HR0 := bx hR
  rw [hg] at HB1
  have HSV : Bx (strV nm = .string sn) := bx (by unfold strV; rw [hsn])
  rw [HSV.out]
  clear hR hri hsn hln hk hw1 hg hn hr
  have d9 : IntKind.i64.wrap ((dir : Int) - (hd : Int)) = (dir : Int) - (hd : Int) := IntWalk.i64_in _ (by omega)
  by_cases c1 : dir < hd + 30
  · have HX := bx (HNo.out (by rw [← HR0.out, if_pos (.inl c1)]))
    by_cases c2 : dir < hd
    · have c2I : (dir : Int) < (hd : Int) := by omega
      have c2K : decide (dir < hd) = true := decide_eq_true c2
      clear c1 c2
      go_enter Tryd.func37, Tryd.ntmps37
      go_wp2_with fail
      rw [HW1.out]
      rw [HG.out]
      go_wp2
      go_ret
      exact ⟨ret_v (by rw [HX.out]; rfl), by first | exact HB1.out | (rw [HG.out]; exact HB1.out)⟩
    · have c2I : ¬ (dir : Int) < (hd : Int) := by omega
      have c2K : decide (dir < hd) = false := decide_eq_false c2
      have c3I : (dir : Int) - (hd : Int) < 30 := by omega
      clear c1 c2
      go_enter Tryd.func37, Tryd.ntmps37
      go_wp2_with fail
      rw [HW1.out]
      rw [HG.out]
      go_wp2
      go_ret
      exact ⟨ret_v (by rw [HX.out]; rfl), by first | exact HB1.out | (rw [HG.out]; exact HB1.out)⟩
  have c1I : ¬ (dir : Int) < (hd : Int) := by omega
  have c1K : decide (dir < hd) = false := decide_eq_false (by omega)
  have c1J : ¬ (dir : Int) - (hd : Int) < 30 := by omega
  have c1L : decide ((dir : Int) - (hd : Int) < 30) = false := decide_eq_false c1J
  have hhd : hd + 30 ≤ dir := by omega
  obtain ⟨sg, hsg⟩ : ∃ sg, signA b hd 3 4 = sg := ⟨_, rfl⟩
  have hsgn := rsign_r A n c hd b 3 4 3 4 w1 w1 rfl rfl HN.out (by omega) (by omega) (HR1.out.more hg1) (Below.refl _ _)
  rw [hsg] at hsgn
  have hR1 := HR0.out
  rw [hsg] at hR1
  have HSG := bx hsgn
  clear hsgn hsg HR0
  cases sg with
  | false =>
    have HX := bx (HNo.out (by rw [← hR1, if_pos (.inr (.inl rfl))]))
    clear hR1 c1
    go_enter Tryd.func37, Tryd.ntmps37
    go_wp2_with fail
    rw [HW1.out]
    rw [HG.out]
    go_wp2_with fail
    refine HSG.out.mono ?_
    rintro e1 w2 ⟨rfl, rfl⟩
    go_wp2
    go_ret
    exact ⟨ret_v (by rw [HX.out]; rfl), by first | exact HB1.out | (rw [HG.out]; exact HB1.out)⟩
  | true =>
  have HR2 := bx hR1
  clear hR1 c1
  go_enter Tryd.func37, Tryd.ntmps37
  go_wp2_with fail
  rw [HW1.out]
  rw [HG.out]
  go_wp2_with fail
  refine HSG.out.mono ?_
  rintro e1 w1 ⟨rfl, rfl⟩
  go_wp2_with fail
  clear HSG HW1
  go_loopw [9] (fun iv wx => ∃ k q : Nat, k ≤ 24 ∧ iv = .int .i64 (k : Int) ∧ wx = w1.drewN q ∧ Bx (∀ j, j < k → b[hd + 4 + j]? = b[p + 6 + j]?)) (fun iv _ => 24 - (intOf iv).toNat)
  case atStart => exact ⟨0, 0, by omega, rfl, rfl, bx (fun j h => absurd h (by omega))⟩
  case round =>
    obtain ⟨k, q, hk, rfl, rfl, HEQ⟩ := hrel
    by_cases hk24 : k < 24
    · have hkI : (k : Int) < 24 := by omega
      obtain ⟨ad, x, rfl, _, hx, cx⟩ := HR1.out.byte (k := hd + 4 + k) (by have := HN.out; omega)
      obtain ⟨ad2, y, hA2, _, hy, cy⟩ := HR1.out.byte (k := p + 6 + k) (by have := HN.out; omega)
      injection hA2 with hA2
      subst hA2
      have u1 : IntKind.i64.wrap ((hd : Int) + 4) = (hd : Int) + 4 := IntWalk.i64_in _ (by omega)
      have u2 : IntKind.i64.wrap ((hd : Int) + 4 + (k : Int)) = (hd : Int) + 4 + (k : Int) := IntWalk.i64_in _ (by omega)
      have u3 : IntKind.i64.wrap ((p : Int) + 6) = (p : Int) + 6 := IntWalk.i64_in _ (by omega)
      have u4 : IntKind.i64.wrap ((p : Int) + 6 + (k : Int)) = (p : Int) + 6 + (k : Int) := IntWalk.i64_in _ (by omega)
      have u5 : ((hd : Int) + 4 + (k : Int)).toNat = hd + 4 + k := by omega
      have u6 : ((p : Int) + 6 + (k : Int)).toNat = p + 6 + k := by omega
      have u7 : (0 : Int) ≤ (hd : Int) + 4 + (k : Int) := by omega
      have u8 : (hd : Int) + 4 + (k : Int) < (n : Int) := by omega
      have u9 : (0 : Int) ≤ (p : Int) + 6 + (k : Int) := by omega
      have ua : (p : Int) + 6 + (k : Int) < (n : Int) := by omega
      by_cases hxy : x = y
      · have hb1 : ((x.toNat : Int) != (y.toNat : Int)) = false := by rw [hxy]; simp
        have HEQ2 : Bx (∀ j, j < k + 1 → b[hd + 4 + j]? = b[p + 6 + j]?) := bx (fun j hj => by
          by_cases e : j = k
          · subst e; rw [hx.out, hy.out, hxy]
          · exact HEQ.out j (by omega))
        clear hxy hx hy
        go_wp2
        go_quiet (fail)
        go_wp2
        go_roundw
        case rel => exact ⟨k + 1, q + nq, by omega, by go_num, rfl, HEQ2⟩
        case measure => simp [intOf]; omega
      · have hb1 : ((x.toNat : Int) != (y.toNat : Int)) = true := by rw [bne_iff_ne]; exact u8_ne hxy
        have HX := bx (HNo.out (by rw [← HR2.out, if_pos (.inr (.inr (piece_ne hk24 hx.out hy.out hxy)))]))
        clear hxy hx hy
        go_wp2
        go_quiet (fail)
        go_wp2
        go_ret
        exact ⟨ret_v (by rw [HX.out]; rfl), by rw [HG.out]; exact below_drewN (below_drewN HB1.out _) _⟩
    have hkI : ¬ (k : Int) < 24 := by omega
    obtain rfl : k = 24 := by omega
    have hR2 := HR2.out
    rw [if_neg (by rintro (h | h | h); omega; cases h; exact h (piece_ext HEQ.out))] at hR2
    obtain ⟨w2, hw2⟩ : ∃ w2, w1.drewN q = w2 := ⟨_, rfl⟩
    have hB2 : Bx (Below g w w2) := by rw [← hw2]; exact bx (below_drewN HB1.out _)
    have hR12 : Bx (RB w2 g A b) := by rw [← hw2]; exact bx (HR1.out.drewN q)
    have q0 : w2.cell? ⟨g, 0, none⟩ = some (.string sn) := by rw [← hw2]; exact k0
    have q2 : w2.cell? ⟨g, 2, none⟩ = some (.int .i64 (pk : Int)) := by rw [← hw2]; exact k2
    have q6 : w2.cell? ⟨g, 6, none⟩ = some (.int .i64 (hd : Int)) := by rw [← hw2]; exact k6
    have hgz : g < w2.heap.size := by rw [← hw2]; exact hglt
    rw [hw2]
    obtain ⟨ex, hex⟩ : ∃ ex, numA b (hd + 28) 2 = ex := ⟨_, rfl⟩
    have lex : ex < 65536 := by rw [← hex]; exact numA_2 _ _
    rw [hex] at hR2
    have HEX := bx hex
    have HR3 := bx hR2
    clear hw2 k0 k2 k6 hglt hg1 HB1 HR1 HR2 hR2 hex HEQ hk24 hk hkI c1K c1L c1I c1J d9
    have x1 : IntKind.i64.wrap ((dir : Int) - ((hd : Int) + 30)) = (dir : Int) - ((hd : Int) + 30) := IntWalk.i64_in _ (by omega)
    have x2 : IntKind.i64.wrap ((hd : Int) + 30 + (ln : Int)) = (hd : Int) + 30 + (ln : Int) := IntWalk.i64_in _ (by omega)
    have hF : ∀ a, a = hd + 30 + ln + ex → (dir < a ∨ dir < a + pk ∨ (b.drop (hd + 30)).take ln ≠ nm → ri = -1) ∧ (¬ (dir < a ∨ dir < a + pk ∨ (b.drop (hd + 30)).take ln ≠ nm) → ri = (a : Int)) := fun a ha => by
      subst ha
      exact ⟨fun h => HNo.out (by rw [← HR3.out, if_pos h]), fun h => HSo.out _ (by rw [← HR3.out, if_neg h])⟩
    obtain ⟨av, hav⟩ : ∃ av, av = hd + 30 + ln + ex := ⟨_, rfl⟩
    have HF := bx (hF av hav)
    have HAV := bx hav
    clear hF hav HR3 HNo HSo
    by_cases e1 : dir < hd + 30 + ln
    · have HX := bx (HF.out.1 (.inl (by have := HAV.out; omega)))
      have e1I : (dir : Int) - ((hd : Int) + 30) < (ln : Int) := by omega
      clear e1
      go_wp2
      go_quiet (fail)
      go_wp2
      go_ret
      exact ⟨ret_v (by rw [HX.out]; rfl), by rw [HG.out]; exact below_drewN hB2.out _⟩
    have e1I : ¬ (dir : Int) - ((hd : Int) + 30) < (ln : Int) := by omega
    have e1K : decide ((dir : Int) - ((hd : Int) + 30) < (ln : Int)) = false := decide_eq_false e1I
    obtain ⟨ad, x0, rfl, _, _, _⟩ := hR12.out.byte (k := hd) (by have := HN.out; omega)
    obtain ⟨s3, hs3⟩ : ∃ s, (⟨((b.drop (hd + 30)).take ln).toArray⟩ : ByteArray) = s := ⟨_, rfl⟩
    have hle : hd + 30 + ln ≤ b.length := by have := HN.out; omega
    have hcv3 := fun nq => run_cut_str (hR12.out.drewN nq) (i := hd + 30) (m := ln) (c := c - (hd + 30)) (n := ((hd : Int) + 30 + (ln : Int)).toNat - (hd + 30)) (by omega) hle hs3
    rw [show ad.add (hd + 30) = ⟨ad.block, ad.off + (hd + 29 + 1), none⟩ from add_pos ad (hd + 29)] at hcv3
    have u1 : IntKind.i64.wrap ((hd : Int) + 30) = (hd : Int) + 30 := IntWalk.i64_in _ (by omega)
    have v1 : (0 : Int) ≤ (hd : Int) + 30 := by omega
    have v2 : (hd : Int) + 30 ≤ (hd : Int) + 30 + (ln : Int) := by omega
    have v3 : (hd : Int) + 30 + (ln : Int) ≤ (c : Int) := by omega
    have v4 : ((hd : Int) + 30).toNat = hd + 30 := Int.toNat_natCast (hd + 30)
    have v5 : ¬ c = hd + 30 := by omega
    by_cases e5 : (b.drop (hd + 30)).take ln = nm
    case neg =>
      have hst : (s3.toList == sn.toList) = false := tl_diff (by rw [← hs3, ← HSN.out]; simpa using e5)
      have HX := bx (HF.out.1 (.inr (.inr e5)))
      clear hs3 e5 e1
      go_wp2
      go_quiet (fail)
      go_wp2
      go_ret
      exact ⟨ret_v (by rw [HX.out]; rfl), by rw [HG.out]; exact below_drewN hB2.out _⟩
    have hst : (s3.toList == sn.toList) = true := tl_same (by rw [← hs3, ← HSN.out]; simpa using e5)
    have HNB : Bx ((b.drop (hd + 30)).take ln = nm) := bx e5
    clear hs3 e5 e1
    go_wp2
    go_quiet (fail)
    rename Nat => nq
    go_wp2
    obtain ⟨w3, hw3⟩ : ∃ w3, w2.drewN nq = w3 := ⟨_, rfl⟩
    have hB3 : Bx (Below g w w3) := by rw [← hw3]; exact bx (below_drewN hB2.out _)
    have hR3 : Bx (RB w3 g (some ad) b) := by rw [← hw3]; exact bx (hR12.out.drewN nq)
    have r0 : w3.cell? ⟨g, 0, none⟩ = some (.string sn) := by rw [← hw3]; exact q0
    have r2 : w3.cell? ⟨g, 2, none⟩ = some (.int .i64 (pk : Int)) := by rw [← hw3]; exact q2
    have r6 : w3.cell? ⟨g, 6, none⟩ = some (.int .i64 (hd : Int)) := by rw [← hw3]; exact q6
    have hg3 : g < w3.heap.size := by rw [← hw3]; exact hgz
    rw [hw3]
    have HNUM := bx (rnum_r (some ad) n c hd 28 2 28 2 b w3.drew w3.drew HN.out hnc hc ((hR3.out.drew).more (Nat.le_of_lt hg3)) (Below.refl _ _) rfl rfl (by omega) (by omega) (by omega) HEX.out)
    clear hw3 q0 q2 q6 hgz hB2 hR12 hcv3 hst u1 v1 v2 v3 v4 v5 x1 e1K e1I HEX
    have hS0 : w3.drew.cell? ⟨g, 0, none⟩ = some (.string sn) ∧ w3.drew.cell? ⟨g, 6, none⟩ = some (.int .i64 (hd : Int)) := ⟨r0, r6⟩
    have u2 : IntKind.i64.wrap ((hd : Int) + 28) = (hd : Int) + 28 := IntWalk.i64_in _ (by omega)
    have u3 : IntKind.i64.wrap ((hd : Int) + 30 + (ln : Int)) = (hd : Int) + 30 + (ln : Int) := IntWalk.i64_in _ (by omega)
    have u4 : IntKind.i64.wrap ((hd : Int) + 30 + (ln : Int) + (ex : Int)) = (hd : Int) + 30 + (ln : Int) + (ex : Int) := IntWalk.i64_in _ (by omega)
    go_region_held3 (fun w' => w'.cell? ⟨g, 0, none⟩ = some (.string sn) ∧ w'.cell? ⟨g, 6, none⟩ = some (.int .i64 (hd : Int))) (first | exact hS0 | exact hS1) ((go_at_call 35; refine HNUM.out.mono ?_; rintro e w4 ⟨rfl, hb4⟩; have hS1 : w4.cell? ⟨g, 0, none⟩ = some (.string sn) ∧ w4.cell? ⟨g, 6, none⟩ = some (.int .i64 (hd : Int)) := ⟨(hb4.cell hg3).trans r0, (hb4.cell hg3).trans r6⟩))
    rename World => w4
    rename Below w3.drew.heap.size w3.drew w4 => hb4
    have t2 : w4.cell? ⟨g, 2, none⟩ = some (.int .i64 (pk : Int)) := (hb4.cell hg3).trans r2
    have HB4 : Bx (Below g w w4) := bx (hB3.out.trans ((below_drewN (Below.refl g w3) 1).trans (hb4.mono (Nat.le_of_lt hg3))))
    have hav' : (hd : Int) + 30 + (ln : Int) + (ex : Int) = (av : Int) := by have := HAV.out; omega
    rw [hav']
    clear hb4 hS0 hS1 hav' u2 u3 u4 HNUM r0 r2 r6 hg3 hB3 hR3
    have x5 : IntKind.i64.wrap ((dir : Int) - (av : Int)) = (dir : Int) - (av : Int) := IntWalk.i64_in _ (by have := HAV.out; omega)
    have havb : av ≤ 300000 := by have := HAV.out; omega
    by_cases e3 : dir < av
    · have HX := bx (HF.out.1 (.inl e3))
      have e3I : (dir : Int) < (av : Int) := by omega
      clear e3
      go_wp2
      go_ret
      exact ⟨ret_v (by rw [HX.out]; rfl), by rw [HG.out]; exact HB4.out⟩
    have e3I : ¬ (dir : Int) < (av : Int) := by omega
    by_cases e4 : dir < av + pk
    · have HX := bx (HF.out.1 (.inr (.inl e4)))
      have e4I : (dir : Int) - (av : Int) < (pk : Int) := by omega
      clear e3 e4
      go_wp2
      go_ret
      exact ⟨ret_v (by rw [HX.out]; rfl), by rw [HG.out]; exact HB4.out⟩
    have e4I : ¬ (dir : Int) - (av : Int) < (pk : Int) := by omega
    have HX := bx (HF.out.2 (by rintro (h | h | h); exact e3 h; exact e4 h; exact h HNB.out))
    clear e3 e4
    go_wp2
    go_ret
    exact ⟨ret_v (by rw [HX.out]; rfl), by rw [HG.out]; exact HB4.out⟩
end Go.Proofs.YtokojichjliieaaDoor
