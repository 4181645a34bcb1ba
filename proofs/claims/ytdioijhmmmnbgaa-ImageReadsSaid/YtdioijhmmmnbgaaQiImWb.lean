/- Walk of ImageBack. -/
import Derived.Test.YtdioijhmmmnbgaaQiImZ
import Derived.Test.YtdioijhmmmnbgaaQiImFw
import Derived.Test.YtdioijhmmmnbgaaQiImArg
namespace Go.Proofs.Ytdioijhmmmnbgaa
open Go.RowKit
theorem att_small {w : World} {B : Nat} {A : Option Addr} {L : List AtE} (h : RA w B A L) (hv : ∀ y ∈ L.map AtE.p, attV y) : ∀ y ∈ L, y.s.n ≤ 140737488355328 := fun y hy => by
  have h1 := (hv y.p (List.mem_map_of_mem hy)).2.2
  have h2 : y.s.l.length < 4294967296 := h1
  have h3 := (h.2 y hy).1
  omega
theorem mem_small {w : World} {B : Nat} {A : Option Addr} {L : List MmE} (h : RM w B A L) (hv : ∀ y ∈ L.map MmE.p, memV y) : ∀ z ∈ L, z.n ≤ 140737488355328 ∧ ∀ y ∈ z.L, y.s.n ≤ 140737488355328 := fun z hz => by
  have h1 := hv z.p (List.mem_map_of_mem hz)
  have h2 : (z.L.map AtE.p).length ≤ 64 := h1.2.2.2.1
  rw [List.length_map] at h2
  have h3 := h.2 z hz
  exact ⟨by have := h3.1; omega, att_small h3.2.2.2 h1.2.2.2.2⟩
theorem sz_of {w : World} {B : Nat} {x : ImE} (h : RIm w B x) (hv : imgV x.p) : ImSz x := by
  obtain ⟨_, _, ⟨pl, hp, hpl, _⟩, _, _, _, ⟨hi, _⟩, ⟨hf, hfv⟩, ⟨hm, hmv⟩, ⟨ha, hav⟩⟩ := hv
  have e1 : x.pool.length = pl.length + 1 := by have e : x.pool = cst0 :: pl := hp; rw [e]; rfl
  have e2 : x.ifs.length ≤ 64 := hi
  have e3 : (x.fs.map MmE.p).length ≤ 64 := hf
  have e4 : (x.ms.map MmE.p).length ≤ 64 := hm
  have e5 : (x.as_.map AtE.p).length ≤ 64 := ha
  rw [List.length_map] at e3 e4 e5
  have p1 := h.pl.1
  have p2 := h.il.1
  have p3 := h.fl.1
  have p4 := h.ml.1
  have p5 := h.al.1
  exact ⟨mem_small h.fs hfv, mem_small h.ms hmv, att_small h.as_ hav, by omega, by omega, by omega, by omega, by omega⟩
theorem write_err {m : Img} {k : Int} (h : writeP m = .err k) : k = 8 ∨ (k = 24 ∧ holdsP m = false) := by
  unfold writeP at h
  split at h
  · rename_i h1; injection h with h; exact .inr ⟨h.symm, h1⟩
  split at h
  · injection h with h; exact .inl h.symm
  · cases h
theorem nums_of {x : ImE} {k : Nat} (h : ImNum x k) : numsOk x.p := h.nums
set_option maxRecDepth 100000 in
set_option maxHeartbeats 8000000 in
theorem imageBack_walk (w : World) (x : ImE) (rm : RIm w w.heap.size x) (kb : Nat) (nm : ImNum x kb) (hkb : kb ≤ 1048576) :
    Calls Try.prog 5 #[.agg (imC x)] w fun e w' => e = .returned (.bool true) ∧ Below w.heap.size w w' := by
  have HX := bx rm
  have HNM := bx (nums_of nm)
  have HT := bx (nm.texts (by omega))
  obtain ⟨cs, hcs⟩ : ∃ cs, cs = imC x := ⟨_, rfl⟩
  rw [← hcs]
  have HCS := bx hcs
  obtain ⟨B, hB⟩ : ∃ B, w.heap.size = B := ⟨_, rfl⟩
  have HKB := bx (Bk.newAt w 29 cs hB)
  have HBB := bx (bl_alloc (Below.refl w.heap.size w) (Nat.le_refl _) (.cells cs 29))
  have HB := bx hB
  clear rm nm hkb hcs hB
  go_enter Try.func5, Try.ntmps5
  go_upto_region 1 with (fail)
  rw [HB.out]
  change Code.wp _ _ _ _ (w.alloc (.cells cs 29))
  generalize w.alloc (.cells cs 29) = w0 at HKB HBB ⊢
  go_wp2_with fail
  refine (fixed14_any w0).mono ?_
  rintro e w1 ⟨rfl, hb1⟩
  have HB1 := bx (HBB.out.trans (hb1.mono HBB.out.size))
  have HK1 := bx (HKB.out.below hb1 HKB.out.lt)
  have HX1 := bx (HX.out.up HB1.out)
  have HF1 := bx (few_any x w1 HX1.out)
  have HKI : Bx (Bk w1 B 29 (imC x)) := bx (by rw [← HCS.out]; exact HK1.out)
  obtain ⟨f0, f1, f2, f3, f4, f5, f6, f7, f8, f9⟩ := im_all HKI.out
  clear hb1 HBB HKB
  go_wp2_with fail
  refine HF1.out.mono ?_
  rintro e w2 ⟨⟨q, rfl⟩, hb2⟩
  have HB2 := bx (HB1.out.trans (hb2.mono HB1.out.size))
  have HK2 := bx (HKI.out.below hb2 HKI.out.lt)
  have HX2 := bx (HX.out.up HB2.out)
  clear hb2 HF1 HB1 HK1 HX1 HKI f0 f1 f2 f3 f4 f5 f6 f7 f8 f9
  cases q with
  | false =>
    go_wp2
    go_ret
    exact ⟨rfl, HB2.out⟩
  | true =>
    have HW2 := bx (write_any x w2 HX2.out HT.out)
    obtain ⟨f0, f1, f2, f3, f4, f5, f6, f7, f8, f9⟩ := im_all HK2.out
    obtain ⟨W, hW⟩ : ∃ W, writeP x.p = W := ⟨_, rfl⟩
    rw [hW] at HW2
    have HWE := bx hW
    clear hW
    go_wp2_with fail
    refine HW2.out.mono ?_
    intro e w3 hp
    clear f0 f1 f2 f3 f4 f5 f6 f7 f8 f9
    cases W with
    | err k =>
      obtain ⟨rfl, _, hb3⟩ := iwErr hp rfl
      have HB3 := bx (HB2.out.trans (hb3.mono HB2.out.size))
      have HK3 := bx (HK2.out.below hb3 HK2.out.lt)
      clear hp hb3 HW2 HB2 HK2 HX2
      rcases write_err HWE.out with rfl | ⟨rfl, hh⟩
      · go_wp2
        go_ret
        exact ⟨rfl, HB3.out⟩
      · have HX3 := bx (HX.out.up HB3.out)
        have HH := bx (holds_any x w3 HX3.out HT.out)
        rw [hh] at HH
        obtain ⟨f0, f1, f2, f3, f4, f5, f6, f7, f8, f9⟩ := im_all HK3.out
        clear hh
        go_wp2_with fail
        refine HH.out.mono ?_
        rintro e w4 ⟨rfl, hb4⟩
        have HB4 := bx (HB3.out.trans (hb4.mono HB3.out.size))
        clear hb4 HH HB3 HK3 HX3 f0 f1 f2 f3 f4 f5 f6 f7 f8 f9
        go_wp2
        go_ret
        exact ⟨rfl, HB4.out⟩
    | ok o =>
      obtain ⟨A3, n3, c3, rfl, hn3, hr3, hl3, hb3⟩ := iwOk hp rfl
      have HB3 := bx (HB2.out.trans (hb3.mono HB2.out.size))
      have HK3 := bx (HK2.out.below hb3 HK2.out.lt)
      have HP3 := bx (parse_any A3 n3 c3 o w3 hn3.out.symm (by rw [hn3.out]; omega) hr3)
      rw [write_parse HNM.out HWE.out] at HP3
      have HIV := bx (holds_v HNM.out (write_ok HWE.out).1)
      clear hp hb3 hr3 hl3 hn3 HW2 HB2 HK2 HX2
      go_wp2_with fail
      refine HP3.out.mono ?_
      intro e w4 hp
      obtain ⟨y, hyp, rfl, hrm4, hb4⟩ := ppOk hp rfl
      have HB4 := bx (HB3.out.trans (hb4.mono HB3.out.size))
      have HK4 := bx (HK3.out.below hb4 HK3.out.lt)
      have HYP := bx hyp
      obtain ⟨g, hg⟩ : ∃ g, w4.heap.size = g := ⟨_, rfl⟩
      have HG := bx hg
      have hba : Below w4.heap.size w4 (w4.alloc (.cells (imC y) 29)) := bl_alloc (Below.refl _ _) (Nat.le_refl _) _
      have HG5 : Bx (Bk (w4.alloc (.cells (imC y) 29)) g 29 (imC y)) := bx (Bk.newAt _ _ _ hg)
      have HY5 := bx (hrm4.up hba)
      have HB5 := bx (HB4.out.trans (hba.mono HB4.out.size))
      have HK5 := bx (HK4.out.below hba HK4.out.lt)
      clear hp hb4 hrm4 hyp hg hba HP3 HB3 HK3
      go_upto_region 9 with (fail)
      rw [HG.out]
      change Code.wp _ _ _ _ (w4.alloc (.cells (imC y) 29))
      generalize w4.alloc (.cells (imC y) 29) = w5 at HG5 HY5 HB5 HK5 ⊢
      have HX5 := bx (HX.out.up HB5.out)
      have HS5 := bx (same14_any x y w5 HX5.out HY5.out (sz_of HX5.out HIV.out) (sz_of HY5.out (by rw [HYP.out]; exact HIV.out)))
      rw [show decide (x.p = y.p) = true from decide_eq_true HYP.out.symm] at HS5
      obtain ⟨f0, f1, f2, f3, f4, f5, f6, f7, f8, f9⟩ := im_all HK5.out
      obtain ⟨e0, e1, e2, e3, e4, e5, e6, e7, e8, e9⟩ := im_all HG5.out
      go_wp2_with fail
      refine HS5.out.mono ?_
      rintro e w6 ⟨rfl, hb6⟩
      have HB6 := bx (HB5.out.trans (hb6.mono HB5.out.size))
      clear hb6 HS5 HB5 HK5 HG5 HY5 HX5 f0 f1 f2 f3 f4 f5 f6 f7 f8 f9 e0 e1 e2 e3 e4 e5 e6 e7 e8 e9
      go_wp2
      go_ret
      exact ⟨rfl, HB6.out⟩
end Go.Proofs.Ytdioijhmmmnbgaa
