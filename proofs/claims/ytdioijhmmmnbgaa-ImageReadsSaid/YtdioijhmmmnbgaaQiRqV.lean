/- Contract: the document's Parse: where it stands; plain laws of what it read, whatever was read behind an error. -/
import Derived.Test.YtdioijhmmmnbgaaQiRqC
import Derived.Test.YtdioijhmmmnbgaaQiRqD
import Derived.Test.YtdioijhmmmnbgaaQiImV
namespace Go.Proofs.Ytdioijhmmmnbgaa
open Go.RowKit
/-- Where the document's Parse stands: the result's block gq, the reading's g, the image's gm. -/
structure PqR (w wx : World) (b : List UInt8) (gq g gm : Nat) (cs : Array Value) (s : Rz Nat) : Prop where
  bel : Below w.heap.size w wx
  zr : Bk wx gq 29 imZ
  im : Bk wx gm 29 cs
  src : Rg wx g b s
  lo : w.heap.size ≤ gq ∧ w.heap.size ≤ g ∧ w.heap.size ≤ gm
  hi : gq < g ∧ g < gm
section
variable {w wx w' : World} {b : List UInt8} {gq g gm n : Nat} {cs : Array Value} {s s' : Rz Nat}
theorem PqR.z (h : PqR w wx b gq g gm cs s) : w.heap.size ≤ wx.heap.size := h.bel.size
theorem PqR.next (h : PqR w wx b gq g gm cs s) (hs : Rg w' g b s') (c : Ch wx w' (Onl g)) : PqR w w' b gq g gm cs s' :=
  ⟨ch_low h.bel c (fun k hk => by rw [show k = g from hk]; exact h.lo.2.1) h.z,
   h.zr.ch c (fun hk => by have e : gq = g := hk; have := h.hi; omega),
   h.im.ch c (fun hk => by have e : gm = g := hk; have := h.hi; omega), hs, h.lo, h.hi⟩
theorem PqR.below (h : PqR w wx b gq g gm cs s) (hb : Below wx.heap.size wx w') : PqR w w' b gq g gm cs s :=
  ⟨h.bel.trans (hb.mono h.z), h.zr.below hb h.zr.lt, h.im.below hb h.im.lt, h.src.below hb, h.lo, h.hi⟩
/-- What lies above the image's block turned. -/
theorem PqR.over {B : Nat} (h : PqR w wx b gq g gm cs s) (hb : Below B wx w') (hB : gm < B) : PqR w w' b gq g gm cs s :=
  ⟨h.bel.trans (hb.mono (by have := h.lo.2.2; omega)), h.zr.below hb (by have := h.hi; omega), h.im.below hb hB, h.src.low hb (by have := h.hi; omega), h.lo, h.hi⟩
theorem PqR.set (h : PqR w wx b gq g gm cs s) (i : Nat) (u : Value) : PqR w (wx.setCell ⟨gm, i, none⟩ u) b gq g gm (cs.setIfInBounds i u) s :=
  ⟨h.bel.setCell h.lo.2.2 u, h.zr.far (fun e => by have e : gq = gm := e; have := h.hi; omega) u, h.im.set i u, h.src.low ((Below.refl gm wx).setCell (Nat.le_refl _) u) h.hi.2, h.lo, h.hi⟩
theorem PqR.two (h : PqR w wx b gq g gm cs s) (hB : gm < n) : ∀ k, Onl g k → k < n := fun k hk => by rw [show k = g from hk]; have := h.hi; omega
end
/-- The pool grows. -/
structure PqP (w wx : World) (b : List UInt8) (gq g gm : Nat) (cs : Array Value) (V : Value) (L : List Cst) (s : Rz Nat) : Prop where
  par : PqR w wx b gq g gm (cs.setIfInBounds 2 V) s
  own : OwS cstC 5 wx (gm + 1) 53 V L
section
variable {w wx w' : World} {b : List UInt8} {gq g gm n : Nat} {cs : Array Value} {s s' : Rz Nat} {V V' : Value} {L L' : List Cst}
theorem PqP.next (h : PqP w wx b gq g gm cs V L s) (hs : Rg w' g b s') (c : Ch wx w' (Onl g)) : PqP w w' b gq g gm cs V L s' :=
  ⟨h.par.next hs c, h.own.ch c (h.par.two (Nat.lt_succ_self _))⟩
theorem PqP.below (h : PqP w wx b gq g gm cs V L s) (hb : Below wx.heap.size wx w') : PqP w w' b gq g gm cs V L s := h.next (h.par.src.below hb) (Ch.of_below hb)
theorem PqP.sz (h : PqP w wx b gq g gm cs V L s) : gm + 1 ≤ wx.heap.size := h.par.im.lt
theorem PqP.app (h : PqP w wx b gq g gm cs V L s) (ho : OwS cstC 5 w' (gm + 1) 53 V' L') (hb : Below (gm + 1) wx w') : PqP w (w'.setCell ⟨gm, 2, none⟩ V') b gq g gm cs V' L' s :=
  ⟨by rw [← set_twice cs 2 V V']; exact (h.par.over hb (Nat.lt_succ_self _)).set 2 V', ho.set_other (fun e => by have := (ho.blk e).1; simp only at this; omega) V'⟩
end
/-- The interfaces grow. -/
structure PqI (w wx : World) (b : List UInt8) (gq g gm n : Nat) (x : ImE) (V : Value) (L : List Int) (s : Rz Nat) : Prop where
  par : PqR w wx b gq g gm ((imC x).setIfInBounds 6 V) s
  own : OwL iV wx n 3 V L
  rows : RImX wx (Btw gm n) x
  gn : gm < n
  le : n ≤ wx.heap.size
/-- Rows that are read lie in the image's block. -/
structure PqX (w wx : World) (b : List UInt8) (gq g gm n : Nat) (x : ImE) (s : Rz Nat) : Prop where
  par : PqR w wx b gq g gm (imC x) s
  rows : RImX wx (Btw gm n) x
  gn : gm < n
  le : n ≤ wx.heap.size
section
variable {w wx w' : World} {b : List UInt8} {gq g gm n : Nat} {x y : ImE} {s s' : Rz Nat} {V V' : Value} {L L' : List Int}
theorem PqX.two (h : PqR w wx b gq g gm (imC x) s) : ∀ k, Onl g k → k ≤ gm := fun k hk => by rw [show k = g from hk]; have := h.hi; omega
theorem PqX.next (h : PqX w wx b gq g gm n x s) (hs : Rg w' g b s') (c : Ch wx w' (Onl g)) : PqX w w' b gq g gm n x s' :=
  ⟨h.par.next hs c, btw_ch h.rows h.le c (PqX.two h.par), h.gn, Nat.le_trans h.le c.size⟩
theorem PqX.below (h : PqX w wx b gq g gm n x s) (hb : Below wx.heap.size wx w') : PqX w w' b gq g gm n x s := h.next (h.par.src.below hb) (Ch.of_below hb)
theorem PqX.top (h : PqX w wx b gq g gm n x s) : PqX w wx b gq g gm wx.heap.size x s :=
  ⟨h.par, h.rows.step (fun _ _ => rfl) (fun _ hk => ⟨hk.1, Nat.lt_of_lt_of_le hk.2 h.le⟩), Nat.lt_of_lt_of_le h.gn h.le, Nat.le_refl _⟩
theorem PqX.set (h : PqX w wx b gq g gm n x s) (i : Nat) (u : Value) (hc : (imC x).setIfInBounds i u = imC y) (hr : RImX wx (Btw gm n) x → RImX wx (Btw gm n) y) : PqX w (wx.setCell ⟨gm, i, none⟩ u) b gq g gm n y s := by
  have hp := h.par.set i u
  rw [hc] at hp
  exact ⟨hp, (hr h.rows).step (fun k hk => Below.heap_setCell wx _ u k (fun e => by have := hk.1; simp only at e; omega)) (fun _ h => h), h.gn, by simpa [World.setCell] using h.le⟩
theorem PqX.rim (h : PqX w wx b gq g gm n x s) : RIm wx wx.heap.size x := h.rows.rim fun _ hk => Nat.lt_of_lt_of_le hk.2 h.le
theorem PqI.two (h : PqI w wx b gq g gm n x V L s) : ∀ k, Onl g k → k ≤ gm := fun k hk => by rw [show k = g from hk]; have := h.par.hi; omega
theorem PqI.next (h : PqI w wx b gq g gm n x V L s) (hs : Rg w' g b s') (c : Ch wx w' (Onl g)) : PqI w w' b gq g gm n x V L s' :=
  ⟨h.par.next hs c, h.own.ch c (fun k hk e => by have := (World.ownsRow.lt h.own k hk).1; have := h.two k e; have := h.gn; omega), btw_ch h.rows h.le c h.two, h.gn, Nat.le_trans h.le c.size⟩
theorem PqI.below (h : PqI w wx b gq g gm n x V L s) (hb : Below wx.heap.size wx w') : PqI w w' b gq g gm n x V L s := h.next (h.par.src.below hb) (Ch.of_below hb)
theorem PqI.app (h : PqI w wx b gq g gm n x V L s) (ho : OwL iV w' n 3 V' L') (hb : Below n wx w') : PqI w (w'.setCell ⟨gm, 6, none⟩ V') b gq g gm n x V' L' s :=
  ⟨by rw [← set_twice (imC x) 6 V V']; exact (h.par.over hb h.gn).set 6 V',
   ho.kept (row := some gm) ⟨rfl, rfl, rfl, by simp [World.setCell], fun k _ hk => Below.heap_setCell w' _ V' k (fun e => hk (by rw [e]))⟩ (.inr (fun e => by have := (World.ownsRow.lt ho gm e).1; have := h.gn; omega)),
   h.rows.step (fun k hk => (Below.heap_setCell w' _ V' k (fun e => by have := hk.1; simp only at e; omega)).trans (hb.block k hk.2)) (fun _ h => h), h.gn, by have := hb.size; have := h.le; simp only [World.setCell, Array.size_modify]; omega⟩
theorem PqX.start (h : PqX w wx b gq g gm n x s) (hV : .slice x.iA x.i_n x.ic = V) (ho : V = .slice none 0 0) : PqI w wx b gq g gm wx.heap.size x V [] s :=
  ⟨by rw [← hV]; exact h.par, by rw [ho]; exact OwL.nil, h.top.rows, h.top.gn, Nat.le_refl _⟩
end
/-- The interfaces are read. -/
theorem PqI.fin {w wx : World} {b : List UInt8} {gq g gm n : Nat} {x : ImE} {s : Rz Nat} {A : Option Addr} {m c : Nat} {L : List Int} (h : PqI w wx b gq g gm n x (.slice A m c) L s) :
    PqX w wx b gq g gm wx.heap.size { x with iA := A, i_n := m, ic := c, ifs := L } s := by
  obtain ⟨h1, h2⟩ := h.own.rx h.gn
  have hr := h.rows.step (w' := wx) (Y := Btw gm wx.heap.size) (fun _ _ => rfl) (fun _ hk => ⟨hk.1, Nat.lt_of_lt_of_le hk.2 h.le⟩)
  exact ⟨h.par, ⟨hr.pool, hr.pl, h1, h2, hr.fs, hr.fl, hr.ms, hr.ml, hr.as_, hr.al⟩, Nat.lt_of_lt_of_le h.gn h.le, Nat.le_refl _⟩
/-- The pool is read. -/
theorem PqP.fin {w wx : World} {b : List UInt8} {gq g gm : Nat} {s : Rz Nat} {A : Option Addr} {m c : Nat} {L : List Cst} {mi ma : Int} (h : PqP w wx b gq g gm #[.int .i64 mi, .int .i64 ma, .slice none 0 0, .int .i64 0, .int .i64 0, .int .i64 0, .slice none 0 0, .slice none 0 0, .slice none 0 0, .slice none 0 0] (.slice A m c) L s) :
    PqX w wx b gq g gm wx.heap.size ⟨mi, ma, A, m, c, L, 0, 0, 0, none, 0, 0, [], none, 0, 0, [], none, 0, 0, [], none, 0, 0, []⟩ s := by
  obtain ⟨h1, h2⟩ := h.own.rx (gm := gm) (Nat.lt_succ_self _)
  refine ⟨h.par, ⟨h1, h2, Rx.none_, ⟨rfl, Nat.le_refl _, by show ((0 : Nat) : Int) ≤ _; decide⟩, ⟨Rx.none_, fun y hy => by cases hy⟩, ⟨rfl, Nat.le_refl _, by show ((0 : Nat) : Int) ≤ _; decide⟩, ⟨Rx.none_, fun y hy => by cases hy⟩, ⟨rfl, Nat.le_refl _, by show ((0 : Nat) : Int) ≤ _; decide⟩, ⟨Rx.none_, fun y hy => by cases hy⟩, ⟨rfl, Nat.le_refl _, by show ((0 : Nat) : Int) ≤ _; decide⟩⟩, h.sz, Nat.le_refl _⟩
section
variable {w wx : World} {b : List UInt8} {gq g gm n : Nat} {x : ImE} {s : Rz Nat} {A1 : Option Addr} {n1 c1 : Nat} {L1 : List MmE}
/-- The fields, the methods, the attributes are stored. -/
theorem PqX.fld (h : PqX w wx b gq g gm n x s) (f1 : (Rx wx (Btw gm n) A1 (L1.flatMap memC) ∧ ∀ y ∈ L1, MmX wx (Btw gm n) y) ∧ L1.length = n1 ∧ n1 ≤ c1 ∧ (c1 : Int) ≤ 9223372036854775807) :
    PqX w (wx.setCell ⟨gm, 7, none⟩ (.slice A1 n1 c1)) b gq g gm n { x with fA := A1, fn := n1, fc := c1, fs := L1 } s :=
  h.set 7 (.slice A1 n1 c1) rfl (fun h => ⟨h.pool, h.pl, h.ifs, h.il, f1.1, f1.2, h.ms, h.ml, h.as_, h.al⟩)
theorem PqX.mth (h : PqX w wx b gq g gm n x s) (f1 : (Rx wx (Btw gm n) A1 (L1.flatMap memC) ∧ ∀ y ∈ L1, MmX wx (Btw gm n) y) ∧ L1.length = n1 ∧ n1 ≤ c1 ∧ (c1 : Int) ≤ 9223372036854775807) :
    PqX w (wx.setCell ⟨gm, 8, none⟩ (.slice A1 n1 c1)) b gq g gm n { x with mA := A1, mn := n1, mc := c1, ms := L1 } s :=
  h.set 8 (.slice A1 n1 c1) rfl (fun h => ⟨h.pool, h.pl, h.ifs, h.il, h.fs, h.fl, f1.1, f1.2, h.as_, h.al⟩)
theorem PqX.att1 {L : List AtE} (h : PqX w wx b gq g gm n x s) (f1 : RAX wx (Btw gm n) A1 L ∧ L.length = n1 ∧ n1 ≤ c1 ∧ (c1 : Int) ≤ 9223372036854775807) :
    PqX w (wx.setCell ⟨gm, 9, none⟩ (.slice A1 n1 c1)) b gq g gm n { x with aA := A1, an := n1, ac := c1, as_ := L } s :=
  h.set 9 (.slice A1 n1 c1) rfl (fun h => ⟨h.pool, h.pl, h.ifs, h.il, h.fs, h.fl, h.ms, h.ml, f1.1, f1.2⟩)
theorem PqX.num3 (h : PqX w wx b gq g gm n x s) (v : Int) : PqX w (wx.setCell ⟨gm, 3, none⟩ (.int .i64 v)) b gq g gm n { x with access := v } s :=
  h.set 3 (.int .i64 v) rfl (fun h => ⟨h.pool, h.pl, h.ifs, h.il, h.fs, h.fl, h.ms, h.ml, h.as_, h.al⟩)
theorem PqX.num4 (h : PqX w wx b gq g gm n x s) (v : Int) : PqX w (wx.setCell ⟨gm, 4, none⟩ (.int .i64 v)) b gq g gm n { x with this := v } s :=
  h.set 4 (.int .i64 v) rfl (fun h => ⟨h.pool, h.pl, h.ifs, h.il, h.fs, h.fl, h.ms, h.ml, h.as_, h.al⟩)
theorem PqX.num5 (h : PqX w wx b gq g gm n x s) (v : Int) : PqX w (wx.setCell ⟨gm, 5, none⟩ (.int .i64 v)) b gq g gm n { x with super := v } s :=
  h.set 5 (.int .i64 v) rfl (fun h => ⟨h.pool, h.pl, h.ifs, h.il, h.fs, h.fl, h.ms, h.ml, h.as_, h.al⟩)
end
section
variable {b : List UInt8} {s : Rz Nat}
theorem if_roundQ {acc : List Nat} {m y : Nat} {R : Rz (List Nat × Nat)} {r : Rz (Nat × Nat)} (hR : repR (rdN 2) b acc s (m + 1) = R) (h : onR s (rdN 2) b = r) (hy : ∀ x, r = .ok x → (y : Int) = (x.1 : Int)) : repR (rdN 2) b (acc ++ [y]) (stR r) m = R := by
  cases s with
  | err k =>
    rw [repR_err] at hR
    have h : (.err k : Rz (Nat × Nat)) = r := h
    subst h; exact hR
  | ok p => exact rep_round hR h (fun x hx => by have := hy x hx; omega)
theorem if_endQ {acc : List Nat} {m : Nat} {RR : Rz (List Nat × Nat)} {r11 : Rz (List Int × Nat)} (h : repR (rdN 2) b acc s m = RR) (h11 : (RR.bind fun z => .ok (z.1.map (fun x : Nat => (x : Int)), z.2)) = r11) (he : m = 0 ∨ ∃ k, s = .err k) : stR r11 = s ∧ ∀ x, r11 = .ok x → acc.map (fun x : Nat => (x : Int)) = x.1 := by
  obtain ⟨e1, e2⟩ := rep_end h he
  subst h11
  cases RR with
  | err k => exact ⟨e1, fun x hx => by cases hx⟩
  | ok z => exact ⟨e1, fun x hx => by
      have hx : Rz.ok (z.1.map (fun x : Nat => (x : Int)), z.2) = Rz.ok x := hx
      injection hx with hx
      rw [e2 z rfl, ← hx]⟩
theorem img_chainQ {s1 : Rz Nat} {r0 : Rz (Nat × Nat)} {v0 : Int} {q : Bool} (h0 : onR (.ok 0) (rdN 4) b = r0) (hv : ∀ x, r0 = .ok x → v0 = (x.1 : Int)) (hq : (v0 != 3405691582) = q) (h1 : (if q = true then failR (stR r0) 24 else stR r0) = s1) : imgP b 0 = onR s1 im2 b := by
  refine img_chain h0 ?_
  rw [← h1]
  cases r0 with
  | err k => rw [stR_err, failR_err, ite_self, ite_self]
  | ok x =>
    have e : valN (.ok x) = v0 := (hv x rfl).symm
    rw [e, ← hq]
    by_cases h : v0 = 3405691582
    · rw [if_neg (fun e => e h), if_neg (by simp [h])]
    · rw [if_pos h, if_pos (by simp [h])]
theorem im2_chainQ {s4 : Rz Nat} {r2 r3 : Rz (Nat × Nat)} {v2 v3 : Int} {q : Bool} (h2 : onR s (rdN 2) b = r2) (h3 : onR (stR r2) (rdN 2) b = r3) (k2 : ∀ x, r2 = .ok x → v2 = (x.1 : Int)) (k3 : ∀ x, r3 = .ok x → v3 = (x.1 : Int))
    (hq : decide (v3 < 45 ∨ 52 < v3) = q) (h4 : (if q = true then failR (stR r3) 24 else stR r3) = s4) : onR s im2 b = onR s4 (im5 v2.toNat v3.toNat) b := by
  cases r3 with
  | err k =>
    have e := im2_chain h2 h3 rfl
    rw [stR_err, failR_err, ite_self] at e h4
    rw [e, ← h4, onR_err, onR_err]
  | ok y =>
    obtain ⟨x2, e2⟩ := okb h3
    have e2v : valN r2 = v2 := by rw [e2, k2 x2 e2]; rfl
    have e3v : valN (.ok y) = v3 := (k3 y rfl).symm
    have e := im2_chain (s4 := s4) h2 h3 (by
      rw [e3v, ← h4, ← hq]
      by_cases h : v3 < 45 ∨ 52 < v3
      · rw [if_pos h, if_pos (by simpa using h)]
      · rw [if_neg h, if_neg (by simpa using h)])
    rw [e2v, e3v] at e
    exact e
theorem im5_chainQ {mi ma n : Nat} {s6 : Rz Nat} {r5 : Rz (Nat × Nat)} {q : Bool} (h5 : onR s (rdN 2) b = r5) (hn : ∀ x, r5 = .ok x → (n : Int) = (x.1 : Int)) (hq : decide ((n : Int) < 1 ∨ 1024 < (n : Int)) = q) (h6 : (if q = true then failR (stR r5) 24 else stR r5) = s6) :
    onR s (im5 mi ma) b = onR s6 (im7 mi ma n) b := by
  cases r5 with
  | err k =>
    rw [stR_err, failR_err, ite_self] at h6
    unfold im5
    rw [onR_bind, h5, ← h6]; rfl
  | ok x => exact im5_chain h5 (hn x rfl).symm (by
      rw [← h6, ← hq]
      by_cases h : (n : Int) < 1 ∨ 1024 < (n : Int)
      · rw [if_pos h, if_pos (by simpa using h)]
      · rw [if_neg h, if_neg (by simpa using h)])
theorem PoolAt.startQ {r5 : Rz (Nat × Nat)} {s6 : Rz Nat} {k : Nat} {q : Bool} (hq : decide ((k : Int) < 1 ∨ 1024 < (k : Int)) = q) (h6 : (if q = true then failR (stR r5) 24 else stR r5) = s6) : PoolAt [] s6 k (k - 1) k :=
  PoolAt.start (s5 := stR r5) (by
    rw [← h6, ← hq]
    by_cases h : (k : Int) < 1 ∨ 1024 < (k : Int)
    · rw [if_pos h, if_pos (by simpa using h)]
    · rw [if_neg h, if_neg (by simpa using h)])
/-- What Parse answers, from its parts. -/
theorem parse_finQ {mi ma n : Nat} {s6 : Rz Nat} {R7 : Rz (List Cst × Nat)} {r8 r9 r10 : Rz (Nat × Nat)} {r11 : Rz (List Int × Nat)} {r12 r13 : Rz (List Mem × Nat)} {r14 : Rz (List Att × Nat)} {pl : List Cst} {ifs : List Int} {fs ms : List Mem} {as_ : List Att} {m : Img} {v8 v9 v10 : Int}
    (hb : b.length ≤ 32768) (hi : imgP b 0 = onR s6 (im7 mi ma n) b)
    (h7 : poolR b [cst0] s6 n (n - 1) = R7) (h8 : onR (stR R7) (rdN 2) b = r8) (h9 : onR (stR r8) (rdN 2) b = r9) (h10 : onR (stR r9) (rdN 2) b = r10) (h11 : onR (stR r10) ifP b = r11) (h12 : onR (stR r11) memsP b = r12)
    (h13 : onR (stR r12) memsP b = r13) (h14 : onR (stR r13) attsP b = r14) (k7 : ∀ x, R7 = .ok x → pl = x.1) (k11 : ∀ x, r11 = .ok x → ifs = x.1) (k12 : ∀ x, r12 = .ok x → fs = x.1) (k13 : ∀ x, r13 = .ok x → ms = x.1) (k14 : ∀ x, r14 = .ok x → as_ = x.1)
    (k8 : ∀ x, r8 = .ok x → v8 = (x.1 : Int)) (k9 : ∀ x, r9 = .ok x → v9 = (x.1 : Int)) (k10 : ∀ x, r10 = .ok x → v10 = (x.1 : Int))
    (hm : m = ⟨mi, ma, pl, v8, v9, v10, ifs, fs, ms, as_⟩) : parseP b = (fin15 r14 b m).bind (fun _ => .ok m) := by
  cases hr : r14 with
  | err k =>
    rw [im7_chain h7 h8 h9 h10 h11 h12 h13 h14, hr] at hi
    unfold parseP
    rw [if_neg (by omega), hi]; rfl
  | ok z =>
    rw [← hr]
    have h14' := h14
    rw [hr] at h14'
    obtain ⟨x13, e13⟩ := okb h14'
    have h13' := h13
    rw [e13] at h13'
    obtain ⟨x12, e12⟩ := okb h13'
    have h12' := h12
    rw [e12] at h12'
    obtain ⟨x11, e11⟩ := okb h12'
    have h11' := h11
    rw [e11] at h11'
    obtain ⟨x10, e10⟩ := okb h11'
    have h10' := h10
    rw [e10] at h10'
    obtain ⟨x9, e9⟩ := okb h10'
    have h9' := h9
    rw [e9] at h9'
    obtain ⟨x8, e8⟩ := okb h9'
    have f8 : valN r8 = v8 := by rw [e8, k8 x8 e8]; rfl
    have f9 : valN r9 = v9 := by rw [e9, k9 x9 e9]; rfl
    have f10 : valN r10 = v10 := by rw [e10, k10 x10 e10]; rfl
    exact (parse_fin hb hi h7 h8 h9 h10 h11 h12 h13 h14 k7 k11 k12 k13 k14 (by rw [hm, f8, f9, f10])).1
/-- The last two says. -/
theorem fin15Q {r14 : Rz (List Att × Nat)} {m : Img} {q1 q2 : Bool} {sA sB : Rz Nat} (hA : (if q1 = true then failR (stR r14) 24 else stR r14) = sA) (hB : (if q2 = true then failR sA 24 else sA) = sB) (h1 : ∀ z, r14 = .ok z → (q1 = true ↔ z.2 ≠ b.length)) (h2 : (!holdsP m) = q2) : fin15 r14 b m = sB := by
  cases r14 with
  | err k =>
    rw [stR_err, failR_err, ite_self] at hA
    rw [← hA, failR_err, ite_self] at hB
    rw [← hB]; rfl
  | ok z =>
    show (if z.2 ≠ b.length ∨ holdsP m = false then Rz.err 24 else .ok z.2) = sB
    have h := h1 z rfl
    rw [← hB, ← hA, ← h2]
    by_cases hz : z.2 ≠ b.length
    · rw [if_pos (.inl hz), if_pos (h.2 hz)]
      cases holdsP m <;> rfl
    · rw [if_neg (fun e => hz (h.1 e))]
      cases hh : holdsP m with
      | true => rw [if_neg (by rintro (e | e); exact hz e; cases e)]; rfl
      | false => rw [if_pos (.inr rfl)]; rfl
end
end Go.Proofs.Ytdioijhmmmnbgaa
