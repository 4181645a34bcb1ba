/- Contract: (*archive.book).local. -/
import Derived.Test.YtokojichjliieaaDoorArcF
import Derived.Test.YtokojichjliieaaDoorCel
namespace Go.Proofs.YtokojichjliieaaDoor
open Go.RowKit
/-- A book that lies below B. -/
def BookE (w : World) (B g : Nat) (b : List UInt8) : Prop :=
  ∃ A c m n, g < B ∧ m < B ∧ B ≤ w.heap.size ∧ Bk w g 50 #[.slice A b.length c, .map (some m)] ∧ RB w B A b ∧ b.length ≤ c ∧ MapT quadV w Tryd.prog 79 m n kindG ∧ (b.length : Int) ≤ 140737488355328 ∧ (c : Int) ≤ 9223372036854775807
theorem BookE.d {w : World} {B g : Nat} {b : List UInt8} (h : BookE w B g b) : BookD w g b := by
  obtain ⟨A, c, m, n, h1, h2, h3, h4, h5, r⟩ := h
  exact ⟨A, c, m, n, h4, h5.top, r⟩
theorem BookE.below {w w' : World} {B g : Nat} {b : List UInt8} (h : BookE w B g b) (hb : Below B w w') : BookE w' B g b := by
  obtain ⟨A, c, m, n, h1, h2, h3, h4, h5, h6, h7, r⟩ := h
  exact ⟨A, c, m, n, h1, h2, Nat.le_trans h3 hb.size, h4.below hb h1, h5.below hb (Nat.le_refl _), h6, h7.below hb h2, r⟩
abbrev Ent := Rec × Int × Nat
def fndL (x : Ent) : List Value := (fndC x.1 x.2.1 x.2.2).toList
theorem fndCels : Cels fndL 8 := ⟨fun _ => rfl, fun x u hu => by
  have := fndC_one x.1 x.2.1 x.2.2
  exact (Array.all_eq_true_iff_forall_mem.1 this) u (by simpa [fndL] using hu), by omega⟩
/-- What local answers. -/
def LocPost (R : Option Nat) (w : World) (gl base : Nat) (V : Value) (l : List Ent) (k : Nat) (x : Rec × Nat) (e : Ending) (w' : World) : Prop := w.grownBy w' (some gl) ∧ match R with
  | none => e = .returned (.int .i64 15)
  | some a => e = .returned (.int .i64 0) ∧ OwS fndL 8 w' base 57 V (l.set k (x.1, ((a : Nat) : Int), x.2))
theorem LocPost.bad {R : Option Nat} {w w' : World} {gl base : Nat} {V : Value} {l : List Ent} {k : Nat} {x : Rec × Nat} (h : R = none) (hg : w.grownBy w' (some gl)) : LocPost R w gl base V l k x (.returned (.int .i64 15)) w' := by
  subst h; exact ⟨hg, rfl⟩
theorem LocPost.good {R : Option Nat} {w w' : World} {gl base a : Nat} {V : Value} {l : List Ent} {k : Nat} {x : Rec × Nat} (h : R = some a) (hg : w.grownBy w' (some gl)) (ho : OwS fndL 8 w' base 57 V (l.set k (x.1, ((a : Nat) : Int), x.2))) : LocPost R w gl base V l k x (.returned (.int .i64 0)) w' := by
  subst h; exact ⟨hg, rfl, ho⟩
theorem tl_same {s t : ByteArray} (h : s.data.toList = t.data.toList) : (s.toList == t.toList) = true := by
  rw [Lib.toList_data, Lib.toList_data]; simpa using h
theorem tl_diff {s t : ByteArray} (h : ¬ s.data.toList = t.data.toList) : (s.toList == t.toList) = false := by
  rw [Lib.toList_data, Lib.toList_data]; simpa using h
/-- string(b[i:j]) as an equation, in the walk's spelling of the address. -/
theorem run_cut_str {w : World} {B : Nat} {ad : Addr} {b : List UInt8} (hr : RB w B (some ad) b) {i m c n : Nat} (hn : n = m) (hi : i + m ≤ b.length) {s : ByteArray} (hs : (⟨((b.drop i).take m).toArray⟩ : ByteArray) = s) :
    (convert 22 9 (.slice (some (ad.add i)) n c)).run Tryd.prog w = .ok (.string s) w := by
  rw [← hs]
  exact run_conv_str (P := Tryd.prog) (w := w) (B := B) (A := some (ad.add i)) (l := (b.drop i).take m) Tryd.underlying22 Tryd.underlying5 Tryd.underlying9 (by rw [hn]; simp; omega) ((hr.drop i).take m)
set_option maxRecDepth 100000 in
set_option maxHeartbeats 8000000 in
theorem local_any (g gl o k B base n c : Nat) (b : List UInt8) (x : Rec × Nat) (at0 : Int) (dir : Nat) (l : List Ent) (w : World) (h : BookE w B g b) (hgl : B ≤ gl) (ho : o = k * 8)
    (hl : OwS fndL 8 w base 57 (.slice (some ⟨gl, 0, none⟩) n c) l) (hk : l[k]? = some (x.1, at0, x.2)) (hdir : dir + 22 ≤ b.length) (hz : b.length ≤ 70000) (hp : x.2 + 30 ≤ b.length)
    (hhead : x.1.head < 4294967296) (hpk : x.1.packed < 4294967296) (hnm : x.1.name.length < 65536) :
    Calls Tryd.prog 31 #[.pointer (some ⟨g, 0, none⟩), .pointer (some ⟨gl, o, none⟩), .int .i64 (dir : Int)] w (LocPost (localA b dir x) w gl base (.slice (some ⟨gl, 0, none⟩) n c) l k x) := by
  obtain ⟨⟨nm, me, pk, si, su, hd⟩, p⟩ := x
  dsimp only at hk hp hhead hpk hnm
  obtain ⟨R, hR⟩ : ∃ R, localA b dir (⟨nm, me, pk, si, su, hd⟩, p) = R := ⟨_, rfl⟩
  rw [hR]
  unfold localA at hR
  dsimp only at hR
  have hE := h
  obtain ⟨A, cb, mk, q, hgB, _, hBz, hB, hr, hcb, _, _, hcl⟩ := h
  have hzl : k < l.length := (List.getElem?_eq_some_iff.1 hk).1
  have hlt : gl < w.heap.size := (hl.blk rfl).2
  have fz : ∀ j, w.frozen? ⟨gl, j, none⟩ = false := fun j => hl.frz j
  have q0 : w.cell? ⟨gl, o, none⟩ = some (.string ⟨nm.toArray⟩) := by subst ho; exact hl.cell fndCels (j := 0) hk rfl
  have q2 : w.cell? ⟨gl, o + 2, none⟩ = some (.int .i64 (pk : Int)) := by subst ho; exact hl.cell fndCels (j := 2) hk rfl
  have q5 : w.cell? ⟨gl, o + 5, none⟩ = some (.int .i64 at0) := by subst ho; exact hl.cell fndCels (j := 5) hk rfl
  have q6 : w.cell? ⟨gl, o + 6, none⟩ = some (.int .i64 (hd : Int)) := by subst ho; exact hl.cell fndCels (j := 6) hk rfl
  have q7 : w.cell? ⟨gl, o + 7, none⟩ = some (.int .i64 (p : Int)) := by subst ho; exact hl.cell fndCels (j := 7) hk rfl
  have c0 : w.cell? ⟨g, 0, none⟩ = some (.slice A b.length cb) := (hB.cell 0).trans rfl
  have hne : g ≠ gl := by omega
  have HO := bx ho
  clear ho
  have hG0 : w.grownBy w (some gl) := gb_below (Below.refl _ _) _
  by_cases e1 : dir < hd + 30 ∨ signA b hd 3 4 = false
  · have HR := bx (show R = none from by rw [← hR, if_pos (by rcases e1 with e | e; exact .inl e; exact .inr (.inl e))])
    have hv : (decide (hd + 30 ≤ dir) && signA b hd 3 4) = false := by
      rcases e1 with e | e
      · rw [decide_eq_false (by omega)]; rfl
      · rw [e, Bool.and_false]
    have HIS := bx (fun nq => (is_quiet g b hd 30 dir 3 3 4 (w.drewN nq) (hE.below (below_drewN (Below.refl _ _) nq)).d (.inr (.inr ⟨rfl, rfl, rfl⟩)) (by omega) (by omega) (by omega) (by omega)))
    rw [hv] at HIS
    have HG0 := bx hG0
    clear hR e1 hv hl hk hE hr hB hG0
    go_enter Tryd.func31, Tryd.ntmps31
    go_wp2
    go_quiet ((go_at_call 28; exact Calls.quiet_of (HIS.out _)))
    go_wp2
    go_ret
    exact LocPost.bad HR.out (gb_drewN HG0.out _)
  have e1a : hd + 30 ≤ dir := by omega
  have e1b : signA b hd 3 4 = true := by
    cases hs : signA b hd 3 4 with
    | true => rfl
    | false => exact absurd (.inr hs) e1
  have HIS := bx (fun nq => (is_quiet g b hd 30 dir 3 3 4 (w.drewN nq) (hE.below (below_drewN (Below.refl _ _) nq)).d (.inr (.inr ⟨rfl, rfl, rfl⟩)) (by omega) (by omega) (by omega) (by omega)))
  rw [decide_eq_true e1a, e1b] at HIS
  obtain ⟨ad, x0, rfl, hadB, _, _⟩ := hr.byte (k := hd) (by omega)
  obtain ⟨s1, hs1⟩ : ∃ s, (⟨((b.drop (hd + 4)).take 24).toArray⟩ : ByteArray) = s := ⟨_, rfl⟩
  obtain ⟨s2, hs2⟩ : ∃ s, (⟨((b.drop (p + 6)).take 24).toArray⟩ : ByteArray) = s := ⟨_, rfl⟩
  have hcv1 := fun nq => run_cut_str (hr.drewN nq) (i := hd + 4) (m := 24) (c := cb - (hd + 4)) (n := ((hd : Int) + 28).toNat - (hd + 4)) (by omega) (by omega) hs1
  have hcv2 := fun nq => run_cut_str (hr.drewN nq) (i := p + 6) (m := 24) (c := cb - (p + 6)) (n := ((p : Int) + 30).toNat - (p + 6)) (by omega) (by omega) hs2
  rw [show ad.add (hd + 4) = ⟨ad.block, ad.off + (hd + 3 + 1), none⟩ from add_pos ad (hd + 3)] at hcv1
  rw [show ad.add (p + 6) = ⟨ad.block, ad.off + (p + 5 + 1), none⟩ from add_pos ad (p + 5)] at hcv2
  have u1 : IntKind.i64.wrap ((hd : Int) + 4) = (hd : Int) + 4 := IntWalk.i64_in _ (by omega)
  have u2 : IntKind.i64.wrap ((hd : Int) + 28) = (hd : Int) + 28 := IntWalk.i64_in _ (by omega)
  have u3 : IntKind.i64.wrap ((p : Int) + 6) = (p : Int) + 6 := IntWalk.i64_in _ (by omega)
  have u4 : IntKind.i64.wrap ((p : Int) + 30) = (p : Int) + 30 := IntWalk.i64_in _ (by omega)
  have v1 : (0 : Int) ≤ (hd : Int) + 4 := by omega
  have v2 : (hd : Int) + 4 ≤ (hd : Int) + 28 := by omega
  have v3 : (hd : Int) + 28 ≤ (cb : Int) := by omega
  have v4 : ((hd : Int) + 4).toNat = hd + 4 := by omega
  have v5 : ¬ cb = hd + 4 := by omega
  have v6 : (0 : Int) ≤ (p : Int) + 6 := by omega
  have v7 : (p : Int) + 6 ≤ (p : Int) + 30 := by omega
  have v8 : (p : Int) + 30 ≤ (cb : Int) := by omega
  have v9 : ((p : Int) + 6).toNat = p + 6 := by omega
  have va : ¬ cb = p + 6 := by omega
  by_cases e2 : (b.drop (hd + 4)).take 24 = (b.drop (p + 6)).take 24
  case neg =>
    have HR := bx (show R = none from by rw [← hR, if_pos (.inr (.inr e2))])
    have hst : (s1.toList == s2.toList) = false := tl_diff (by rw [← hs1, ← hs2]; simpa using e2)
    have HG0 := bx hG0
    clear hR e1 e1b e2 hl hk hE hr hB hG0 hs1 hs2
    go_enter Tryd.func31, Tryd.ntmps31
    go_wp2
    go_quiet ((go_at_call 28; exact Calls.quiet_of (HIS.out _)))
    go_wp2
    go_ret
    exact LocPost.bad HR.out (gb_drewN HG0.out _)
  have hst : (s1.toList == s2.toList) = true := tl_same (by rw [← hs1, ← hs2]; simpa using e2)
  rw [if_neg (by rintro (h | h | h); omega; rw [e1b] at h; cases h; exact h e2)] at hR
  obtain ⟨ex, hex⟩ : ∃ ex, numA b (hd + 28) 2 = ex := ⟨_, rfl⟩
  have lex : ex < 65536 := by rw [← hex]; exact numA_2 _ _
  rw [hex] at hR
  obtain ⟨ln, hln⟩ : ∃ ln, nm.length = ln := ⟨_, rfl⟩
  rw [hln] at hR hnm
  have HEX := bx hex
  have HLN := bx hln
  have hsz : (⟨nm.toArray⟩ : ByteArray).size = ln := by rw [← hln]; rfl
  obtain ⟨sn, hsn⟩ : ∃ s, (⟨nm.toArray⟩ : ByteArray) = s := ⟨_, rfl⟩
  rw [hsn] at q0 hsz
  have HR0 := bx hR
  have HE := bx hE
  have HL := bx hl
  have HK := bx hk
  have HRB := bx hr
  have HSN := bx hsn
  have HG0 := bx hG0
  have HBK := bx hB
  have x1 : IntKind.i64.wrap ((hd : Int) + 30) = (hd : Int) + 30 := IntWalk.i64_in _ (by omega)
  have x2 : IntKind.i64.wrap ((hd : Int) + 30 + (ln : Int)) = (hd : Int) + 30 + (ln : Int) := IntWalk.i64_in _ (by omega)
  have x3 : IntKind.i64.wrap ((hd : Int) + 30 + (ln : Int) + (ex : Int)) = (hd : Int) + 30 + (ln : Int) + (ex : Int) := IntWalk.i64_in _ (by omega)
  clear hR e1 e1b e2 hl hk hE hr hB hG0 hs1 hs2 hex hln hsn
  go_enter Tryd.func31, Tryd.ntmps31
  go_wp2
  go_quiet ((go_at_call 28; exact Calls.quiet_of (HIS.out _)))
  rename Nat => nq
  go_wp2
  obtain ⟨w1, hw1⟩ : ∃ w1, w.drewN nq = w1 := ⟨_, rfl⟩
  rw [hw1]
  have hb1 : Below w.heap.size w w1 := by rw [← hw1]; exact below_drewN (Below.refl _ _) nq
  have HG1 := bx (gb_below hb1 (some gl))
  have HE1 := bx (HE.out.below (hb1.mono hBz))
  have HL1 : Bx (OwS fndL 8 w1 base 57 (.slice (some ⟨gl, 0, none⟩) n c) l) := by rw [← hw1]; exact bx (HL.out.drewN nq)
  have hcells : ∀ q, w1.cell? q = w.cell? q := by rw [← hw1]; intro q; rfl
  have hfr : ∀ q, w1.frozen? q = w.frozen? q := by rw [← hw1]; intro q; rfl
  have hRB1 : RB w1 B (some ad) b := by rw [← hw1]; exact HRB.out.drewN nq
  have q0' := (hcells _).trans q0
  have q2' := (hcells _).trans q2
  have q5' := (hcells _).trans q5
  have q6' := (hcells _).trans q6
  have q7' := (hcells _).trans q7
  have c0' := (hcells _).trans c0
  have fz' := (hfr ⟨gl, o + 5, none⟩).trans (fz (o + 5))
  have HRB1 := bx hRB1
  clear hw1 hb1 hcells hfr q0 q2 q5 q6 q7 c0 fz hcv1 hcv2 hst HE HL HRB HIS u1 u2 u3 u4 v1 v2 v3 v4 v5 v6 v7 v8 v9 va hRB1 HG0 HBK
  obtain ⟨av, hav⟩ : ∃ av, hd + 30 + ln + ex = av := ⟨_, rfl⟩
  have hav' : (hd : Int) + 30 + (ln : Int) + (ex : Int) = (av : Int) := by omega
  obtain ⟨F, hF⟩ : ∃ F, cellF w1.drew ⟨gl, o + 5, none⟩ (.int .i64 ((hd : Int) + 30 + (ln : Int) + (ex : Int))) = F := ⟨_, rfl⟩
  have hF0 : w1.drew = F 0 := by rw [← hF]; rfl
  have hF1 : (F 0).setCell ⟨gl, o + 5, none⟩ (.int .i64 ((hd : Int) + 30 + (ln : Int) + (ex : Int))) = F 1 := by rw [← hF]; rfl
  have hFb : ∀ n, Below B w1 (F n) := fun n => by
    rw [← hF]
    match n with
    | 0 => exact below_drewN (Below.refl _ _) 1
    | _ + 1 => exact (below_drewN (Below.refl _ _) 1).setCell hgl _
  have z0 : ∀ n, (F n).cell? ⟨gl, o, none⟩ = some (.string sn) := fun n => by
    rw [← hF]
    match n with
    | 0 => exact q0'
    | _ + 1 => exact (World.cell?_setCell_other _ _ _ _ (by simp)).trans q0'
  have zf : ∀ n, (F n).frozen? ⟨gl, o + 5, none⟩ = false := fun n => by
    rw [← hF]
    match n with
    | 0 => exact fz'
    | _ + 1 => exact (World.frozen?_setCell _ _ _ _).trans fz'
  have z5 : ∃ u, (F 0).cell? ⟨gl, o + 5, none⟩ = some u := ⟨_, by rw [← hF0]; exact q5'⟩
  obtain ⟨u5, z5⟩ := z5
  have HDF := bx (fun n => (HE1.out.below (hFb n)).d)
  have y0 := z0 1
  have y2 : (F 1).cell? ⟨gl, o + 2, none⟩ = some (.int .i64 (pk : Int)) := by rw [← hF1, ← hF0]; exact (World.cell?_setCell_other _ _ _ _ (by simp)).trans q2'
  have y5 : (F 1).cell? ⟨gl, o + 5, none⟩ = some (.int .i64 (av : Int)) := by rw [← hF1, hav']; exact World.cell?_setCell_same _ _ _ z5
  have y9 : (F 1).cell? ⟨g, 0, none⟩ = some (.slice (some ad) b.length cb) := by rw [← hF1, ← hF0]; exact (World.cell?_setCell_other _ _ _ _ (by simp)).trans c0'
  have HOw : Bx (OwS fndL 8 (F 1) base 57 (.slice (some ⟨gl, 0, none⟩) n c) (l.set k (⟨nm, me, pk, si, su, hd⟩, (av : Int), p))) := by
    rw [← hF1, ← hF0, HO.out, hav']
    exact bx (HL1.out.drew.set fndCels (j := 5) HK.out (by omega) rfl)
  have HR3 : Bx (RB (F 1) B (some ad) b) := bx (HRB1.out.below (hFb 1) (Nat.le_refl _))
  have HG2 : Bx (w.grownBy (F 1) (some gl)) := by rw [← hF1, ← hF0]; exact bx (gb_set (gb_drewN HG1.out 1) _ _)
  rw [hav] at HR0
  have HF0 := bx hF0
  have HF1 := bx hF1
  have HAV := bx hav
  have HAV' := bx hav'
  have Y0 := bx y0
  have Y2 := bx y2
  have Y5 := bx y5
  have Y9 := bx y9
  clear hF hF0 hF1 hFb q0' q2' q5' q6' q7' c0' fz' HL1 HRB1 HG1 HE1 hav hav' y0 y2 y5 y9
  have a1 : hd + 28 + 2 ≤ b.length := by omega
  have x4 : IntKind.i64.wrap ((hd : Int) + 28) = (hd : Int) + 28 := IntWalk.i64_in _ (by omega)
  refine wp_region_same 18 F (by kernel_rfl) (by kernel_rfl) (by kernel_rfl) (by kernel_rfl) (by decide) HF0.out (fun _ _ _ d _ h => by cases d <;> exact h) ?_
  simp only [List.take_succ_cons, List.take_zero, List.drop_succ_cons, List.drop_zero]
  repeat (
    refine wpSame_step (fun K hK => ?_)
    simp only [SameAt]
    go_simp
    first
      | (refine hK _ ?_; clear hK K)
      | (apply Exists.intro
         refine ⟨fun _ => ?_, hK _ ?_⟩
         (with_reducible exact num_at g b hd 28 2 28 2 _ (HDF.out _) rfl rfl (by omega) (by omega) a1 HEX.out)
         clear hK K))
  refine wpSame_nil ?_
  refine wpChain_step rfl (fun K hK => ?_)
  go_simp
  rw [HF1.out]
  refine hK _ _ ⟨1, rfl⟩ ?_
  clear hK K
  refine wpChain_nil ?_
  obtain ⟨w3, hw3⟩ : ∃ w3, F 1 = w3 := ⟨_, rfl⟩
  rw [hw3] at HOw HR3 HG2 Y0 Y2 Y5 Y9
  rw [hw3]
  have y0 := Y0.out
  have y2 := Y2.out
  have y5 := Y5.out
  have y9 := Y9.out
  clear hw3 HF0 HF1 HDF z0 zf z5 Y0 Y2 Y5 Y9 x1 x3 x4 a1
  by_cases e3 : dir < av
  · have e3I : (dir : Int) < (av : Int) := by omega
    have HR := bx (show R = none from by rw [← HR0.out, if_pos (.inl e3)])
    clear HR0
    go_wp2
    go_quiet (fail)
    go_wp2
    go_ret
    exact LocPost.bad HR.out (gb_drewN HG2.out _)
  have e3I : ¬ (dir : Int) < (av : Int) := by omega
  have e3K : decide (dir < av) = false := decide_eq_false e3
  have e3J : (av : Int) ≤ (dir : Int) := by omega
  have x5 : IntKind.i64.wrap ((dir : Int) - (av : Int)) = (dir : Int) - (av : Int) := IntWalk.i64_in _ (by omega)
  by_cases e4 : dir < av + pk
  · have e4I : (dir : Int) - (av : Int) < (pk : Int) := by omega
    have HR := bx (show R = none from by rw [← HR0.out, if_pos (.inr (.inl e4))])
    clear HR0
    go_wp2
    go_quiet (fail)
    go_wp2
    go_ret
    exact LocPost.bad HR.out (gb_drewN HG2.out _)
  have e4I : ¬ (dir : Int) - (av : Int) < (pk : Int) := by omega
  have e4K : decide ((dir : Int) - (av : Int) < (pk : Int)) = false := decide_eq_false e4I
  obtain ⟨s3, hs3⟩ : ∃ s, (⟨((b.drop (hd + 30)).take ln).toArray⟩ : ByteArray) = s := ⟨_, rfl⟩
  have hle : hd + 30 + ln ≤ b.length := by have := HAV.out; omega
  have hcv3 := fun nq => run_cut_str (HR3.out.drewN nq) (i := hd + 30) (m := ln) (c := cb - (hd + 30)) (n := ((hd : Int) + 30 + (ln : Int)).toNat - (hd + 30)) (by omega) hle hs3
  rw [show ad.add (hd + 30) = ⟨ad.block, ad.off + (hd + 29 + 1), none⟩ from add_pos ad (hd + 29)] at hcv3
  have u1 : IntKind.i64.wrap ((hd : Int) + 30) = (hd : Int) + 30 := IntWalk.i64_in _ (by omega)
  have v1 : (0 : Int) ≤ (hd : Int) + 30 := by omega
  have v2 : (hd : Int) + 30 ≤ (hd : Int) + 30 + (ln : Int) := by omega
  have v3 : (hd : Int) + 30 + (ln : Int) ≤ (cb : Int) := by have := hle; omega
  have v4 : ((hd : Int) + 30).toNat = hd + 30 := Int.toNat_natCast (hd + 30)
  have v5 : ¬ cb = hd + 30 := by omega
  by_cases e5 : (b.drop (hd + 30)).take ln = nm
  case neg =>
    have hst : (s3.toList == sn.toList) = false := tl_diff (by rw [← hs3, ← HSN.out]; simpa using e5)
    clear hs3
    have HR := bx (show R = none from by rw [← HR0.out, if_pos (.inr (.inr e5))])
    clear HR0
    go_wp2
    go_quiet (fail)
    go_wp2
    go_ret
    exact LocPost.bad HR.out (gb_drewN HG2.out _)
  have hst : (s3.toList == sn.toList) = true := tl_same (by rw [← hs3, ← HSN.out]; simpa using e5)
  have HR := bx (show R = some av from by rw [← HR0.out, if_neg (by rintro (h | h | h); exact e3 h; exact e4 h; exact h e5)])
  clear HR0 hs3 e3 e4 e5
  go_wp2
  go_quiet (fail)
  go_wp2
  go_ret
  exact LocPost.good HR.out (gb_drewN HG2.out _) (HOw.out.drewN _)
end Go.Proofs.YtokojichjliieaaDoor
