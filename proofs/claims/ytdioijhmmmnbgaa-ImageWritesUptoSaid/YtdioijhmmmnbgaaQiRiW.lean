/- Contract: samovarref14.Write: its state in the pool's loop. -/
import Derived.Test.YtdioijhmmmnbgaaQiRiV
namespace Go.Proofs.Ytdioijhmmmnbgaa
open Go.RowKit
/-- And a constant's copy in block C. -/
structure WrC (w wx : World) (B b0 C : Nat) (x : ImE) (cs : Array Value) (V : Value) (l : List UInt8) : Prop where
  st : WrS w wx B b0 x V l
  bk : Bk wx C 53 cs
  nf : ¬ Fow V C
section
variable {w wx w' : World} {B b0 C : Nat} {x : ImE} {cs : Array Value} {V V' : Value} {l l' : List UInt8}
theorem WrC.grow (h : WrC w wx B b0 C x cs V l) (g : GrR wx w' b0 5 V V' l') : WrC w w' B b0 C x cs V' l' :=
  ⟨h.st.grow g, h.bk.ch g.ch h.nf, fun hf => by
    rcases g.on with e | ⟨b, e, hb⟩
    · exact h.nf (e.symm.trans hf)
    · have hf : V'.ownBlock = some C := hf
      rw [e] at hf
      injection hf with hf
      have := h.bk.lt
      omega⟩
theorem WrS.app (h : WrS w wx B b0 x V l) (o : Obj) (ho : OwB w' b0 5 V' l') (hg : (wx.alloc o).grownBy w' V.ownBlock) (hv : V'.ownBlock = V.ownBlock ∨ V'.ownBlock = some (wx.alloc o).heap.size) : WrS w w' B b0 x V' l' :=
  h.grow (((GrR.start h.own).alloc o).app ho hg hv)
theorem WrC.app (h : WrC w wx B b0 C x cs V l) (o : Obj) (ho : OwB w' b0 5 V' l') (hg : (wx.alloc o).grownBy w' V.ownBlock) (hv : V'.ownBlock = V.ownBlock ∨ V'.ownBlock = some (wx.alloc o).heap.size) : WrC w w' B b0 C x cs V' l' :=
  h.grow (((GrR.start h.st.own).alloc o).app ho hg hv)
theorem WrC.below (h : WrC w wx B b0 C x cs V l) (hb : Below wx.heap.size wx w') : WrC w w' B b0 C x cs V l := h.grow ((GrR.start h.st.own).below hb)
theorem WrC.app0 (h : WrC w wx B b0 C x cs V l) (ho : OwB w' b0 5 V' l') (hg : wx.grownBy w' V.ownBlock) (hv : V'.ownBlock = V.ownBlock ∨ V'.ownBlock = some wx.heap.size) : WrC w w' B b0 C x cs V' l' :=
  h.grow ((GrR.start h.st.own).app ho hg hv)
theorem WrC.ch (h : WrC w wx B b0 C x cs V l) (ho : OwB w' b0 5 V' l') (hc : Ch wx w' (Fow V)) (hn : OwnN wx V V') : WrC w w' B b0 C x cs V' l' := h.grow ⟨ho, hc, hn⟩
end
def WrSP (w : World) (B b0 : Nat) (x : ImE) (l : List UInt8) (e : Ending) (w' : World) : Prop := ∃ V, e = .returned V ∧ WrS w w' B b0 x V l
def WrCP (w : World) (B b0 C : Nat) (x : ImE) (cs : Array Value) (l : List UInt8) (e : Ending) (w' : World) : Prop := ∃ V, e = .returned V ∧ WrC w w' B b0 C x cs V l
section
variable {w wx : World} {B b0 C : Nat} {x : ImE} {cs : Array Value} {V : Value} {l l' : List UInt8}
theorem put_new (n k : Nat) (xs : List Int) (us : Array Value) (h : OwB wx b0 5 V l) (hb : b0 ≤ wx.heap.size) (hx : xs.length = k) (hcs : us.toList = xs.map iV) (hxs : ∀ z ∈ xs, -9223372036854775808 ≤ z ∧ z ≤ 9223372036854775807) (h1 : 1 ≤ n) (h8 : n ≤ 8) (hk : k ≤ 64) (ho : l.length ≤ 1000000000000) (hl : l ++ xs.flatMap (beB n) = l') {g : Nat} (hg : wx.heap.size = g) :
    Calls Try.prog 44 #[V, .int .i64 (n : Int), .slice (some ⟨g, 0, none⟩) k k] (wx.alloc (.cells us 3)) (fun e w' => ∃ V', e = .returned V' ∧ GrR wx w' b0 5 V V' l') := by
  subst hg
  refine (rput14_any b0 n k k V l _ xs _ (h.alloc _) (Nat.le_trans hb (by simp)) hx (RL.top (RL.news wx xs us hcs _ _)) ?_ hxs h1 h8 hk ho).mono ?_
  · intro _ ad e hf
    injection e with e
    subst e
    exact Nat.lt_irrefl _ (World.ownsRow.lt h _ hf).2
  · rintro e w' ⟨V', rfl, g⟩
    exact ⟨V', rfl, hl ▸ ((GrR.start h).alloc _).trans g⟩
theorem wr_new (n k : Nat) (xs : List Int) (us : Array Value) (h : WrS w wx B b0 x V l) (hx : xs.length = k) (hcs : us.toList = xs.map iV) (hxs : ∀ z ∈ xs, -9223372036854775808 ≤ z ∧ z ≤ 9223372036854775807) (h1 : 1 ≤ n) (h8 : n ≤ 8) (hk : k ≤ 64) (ho : l.length ≤ 1000000000000) (hl : l ++ xs.flatMap (beB n) = l') {g : Nat} (hg : wx.heap.size = g) :
    Calls Try.prog 44 #[V, .int .i64 (n : Int), .slice (some ⟨g, 0, none⟩) k k] (wx.alloc (.cells us 3)) (WrSP w B b0 x l') := by
  refine (put_new n k xs us h.own h.le hx hcs hxs h1 h8 hk ho hl hg).mono ?_
  rintro e w' ⟨V', rfl, g⟩
  exact ⟨V', rfl, h.grow g⟩
theorem wc_new (n k : Nat) (xs : List Int) (us : Array Value) (h : WrC w wx B b0 C x cs V l) (hx : xs.length = k) (hcs : us.toList = xs.map iV) (hxs : ∀ z ∈ xs, -9223372036854775808 ≤ z ∧ z ≤ 9223372036854775807) (h1 : 1 ≤ n) (h8 : n ≤ 8) (hk : k ≤ 64) (ho : l.length ≤ 1000000000000) (hl : l ++ xs.flatMap (beB n) = l') {g : Nat} (hg : wx.heap.size = g) :
    Calls Try.prog 44 #[V, .int .i64 (n : Int), .slice (some ⟨g, 0, none⟩) k k] (wx.alloc (.cells us 3)) (WrCP w B b0 C x cs l') := by
  refine (put_new n k xs us h.st.own h.st.le hx hcs hxs h1 h8 hk ho hl hg).mono ?_
  rintro e w' ⟨V', rfl, g⟩
  exact ⟨V', rfl, h.grow g⟩
end
theorem cell_al {w : World} {p : Addr} {v : Value} (h : w.cell? p = some v) (o : Obj) : (w.alloc o).cell? p = some v := by
  rcases Nat.lt_or_ge p.block w.heap.size with hlt | hge
  · exact ((bl_alloc (Below.refl w.heap.size w) (Nat.le_refl _) o).cell hlt).trans h
  · unfold World.cell? at h
    rw [Array.getElem?_eq_none hge] at h
    cases h
/-- Plain: how long constants are. -/
theorem cstB_len (c : Cst) : (cstB c).length ≤ 11 + c.text.length := by
  unfold cstB
  repeat' split
  all_goals simp only [List.length_append, List.length_nil, beB_len]
  all_goals omega
theorem csts_len : ∀ l : List Cst, (l.flatMap cstB).length ≤ 11 * l.length + sumT l := by
  intro l
  induction l with
  | nil => exact Nat.le_refl _
  | cons c r ih =>
    have h1 := cstB_len c
    have e : sumT (c :: r) = c.text.length + sumT r := by unfold sumT; simp
    rw [List.flatMap_cons, List.length_append, List.length_cons, e]
    omega
theorem sumT_bound {M : Nat} : ∀ l : List Cst, (∀ c ∈ l, c.text.length ≤ M) → sumT l ≤ l.length * M := by
  intro l
  induction l with
  | nil => intro _; exact Nat.zero_le _
  | cons c r ih =>
    intro h
    have h1 := ih (fun z hz => h z (List.mem_cons_of_mem _ hz))
    have h2 := h c (List.mem_cons_self ..)
    have e : sumT (c :: r) = c.text.length + sumT r := by unfold sumT; simp
    rw [List.length_cons, e, Nat.add_mul, Nat.one_mul]
    omega
theorem sumT_take (l : List Cst) (k : Nat) : sumT (l.take k) ≤ sumT l := by
  have e : sumT l = sumT (l.take k) + sumT (l.drop k) := by
    unfold sumT
    rw [← List.sum_append, ← List.map_append, List.take_append_drop]
  omega
theorem be1 (t : UInt8) : beB 1 (t.toNat : Int) = [t] := by
  have h := beB_beN [t] (by simp)
  have e : beN [t] = t.toNat := by simp [beN]
  rw [e] at h
  exact h
theorem cstB_t {c : Cst} (t : UInt8) (hc : c.tag = (t.toNat : Int)) {r : List UInt8} (h : cstB c = beB 1 c.tag ++ r) : cstB c = [t] ++ r := by rw [h, hc, be1]
section
variable {w wx : World} {B b0 : Nat} {x : ImE} {V : Value} {l l' : List UInt8}
theorem wr_ifs (h : WrS w wx B b0 x V l) (hx : RIm w w.heap.size x) (hxs : ∀ z ∈ x.ifs, -9223372036854775808 ≤ z ∧ z ≤ 9223372036854775807) (h64 : x.i_n ≤ 64) (ho : l.length ≤ 1000000000000) (hl : l ++ x.ifs.flatMap (beB 2) = l') :
    Calls Try.prog 44 #[V, .int .i64 (2 : Nat), .slice x.iA x.i_n x.ic] wx (WrSP w B b0 x l') := by
  refine (rput14_any b0 2 x.i_n x.ic V l x.iA x.ifs wx h.own h.le hx.il.1 (RL.top (hx.ifs.below h.bel (Nat.le_refl _))) ?_ hxs (by decide) (by decide) h64 ho).mono ?_
  · intro hne ad e hf
    obtain ⟨ad', _, e2, hlt, _⟩ := RL.atl hx.ifs (k := 0) (List.length_pos_iff.2 hne)
    rw [e] at e2
    injection e2 with e2
    subst e2
    have := (World.ownsRow.lt h.own _ hf).1
    have := h.bw
    omega
  · rintro e w' ⟨V', rfl, g⟩
    exact ⟨V', rfl, hl ▸ h.grow g⟩
theorem wr_mems (h : WrS w wx B b0 x V l) (A : Option Addr) (na ca : Nat) (M : List MmE) (hm : M.length = na) (hM : RM w w.heap.size A M) (hn : ∀ y ∈ M, MmW y) (hna : na ≤ 64) (ho : l.length ≤ 800000000000) (hl : l ++ (beB 2 (na : Int) ++ M.flatMap memB') = l') :
    Calls Try.prog 47 #[V, .slice A na ca] wx (WrSP w B b0 x l') := by
  refine (rputMembers_any b0 na ca V l A M wx h.own h.le hm ((hM.below h.bel (Nat.le_refl _)).more h.bw) hn hna ho).mono ?_
  rintro e w' ⟨V', rfl, g⟩
  exact ⟨V', rfl, hl ▸ h.grow g⟩
theorem wr_atts (h : WrS w wx B b0 x V l) (A : Option Addr) (na ca : Nat) (M : List AtE) (hm : M.length = na) (hM : RA w w.heap.size A M) (hn : ∀ y ∈ M, (-9223372036854775808 ≤ y.name ∧ y.name ≤ 9223372036854775807) ∧ y.s.n ≤ 32768) (hna : na ≤ 64) (ho : l.length ≤ 900000000000) (hl : l ++ (beB 2 (na : Int) ++ M.flatMap attB') = l') :
    Calls Try.prog 46 #[V, .slice A na ca] wx (WrSP w B b0 x l') := by
  refine (rputAttrs_any b0 na ca V l A M wx h.own h.le hm ((hM.below h.bel (Nat.le_refl _)).more h.bw) hn hna ho).mono ?_
  rintro e w' ⟨V', rfl, g⟩
  exact ⟨V', rfl, hl ▸ h.grow g⟩
end
theorem im_36 {w : World} {g : Nat} {t : TypeId} {x : ImE} (h : Bk w g t (imC x)) : w.cell? ⟨g, 3, none⟩ = some (.int .i64 x.access) ∧ w.cell? ⟨g, 4, none⟩ = some (.int .i64 x.this) ∧ w.cell? ⟨g, 5, none⟩ = some (.int .i64 x.super) ∧ w.cell? ⟨g, 6, none⟩ = some (.slice x.iA x.i_n x.ic) := ⟨h.im3 rfl, h.im4 rfl, h.im5 rfl, h.im6 rfl⟩
theorem im_79 {w : World} {g : Nat} {t : TypeId} {x : ImE} (h : Bk w g t (imC x)) : w.cell? ⟨g, 7, none⟩ = some (.slice x.fA x.fn x.fc) ∧ w.cell? ⟨g, 8, none⟩ = some (.slice x.mA x.mn x.mc) ∧ w.cell? ⟨g, 9, none⟩ = some (.slice x.aA x.an x.ac) := ⟨h.im7 rfl, h.im8 rfl, h.im9 rfl⟩
theorem atts_W {w : World} {B : Nat} {A : Option Addr} {L : List AtE} (h : RA w B A L) (hv : ∀ z ∈ L.map AtE.p, attV z) (hl : ∀ y ∈ L, y.s.l.length ≤ 32768) : ∀ y ∈ L, (-9223372036854775808 ≤ y.name ∧ y.name ≤ 9223372036854775807) ∧ y.s.n ≤ 32768 := by
  intro y hy
  obtain ⟨h1, h2, _⟩ := hv y.p (List.mem_map.2 ⟨y, hy, rfl⟩)
  have h1 : 0 ≤ y.name := h1
  have h2 : y.name ≤ 65535 := h2
  have h3 := hl y hy
  rw [(h.2 y hy).1] at h3
  exact ⟨by omega, h3⟩
theorem mems_W {w : World} {B : Nat} {A : Option Addr} {L : List MmE} (h : RM w B A L) (hv : ∀ z ∈ L.map MmE.p, memV z) (hl : ∀ z ∈ L, MmLim z) : ∀ y ∈ L, MmW y := by
  intro y hy
  obtain ⟨h1, h2, h3, h4, h5⟩ := hv y.p (List.mem_map.2 ⟨y, hy, rfl⟩)
  have h1 : 0 ≤ y.access ∧ y.access ≤ 65535 := h1
  have h2 : 0 ≤ y.name ∧ y.name ≤ 65535 := h2
  have h3 : 0 ≤ y.desc ∧ y.desc ≤ 65535 := h3
  have hb := h.2 y hy
  refine ⟨?_, ?_, atts_W hb.2.2.2 h5 (hl y hy).2⟩
  · intro a ha
    simp only [List.mem_cons, List.not_mem_nil, or_false] at ha
    rcases ha with e | e | e <;> rw [e] <;> omega
  · have := (hl y hy).1
    have := hb.1
    omega
/-- Plain: the whole. -/
theorem img_all {w : World} {B : Nat} {x : ImE} (h : RIm w B x) : ((([202, 254, 186, 190] : List UInt8) ++ [x.minor, x.major, (x.pn : Int)].flatMap (beB 2) ++ x.pool.flatMap cstB ++ [x.access, x.this, x.super, (x.i_n : Int)].flatMap (beB 2) ++ x.ifs.flatMap (beB 2) ++ (beB 2 (x.fn : Int) ++ x.fs.flatMap memB')) ++ (beB 2 (x.mn : Int) ++ x.ms.flatMap memB')) ++ (beB 2 (x.an : Int) ++ x.as_.flatMap attB') = imgB x.p := by
  have e1 : x.p.pool.length = x.pn := h.pl.1
  have e2 : x.p.ifaces.length = x.i_n := h.il.1
  have e3 : (x.fs.map MmE.p).length = x.fn := by rw [List.length_map]; exact h.fl.1
  have e4 : (x.ms.map MmE.p).length = x.mn := by rw [List.length_map]; exact h.ml.1
  have e5 : (x.as_.map AtE.p).length = x.an := by rw [List.length_map]; exact h.al.1
  have e6 : beB 4 3405691582 = [202, 254, 186, 190] := by decide
  have q3 : memsB x.p.fields = beB 2 (x.fn : Int) ++ x.fs.flatMap memB' := by show memsB (x.fs.map MmE.p) = _; unfold memsB; rw [e3, memsB_p x.fs h.fs.2]
  have q4 : memsB x.p.methods = beB 2 (x.mn : Int) ++ x.ms.flatMap memB' := by show memsB (x.ms.map MmE.p) = _; unfold memsB; rw [e4, memsB_p x.ms h.ms.2]
  have q5 : attsB x.p.attrs = beB 2 (x.an : Int) ++ x.as_.flatMap attB' := by show attsB (x.as_.map AtE.p) = _; unfold attsB; rw [e5, attsB_p x.as_ h.as_]
  unfold imgB
  rw [q3, q4, q5]
  unfold ifB
  rw [e1, e2, e6]
  simp [ImE.p, List.append_assoc]
end Go.Proofs.Ytdioijhmmmnbgaa
