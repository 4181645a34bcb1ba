/- Contract: slices.SortFunc over the found records, by their heads. -/
import Derived.Test.YtokojichjliieaaDoorArcH
import Derived.Test.YtokojichjliieaaDoorSrt
import Derived.Test.YtokojichjliieaaDoorShelf
import Derived.Shelf.SlSortCmp.NoneTotal
namespace Go.Proofs.YtokojichjliieaaDoor
open Go.RowKit Go.Shelf Go.Lib Go.Sort
def cmpF (x y : Ent) : Int := Lib.compareInt (x.1.head : Int) (y.1.head : Int)
theorem ltHead (x y : Ent) : ltOf cmpF x y = decide (x.1.head < y.1.head) := by
  unfold ltOf cmpF Lib.compareInt
  by_cases h1 : x.1.head < y.1.head
  · have : (x.1.head : Int) < (y.1.head : Int) := by omega
    simp [h1, this]
  · have h1' : ¬ (x.1.head : Int) < (y.1.head : Int) := by omega
    by_cases h2 : (y.1.head : Int) < (x.1.head : Int) <;> simp [h1, h1', h2]
theorem swoHead : SWO (ltOf cmpF) where
  irrefl x := by rw [ltHead]; simp
  trans x y z h1 h2 := by rw [ltHead] at *; simp at *; omega
  ntrans x y z h1 h2 := by rw [ltHead] at *; simp at *; omega
set_option maxHeartbeats 1000000 in
theorem cmp_closure (x y : Ent) (W : World) : Calls Tryd.prog 33 #[.agg (fndC x.1 x.2.1 x.2.2), .agg (fndC y.1 y.2.1 y.2.2)] W fun e w' => e = .returned (.int .i64 (cmpF x y)) ∧ ∃ q os', w' = grow (W.drewN q) os' := by
  obtain ⟨⟨n1, m1, p1, s1, u1, h1⟩, a1, q1⟩ := x
  obtain ⟨⟨n2, m2, p2, s2, u2, h2⟩, a2, q2⟩ := y
  have hcon := fun W' => Tryd.cmp_Compare_int (h1 : Int) (h2 : Int) W'
  unfold cmpF
  dsimp only
  generalize Lib.compareInt (h1 : Int) (h2 : Int) = r at hcon ⊢
  unfold fndC
  dsimp only
  go_enter Tryd.func33, Tryd.ntmps33
  go_wp2_with (go_at_call 34; refine (hcon _).mono ?_; rintro e w' ⟨rfl, rfl⟩)
  go_ret
  exact ⟨rfl, 0, _, by rw [alloc_eq_grow, alloc_eq_grow, grow_grow]; rfl⟩
/-- What the sort leaves. -/
def Sorted (s : List Ent) : Prop := s.Pairwise (fun x y => x.1.head ≤ y.1.head)
theorem get!_of {α : Type} [Inhabited α] (l : List α) (i : Nat) (h : i < l.length) : l.toArray[i]! = l[i] := by
  rw [getElem!_pos l.toArray i (by simpa using h)]; simp
instance : Inhabited Ent := ⟨(⟨[], 0, 0, 0, 0, 0⟩, 0, 0)⟩
theorem holds_of_ows {w : World} {base gl n c : Nat} {l : List Ent} (h : OwS fndL 8 w base 57 (.slice (some ⟨gl, 0, none⟩) n c) l) : HoldsK fndL 8 w gl 0 l.toArray := by
  intro j hj
  have hj' : j < l.length * 8 := by simpa using hj
  have hq : j / 8 < l.length := by omega
  refine ⟨?_, by rw [Nat.zero_add]; exact h.frz j⟩
  rw [get_flatK _ _ _ _ (by simpa using hj'), get!_of l _ hq]
  have hu : (fndL l[j / 8])[j % 8]? = some ((fndL l[j / 8])[j % 8]!) := by
    have hl : j % 8 < (fndL l[j / 8]).length := by rw [fndCels.len]; omega
    rw [getElem!_pos (fndL l[j / 8]) (j % 8) hl, List.getElem?_eq_getElem hl]
  have := h.cell fndCels (k := j / 8) (j := j % 8) (List.getElem?_eq_getElem hq) hu
  rw [show j / 8 * 8 + j % 8 = 0 + j by omega] at this
  exact this
/-- The sorted row's cells. -/
def RowOf (w : World) (gl : Nat) (s : List Ent) : Prop := ∀ k j x u, s[k]? = some x → (fndL x)[j]? = some u → w.cell? ⟨gl, k * 8 + j, none⟩ = some u
theorem rowOf_holds {w : World} {gl : Nat} {d : Array Ent} (h : HoldsK fndL 8 w gl 0 d) : RowOf w gl d.toList := by
  intro k j x u hx hu
  have hk : k < d.size := by simpa using (List.getElem?_eq_some_iff.1 hx).1
  have hj : j < 8 := by rw [← fndCels.len x]; exact (List.getElem?_eq_some_iff.1 hu).1
  have := (h (k * 8 + j) (by simp; omega)).1
  rw [get_flatK _ _ _ _ (by omega), show (k * 8 + j) / 8 = k by omega, show (k * 8 + j) % 8 = j by omega, Nat.zero_add] at this
  rw [this]
  have hx' : d[k]! = x := by
    rw [getElem!_pos d k hk]
    rw [List.getElem?_eq_getElem (by simpa using hk)] at hx
    simpa using hx
  rw [hx', getElem!_pos (fndL x) j (List.getElem?_eq_some_iff.1 hu).1]
  rw [List.getElem?_eq_getElem (List.getElem?_eq_some_iff.1 hu).1] at hu
  exact hu
theorem sorted_of {d : Array Ent} {n : Nat} (hn : d.size = n) (h : SortedIn (ltOf cmpF) 0 n d) : Sorted d.toList := by
  unfold Sorted
  rw [List.pairwise_iff_getElem]
  intro i j hi hj hij
  have := h i j (Nat.zero_le _) hij (by rw [← hn]; simpa using hj)
  rw [ltHead, getElem!_pos d i (by simpa using hi), getElem!_pos d j (by simpa using hj)] at this
  simp at this
  simpa using this
theorem perm_of {d : Array Ent} {l : List Ent} (h : PermIn 0 l.toArray.size l.toArray d) : d.toList.Perm l := by
  obtain ⟨h1, _, h3⟩ := h
  have e1 : d.extract 0 l.toArray.size = d := by
    have := h1.symm; simp at this
    rw [← h1]; simp
  rw [e1] at h3
  simpa using h3
theorem sort_any (gl n c base : Nat) (l : List Ent) (w : World) (hl : OwS fndL 8 w base 57 (.slice (some ⟨gl, 0, none⟩) n c) l) (hn : l.length = n) (hz : n ≤ 100000) :
    Calls Tryd.prog 32 #[.slice (some ⟨gl, 0, none⟩) n c, .func (.func 33) #[] #[]] w fun e w' =>
      e = .returned (.tuple #[]) ∧ w.grownBy w' (some gl) ∧ ∃ s : List Ent, s.Perm l ∧ Sorted s ∧ RowOf w' gl s := by
  have hblk := (hl.blk rfl).2
  have hH := holds_of_ows hl
  have eg : ∀ args w, (callFunc 33 args).run Tryd.prog w = .ok (.enter 33 args) w := enters_of Tryd.func33 (by kernel_rfl) rfl
  have hcmp : CmpLays Tryd.prog 33 #[] fndL 8 cmpF gl 0 l.toArray.size w := fun _ _ _ _ x y => cmp_closure x y _
  have hcon := AnyQ.slices_SortFunc Tryd.sortFound 8 Tryd.isAgg57 Tryd.sizeOf57 fndL fndCels.len fndCels.one cmpF swoHead 33 #[] gl 0 c l.toArray w eg hcmp hH hblk (by simp; omega)
  change Calls Tryd.prog 32 _ _ _ at hcon
  rw [show l.toArray.size = n by simpa using hn] at hcon
  refine hcon.mono ?_
  rintro e w' ⟨rfl, d, q, os, hp, hs, rfl⟩
  have hsz : d.size = n := by rw [hp.1]; simpa using hn
  refine ⟨rfl, ?_, d.toList, perm_of (by rw [show l.toArray.size = n by simpa using hn]; exact hp), sorted_of hsz hs, rowOf_holds (holdsK_sortWorldK_c fndL 8 w gl 0 l.toArray d q os hH hblk (by rw [hsz]; simp [hn]))⟩
  refine ⟨rfl, rfl, rfl, size_sortWorldK_c fndL 8 w gl 0 q d os, fun k hk hne => ?_⟩
  have hne' : ¬ gl = k := fun e => hne (by rw [e])
  unfold sortWorldK putRowK putRow
  rw [heap_grow_old _ os (by simpa [mapBlock, Sort.ahead] using hk)]
  simp [mapBlock, Sort.ahead, Array.getElem?_modify, hne']
theorem sort_both (A : Option Addr) (n c base : Nat) (l : List Ent) (w : World) (hl : OwS fndL 8 w base 57 (.slice A n c) l) (hn : l.length = n) (hz : n ≤ 100000) :
    Calls Tryd.prog 32 #[.slice A n c, .func (.func 33) #[] #[]] w fun e w' =>
      e = .returned (.tuple #[]) ∧ Below base w w' ∧ (∃ row : Option Nat, w.grownBy w' row ∧ ∀ g, row = some g → A = some ⟨g, 0, none⟩) ∧ ∃ s : List Ent, s.Perm l ∧ Sorted s ∧ ∀ gl, A = some ⟨gl, 0, none⟩ → RowOf w' gl s := by
  rcases Nat.eq_zero_or_pos n with h0 | h0
  · subst h0
    have hl0 : l = [] := List.eq_nil_of_length_eq_zero hn
    subst hl0
    have hcon := AnyF.slices_SortFunc_none Tryd.sortFound A c (.func (.func 33) #[] #[]) w
    change Calls Tryd.prog 32 _ _ _ at hcon
    refine hcon.mono ?_
    rintro e w' ⟨rfl, rfl⟩
    exact ⟨rfl, RowKit.Below.refl _ _, ⟨none, gb_below (RowKit.Below.refl _ _) _, fun _ h => by cases h⟩, [], List.Perm.refl _, List.Pairwise.nil, fun _ _ _ _ _ _ h => by simp at h⟩
  · obtain ⟨gl, cc, hv, hb, _⟩ := hl.form (by omega)
    injection hv with hv1 hv2 hv3
    subst hv1
    refine (sort_any gl n c base l w hl hn hz).mono ?_
    rintro e w' ⟨rfl, hg, s, hp, hs, hr⟩
    exact ⟨rfl, gb_low hg hb (hl.blk rfl).2, ⟨some gl, hg, fun g h => by injection h with h; rw [h]⟩, s, hp, hs, fun q hq => by injection hq with hq; injection hq with hq; subst hq; exact hr⟩
end Go.Proofs.YtokojichjliieaaDoor
