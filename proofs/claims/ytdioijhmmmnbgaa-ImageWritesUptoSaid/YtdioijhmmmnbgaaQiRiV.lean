/- Contract: samovarref14.Write: its state, and plain laws of what it writes. -/
import Derived.Test.YtdioijhmmmnbgaaQiRiU
import Derived.Test.YtdioijhmmmnbgaaQiRiH
import Derived.Test.YtdioijhmmmnbgaaQiImWb
namespace Go.Proofs.Ytdioijhmmmnbgaa
open Go.RowKit
theorem own_lit (w : World) (l : List UInt8) (cs : Array Value) (h : cs.toList = l.map bV) (hl : l.length ≤ 1000) (E : TypeId) : OwB (w.alloc (.cells cs E)) w.heap.size E (.slice (some ⟨w.heap.size, 0, none⟩) l.length l.length) l := by
  have hs : cs.size = l.length := by rw [← Array.length_toList, h, List.length_map]
  refine ⟨by rw [List.length_map, Nat.mul_one], .inr ⟨w.heap.size, l.length, cs, rfl, Nat.le_refl _, heap_alloc_new w _, Nat.le_refl _, by unfold maxLen; omega, by omega, ?_⟩⟩
  rw [Nat.mul_one, ← h]
  exact List.take_of_length_le (by rw [Array.length_toList, hs]; exact Nat.le_refl _)
/-- Where Write stands: the image's block B, the row V from block b0 on. -/
structure WrS (w wx : World) (B b0 : Nat) (x : ImE) (V : Value) (l : List UInt8) : Prop where
  bel : Below w.heap.size w wx
  im : Bk wx B 29 (imC x)
  own : OwB wx b0 5 V l
  bw : w.heap.size ≤ b0
  bB : B < b0
  le : b0 ≤ wx.heap.size
section
variable {w wx w' : World} {B b0 : Nat} {x : ImE} {V V' : Value} {l l' : List UInt8}
theorem WrS.grow (h : WrS w wx B b0 x V l) (g : GrR wx w' b0 5 V V' l') : WrS w w' B b0 x V' l' := by
  have hlow := g.low h.own h.le
  exact ⟨h.bel.trans (hlow.mono h.bw), h.im.below hlow h.bB, g.own, h.bw, h.bB, Nat.le_trans h.le g.ch.size⟩
theorem WrS.below (h : WrS w wx B b0 x V l) (hb : Below wx.heap.size wx w') : WrS w w' B b0 x V l := h.grow ((GrR.start h.own).below hb)
end
/-- Plain: the bytes of what lies are those of what is meant. -/
theorem attB_p (y : AtE) (h : y.s.l.length = y.s.n) : attB' y = attB y.p := by
  show beB 2 y.name ++ (beB 4 (y.s.n : Int) ++ y.s.l) = beB 2 y.name ++ (beB 4 (y.s.l.length : Int) ++ y.s.l)
  rw [h]
theorem attsB_p {w : World} {B : Nat} {A : Option Addr} (L : List AtE) (h : RA w B A L) : L.flatMap attB' = (L.map AtE.p).flatMap attB := by
  have h2 := h.2
  clear h
  induction L with
  | nil => rfl
  | cons y r ih =>
    rw [List.flatMap_cons, List.map_cons, List.flatMap_cons, ih (fun z hz => h2 z (List.mem_cons_of_mem _ hz)), attB_p y (h2 y (List.mem_cons_self ..)).1]
theorem memB_p {w : World} {B : Nat} (y : MmE) (h : MmB w B y) : memB' y = memB y.p := by
  show [y.access, y.name, y.desc].flatMap (beB 2) ++ (beB 2 (y.n : Int) ++ y.L.flatMap attB') = beB 2 y.access ++ (beB 2 y.name ++ (beB 2 y.desc ++ (beB 2 ((y.L.map AtE.p).length : Int) ++ (y.L.map AtE.p).flatMap attB)))
  rw [attsB_p y.L h.2.2.2, List.length_map, h.1]
  simp [List.append_assoc]
theorem memsB_p {w : World} {B : Nat} (L : List MmE) (h : ∀ y ∈ L, MmB w B y) : L.flatMap memB' = (L.map MmE.p).flatMap memB := by
  induction L with
  | nil => rfl
  | cons y r ih =>
    rw [List.flatMap_cons, List.map_cons, List.flatMap_cons, ih (fun z hz => h z (List.mem_cons_of_mem _ hz)), memB_p y (h y (List.mem_cons_self ..))]
/-- Plain: the texts' lengths. -/
def sumT (l : List Cst) : Nat := (l.map (·.text.length)).sum
theorem sumT_next {l : List Cst} {k : Nat} {c : Cst} (h : l[k]? = some c) : sumT (l.take (k + 1)) = sumT (l.take k) + c.text.length := by
  unfold sumT
  rw [take_next h, List.map_append, List.sum_append]
  simp
theorem cstB_text {c : Cst} (h : cstV c ∨ c = cst0) : c.text.length ≤ (cstB c).length := by
  rcases h with h | rfl
  · unfold cstV at h
    unfold cstB
    split at h
    · rename_i h1
      rw [if_neg (by omega), List.length_append, if_pos h1, List.length_append]; omega
    · split at h
      · rw [show c.text = [] from congrArg Cst.text h.2.2]; exact Nat.zero_le _
      · split at h
        · rw [show c.text = [] from congrArg Cst.text h.2.2]; exact Nat.zero_le _
        · split at h
          · rw [show c.text = [] from congrArg Cst.text h.2]; exact Nat.zero_le _
          · rw [show c.text = [] from congrArg Cst.text h.2.2.2]; exact Nat.zero_le _
  · exact Nat.zero_le _
theorem poolV_mem {l : List Cst} (h : PoolV l) : ∀ c ∈ l, cstV c ∨ c = cst0 := by
  induction h with
  | nil => intro c hc; cases hc
  | one c r hc _ _ ih =>
    intro x hx
    rcases List.mem_cons.1 hx with e | e
    · subst e; exact .inl hc
    · exact ih x e
  | long c r hc _ _ ih =>
    intro x hx
    rcases List.mem_cons.1 hx with e | e
    · subst e; exact .inl hc
    rcases List.mem_cons.1 e with e | e
    · exact .inr e
    · exact ih x e
theorem img_mem {m : Img} (h : imgV m) : ∀ c ∈ m.pool, cstV c ∨ c = cst0 := by
  obtain ⟨_, _, ⟨pl, hp, _, hv⟩, _⟩ := h
  intro c hc
  rw [hp] at hc
  rcases List.mem_cons.1 hc with e | e
  · exact .inr e
  · exact poolV_mem hv c e
theorem sumT_le : ∀ l : List Cst, (∀ c ∈ l, cstV c ∨ c = cst0) → sumT l ≤ (l.flatMap cstB).length := by
  intro l
  induction l with
  | nil => intro _; exact Nat.le_refl _
  | cons c r ih =>
    intro h
    have h1 := ih (fun z hz => h z (List.mem_cons_of_mem _ hz))
    have h2 := cstB_text (h c (List.mem_cons_self ..))
    unfold sumT at h1 ⊢
    rw [List.map_cons, List.sum_cons, List.flatMap_cons, List.length_append]
    omega
theorem img_sum {m : Img} (h : imgV m) : sumT m.pool ≤ (imgB m).length := by
  have h1 := sumT_le m.pool (img_mem h)
  unfold imgB
  simp only [List.length_append]
  omega
end Go.Proofs.Ytdioijhmmmnbgaa
