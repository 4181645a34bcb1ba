/- Contract: samovarref14.put: numbers behind a row that grows. -/
import Derived.Test.YtdioijhmmmnbgaaPi3
import Derived.Test.YtdioijhmmmnbgaaPi1
import Derived.Test.YtdioijhmmmnbgaaPi2
namespace Go.Proofs.Ytdioijhmmmnbgaa
open Go.RowKit
/-- A row that grows: it held v in world w and holds V in world wx. -/
structure GrR (w wx : World) (base : Nat) (E : TypeId) (v V : Value) (l : List UInt8) : Prop where
  own : OwB wx base E V l
  ch : Ch w wx (Fow v)
  on : OwnN w v V
section
variable {w wx w' : World} {base : Nat} {E : TypeId} {v V V' : Value} {l l' : List UInt8}
theorem GrR.start (h : OwB w base E v l) : GrR w w base E v v l := ⟨h, Ch.refl w, OwnN.refl⟩
theorem GrR.below (h : GrR w wx base E v V l) (hb : Below wx.heap.size wx w') : GrR w w' base E v V l := ⟨h.own.below hb, h.ch.trans (Ch.of_below (S := fun _ => False) hb) (fun _ _ h => h.elim), h.on⟩
theorem GrR.alloc (h : GrR w wx base E v V l) (o : Obj) : GrR w (wx.alloc o) base E v V l := h.below (bl_alloc (Below.refl _ _) (Nat.le_refl _) o)
theorem GrR.turn (h : GrR w wx base E v V l) (ho : OwB w' base E V' l') (hc : Ch wx w' (Fow V)) (hn : OwnN wx V V') : GrR w w' base E v V' l' :=
  ⟨ho, h.ch.trans hc (fun i hi hf => by
    have hf : V.ownBlock = some i := hf
    rcases h.on with e | ⟨b, e, hb⟩
    · exact e.symm.trans hf
    · rw [e] at hf; injection hf with hf; omega), h.on.trans h.ch.size hn⟩
theorem GrR.app (h : GrR w wx base E v V l) (ho : OwB w' base E V' l') (hg : wx.grownBy w' V.ownBlock) (hv : V'.ownBlock = V.ownBlock ∨ V'.ownBlock = some wx.heap.size) : GrR w w' base E v V' l' :=
  h.turn ho (grown_ch hg hv).1 (grown_ch hg hv).2
theorem GrR.trans (h : GrR w wx base E v V l) (k : GrR wx w' base E V V' l') : GrR w w' base E v V' l' := h.turn k.own k.ch k.on
end
theorem beBs_len (n : Nat) (xs : List Int) : (xs.flatMap (beB n)).length = n * xs.length := by
  induction xs with
  | nil => simp
  | cons x r ih => rw [List.flatMap_cons, List.length_append, beB_len, ih, List.length_cons, Nat.mul_add]; omega
theorem take_next {α : Type} {l : List α} {j : Nat} {x : α} (h : l[j]? = some x) : l.take (j + 1) = l.take j ++ [x] := by rw [List.take_add_one, h]; rfl
def RPut (w : World) (base : Nat) (v : Value) (l : List UInt8) (e : Ending) (w' : World) : Prop := ∃ V, e = .returned V ∧ GrR w w' base 5 v V l
set_option maxRecDepth 100000 in
set_option maxHeartbeats 4000000 in
theorem rput14_any (base n k c : Nat) (v : Value) (o : List UInt8) (A : Option Addr) (xs : List Int) (w : World) (h : OwB w base 5 v o) (hb : base ≤ w.heap.size) (hx : xs.length = k) (hX : RL iV w w.heap.size A xs) (hA : xs ≠ [] → ∀ ad, A = some ad → ¬ Fow v ad.block)
    (hxs : ∀ x ∈ xs, -9223372036854775808 ≤ x ∧ x ≤ 9223372036854775807) (h1 : 1 ≤ n) (h8 : n ≤ 8) (hk : k ≤ 64) (ho : o.length ≤ 1000000000000) :
    Calls Try.prog 44 #[v, .int .i64 (n : Int), .slice A k c] w (RPut w base v (o ++ xs.flatMap (beB n))) := by
  have HX := bx hX
  have HL := bx hx
  have HO := bx ho
  have HA := bx hA
  have HXS := bx hxs
  have G0 : Bx (GrR w w base 5 v v (o ++ (xs.take 0).flatMap (beB n))) := bx (by simpa using GrR.start h)
  clear h hx hX hA hxs ho
  go_enter Try.func44, Try.ntmps44
  go_wp2_with fail
  go_loopw [0, 7] (fun V iv wx => ∃ j : Nat, j ≤ k ∧ iv = .int .i64 (j : Int) ∧ Bx (GrR w wx base 5 v V (o ++ (xs.take j).flatMap (beB n)))) (fun _ iv _ => k - (intOf iv).toNat)
  case atStart => exact ⟨0, by omega, rfl, G0⟩
  case round =>
    clear G0
    obtain ⟨j, hj, rfl, HG⟩ := hrel
    obtain ⟨AV, nV, cV, rfl, _, _⟩ := OwL.sl HG.out.own
    have hz := HG.out.ch.size
    by_cases hjk : j < k
    · have hjI : (j : Int) < (k : Int) := by omega
      have hjJ : (0 : Int) ≤ (j : Int) := by omega
      obtain ⟨x, hxx⟩ : ∃ x, xs[j]? = some x := ⟨_, List.getElem?_eq_getElem (by rw [HL.out]; exact hjk)⟩
      have HXX := bx hxx
      have hXr : RL iV wr w.heap.size A xs := HX.out.ch HG.out.ch (Nat.le_refl _) (HA.out (fun e => by have := HL.out; rw [e] at this; simp at this; omega))
      obtain ⟨ad, y, rfl, had, hy, hcy⟩ := RL.num hXr (k := j) (by rw [HL.out]; exact hjk)
      obtain rfl : x = y := by have := HXX.out.symm.trans hy.out; injection this
      have hbx := HXS.out x (List.mem_of_getElem? HXX.out)
      have HPUT := bx (refPutBig_ok n x wr h1 h8 hbx.1 hbx.2)
      have hlen : (o ++ (xs.take j).flatMap (beB n)).length ≤ 1000000000512 := by
        rw [List.length_append, beBs_len, List.length_take]
        have h9 : n * min j xs.length ≤ 8 * 64 := Nat.mul_le_mul h8 (by omega)
        have := HO.out
        omega
      have HN : Bx (((o ++ (xs.take j).flatMap (beB n)).length + (beB n x).length) * 1 ≤ 140737488355328) := bx (by rw [beB_len]; omega)
      clear hxx hy hXr hbx hlen
      go_wp2_with fail
      refine HPUT.out.mono ?_
      rintro e w1 ⟨r, rfl, hr1, hb1⟩
      obtain ⟨A1, c1, rfl, hr1, _, _⟩ := hr1.rd
      have HG1 := bx (HG.out.below hb1)
      have HR1 : Bx (RB w1 w1.heap.size A1 (beB n x)) := bx hr1
      have hz1 : base ≤ w1.heap.size := Nat.le_trans hb (Nat.le_trans hz hb1.size)
      have e1 : (leB n x).reverse.length = (beB n x).length := rfl
      rw [e1]
      obtain ⟨nb, hnb⟩ : ∃ nb, (beB n x).length = nb := ⟨_, rfl⟩
      have HNB := bx hnb
      rw [hnb]
      clear hr1 hb1 hcy e1 hnb HPUT HG
      go_wp2_with (at_builtin; refine wpList_appL _ bV_one rfl (.tmp 14) (.tmp 20) rfl byteTyP (by decide) base (.slice AV nV cV) (o ++ (xs.take j).flatMap (beB n)) rfl HG1.out.own w1.heap.size A1 nb c1 (beB n x) rfl HNB.out HR1.out HN.out hz1 ?_; intro V7 w7 hO7 hg7 hv7 hb7; have HG7 := bx (HG1.out.app hO7 hg7 hv7); clear hO7 hg7 hv7 hb7)
      have HG8 : Bx (GrR w w7 base 5 v V7 (o ++ (xs.take (j + 1)).flatMap (beB n))) := bx (by
        rw [take_next HXX.out, List.flatMap_append, ← List.append_assoc]
        simpa using HG7.out)
      clear HG7 HG1 HR1 HN hz1
      go_roundw
      case rel => exact ⟨j + 1, by omega, by go_num, HG8⟩
      case measure => simp [intOf]; omega
    · obtain rfl : j = k := by omega
      have hjI : ¬ (j : Int) < (j : Int) := by omega
      have HF : Bx (GrR w wr base 5 v (.slice AV nV cV) (o ++ xs.flatMap (beB n))) := bx (by have := HG.out; rwa [List.take_of_length_le (by rw [HL.out]; omega)] at this)
      go_wp2
      go_ret
      exact ⟨_, rfl, HF.out⟩
end Go.Proofs.Ytdioijhmmmnbgaa
