/- What a maker of archives answers. Items in memory. Nothing here speaks of the program. An item of a row: its cells. Nothing here speaks of the program. Plain facts on the bytes of a number. Contract: samovarref02.PutLittle of one to eight bytes. Contract: samovarref11.two. Contract: samovarref11.four. Contract: samovarref11.Check. append(b, s...), s a string, onto bytes of the call's own: at a list of operations, at a step of a region that draws its order. Nothing here speaks of the program. append(b, s...), s a string, onto bytes of the call's own, with what turns. Nothing here speaks of the program. Three growing rows of the call's own and what has turned since its start. Nothing here speaks of the program. Arguments that are rows of items, opened. A slice within another datum, opened. Nothing here speaks of the program. A region that draws its order, walked by what each operation leaves, whatever the order: each operation's answer owns blocks, and one other operation uses them up. Nothing here speaks of the program. A region that draws its order: each operation's answer owns blocks of its own; one other operation may use them up; whatever the order. Nothing here speaks of the program. Several structs that hold one growing row of bytes each, apart from each other. Nothing here speaks of the program. What answers own in a drawn region: nothing, a new row, a struct with a growing row; how a step of the rule ends. Contract: samovarref02.Same, in a region that draws: it reads alone. -/
import Derived.Test.YtlmcpkomjofcgaaGreatDoorPv3
import Derived.Test.YtlmcpkomjofcgaaGreatDoorPv4
import Derived.Test.YtlmcpkomjofcgaaGreatDoorProg
import Derived.Outline
import Derived.Test.YtlmcpkomjofcgaaGreatDoorPv7
import Derived.BigQuiet
import Derived.Test.YtlmcpkomjofcgaaGreatDoorPv1
import Derived.Deep.RegionLaw
import Derived.Lib.AppendStr
import Derived.ProofKit
import Derived.OpenShut
import Derived.ChangeOld
import Derived.Below
import Derived.Deep.Slices
import Derived.Deep.Fields
import Derived.Deep.RegionHeld
namespace Go.Proofs.YtlmcpkomjofcgaaGreatDoor
open Go.RowKit
/-- The archive or its error, new memory. -/
def BookPost (R : Rz (List UInt8)) (w : World) (e : Ending) (w' : World) : Prop :=
  Below w.heap.size w w' ∧ match R with
    | .ok o => ∃ v, e = .returned (.tuple #[v, .int .i64 0]) ∧ OwB w' w.heap.size 5 v o ∧ o.length ≤ 65536
    | .err k => e = .returned (.tuple #[.slice none 0 0, .int .i64 k]) ∧ k ≠ 0
theorem bookPost_err {R : Rz (List UInt8)} {w w' : World} {k : Int} (h : R = .err k) (hb : Below w.heap.size w w') (hk : k ≠ 0) : BookPost R w (.returned (.tuple #[.slice none 0 0, .int .i64 k])) w' := by
  subst h; exact ⟨hb, rfl, hk⟩
theorem bookPost_ok {R : Rz (List UInt8)} {w w' : World} {v : Value} {l : List UInt8} (h : R = .ok l) (hb : Below w.heap.size w w') (ho : OwB w' w.heap.size 5 v l) (hl : l.length ≤ 65536) : BookPost R w (.returned (.tuple #[v, .int .i64 0])) w' := by
  subst h; exact ⟨hb, v, rfl, ho, hl⟩
end Go.Proofs.YtlmcpkomjofcgaaGreatDoor
namespace Go.Proofs.YtlmcpkomjofcgaaGreatDoor
open Go.RowKit
/-- An item: its name, its data, is it to be squeezed? -/
structure It where
  name : List UInt8
  s : Sl
  sq : Bool
instance : Inhabited It := ⟨⟨[], ⟨none, 0, 0, []⟩, false⟩⟩
def itC (x : It) : List Value := [.string ⟨x.name.toArray⟩, .slice x.s.A x.s.n x.s.c, .bool x.sq]
theorem itCels : Cels itC 3 := ⟨fun _ => rfl, fun x u hu => by
  simp only [itC, List.mem_cons, List.not_mem_nil, or_false] at hu
  rcases hu with rfl | rfl | rfl <;> rfl, by omega⟩
def It.p (x : It) : Itm := ⟨x.name, x.s.l, x.sq⟩
def RIt (w : World) (B : Nat) (A : Option Addr) (L : List It) : Prop := RS itC w B A L ∧ ∀ x ∈ L, SlB w B x.s
section
variable {w w' : World} {B B' : Nat} {A : Option Addr} {L : List It}
theorem RIt.below (h : RIt w B A L) (hb : Below B' w w') (hB : B ≤ B') : RIt w' B A L := ⟨h.1.below hb hB, fun x hx => (h.2 x hx).below hb hB⟩
theorem RIt.more (h : RIt w B A L) (hB : B ≤ B') : RIt w B' A L := ⟨h.1.more hB, fun x hx => (h.2 x hx).more hB⟩
end
end Go.Proofs.YtlmcpkomjofcgaaGreatDoor
namespace Go.Proofs.YtlmcpkomjofcgaaGreatDoor
open Go.RowKit
theorem RIt.itm {w : World} {B : Nat} {A : Option Addr} {L : List It} (h : RIt w B A L) {k : Nat} (hk : k < L.length) :
    ∃ ad x sn, A = some ad ∧ ad.block < B ∧ Bx (L[k]? = some x) ∧ Bx (sn.data.toList = x.name) ∧ w.cell? (ad.add (k * 3)) = some (.string sn) ∧ w.cell? ⟨(ad.add (k * 3)).block, (ad.add (k * 3)).off + 1, none⟩ = some (.slice x.s.A x.s.n x.s.c) ∧
      w.cell? ⟨(ad.add (k * 3)).block, (ad.add (k * 3)).off + 2, none⟩ = some (.bool x.sq) ∧ Bx (SlB w B x.s) := by
  obtain ⟨ad, x, hA, hlt, hx, hc, hcs⟩ := h.1.at_ itCels hk
  exact ⟨ad, x, ⟨x.name.toArray⟩, hA, hlt, bx hx.out, bx rfl, hc _ rfl, hcs 0 _ rfl, hcs 1 _ rfl, bx (h.2 x (List.mem_of_getElem? hx.out))⟩
theorem itm_map {L : List It} {k : Nat} {x : It} (h : L[k]? = some x) : (L.map It.p)[k]? = some x.p := by rw [List.getElem?_map, h]; rfl
theorem sn_size {sn : ByteArray} {l : List UInt8} (h : sn.data.toList = l) : sn.size = l.length := by rw [← h]; rfl
theorem sn_len {sn : ByteArray} {l : List UInt8} {m : Nat} (h : sn.data.toList = l) (hl : l.length ≤ m) : sn.size ≤ m := by rw [sn_size h]; exact hl
end Go.Proofs.YtlmcpkomjofcgaaGreatDoor
namespace Go.Proofs.YtlmcpkomjofcgaaGreatDoor
open Go.RowKit
theorem u8_infoP : (Tryz.prog.info? 5).map (fun i => (i.zero, i.size, i.bytes)) = some (some (.int .u8 0), 1, 1) := by kernel_rfl
theorem byteTyP : ETy Tryz.prog 22 5 (.int .u8 0) 1 1 := ⟨Tryz.underlying22, info_parts u8_infoP, rfl, by decide⟩
end Go.Proofs.YtlmcpkomjofcgaaGreatDoor
namespace Go.Proofs.YtlmcpkomjofcgaaGreatDoor
open Go.RowKit
set_option maxRecDepth 100000 in
set_option maxHeartbeats 400000 in
theorem refPutLittle_ok (n : Nat) (v : Int) (w : World) (h1 : 1 ≤ n) (h2 : n ≤ 8) (hv : -9223372036854775808 ≤ v) (hv2 : v ≤ 9223372036854775807) :
    Calls Tryz.prog 63 #[.int .i64 n, .int .i64 v] w fun e w' => ∃ r, e = .returned r ∧ OwB w' w.heap.size 5 r (leB n v) ∧ Below w.heap.size w w' := by
  go_enter Tryz.func63, Tryz.ntmps63
  go_wp2
  go_loopw [1, 5, 6, 7] (fun y r i _ wr => ∃ k : Nat, k ≤ n ∧ i = .int .i64 (k : Int) ∧ y = .int .i64 (v / 256 ^ k) ∧ OwB wr w.heap.size 5 r ((leB n v).take k) ∧ Below w.heap.size w wr) (fun _ _ i _ _ => n - (intOf i).toNat)
  case atStart => exact ⟨0, by omega, rfl, by rw [Int.pow_zero, Int.ediv_one], OwL.nil, Below.refl _ _⟩
  case round =>
    obtain ⟨k, hk, rfl, rfl, hown, hb⟩ := hrel
    by_cases hk0 : k < n
    · obtain ⟨y, hy⟩ : ∃ y, y = v / 256 ^ k := ⟨_, rfl⟩
      rw [← hy]
      have HY := Lib.hid hy
      have hpos : (0 : Int) < 256 ^ k := Int.pow_pos (by omega)
      have hy1 : -9223372036854775808 ≤ y := by
        rw [hy]; exact Int.le_ediv_of_mul_le hpos (by
          have h1 : (1 : Int) ≤ 256 ^ k := hpos
          generalize (256 : Int) ^ k = z at h1
          omega)
      have hy2 : y ≤ 9223372036854775807 := by
        rw [hy]
        by_cases h0 : 0 ≤ v
        · exact Int.le_trans (Int.ediv_le_self _ h0) hv2
        · have := Int.ediv_neg_of_neg_of_pos (by omega : v < 0) hpos; omega
      clear hy
      obtain ⟨l1, l2, l3, l4, l5⟩ := low_facts y hy1
      have L3 := Lib.hid l3
      have L5 := Lib.hid l5
      clear l3 l5
      have hsz := hb.size
      go_wp2_with (at_builtin; refine wpList_appL _ bV_one rfl _ _ rfl byteTyP (by decide) w.heap.size _ _ rfl (hown.alloc _) _ _ 1 1 [UInt8.ofNat ((v % 18446744073709551616).toNat / 256 ^ k)] rfl rfl (RL.freshe _ _ ?c0 _) ?c1 ?c2 ?_)
      case c0 => exact low_cell v y k (by omega) HY.out hy1
      case c1 => simp [leB_len]; omega
      case c2 => simp; omega
      intro v1 w1 hown1 _ _ hb1
      go_wp2
      go_roundw
      case rel =>
        refine ⟨k + 1, by omega, by go_num, ?_, ?_, (hb.alloc hsz _).trans hb1⟩
        · rw [L5.out, HY.out, next_y]
        · rw [take_snoc' (leB_get v hk0)]; exact hown1
      case measure => simp [intOf]; omega
    · obtain rfl : k = n := by omega
      go_wp2
      go_ret
      refine ⟨_, rfl, ?_, hb⟩
      rw [List.take_of_length_le (by rw [leB_len]; omega)] at hown
      exact hown
end Go.Proofs.YtlmcpkomjofcgaaGreatDoor
namespace Go.Proofs.YtlmcpkomjofcgaaGreatDoor
open Go.RowKit
/-- What putting numbers behind a row leaves. -/
def RNum (w : World) (base : Nat) (v : Value) (l : List UInt8) (e : Ending) (w' : World) : Prop :=
  ∃ v', e = .returned v' ∧ OwB w' base 5 v' l ∧ Ch w w' (Fow v) ∧ OwnN w v v'
theorem numL_len (n : Nat) (xs : List Int) : (xs.flatMap (leB n)).length = n * xs.length := by
  induction xs with
  | nil => simp
  | cons x r ih => rw [List.flatMap_cons, List.length_append, leB_len, ih, List.length_cons, Nat.mul_add]; omega
set_option maxRecDepth 100000 in
set_option maxHeartbeats 2000000 in
theorem rtwo_any (base k c : Nat) (v : Value) (o : List UInt8) (A : Option Addr) (xs : List Int) (w : World) (h : OwB w base 5 v o) (hb : base ≤ w.heap.size) (hx : xs.length = k) (hX : RL iV w w.heap.size A xs) (hA : ∀ ad, A = some ad → ¬ Fow v ad.block)
    (hk : k ≤ 8) (h64 : ∀ x ∈ xs, -9223372036854775808 ≤ x ∧ x ≤ 9223372036854775807) (ho : o.length ≤ 4000000) :
    Calls Tryz.prog 46 #[v, .slice A k c] w (RNum w base v (o ++ xs.flatMap (leB 2))) := by
  have HX := bx hX
  have HL := bx hx
  have HO := bx ho
  have HA := bx hA
  have H64 := bx h64
  have H0 : Bx (OwB w base 5 v (o ++ (xs.take 0).flatMap (leB 2))) := bx (by simpa using h)
  have C0 : Bx (Ch w w (Fow v)) := bx (Ch.refl w)
  clear h hx hX hA ho h64
  go_enter Tryz.func46, Tryz.ntmps46
  go_wp2_with fail
  go_loopw [0, 5] (fun vj iv wx => ∃ (j : Nat), j ≤ k ∧ iv = .int .i64 (j : Int) ∧ Bx (OwB wx base 5 vj (o ++ (xs.take j).flatMap (leB 2))) ∧ Bx (Ch w wx (Fow v)) ∧ Bx (OwnN w v vj)) (fun _ iv _ => k - (intOf iv).toNat)
  case atStart => exact ⟨0, by omega, rfl, H0, C0, bx OwnN.refl⟩
  case round =>
    clear H0 C0
    obtain ⟨j, hj, rfl, HR, HC, HJ⟩ := hrel
    have hwr := HC.out.size
    by_cases hjk : j < k
    · have hjI : (j : Int) < (k : Int) := by omega
      obtain ⟨x, hxx⟩ : ∃ x, xs[j]? = some x := ⟨_, List.getElem?_eq_getElem (by rw [HL.out]; exact hjk)⟩
      have HXX := bx hxx
      have hXr : RL iV wr w.heap.size A xs := HX.out.ch HC.out (Nat.le_refl _) HA.out
      obtain ⟨ad, y, rfl, had, hy, hcy⟩ := RL.atl hXr (k := j) (by rw [HL.out]; exact hjk)
      obtain rfl : x = y := by have := HXX.out.symm.trans hy.out; injection this
      have h6 := H64.out x (List.mem_of_getElem? HXX.out)
      have HP := bx (refPutLittle_ok 2 x wr (by omega) (by omega) h6.1 h6.2)
      clear hxx hy hXr h6
      have hbase : base ≤ wr.heap.size := by omega
      obtain ⟨ol, hol⟩ : ∃ ol, o ++ (xs.take j).flatMap (leB 2) = ol := ⟨_, rfl⟩
      have HOL := bx hol
      have HN : Bx ((ol.length + (leB 2 x).length) * 1 ≤ 140737488355328) := bx (by
        rw [← hol, leB_len, List.length_append, numL_len, List.length_take]
        have := HO.out
        omega)
      have hOW : OwB wr base 5 u0 ol := by rw [← hol]; exact HR.out
      have HOW := bx hOW
      clear hol hOW
      go_wp2_with fail
      refine HP.out.mono ?_
      rintro e w1 ⟨r, rfl, hr1, hb1⟩
      obtain ⟨A1, c1, rfl, hr1, _, _⟩ := hr1.rd
      have hO1 := HOW.out.below hb1
      go_wp2_with (at_builtin; refine wpList_appL _ bV_one rfl (.tmp 12) (.tmp 17) rfl byteTyP (by decide) base u0 ol rfl hO1 w1.heap.size A1 (leB 2 x).length c1 (leB 2 x) rfl rfl hr1 HN.out (Nat.le_trans hbase hb1.size) ?_; intro v5 w5 hO5 hg5 hv5 hb5)
      obtain ⟨n1, n2⟩ := own_next HC.out HJ.out hb1 hg5 hv5
      have N1 : Bx (OwB w5 base 5 v5 (o ++ (xs.take (j + 1)).flatMap (leB 2))) := bx (by
        rw [take_snoc' HXX.out, List.flatMap_append, ← List.append_assoc, HOL.out]
        simpa using hO5)
      have N2 := bx n1
      have N3 := bx n2
      clear n1 n2 hO5 hg5 hv5 hb5 hb1 hr1 hO1
      go_roundw
      case rel => exact ⟨j + 1, by omega, by go_num, N1, N2, N3⟩
      case measure => simp [intOf]; omega
    · obtain rfl : j = k := by omega
      have hjI : ¬ (j : Int) < (j : Int) := by omega
      have hF : Bx (OwB wr base 5 u0 (o ++ xs.flatMap (leB 2))) := bx (by have := HR.out; rwa [List.take_of_length_le (by rw [HL.out]; omega)] at this)
      go_wp2
      go_ret
      exact ⟨_, rfl, hF.out, HC.out, HJ.out⟩
end Go.Proofs.YtlmcpkomjofcgaaGreatDoor
namespace Go.Proofs.YtlmcpkomjofcgaaGreatDoor
open Go.RowKit
set_option maxRecDepth 100000 in
set_option maxHeartbeats 2000000 in
theorem rfour_any (base k c : Nat) (v : Value) (o : List UInt8) (A : Option Addr) (xs : List Int) (w : World) (h : OwB w base 5 v o) (hb : base ≤ w.heap.size) (hx : xs.length = k) (hX : RL iV w w.heap.size A xs) (hA : ∀ ad, A = some ad → ¬ Fow v ad.block)
    (hk : k ≤ 8) (h64 : ∀ x ∈ xs, -9223372036854775808 ≤ x ∧ x ≤ 9223372036854775807) (ho : o.length ≤ 4000000) :
    Calls Tryz.prog 47 #[v, .slice A k c] w (RNum w base v (o ++ xs.flatMap (leB 4))) := by
  have HX := bx hX
  have HL := bx hx
  have HO := bx ho
  have HA := bx hA
  have H64 := bx h64
  have H0 : Bx (OwB w base 5 v (o ++ (xs.take 0).flatMap (leB 4))) := bx (by simpa using h)
  have C0 : Bx (Ch w w (Fow v)) := bx (Ch.refl w)
  clear h hx hX hA ho h64
  go_enter Tryz.func47, Tryz.ntmps47
  go_wp2_with fail
  go_loopw [0, 5] (fun vj iv wx => ∃ (j : Nat), j ≤ k ∧ iv = .int .i64 (j : Int) ∧ Bx (OwB wx base 5 vj (o ++ (xs.take j).flatMap (leB 4))) ∧ Bx (Ch w wx (Fow v)) ∧ Bx (OwnN w v vj)) (fun _ iv _ => k - (intOf iv).toNat)
  case atStart => exact ⟨0, by omega, rfl, H0, C0, bx OwnN.refl⟩
  case round =>
    clear H0 C0
    obtain ⟨j, hj, rfl, HR, HC, HJ⟩ := hrel
    have hwr := HC.out.size
    by_cases hjk : j < k
    · have hjI : (j : Int) < (k : Int) := by omega
      obtain ⟨x, hxx⟩ : ∃ x, xs[j]? = some x := ⟨_, List.getElem?_eq_getElem (by rw [HL.out]; exact hjk)⟩
      have HXX := bx hxx
      have hXr : RL iV wr w.heap.size A xs := HX.out.ch HC.out (Nat.le_refl _) HA.out
      obtain ⟨ad, y, rfl, had, hy, hcy⟩ := RL.atl hXr (k := j) (by rw [HL.out]; exact hjk)
      obtain rfl : x = y := by have := HXX.out.symm.trans hy.out; injection this
      have h6 := H64.out x (List.mem_of_getElem? HXX.out)
      have HP := bx (refPutLittle_ok 4 x wr (by omega) (by omega) h6.1 h6.2)
      clear hxx hy hXr h6
      have hbase : base ≤ wr.heap.size := by omega
      obtain ⟨ol, hol⟩ : ∃ ol, o ++ (xs.take j).flatMap (leB 4) = ol := ⟨_, rfl⟩
      have HOL := bx hol
      have HN : Bx ((ol.length + (leB 4 x).length) * 1 ≤ 140737488355328) := bx (by
        rw [← hol, leB_len, List.length_append, numL_len, List.length_take]
        have := HO.out
        omega)
      have hOW : OwB wr base 5 u0 ol := by rw [← hol]; exact HR.out
      have HOW := bx hOW
      clear hol hOW
      go_wp2_with fail
      refine HP.out.mono ?_
      rintro e w1 ⟨r, rfl, hr1, hb1⟩
      obtain ⟨A1, c1, rfl, hr1, _, _⟩ := hr1.rd
      have hO1 := HOW.out.below hb1
      go_wp2_with (at_builtin; refine wpList_appL _ bV_one rfl (.tmp 12) (.tmp 17) rfl byteTyP (by decide) base u0 ol rfl hO1 w1.heap.size A1 (leB 4 x).length c1 (leB 4 x) rfl rfl hr1 HN.out (Nat.le_trans hbase hb1.size) ?_; intro v5 w5 hO5 hg5 hv5 hb5)
      obtain ⟨n1, n2⟩ := own_next HC.out HJ.out hb1 hg5 hv5
      have N1 : Bx (OwB w5 base 5 v5 (o ++ (xs.take (j + 1)).flatMap (leB 4))) := bx (by
        rw [take_snoc' HXX.out, List.flatMap_append, ← List.append_assoc, HOL.out]
        simpa using hO5)
      have N2 := bx n1
      have N3 := bx n2
      clear n1 n2 hO5 hg5 hv5 hb5 hb1 hr1 hO1
      go_roundw
      case rel => exact ⟨j + 1, by omega, by go_num, N1, N2, N3⟩
      case measure => simp [intOf]; omega
    · obtain rfl : j = k := by omega
      have hjI : ¬ (j : Int) < (j : Int) := by omega
      have hF : Bx (OwB wr base 5 u0 (o ++ xs.flatMap (leB 4))) := bx (by have := HR.out; rwa [List.take_of_length_le (by rw [HL.out]; omega)] at this)
      go_wp2
      go_ret
      exact ⟨_, rfl, hF.out, HC.out, HJ.out⟩
end Go.Proofs.YtlmcpkomjofcgaaGreatDoor
namespace Go.Proofs.YtlmcpkomjofcgaaGreatDoor
open Go.RowKit
theorem mem_take_succ {l : List (List UInt8)} {j : Nat} {y nm : List UInt8} (h : l[j]? = some y) (hn : nm ∉ l.take j) (hy : y ≠ nm) : nm ∉ l.take (j + 1) := by
  rw [List.take_add_one, h]
  intro hm
  rcases List.mem_append.1 hm with hm | hm
  · exact hn hm
  · simp at hm; exact hy hm.symm
theorem mem_take_at {l : List (List UInt8)} {j i : Nat} {y : List UInt8} (h : l[j]? = some y) (hj : j < i) : y ∈ l.take i :=
  List.mem_of_getElem? (i := j) (by rw [List.getElem?_take, if_pos hj]; exact h)
set_option maxRecDepth 100000 in
set_option maxHeartbeats 8000000 in
theorem rchk_any (A : Option Addr) (n c : Nat) (L : List It) (w : World) (hn : L.length = n) (hnc : n ≤ c) (hb : n ≤ 140737488351232) (hs : ∀ x ∈ L, x.name.length ≤ 140737488351232 ∧ x.s.n ≤ 140737488351232) (hr : RIt w w.heap.size A L) :
    Calls Tryz.prog 45 #[.slice A n c] w fun e w' => e = .returned (.int .i64 (chkP (L.map It.p))) ∧ Below w.heap.size w w' := by
  obtain ⟨P, hP⟩ : ∃ P, L.map It.p = P := ⟨_, rfl⟩
  obtain ⟨R, hR⟩ : ∃ R, chkP (L.map It.p) = R := ⟨_, rfl⟩
  rw [hR]
  rw [hP] at hR
  have HPL := bx hP
  have HR := bx hR
  have HL := bx hn
  have HS := bx hs
  have HRW := bx hr
  have HPn : Bx (P.length = n) := bx (by rw [← hP, List.length_map]; exact hn)
  clear hP hR hn hs hr
  go_enter Tryz.func45, Tryz.ntmps45
  by_cases h64 : 64 < n
  · have hI : (64 : Int) < (n : Int) := by omega
    have HF : Bx (R = 17) := bx (by rw [← HR.out]; unfold chkP; rw [if_pos (by rw [HPn.out]; exact h64)])
    go_wp2
    go_ret
    exact ⟨by rw [HF.out]; rfl, Below.refl _ _⟩
  · have hI : ¬ (64 : Int) < (n : Int) := by omega
    have HG : Bx (chkF ((P.take 0).map (·.name)) (P.drop 0) = R) := bx (by rw [← HR.out]; unfold chkP; rw [if_neg (by rw [HPn.out]; exact h64)]; rfl)
    have HW0 := bx (Below.refl w.heap.size w)
    clear HR
    go_wp2
    go_loopw [3] (fun iv wx => ∃ t : Nat, t ≤ n ∧ iv = .int .i64 (t : Int) ∧ Bx (Below w.heap.size w wx) ∧ Bx (chkF ((P.take t).map (·.name)) (P.drop t) = R)) (fun i _ => n - (intOf i).toNat)
    case atStart => exact ⟨0, by omega, rfl, HW0, HG⟩
    case round =>
      clear HG HW0
      obtain ⟨t, ht, rfl, HW, HT⟩ := hrel
      by_cases htn : t < n
      · have htI : (t : Int) < (n : Int) := by omega
        have hrr : RIt wr w.heap.size A L := HRW.out.below HW.out (Nat.le_refl _)
        obtain ⟨ad, x, sn, rfl, hlt, HX, HSN, k0, k1, _, _⟩ := hrr.itm (k := t) (by rw [HL.out]; exact htn)
        have hxs := HS.out x (List.mem_of_getElem? HX.out)
        have hPx : P[t]? = some x.p := by rw [← HPL.out]; exact itm_map HX.out
        have HAT : Bx (chkF ((P.take t).map (·.name)) (P.drop t) = if nameA x.name = false then 13 else if x.name ∈ (P.take t).map (·.name) then 14 else if 32768 < x.s.l.length then 8 else chkF ((P.take (t + 1)).map (·.name)) (P.drop (t + 1))) := bx (chkF_at hPx)
        have hxl : x.s.l.length = x.s.n := (hrr.2 x (List.mem_of_getElem? HX.out)).1
        have HXL := bx hxl
        have HNM := bx (rname_any sn wr (sn_len HSN.out hxs.1))
        clear hrr hxl
        cases hnm : nameA x.name with
        | false =>
          have HF : Bx (R = 13) := bx (by rw [← HT.out, HAT.out, if_pos hnm])
          have HNF : Bx (nameA sn.data.toList = false) := bx (by rw [HSN.out]; exact hnm)
          go_wp2_with fail
          refine HNM.out.mono ?_
          rintro e w2 ⟨rfl, hb2⟩
          rw [HNF.out]
          go_wp2
          go_ret
          exact ⟨by rw [HF.out]; rfl, HW.out.trans (hb2.mono HW.out.size)⟩
        | true =>
          have HNF : Bx (nameA sn.data.toList = true) := bx (by rw [HSN.out]; exact hnm)
          have HAT2 : Bx (R = if x.name ∈ (P.take t).map (·.name) then 14 else if 32768 < x.s.l.length then 8 else chkF ((P.take (t + 1)).map (·.name)) (P.drop (t + 1))) := bx (by rw [← HT.out, HAT.out, if_neg (by rw [hnm]; simp)])
          clear HAT hnm HT
          obtain ⟨wb, rfl⟩ : ∃ wb, wb = wr := ⟨_, rfl⟩
          go_wp2_with fail
          refine HNM.out.mono ?_
          rintro e w2 ⟨rfl, hb2⟩
          rw [HNF.out]
          have HW2 : Bx (Below w.heap.size w w2) := bx (HW.out.trans (hb2.mono HW.out.size))
          have k0w : w2.cell? (ad.add (t * 3)) = some (.string sn) := (hb2.cell (p := ad.add (t * 3)) (by rw [blk_add]; have := HW.out.size; omega)).trans k0
          have k1w : w2.cell? ⟨(ad.add (t * 3)).block, (ad.add (t * 3)).off + 1, none⟩ = some (.slice x.s.A x.s.n x.s.c) := (hb2.cell (p := ⟨(ad.add (t * 3)).block, (ad.add (t * 3)).off + 1, none⟩) (by show (ad.add (t * 3)).block < _; rw [blk_add]; have := HW.out.size; omega)).trans k1
          have HN0 : Bx (x.name ∉ ((P.map (·.name)).take 0)) := bx (by simp)
          clear k0 k1 hb2 HW HNM
          go_wp2
          go_loopw [4] (fun iv wx => ∃ (j q : Nat), j ≤ t ∧ iv = .int .i64 (j : Int) ∧ wx = w2.drewN q ∧ Bx (x.name ∉ ((P.map (·.name)).take j))) (fun i _ => t - (intOf i).toNat)
          case atStart => exact ⟨0, 0, by omega, rfl, rfl, HN0⟩
          case round =>
            clear HN0
            obtain ⟨j, q, hj, rfl, rfl, HN⟩ := hrel
            by_cases hjt : j < t
            · have hjI : (j : Int) < (t : Int) := by omega
              have hrr : RIt w2 w.heap.size (some ad) L := HRW.out.below HW2.out (Nat.le_refl _)
              obtain ⟨ad', y, sy, had, hlt', HY, HSY, m0, _, _, _⟩ := hrr.itm (k := j) (by rw [HL.out]; omega)
              obtain rfl : ad = ad' := by injection had
              have hPy : (P.map (·.name))[j]? = some y.name := by rw [← HPL.out, List.map_map, List.getElem?_map, HY.out]; rfl
              have HPY := bx hPy
              have htc : (t : Int) < (n : Int) := by omega
              have hjc : (j : Int) < (n : Int) := by omega
              clear hrr had hlt' hPy k1w
              by_cases hyx : y.name = x.name
              · have hst : (sy.toList == sn.toList) = true := tl_same (by rw [HSN.out, HSY.out]; exact hyx)
                have HF : Bx (R = 14) := bx (by rw [HAT2.out, if_pos (by rw [List.map_take, ← hyx]; exact mem_take_at HPY.out hjt)])
                clear hyx
                go_wp2
                go_quiet (fail)
                go_wp2
                go_ret
                exact ⟨by rw [HF.out]; rfl, below_drewN (below_drewN HW2.out _) _⟩
              · have hst : (sy.toList == sn.toList) = false := tl_diff (by rw [HSN.out, HSY.out]; exact hyx)
                have HN2 := bx (mem_take_succ HPY.out HN.out hyx)
                clear hyx
                go_wp2
                go_quiet (fail)
                go_wp2
                go_roundw
                case rel => exact ⟨j + 1, q + nq, by omega, by go_num, rfl, HN2⟩
                case measure => simp [intOf]; omega
            · have hjI : ¬ (j : Int) < (t : Int) := by omega
              obtain rfl : j = t := by omega
              have HAT3 : Bx (R = if 32768 < x.s.l.length then 8 else chkF ((P.take (j + 1)).map (·.name)) (P.drop (j + 1))) := bx (by rw [HAT2.out, if_neg (by rw [List.map_take]; exact HN.out)])
              clear HAT2
              by_cases h32 : 32768 < x.s.n
              · have h32I : (32768 : Int) < (x.s.n : Int) := by omega
                have HF : Bx (R = 8) := bx (by rw [HAT3.out, if_pos (by rw [HXL.out]; exact h32)])
                go_wp2
                go_ret
                exact ⟨by rw [HF.out]; rfl, below_drewN HW2.out _⟩
              · have h32I : ¬ (32768 : Int) < (x.s.n : Int) := by omega
                have HF : Bx (chkF ((P.take (j + 1)).map (·.name)) (P.drop (j + 1)) = R) := bx (by rw [HAT3.out, if_neg (by rw [HXL.out]; exact h32)])
                have HW3 : Bx (Below w.heap.size w (w2.drewN q)) := bx (below_drewN HW2.out _)
                go_wp2
                go_roundw
                case rel => exact ⟨j + 1, by omega, by go_num, HW3, HF⟩
                case measure => simp [intOf]; omega
      · have htI : ¬ (t : Int) < (n : Int) := by omega
        obtain rfl : t = n := by omega
        have HF : Bx (R = 0) := bx (by rw [← HT.out, List.drop_of_length_le (by rw [HPn.out]; exact Nat.le_refl _)]; rfl)
        go_wp2
        go_ret
        exact ⟨by rw [HF.out]; rfl, HW.out⟩
end Go.Proofs.YtlmcpkomjofcgaaGreatDoor
namespace Go.Proofs.YtlmcpkomjofcgaaGreatDoor
open Go.RowKit

section
variable {P : Program} (w : World)
end
end Go.Proofs.YtlmcpkomjofcgaaGreatDoor
namespace Go.Proofs.YtlmcpkomjofcgaaGreatDoor
open Go.RowKit
theorem grown_ch {w w' : World} {v v' : Value} (g : w.grownBy w' v.ownBlock) (k : v'.ownBlock = v.ownBlock ∨ v'.ownBlock = some w.heap.size) : Ch w w' (Fow v) ∧ OwnN w v v' :=
  ⟨Ch.of_grown g (fun _ h => h), by
    rcases k with e | e
    · exact .inl e
    · exact .inr ⟨_, e, Nat.le_refl _⟩⟩
section
variable {P : Program} (w : World)
theorem run_appStrG {t u e : TypeId} (ty : TypeId) (hE : ETy P t e (.int .u8 0) 1 1) (hu : P.underlying u = some .string) (base : Nat) (v : Value) (l : List UInt8) (hown : OwB w base e v l) (s : ByteArray)
    (hn : l.length + s.size ≤ 140737488355328) (hbase : base ≤ w.heap.size) :
    ∃ v' w', (Builtin.append_ #[t, u] ty #[v, .string s]).run P w = .ok v' w' ∧ OwB w' base e v' (l ++ s.data.toList) ∧ Ch w w' (Fow v) ∧ OwnN w v v' := by
  obtain ⟨i, hi, hz, hsz, hb⟩ := hE.info
  obtain ⟨v', w', hr, h2, h3, h4⟩ := Lib.run_append_own_string (P := P) w base t u ty e i hE.sl hu hi hz hsz hb v l.length (l.map bV) hown s (by unfold maxLen; omega) hn hbase
  have hown2 := hown
  have key : v'.ownBlock = v.ownBlock ∨ v'.ownBlock = some w.heap.size := by
    rcases hown2.2 with ⟨e1, e2⟩ | ⟨g, cap, cur, rfl, hbg, hg, hnc, hcm, hcs, htake⟩
    · have hv : v = .slice none 0 0 := by first | exact e1 | exact e2
      subst hv
      by_cases h0 : s.size = 0
      · left
        rw [h4.2 ⟨rfl, h0⟩]
      · right
        rw [run_append_nil_string (P := P) w t u ty e i (.int .u8 0) hE.sl hu hi hz s (by omega) (by omega) (by rw [hb]; omega)] at hr
        injection hr with hr _
        rw [← hr]; rfl
    · by_cases hroom : l.length + s.size ≤ cap
      · left
        have hcs' : cur.size = cap := by simpa using hcs
        rw [Lib.run_append_room_string (P := P) w t u ty e i hE.sl hu hi hsz g l.length cap cur hg s hroom (by omega)] at hr
        injection hr with hr _
        rw [← hr]; rfl
      · right
        have holds : ∀ j u, (l.map bV)[j]? = some u → w.cell? ((⟨g, 0, none⟩ : Addr).add j) = some u := World.ownsRow.cells hown (g := g) rfl
        rw [Lib.run_append_grow_string (P := P) w t u ty e i (.int .u8 0) hE.sl hu hi hz ⟨g, 0, none⟩ l.length cap (l.map bV) (by rw [hsz]; simp) holds s (by omega) (by omega) (by rw [hb]; exact growslice_fits (by omega) (by omega))] at hr
        injection hr with hr _
        rw [← hr]; rfl
  refine ⟨v', w', hr, ?_, grown_ch h3 key⟩
  unfold OwB OwL
  rw [List.length_append, List.map_append]
  exact h2
theorem wpList_appStrG {ops : Array Oper} {rest : List Oper} {o : Oper} {a : Act} {Q : Exit → Act → World → Prop} (hgd : o.guard = none) (s x : Operand) {t u e : TypeId}
    (ho : o.op = .call { callee := .builtin .append, args := #[s, x], argTypes := #[t, u] }) (hE : ETy P t e (.int .u8 0) 1 1) (hu : P.underlying u = some .string)
    (base : Nat) (v : Value) (l : List UInt8) (hs : a.eval s = v) (hown : OwB w base e v l) (b : ByteArray) (hx : a.eval x = .string b)
    (hn : l.length + b.size ≤ 140737488355328) (hbase : base ≤ w.heap.size)
    (h : ∀ v' w', OwB w' base e v' (l ++ b.data.toList) → Ch w w' (Fow v) → OwnN w v v' → wpList P ops Q rest (a.put o.dst v') w') : wpList P ops Q (o :: rest) a w :=
  wpList_plain hgd fun K hK => by
    obtain ⟨v', w', hrun, h2, h3, h4⟩ := run_appStrG (P := P) w o.type hE hu base v l hown b hn hbase
    unfold Oper.wp execOp
    simp only [ho, resolve, invoke, builtin, Sem.run_bind, Sem.run_pure, Result.andThen_ok, List.map_toArray, List.map_cons, List.map_nil, hs, hx, hrun]
    exact hK _ _ (h v' w' h2 h3 h4)
theorem step_appStrG {ops : Array Oper} {o : Oper} {a : Act} {K : Act → World → Prop} {Q : Exit → Act → World → Prop} {E : Prop} (hgd : o.guard = none) (s x : Operand) {t u e : TypeId}
    (ho : o.op = .call { callee := .builtin .append, args := #[s, x], argTypes := #[t, u] }) (hE : ETy P t e (.int .u8 0) 1 1) (hu : P.underlying u = some .string)
    (base : Nat) (v : Value) (l : List UInt8) (hs : a.eval s = v) (hown : OwB w base e v l) (b : ByteArray) (hx : a.eval x = .string b)
    (hn : l.length + b.size ≤ 140737488355328) (hbase : base ≤ w.heap.size)
    (h : ∀ v' w', OwB w' base e v' (l ++ b.data.toList) → Ch w w' (Fow v) → OwnN w v v' → K (a.put o.dst v') w') :
    if Region.wanted o (yielded ops a.tmps) = true then Oper.wp P o a w K Q else E := by
  have hw : Region.wanted o (yielded ops a.tmps) = true := by simp [Region.wanted, hgd]
  rw [if_pos hw]
  obtain ⟨v', w', hrun, h2, h3, h4⟩ := run_appStrG (P := P) w o.type hE hu base v l hown b hn hbase
  unfold Oper.wp execOp
  simp only [ho, resolve, invoke, builtin, Sem.run_bind, Sem.run_pure, Result.andThen_ok, List.map_toArray, List.map_cons, List.map_nil, hs, hx, hrun]
  exact h v' w' h2 h3 h4
end
end Go.Proofs.YtlmcpkomjofcgaaGreatDoor
namespace Go.Proofs.YtlmcpkomjofcgaaGreatDoor
open Go.RowKit
structure Lst {α : Type} (f : α → Value) (w0 w : World) (B : Nat) (e : TypeId) (V : Value) (o : List α) (D : Value) (d : List α) (H : Value) (h : List α) : Prop where
  t : Tri f w B e V o D d H h
  b : Below B w0 w
  z : B ≤ w.heap.size
section
variable {α : Type} {f : α → Value} {w0 w w' : World} {B : Nat} {e : TypeId} {V D H v' v : Value} {o d h l l' n : List α}
theorem Ch.low {S : Nat → Prop} (c : Ch w w' S) (hb : Below B w0 w) (hz : B ≤ w.heap.size) (hS : ∀ k, S k → B ≤ k) : Below B w0 w' :=
  hb.trans (c.below hz fun k hk h => Nat.lt_irrefl _ (Nat.lt_of_lt_of_le hk (hS k h)))
theorem fow_low (h : OwL f w B e v l) (k : Nat) (hk : Fow v k) : B ≤ k := (World.ownsRow.lt h k hk).1
theorem apt_ch (ho : OwL f w B e v l) (ha : Apt V v) (c : Ch w w' (Fow V)) : OwL f w' B e v l := OwL.ch ho c (fun k hk h => by
  unfold Fow at h
  rcases ha with a | a | a
  · rw [a] at h; cases h
  · rw [a] at hk; cases hk
  · exact a (h.trans hk.symm))
theorem apt_own (ho : OwL f w B e v l) (ha : Apt V v) (k : OwnN w V v') : Apt v' v := by
  rcases k with k | ⟨b, k, hb⟩
  · unfold Apt; rw [k]; exact ha
  · unfold Apt
    rw [k]
    cases hv : v.ownBlock with
    | none => exact .inr (.inl rfl)
    | some b' =>
      have := (World.ownsRow.lt ho b' hv).2
      exact .inr (.inr (by intro e; injection e with e; omega))
theorem Tri.ch (h0 : Tri f w B e V o D d H h) (ho : OwL f w' B e v' l') (c : Ch w w' (Fow V)) (k : OwnN w V v') : Tri f w' B e v' l' D d H h :=
  ⟨ho, apt_ch h0.o2 h0.a12 c, apt_ch h0.o3 h0.a13 c, apt_own h0.o2 h0.a12 k, apt_own h0.o3 h0.a13 k, h0.a23⟩
theorem Lst.num1 (L : Lst f w0 w B e V o D d H h) (ho : OwL f w' B e v' l') (c : Ch w w' (Fow V)) (k : OwnN w V v') : Lst f w0 w' B e v' l' D d H h :=
  ⟨L.t.ch ho c k, c.low L.b L.z (fow_low L.t.o1), Nat.le_trans L.z c.size⟩
theorem Lst.rot (L : Lst f w0 w B e V o D d H h) : Lst f w0 w B e D d H h V o := ⟨L.t.rot, L.b, L.z⟩
theorem Lst.num2 (L : Lst f w0 w B e V o D d H h) (ho : OwL f w' B e v' l') (c : Ch w w' (Fow D)) (k : OwnN w D v') : Lst f w0 w' B e V o v' l' H h :=
  (L.rot.num1 ho c k).rot.rot
theorem Lst.num3 (L : Lst f w0 w B e V o D d H h) (ho : OwL f w' B e v' l') (c : Ch w w' (Fow H)) (k : OwnN w H v') : Lst f w0 w' B e V o D d v' l' :=
  (L.rot.rot.num1 ho c k).rot
theorem Lst.below (L : Lst f w0 w B e V o D d H h) (hb : Below w.heap.size w w') : Lst f w0 w' B e V o D d H h :=
  ⟨⟨L.t.o1.below hb, L.t.o2.below hb, L.t.o3.below hb, L.t.a12, L.t.a13, L.t.a23⟩, L.b.trans (hb.mono L.z), Nat.le_trans L.z hb.size⟩
theorem Lst.alloc (L : Lst f w0 w B e V o D d H h) (x : Obj) : Lst f w0 (w.alloc x) B e V o D d H h := L.below (bl_alloc (Below.refl _ _) (Nat.le_refl _) _)
theorem Lst.drew (L : Lst f w0 w B e V o D d H h) : Lst f w0 w.drew B e V o D d H h := L.below (below_drewN (Below.refl _ _) 1)
/-- The third row is given up. -/
theorem Lst.drop3 (L : Lst f w0 w B e V o D d H h) : Lst f w0 w B e V o D d (.slice none 0 0) [] := ⟨⟨L.t.o1, L.t.o2, OwL.nil, L.t.a12, .inr (.inl rfl), .inr (.inl rfl)⟩, L.b, L.z⟩
theorem Lst.nil (hb : Below B w0 w) (hz : B ≤ w.heap.size) : Lst f w0 w B e (.slice none 0 0) [] (.slice none 0 0) [] (.slice none 0 0) [] := ⟨Tri.nil, hb, hz⟩
/-- A new block is not the row's own. -/
theorem fow_new (h : OwL f w B e v l) {k : Nat} (hk : w.heap.size ≤ k) : ∀ ad, (some ⟨k, 0, none⟩ : Option Addr) = some ad → ¬ Fow v ad.block := fun ad ha hf => by
  injection ha with ha
  subst ha
  exact Nat.lt_irrefl _ (Nat.lt_of_lt_of_le (World.ownsRow.lt h _ hf).2 hk)
theorem fow_nil {A : Option Addr} : ∀ ad, A = some ad → ¬ Fow (.slice none 0 0) ad.block := fun _ _ h => by cases h
/-- Whatever lies below stays. -/
theorem Lst.rl {β : Type} {F : β → Value} {A : Option Addr} {m : List β} (L : Lst f w0 w B e V o D d H h) (r : RL F w0 B A m) : RL F w B A m := r.below L.b (Nat.le_refl _)
end
end Go.Proofs.YtlmcpkomjofcgaaGreatDoor
namespace Go.Proofs.YtlmcpkomjofcgaaGreatDoor
open Go.ChangeShapes Go.WideShapes Go.ChangeAt Go.RowKit
section
variable {H : Type} {enc : TypeId × Value → H} {w : World} {base : Nat} {spare : Nat → Bool} {held : Bool}
theorem bytes_elD {P : Program} {t e : TypeId} {v : Value} {n : Nat} {y : DataW H × List MemPlace} (ht : P.underlying t = some (.slice e)) (he : P.underlying e = some (.int .u8)) (hc : P.cellsOf e = 1)
    (hf : DataW.trod enc P w base spare held n t [v] = some y) : ∃ x, v = slV x ∧ SlOk w x ∧ DLen y.1 x.n := by
  obtain ⟨x, hv, hx⟩ := bytes_el ht he hc hf
  refine ⟨x, hv, hx, ?_⟩
  rcases open_ints ht he hc hf with ⟨hcs, hy⟩ | ⟨a, l, c', zs, hcs, _, hl, hm, hz, hy, _, _⟩
  · rw [hy]
    rw [hv] at hcs
    injection hcs with hcs
    unfold slV at hcs
    injection hcs with _ h2
    exact .inl ⟨rfl, h2⟩
  · rw [hy]
    rw [hv] at hcs
    injection hcs with hcs
    unfold slV at hcs
    injection hcs with _ h2
    rw [h2]
    have hzl : l ≤ zs.length := by rw [hz]; split <;> omega
    exact .inr ⟨_, _, rfl, by simp [lits]; omega⟩
theorem dall_len {α : Type} {Q : α → DataW H → Prop} {d : DataW H} {l : List α} {n : Nat}
    (h : (d = .nil ∧ l = []) ∨ ∃ es sp, d = .slice es sp ∧ es.length = n ∧ ∀ (i : Nat) (x : α) (y : DataW H), l[i]? = some x → es[i]? = some y → Q x y) (hn : l.length = n) : DAll Q d l := by
  rcases h with h | ⟨es, sp, h1, h2, h3⟩
  · exact .inl h
  · exact .inr ⟨es, sp, h1, by rw [h2, hn], h3⟩
def ItQ (w : World) (x : It) (y : DataW H) : Prop := SlOk w x.s ∧ ∃ y1 y2, y = .agg [.lit (.string x.name), y1, y2] ∧ DLen y1 x.s.n
end
end Go.Proofs.YtlmcpkomjofcgaaGreatDoor
namespace Go.Proofs.YtlmcpkomjofcgaaGreatDoor
open Go.ChangeShapes Go.WideShapes Go.ChangeAt Go.RowKit
open Go.Deep (open_slice choose_lt hone_of oneCellFields)
section
variable {H : Type} {enc : TypeId × Value → H} {P : Program} {w : World} {base : Nat} {spare : Nat → Bool} {held : Bool}
/-- A slice of whatever elements: F lays an element's cells, Q says what its datum says of it. -/
theorem rows_el {α : Type} [Inhabited α] {t e : TypeId} {v : Value} (size : Nat) (F : α → List Value) (Q : α → DataW H → Prop) (ht : P.underlying t = some (.slice e)) (hC : P.cellsOf e = size) (hpos : 0 < size)
    (hF : ∀ x, (F x).length = size)
    (hel : ∀ (n : Nat) (cs : List Value) (y : DataW H × List MemPlace), cs.length = size → DataW.trod enc P w base spare held n e cs = some y → ∃ x, cs = F x ∧ Q x y.1)
    {m0 : Nat} {y0 : DataW H × List MemPlace} (hf : DataW.trod enc P w base spare held m0 t [v] = some y0) :
    ∃ (A : Option Addr) (n c : Nat) (l : List α), v = .slice A n c ∧ l.length = n ∧ n ≤ c ∧ (c : Int) ≤ 9223372036854775807 ∧ Rd w w.heap.size A (l.flatMap F) ∧
      ((y0.1 = .nil ∧ l = []) ∨ ∃ es sp, y0.1 = .slice es sp ∧ es.length = n ∧ ∀ (i : Nat) (x : α) (y : DataW H), l[i]? = some x → es[i]? = some y → Q x y) := by
  rcases open_slice ht hf with ⟨hcs, hx⟩ | ⟨a, len, cap, m, n', D, Pl, hcs, _, hl, hm, hmm, hx, hi⟩
  · simp at hcs
    subst hcs
    subst hx
    exact ⟨none, 0, 0, [], rfl, rfl, Nat.le_refl _, by omega, Rd.nil, .inl ⟨rfl, rfl⟩⟩
  · simp at hcs
    subst hcs
    subst hx
    rw [hC] at hi
    have hlm : len ≤ m := by rw [hmm]; split <;> omega
    obtain ⟨X, hX⟩ := choose_lt (n := len) (α := α) (p := fun i x => (∃ cs', w.cells? base (a.add (i * size)) size = some cs' ∧ cs' = F x) ∧ Q x (D i)) (fun i hin => by
      obtain ⟨cs', h1, h2⟩ := hi i (by omega)
      obtain ⟨_, hlen, _⟩ := World.cells?_some h1
      obtain ⟨x, hx1, hx2⟩ := hel _ _ _ hlen h2
      exact ⟨x, ⟨cs', h1, hx1⟩, hx2⟩)
    have hcell : ∀ i j, i < len → j < size → w.cell? (a.add (i * size + j)) = (F (X i))[j]? := by
      intro i j hin hj
      obtain ⟨⟨cs', h1, h2⟩, _⟩ := hX i hin
      obtain ⟨_, hlen, hat⟩ := World.cells?_some h1
      have := hat j hj
      rw [← Go.Deep.add_add, this, h2]
    have hget : ∀ (k : Nat) (l : List α) (i j : Nat), l.length = k → i < k → j < size → (l.flatMap F)[i * size + j]? = (l[i]?).bind fun x => (F x)[j]? := by
      intro k
      induction k with
      | zero => intro l i j _ h; omega
      | succ k ih =>
        intro l i j hlk hik hj
        match l, hlk with
        | x :: r, hlk =>
          cases i with
          | zero =>
            simp only [List.flatMap_cons, Nat.zero_mul, Nat.zero_add, List.getElem?_cons_zero, Option.bind_some]
            rw [List.getElem?_append_left (by rw [hF]; exact hj)]
          | succ i =>
            simp only [List.flatMap_cons, List.getElem?_cons_succ]
            rw [List.getElem?_append_right (by rw [hF, Nat.add_mul]; omega), hF, show (i + 1) * size + j - size = i * size + j by rw [Nat.add_mul]; omega]
            exact ih r i j (by simpa using hlk) (by omega) hj
    have hll : ((List.range len).map X).length = len := by simp
    have hflen : ∀ l : List α, (l.flatMap F).length = l.length * size := by
      intro l
      induction l with
      | nil => simp
      | cons x r ih => simp only [List.flatMap_cons, List.length_append, ih, hF, List.length_cons, Nat.add_mul]; omega
    have key : ∀ q u, (((List.range len).map X).flatMap F)[q]? = some u → w.cell? (a.add q) = some u := by
      intro q u hu
      have hq : q < len * size := by
        have := (List.getElem?_eq_some_iff.1 hu).1
        rw [hflen, hll] at this; exact this
      have hq1 : q / size < len := Nat.div_lt_of_lt_mul (by rw [Nat.mul_comm]; exact hq)
      have hq2 : q % size < size := Nat.mod_lt _ hpos
      have hqe : q / size * size + q % size = q := by rw [Nat.mul_comm]; exact Nat.div_add_mod q size
      have h1 := hget len _ (q / size) (q % size) hll hq1 hq2
      rw [hqe, hu] at h1
      have h2 := hcell (q / size) (q % size) hq1 hq2
      rw [hqe] at h2
      rw [h2, h1]
      simp [hq1]
    refine ⟨some a, len, cap, (List.range len).map X, rfl, hll, hl, by unfold maxLen at hm; omega, fun hne => ⟨a, rfl, ?_, key⟩, .inr ⟨_, _, rfl, by simp, ?_⟩⟩
    · obtain ⟨u, us, hq⟩ := List.exists_cons_of_ne_nil hne
      have := World.block_lt_of_cell? _ _ (key 0 u (by rw [hq]; rfl))
      rwa [blk_add] at this
    · intro i x y hx1 hy1
      simp only [List.getElem?_map] at hx1 hy1
      obtain ⟨i1, hi1, rfl⟩ := Option.map_eq_some_iff.1 hx1
      obtain ⟨i2, hi2, rfl⟩ := Option.map_eq_some_iff.1 hy1
      have e1 := List.getElem?_eq_some_iff.1 hi1
      have e2 := List.getElem?_eq_some_iff.1 hi2
      obtain ⟨h1, rfl⟩ := e1
      obtain ⟨h2, rfl⟩ := e2
      simp only [List.getElem_range]
      exact (hX i (by simpa using h1)).2
end
end Go.Proofs.YtlmcpkomjofcgaaGreatDoor
namespace Go.Proofs.YtlmcpkomjofcgaaGreatDoor
open Go.RowKit
section
variable {P : Program} {ops : Array Oper} {Q : Exit → Act → World → Prop}
/-- What an operation answers. -/
def OpAns (P : Program) (o : Oper) (ev : Operand → Value) (w : World) (R : Value → World → Prop) : Prop :=
  match (execOp ev o).run P w with
  | .ok (.value v) w' => R v w'
  | .ok .skip w' => R undef w'
  | .ok (.enter f args) w' => Calls P f args w' fun e w'' => ∃ v, e = .returned v ∧ R v w''
  | .ok (.row row args) w' => Rows P row args w' fun v w'' => R v w''
  | _ => False
theorem OpAns.mono {o : Oper} {ev : Operand → Value} {w : World} {R R' : Value → World → Prop} (h : OpAns P o ev w R) (hR : ∀ v w', R v w' → R' v w') : OpAns P o ev w R' := by
  unfold OpAns at *
  generalize (execOp ev o).run P w = r at *
  cases r with
  | ok n w' =>
    cases n <;> simp only at h ⊢
    case value v => exact hR _ _ h
    case skip => exact hR _ _ h
    case enter f args => exact h.mono fun e w'' ⟨v, he, hv⟩ => ⟨v, he, hR _ _ hv⟩
    case row row args => exact Rows.mono h fun v w'' hv => hR _ _ hv
  | halt x w' => exact h
theorem wpOp_ans {j : Nat} {o : Oper} (hj : ops[j]? = some o) (hg : o.guard = none) {a : Act} {w : World} {K : Act → World → Prop} (h : OpAns P o a.eval w (fun v w' => K (a.put o.dst v) w')) : wpOp P ops Q j K a w := by
  unfold wpOp
  simp only [hj]
  rw [if_pos (by simp [Region.wanted, hg])]
  refine .inl ?_
  unfold Oper.wp
  unfold OpAns at h
  generalize (execOp a.eval o).run P w = r at *
  cases r with
  | ok n w' =>
    cases n <;> simp only [Oper.upon] at h ⊢
    case value v => exact h
    case skip => exact h
    case enter f args => exact h.mono fun e w'' ⟨v, he, hv⟩ => by subst he; exact hv
    case row row args => exact Rows.mono h fun v w'' hv => hv
  | halt x w' => exact h.elim
/-- Whatever order is picked: an invariant that speaks of what has been done. -/
theorem wpAny_inv (I : (Nat → Bool) → Act → World → Prop)
    (htop : ∀ j o, ops[j]? = some o → ∀ e ∈ o.after, Region.binds .any e = true → e.on < j)
    (hstep : ∀ (d : Nat → Bool) (j : Nat) (o : Oper) (a : Act) (w : World), ops[j]? = some o → d j = false → (∀ i, ops.size ≤ i → d i = false) → (∀ e ∈ o.after, Region.binds .any e = true → d e.on = true) → I d a w →
      wpOp P ops Q j (fun a' w' => I (fun i => d i || i == j) a' w') a w)
    (hend : ∀ (d : Nat → Bool) (a : Act) (w : World), (∀ j, j < ops.size → d j = true) → I d a w → Q .normal a w) :
    ∀ (fuel : Nat) (listed : Array Bool) (a : Act) (w : World), listed.size = ops.size → (∀ L : List Nat, L.Nodup → (∀ i ∈ L, listed.getD i true = false) → L.length ≤ fuel) → I (fun i => listed.getD i false) a w →
      wpAny P .any ops Q fuel listed a w := by
  have none : ∀ listed : Array Bool, listed.size = ops.size → Region.ready .any ops listed = [] → ∀ j, j < ops.size → listed.getD j false = true := by
    intro listed hs hr j
    induction j using Nat.strongRecOn with
    | _ j ih =>
      intro hj
      cases hb : listed.getD j false with
      | true => rfl
      | false =>
        exfalso
        have : j ∈ Region.ready .any ops listed := by
          unfold Region.ready
          rw [List.mem_filter]
          refine ⟨List.mem_range.2 hj, ?_⟩
          have h1 : listed.getD j true = false := by
            have hj' : j < listed.size := by omega
            simp [Array.getD, hj'] at hb ⊢
            exact hb
          rw [h1, Array.getElem?_eq_getElem hj]
          simp only [Bool.not_false, Bool.true_and, Option.map_some, Option.getD_some, Array.all_eq_true_iff_forall_mem]
          intro e he
          cases hbd : Region.binds .any e with
          | false => rfl
          | true =>
            have hlt := htop j _ (Array.getElem?_eq_getElem hj) e he hbd
            rw [ih _ hlt (by omega)]; rfl
        rw [hr] at this
        cases this
  intro fuel
  induction fuel with
  | zero =>
    intro listed a w hs hL hI
    have hd : ∀ j, j < ops.size → listed.getD j false = true := by
      intro j hj
      cases hb : listed.getD j false with
      | true => rfl
      | false =>
        have hj' : j < listed.size := by omega
        have := hL [j] (by simp) (by intro i hi; simp at hi; subst hi; simp [Array.getD, hj'] at hb ⊢; exact hb)
        simp at this
    refine ⟨?_, hend _ a w hd hI⟩
    unfold Region.ready
    rw [List.filter_eq_nil_iff]
    intro i hi
    have hi := List.mem_range.1 hi
    have h1 := hd i hi
    have hi' : i < listed.size := by omega
    simp [Array.getD, hi'] at h1
    simp [Array.getD, hi', h1]
  | succ fuel ih =>
    intro listed a w hs hL hI
    refine ⟨fun hr => hend _ a w (none listed hs hr) hI, fun j hj => ?_⟩
    obtain ⟨h0, o, ho, hall⟩ := mem_ready.1 hj
    have hjn : j < ops.size := (Array.getElem?_eq_some_iff.1 ho).1
    have hjl : j < listed.size := by omega
    have hf : listed.getD j false = false := by simp [Array.getD, hjl] at h0 ⊢; exact h0
    refine wpOp_mono (fun a' w' h => ih (listed.setIfInBounds j true) a' w' (by simpa using hs) ?_ ?_) (hstep (fun i => listed.getD i false) j o a w ho hf (fun i hi => by simp [Array.getD, show ¬ i < listed.size by omega]) (fun e he hb => hall e he hb) hI)
    · intro L hn hm
      have hjL : j ∉ L := fun h => by
        have := hm j h
        simp [Array.getD, hjl] at this
      have := hL (j :: L) (List.nodup_cons.2 ⟨hjL, hn⟩) (fun i hi => by
        rcases List.mem_cons.1 hi with e | e
        · subst e; exact h0
        · have h2 := hm i e
          by_cases hij : j = i
          · subst hij; exact h0
          · rwa [getD_set_ne true hij] at h2)
      simp at this
      omega
    · have e : (fun i => (listed.setIfInBounds j true).getD i false) = fun i => listed.getD i false || i == j := by
        funext i
        by_cases hij : j = i
        · subst hij; simp [Array.getD, hjl]
        · have hij' : (i == j) = false := by simp; omega
          rw [hij', Bool.or_false]
          exact getD_set_ne false hij
      rw [e]
      exact h
end
end Go.Proofs.YtlmcpkomjofcgaaGreatDoor
namespace Go.Proofs.YtlmcpkomjofcgaaGreatDoor
open Go.RowKit
/-- The frame behind the operations of a list. -/
def putsL (l : List Oper) (v : Nat → Value) (a : Act) : List Nat → Act
  | [] => a
  | i :: r => (putsL l v a r).put ((l[i]?).bind (·.dst)) (v i)
/-- The frame behind those of the first k operations that are done. -/
def putsD (l : List Oper) (d : Nat → Bool) (v : Nat → Value) (a : Act) : Nat → Act
  | 0 => a
  | k + 1 => if d k then (putsD l d v a k).put ((l[k]?).bind (·.dst)) (v k) else putsD l d v a k
theorem putsD_congr {l : List Oper} {d d' : Nat → Bool} {v v' : Nat → Value} {a : Act} : ∀ k, (∀ i, i < k → d' i = d i ∧ v' i = v i) → putsD l d' v' a k = putsD l d v a k := by
  intro k
  induction k with
  | zero => intro _; rfl
  | succ k ih =>
    intro h
    unfold putsD
    rw [ih (fun i hi => h i (by omega)), (h k (by omega)).1, (h k (by omega)).2]
/-- No two operations put into the same slot. -/
def dstOf (l : List Oper) (i : Nat) : Option Tmp := (l[i]?).bind (·.dst)
def distinctD (l : List Oper) : Prop := ∀ i j, i < l.length → j < l.length → i ≠ j → ∀ t, dstOf l i = some t → dstOf l j ≠ some t
theorem putsD_add {l : List Oper} {d d' : Nat → Bool} {v v' : Nat → Value} {a : Act} {j : Nat} (hdis : distinctD l) (hj : j < l.length) (hdj : d j = false) (hd : ∀ i, d' i = (d i || i == j)) (hv : ∀ i, i ≠ j → v' i = v i) :
    ∀ k, j < k → k ≤ l.length → putsD l d' v' a k = (putsD l d v a k).put (dstOf l j) (v' j) := by
  intro k
  induction k with
  | zero => intro h; omega
  | succ k ih =>
    intro hjk hk
    unfold putsD
    by_cases e : j = k
    · subst e
      rw [hd j, hdj]
      simp only [Bool.false_or, beq_self_eq_true, if_true, Bool.false_eq_true, if_false]
      rw [putsD_congr (d := d) (v := v) j (fun i hi => ⟨by rw [hd i]; simp; omega, hv i (by omega)⟩)]
      rfl
    · rw [ih (by omega) (by omega), hd k]
      have : (k == j) = false := by simp; omega
      rw [this, Bool.or_false]
      cases hdk : d k with
      | false => simp
      | true =>
        simp only [if_true]
        rw [hv k (fun h => e h.symm)]
        exact Act.put_comm _ _ _ (fun t ht => hdis j k (by omega) (by omega) e t ht)
theorem putsD_none {l : List Oper} {v : Nat → Value} {a : Act} : ∀ k, putsD l (fun _ => false) v a k = a := by
  intro k
  induction k with
  | zero => rfl
  | succ k ih => unfold putsD; simpa using ih
theorem putsD_size {l : List Oper} {d : Nat → Bool} {v : Nat → Value} {a : Act} : ∀ k, (putsD l d v a k).tmps.size = a.tmps.size := by
  intro k
  induction k with
  | zero => rfl
  | succ k ih =>
    unfold putsD
    split
    · rw [← ih]; unfold Act.put; cases (l[k]?).bind (·.dst) <;> simp
    · exact ih
theorem putsL_size {l : List Oper} {v : Nat → Value} {a : Act} : ∀ ds, (putsL l v a ds).tmps.size = a.tmps.size := by
  intro ds
  induction ds with
  | nil => rfl
  | cons i r ih => unfold putsL; rw [← ih]; unfold Act.put; cases (l[i]?).bind (·.dst) <;> simp
theorem eval_put_same {a : Act} {t : Tmp} {v : Value} (h : t < a.tmps.size) : (a.put (some t) v).eval (.tmp t) = v := by
  simp [Act.put, Act.eval, h]
theorem putsD_hit {l : List Oper} {d : Nat → Bool} {v : Nat → Value} {a : Act} {i : Nat} {t : Tmp} (hdis : distinctD l) (hi : i < l.length) (hd : d i = true) (ht : dstOf l i = some t) (hs : t < a.tmps.size) :
    ∀ k, i < k → k ≤ l.length → (putsD l d v a k).eval (.tmp t) = v i := by
  intro k
  induction k with
  | zero => intro h; omega
  | succ k ih =>
    intro hik hk
    unfold putsD
    by_cases e : i = k
    · subst e
      rw [hd, if_pos rfl, show (l[i]?).bind (·.dst) = some t from ht]
      exact eval_put_same (by rw [putsD_size]; exact hs)
    · cases hdk : d k with
      | false => simp only [Bool.false_eq_true, if_false]; exact ih (by omega) (by omega)
      | true =>
        simp only [if_true]
        rw [Act.eval_put (fun t' ht' => by
          intro h; injection h with h; subst h
          exact hdis i k hi (by omega) e _ ht ht')]
        exact ih (by omega) (by omega)
theorem putsD_miss {l : List Oper} {d : Nat → Bool} {v : Nat → Value} {a : Act} {x : Operand} : ∀ k, (∀ i, i < k → d i = true → ∀ t, dstOf l i = some t → x ≠ .tmp t) → (putsD l d v a k).eval x = a.eval x := by
  intro k
  induction k with
  | zero => intro _; rfl
  | succ k ih =>
    intro h
    unfold putsD
    cases hdk : d k with
    | false => simp only [Bool.false_eq_true, if_false]; exact ih (fun i hi => h i (by omega))
    | true =>
      simp only [if_true]
      exact (Act.eval_put (dst := (l[k]?).bind (·.dst)) (fun t ht => h k (by omega) hdk t ht)).trans (ih (fun i hi => h i (by omega)))
theorem putsL_hit {l : List Oper} {v : Nat → Value} {a : Act} {i : Nat} {t : Tmp} (hdis : distinctD l) (ht : dstOf l i = some t) (hs : t < a.tmps.size) :
    ∀ ds : List Nat, (∀ j ∈ ds, j < l.length) → i ∈ ds → (putsL l v a ds).eval (.tmp t) = v i := by
  intro ds
  induction ds with
  | nil => intro _ h; cases h
  | cons k r ih =>
    intro hb hi
    unfold putsL
    by_cases e : i = k
    · subst e
      rw [show (l[i]?).bind (·.dst) = some t from ht]
      exact eval_put_same (by rw [putsL_size]; exact hs)
    · have hir : i ∈ r := by rcases List.mem_cons.1 hi with h | h; exact absurd h e; exact h
      rw [Act.eval_put (fun t' ht' => by
        intro h; injection h with h; subst h
        exact hdis i k (hb i hi) (hb k (by simp)) e _ ht ht')]
      exact ih (fun j hj => hb j (List.mem_cons_of_mem _ hj)) hir
theorem putsL_miss {l : List Oper} {v : Nat → Value} {a : Act} {x : Operand} : ∀ ds : List Nat, (∀ i ∈ ds, ∀ t, dstOf l i = some t → x ≠ .tmp t) → (putsL l v a ds).eval x = a.eval x := by
  intro ds
  induction ds with
  | nil => intro _; rfl
  | cons k r ih =>
    intro h
    unfold putsL
    exact (Act.eval_put (dst := (l[k]?).bind (·.dst)) (fun t ht => h k (by simp) t ht)).trans (ih (fun i hi => h i (List.mem_cons_of_mem _ hi)))
/-- The frame behind the operations of a list, their slots told. -/
def putsF (dst : Nat → Option Tmp) (v : Nat → Value) (a : Act) : List Nat → Act
  | [] => a
  | i :: r => (putsF dst v a r).put (dst i) (v i)
theorem putsF_eq {l : List Oper} {dst : Nat → Option Tmp} {v : Nat → Value} {a : Act} : ∀ ds : List Nat, (∀ i ∈ ds, dst i = dstOf l i) → putsF dst v a ds = putsL l v a ds := by
  intro ds
  induction ds with
  | nil => intro _; rfl
  | cons i r ih =>
    intro h
    unfold putsF putsL
    rw [ih (fun j hj => h j (List.mem_cons_of_mem _ hj)), h i (by simp)]
    rfl
theorem putsF_all {l : List Oper} {dst : Nat → Option Tmp} {v : Nat → Value} {a : Act} : ∀ k, (∀ i, i < k → dst i = dstOf l i) → putsD l (fun _ => true) v a k = putsF dst v a (List.range k).reverse := by
  intro k
  induction k with
  | zero => intro _; rfl
  | succ k ih =>
    intro h
    rw [List.range_succ, List.reverse_append]
    show putsD l (fun _ => true) v a (k + 1) = (putsF dst v a (List.range k).reverse).put (dst k) (v k)
    rw [← ih (fun i hi => h i (by omega)), h k (by omega)]
    conv => lhs; unfold putsD
    exact if_pos rfl
/-- What an answer owns, said of an earlier world; nothing of it has turned since. -/
def Live (F : Value → (Nat → Prop) → World → Prop) (v : Value) (S : Nat → Prop) (w : World) : Prop :=
  ∃ w1, F v S w1 ∧ (∀ k, S k → k < w1.heap.size) ∧ Ch w1 w (fun k => ¬ S k)
theorem Live.ch {F : Value → (Nat → Prop) → World → Prop} {v : Value} {S U : Nat → Prop} {w w' : World} (h : Live F v S w) (c : Ch w w' U) (hd : ∀ k, S k → ¬ U k) : Live F v S w' := by
  obtain ⟨w1, h1, h2, h3⟩ := h
  exact ⟨w1, h1, h2, h3.trans c (fun k _ hu hs => hd k hs hu)⟩
theorem Live.lt {F : Value → (Nat → Prop) → World → Prop} {v : Value} {S : Nat → Prop} {w : World} (h : Live F v S w) {k : Nat} (hk : S k) : k < w.heap.size := by
  obtain ⟨w1, _, h2, h3⟩ := h
  exact Nat.lt_of_lt_of_le (h2 k hk) h3.size
/-- One operation's step: ds the operations that it looks at, us these and what it uses up besides. -/
def StepR (P : Program) (dst : Nat → Option Tmp) (F : Nat → Value → (Nat → Prop) → World → Prop) (cons : Nat → Nat) (U : Nat → Prop) (w0 : World) (a0 : Act) (ds us : List Nat) (j : Nat) (o : Oper) : Prop :=
  ∀ (v : Nat → Value) (S : Nat → Nat → Prop) (w : World), Ch w0 w U → (∀ i ∈ us, Live (F i) (v i) (S i) w) → (∀ i ∈ us, ∀ k, S i k → U k ∨ w0.heap.size ≤ k) → (∀ i ∈ us, ∀ i' ∈ us, i ≠ i' → ∀ k, S i k → ¬ S i' k) →
    ∀ Q : Exit → Act → World → Prop, (∀ x T w' a, a = (putsF dst v a0 ds).put o.dst x → F j x T w' → (∀ k, T k → k < w'.heap.size) → Ch w w' (fun k => ∃ i, i ∈ us ∧ cons i = j ∧ S i k) → (∀ k, T k → (∃ i, i ∈ us ∧ cons i = j ∧ S i k) ∨ w.heap.size ≤ k) → Q .normal a w') →
      wpList P #[] Q [o] (putsF dst v a0 ds) w
def StepsR (P : Program) (dst : Nat → Option Tmp) (F : Nat → Value → (Nat → Prop) → World → Prop) (cons : Nat → Nat) (U : Nat → Prop) (w0 : World) (a0 : Act) (D I : List (List Nat)) : Nat → List Oper → Prop
  | _, [] => True
  | j, o :: r => StepR P dst F cons U w0 a0 (D.getD j []) (D.getD j [] ++ I.getD j []) j o ∧ StepsR P dst F cons U w0 a0 D I (j + 1) r
theorem StepsR.at_ {P : Program} {dst : Nat → Option Tmp} {F : Nat → Value → (Nat → Prop) → World → Prop} {cons : Nat → Nat} {U : Nat → Prop} {w0 : World} {a0 : Act} {D I : List (List Nat)} : ∀ (r : List Oper) (j : Nat), StepsR P dst F cons U w0 a0 D I j r → ∀ k o, r[k]? = some o → StepR P dst F cons U w0 a0 (D.getD (j + k) []) (D.getD (j + k) [] ++ I.getD (j + k) []) (j + k) o := by
  intro r
  induction r with
  | nil => intro j _ k o h; simp at h
  | cons o' r ih =>
    intro j h k o hk
    cases k with
    | zero => simp at hk; subst hk; exact h.1
    | succ k => have := ih (j + 1) h.2 k o (by simpa using hk); rwa [show j + 1 + k = j + (k + 1) by omega] at this
/-- The checks on a region that is written out. -/
def bindsB (o : Oper) (i : Nat) : Bool := o.after.any fun e => Region.binds .any e && e.on == i
def goodB (l : List Oper) (D I : List (List Nat)) (cons : Nat → Nat) (sz : Nat) : Bool :=
  (List.range l.length).all fun j =>
    match l[j]? with
    | none => false
    | some o =>
      o.guard.isNone && (match o.op with | .select _ _ => false | _ => true) &&
      (match o.dst with | some t => decide (t < sz) | none => true) &&
      (o.after.all fun e => !Region.binds .any e || decide (e.on < j)) &&
      ((List.range l.length).all fun i => i == j || (match dstOf l i, dstOf l j with | some t, some t' => !(t == t') | _, _ => true)) &&
      ((D.getD j []).all fun i => decide (i < l.length) && bindsB o i && (cons i == j || decide (l.length < cons i))) &&
      ((I.getD j []).all fun i => i == l.length && cons i == j) &&
      ((List.range (l.length + 1)).all fun i => !(cons i == j) || (D.getD j [] ++ I.getD j []).contains i) &&
      (o.op.operands.toList.all fun x => match x with | .tmp t => (List.range l.length).all fun i => !(dstOf l i == some t) || (D.getD j []).contains i || (match l[i]? with | some oi => bindsB oi j | none => false) | _ => true)
section
variable {P : Program} {Q : Exit → Act → World → Prop}
theorem put_eq_of {a a' : Act} {dst : Option Tmp} {v x : Value} (hs : a.tmps.size = a'.tmps.size) (h : ∀ t, dst = some t → t < a.tmps.size) (e : a'.put dst v = a'.put dst x) : a.put dst v = a.put dst x := by
  cases dst with
  | none => rfl
  | some t =>
    have ht := h t rfl
    have h1 := eval_put_same (a := a') (t := t) (v := v) (hs ▸ ht)
    have h2 := eval_put_same (a := a') (t := t) (v := x) (hs ▸ ht)
    rw [e, h2] at h1
    rw [h1]
theorem ans_of_wpList {o : Oper} {a' : Act} {w : World} {R : Value → World → Prop} (hg : o.guard = none)
    (h : wpList P #[] (fun e a'' w' => e = .normal ∧ ∃ x, R x w' ∧ a'' = a'.put o.dst x) [o] a' w) : OpAns P o a'.eval w (fun v w' => ∃ x, R x w' ∧ a'.put o.dst v = a'.put o.dst x) := by
  unfold wpList at h
  rw [if_pos (by simp [Region.wanted, hg])] at h
  rcases h with h | ⟨_, _, _, h⟩
  · unfold Oper.wp at h
    unfold OpAns
    generalize (execOp a'.eval o).run P w = r at *
    cases r with
    | ok n w' =>
      cases n <;> simp only [Oper.upon] at h ⊢
      case value v => exact h.2
      case skip => exact h.2
      case defer d =>
        obtain ⟨_, x, _, e⟩ := h
        have := congrArg (fun a : Act => a.defers.length) e
        exact absurd this (by unfold Act.put; cases o.dst <;> simp)
      case enter f args =>
        refine h.mono fun e w'' he => ?_
        cases e with
        | returned v => exact ⟨v, rfl, he.2⟩
        | panicked c => exact absurd he.1 (by simp)
        | outgrown => obtain ⟨_, _, h1, _⟩ := he; exact absurd h1 (by simp)
      case row row args => exact h.mono fun v w'' he => he.2
    | halt x w' =>
      cases x <;> simp only [Oper.upon] at h
      case panic u => exact absurd h.1 (by simp)
  · exact absurd h (by simp)
theorem goodB_at {l : List Oper} {D I : List (List Nat)} {cons : Nat → Nat} {sz j : Nat} {o : Oper} (h : goodB l D I cons sz = true) (hj : l[j]? = some o) :
    o.guard = none ∧ (∀ cs b, o.op ≠ .select cs b) ∧ (∀ t, o.dst = some t → t < sz) ∧ (∀ e ∈ o.after, Region.binds .any e = true → e.on < j) ∧
      (∀ i, i < l.length → i ≠ j → ∀ t, dstOf l i = some t → dstOf l j ≠ some t) ∧
      (∀ i ∈ D.getD j [], i < l.length ∧ bindsB o i = true ∧ (cons i = j ∨ l.length < cons i)) ∧ (∀ i ∈ I.getD j [], i = l.length ∧ cons i = j) ∧
      (∀ i, i ≤ l.length → cons i = j → i ∈ D.getD j [] ++ I.getD j []) ∧
      (∀ x ∈ o.op.operands, ∀ t, x = .tmp t → ∀ i, i < l.length → dstOf l i = some t → i ∈ D.getD j [] ∨ ∃ oi, l[i]? = some oi ∧ bindsB oi j = true) := by
  have hjl : j < l.length := (List.getElem?_eq_some_iff.1 hj).1
  unfold goodB at h
  have h := List.all_eq_true.1 h j (List.mem_range.2 hjl)
  simp only [hj, Bool.and_eq_true] at h
  obtain ⟨⟨⟨⟨⟨⟨⟨⟨h1, h2⟩, h3⟩, h4⟩, h5⟩, h6⟩, h7⟩, h8⟩, h9⟩ := h
  refine ⟨by simpa using h1, ?_, ?_, ?_, ?_, ?_, ?_, ?_, ?_⟩
  · intro cs b e
    rw [e] at h2
    simp at h2
  · intro t e
    rw [e] at h3
    simpa using h3
  · intro e he hb
    have := Array.all_eq_true_iff_forall_mem.1 h4 e he
    simpa [hb] using this
  · intro i hi hij t ht ht'
    have := List.all_eq_true.1 h5 i (List.mem_range.2 hi)
    rw [ht, ht'] at this
    simp [hij] at this
  · intro i hi
    have := List.all_eq_true.1 h6 i hi
    simp only [Bool.and_eq_true, Bool.or_eq_true, decide_eq_true_eq, beq_iff_eq] at this
    exact ⟨this.1.1, this.1.2, this.2⟩
  · intro i hi
    have := List.all_eq_true.1 h7 i hi
    simpa using this
  · intro i hi hc
    have := List.all_eq_true.1 h8 i (List.mem_range.2 (by omega))
    rw [List.contains_eq_mem] at this
    simpa [hc] using this
  · intro x hx t e i hi ht
    have := List.all_eq_true.1 h9 x (by simpa using hx)
    subst e
    have := List.all_eq_true.1 this i (List.mem_range.2 hi)
    rw [List.contains_eq_mem] at this
    simp only [ht, beq_self_eq_true, Bool.not_true, Bool.false_or, Bool.or_eq_true, decide_eq_true_eq] at this
    rcases this with h | h
    · exact .inl h
    · right
      cases ho : l[i]? with
      | none => rw [ho] at h; cases h
      | some oi => rw [ho] at h; exact ⟨oi, rfl, h⟩
theorem goodB_distinct {l : List Oper} {D I : List (List Nat)} {cons : Nat → Nat} {sz : Nat} (h : goodB l D I cons sz = true) : distinctD l := by
  intro i j hi hj hij t ht
  have hj' : l[j]? = some l[j] := List.getElem?_eq_getElem hj
  exact (goodB_at h hj').2.2.2.2.1 i hi hij t ht
theorem OpAns.of_eval {o : Oper} {ev ev' : Operand → Value} {w : World} {R : Value → World → Prop} (h : OpAns P o ev w R) (e : execOp ev o = execOp ev' o) : OpAns P o ev' w R := by
  unfold OpAns at *
  rwa [← e]
/-- A region that draws its order, by what each operation's answer owns. -/
theorem wp_region_res {l : List Oper} {id : Nat} {a0 : Act} {w0 : World} (hm : P.follows .mixedOrders = true) (dst : Nat → Option Tmp) (hdst : ((List.range l.length).all fun i => dst i == dstOf l i) = true) (F : Nat → Value → (Nat → Prop) → World → Prop) (cons : Nat → Nat) (U : Nat → Prop) (D I : List (List Nat)) (hgood : goodB l D I cons a0.tmps.size = true)
    (v0 : Value) (S0 : Nat → Prop) (h0 : F l.length v0 S0 w0) (h0l : ∀ k, S0 k → k < w0.heap.size) (h0U : ∀ k, S0 k → U k)
    (hsteps : StepsR P dst F cons U w0 a0 D I 0 l)
    (hend : ∀ (v : Nat → Value) (S : Nat → Nat → Prop) (w : World), Ch w0 w U → (∀ i, i ≤ l.length → l.length < cons i → Live (F i) (v i) (S i) w ∧ ∀ k, S i k → U k ∨ w0.heap.size ≤ k) →
      (∀ i i', i ≤ l.length → i' ≤ l.length → l.length < cons i → l.length < cons i' → i ≠ i' → ∀ k, S i k → ¬ S i' k) → Q .normal (putsF dst v a0 (List.range l.length).reverse) w) :
    (Code.region id l.toArray true).wp P Q a0 w0 := by
  have hdis := goodB_distinct hgood
  have hds' : ∀ i, i < l.length → dst i = dstOf l i := fun i hi => by simpa using List.all_eq_true.1 hdst i (List.mem_range.2 hi)
  refine wp_region_any hm ?_
  refine wpAny_inv (ops := l.toArray) (I := fun d a w => (∀ i oi, l[i]? = some oi → d i = true → ∀ e ∈ oi.after, Region.binds .any e = true → d e.on = true) ∧ ∃ (v : Nat → Value) (S : Nat → Nat → Prop), (∀ i, l.length ≤ i → d i = false) ∧ a = putsD l d v a0 l.length ∧ Ch w0 w U ∧
      (∀ i, i ≤ l.length → (i = l.length ∨ d i = true) → d (cons i) = false → Live (F i) (v i) (S i) w ∧ ∀ k, S i k → U k ∨ w0.heap.size ≤ k) ∧
      (∀ i i', i ≤ l.length → i' ≤ l.length → (i = l.length ∨ d i = true) → (i' = l.length ∨ d i' = true) → d (cons i) = false → d (cons i') = false → i ≠ i' → ∀ k, S i k → ¬ S i' k)) ?_ ?_ ?_ _ _ _ _ ?_ ?_ ?_
  · intro j o hj e he hb
    exact (goodB_at hgood (by simpa using hj)).2.2.2.1 e he hb
  · rintro d j o a w hj hdj hdb hdep ⟨HCL, v, S, _, rfl, HC, HL, HD⟩
    have hj : l[j]? = some o := by simpa using hj
    have hjl : j < l.length := (List.getElem?_eq_some_iff.1 hj).1
    have hdst : dstOf l j = o.dst := by unfold dstOf; rw [hj]; rfl
    have hdb : ∀ i, l.length ≤ i → d i = false := fun i hi => hdb i (by simpa using hi)
    obtain ⟨g1, g2, g3, g4, g5, g6, g7, g8, g9⟩ := goodB_at hgood hj
    have hds : ∀ i ∈ D.getD j [], i < l.length ∧ d i = true ∧ d (cons i) = false := by
      intro i hi
      obtain ⟨q1, q2, q3⟩ := g6 i hi
      refine ⟨q1, ?_, ?_⟩
      · unfold bindsB at q2
        rw [← Array.any_toList, List.any_eq_true] at q2
        obtain ⟨e, he, q⟩ := q2
        have he : e ∈ o.after := by simpa using he
        simp only [Bool.and_eq_true, beq_iff_eq] at q
        have := hdep e he q.1
        rwa [q.2] at this
      · rcases q3 with q3 | q3
        · rw [q3]; exact hdj
        · exact hdb _ (by omega)
    have hus : ∀ i ∈ D.getD j [] ++ I.getD j [], i ≤ l.length ∧ (i = l.length ∨ d i = true) ∧ d (cons i) = false := by
      intro i hi
      rcases List.mem_append.1 hi with hi | hi
      · obtain ⟨q1, q2, q3⟩ := hds i hi
        exact ⟨by omega, .inr q2, q3⟩
      · obtain ⟨q1, q2⟩ := g7 i hi
        exact ⟨by omega, .inl q1, by rw [q2]; exact hdj⟩
    have hst := StepsR.at_ l 0 hsteps j o hj
    rw [Nat.zero_add] at hst
    have hpf : putsF dst v a0 (D.getD j []) = putsL l v a0 (D.getD j []) := putsF_eq (D.getD j []) (fun i hi => hds' i (hds i hi).1)
    have h1 := hst v S w HC (fun i hi => (HL i (hus i hi).1 (hus i hi).2.1 (hus i hi).2.2).1) (fun i hi => (HL i (hus i hi).1 (hus i hi).2.1 (hus i hi).2.2).2)
      (fun i hi i' hi' hne => HD i i' (hus i hi).1 (hus i' hi').1 (hus i hi).2.1 (hus i' hi').2.1 (hus i hi).2.2 (hus i' hi').2.2 hne)
      (fun e a'' w' => e = .normal ∧ ∃ x, (∃ T, F j x T w' ∧ (∀ k, T k → k < w'.heap.size) ∧ Ch w w' (fun k => ∃ i, i ∈ D.getD j [] ++ I.getD j [] ∧ cons i = j ∧ S i k) ∧ (∀ k, T k → (∃ i, i ∈ D.getD j [] ++ I.getD j [] ∧ cons i = j ∧ S i k) ∨ w.heap.size ≤ k)) ∧ a'' = (putsL l v a0 (D.getD j [])).put o.dst x)
      (fun x T w' a' pa p1 p2 p3 p4 => ⟨rfl, x, ⟨T, p1, p2, p3, p4⟩, by rw [pa, hpf]⟩)
    rw [hpf] at h1
    have h2 := ans_of_wpList (R := fun x w' => ∃ T, F j x T w' ∧ (∀ k, T k → k < w'.heap.size) ∧ Ch w w' (fun k => ∃ i, i ∈ D.getD j [] ++ I.getD j [] ∧ cons i = j ∧ S i k) ∧ (∀ k, T k → (∃ i, i ∈ D.getD j [] ++ I.getD j [] ∧ cons i = j ∧ S i k) ∨ w.heap.size ≤ k)) g1 h1
    have hev : execOp (putsL l v a0 (D.getD j [])).eval o = execOp (putsD l d v a0 l.length).eval o := by
      refine execOp_congr o g2 fun x hx => ?_
      by_cases hx2 : ∃ t i, x = .tmp t ∧ i < l.length ∧ dstOf l i = some t ∧ d i = true
      · obtain ⟨t, i, rfl, hi, ht, hdi⟩ := hx2
        have hiD : i ∈ D.getD j [] := by
          rcases g9 _ hx t rfl i hi ht with h | ⟨oi, ho, hb⟩
          · exact h
          · unfold bindsB at hb
            rw [← Array.any_toList, List.any_eq_true] at hb
            obtain ⟨e, he, q⟩ := hb
            simp only [Bool.and_eq_true, beq_iff_eq] at q
            have := HCL i oi ho hdi e (by simpa using he) q.1
            rw [q.2, hdj] at this
            cases this
        have hts : t < a0.tmps.size := (goodB_at hgood (List.getElem?_eq_getElem hi)).2.2.1 t (by unfold dstOf at ht; rw [List.getElem?_eq_getElem hi] at ht; exact ht)
        rw [putsL_hit hdis ht hts _ (fun k hk => (hds k hk).1) hiD, putsD_hit hdis hi (hds i hiD).2.1 ht hts _ hi (Nat.le_refl _)]
      · rw [putsL_miss _ (fun i hi t ht e => hx2 ⟨t, i, e, (hds i hi).1, ht, (hds i hi).2.1⟩), putsD_miss _ (fun i hi hdi t ht e => hx2 ⟨t, i, e, hi, ht, hdi⟩)]
    refine wpOp_ans (by simpa using hj) g1 ((h2.of_eval hev).mono ?_)
    rintro u w' ⟨x, ⟨T, p1, p2, p3, p4⟩, pe⟩
    have pe2 := put_eq_of (a := putsD l d v a0 l.length) (a' := putsL l v a0 (D.getD j [])) (by rw [putsD_size, putsL_size]) (fun t ht => by rw [putsD_size]; exact g3 t ht) pe
    rw [pe2]
    have hcu : ∀ i k, i ∈ D.getD j [] ++ I.getD j [] → S i k → U k ∨ w0.heap.size ≤ k := fun i k hi => (HL i (hus i hi).1 (hus i hi).2.1 (hus i hi).2.2).2 k
    have hap : ∀ i, i ≤ l.length → (i = l.length ∨ d i = true) → d (cons i) = false → cons i ≠ j → ∀ k, S i k → ¬ ∃ i', i' ∈ D.getD j [] ++ I.getD j [] ∧ cons i' = j ∧ S i' k := by
      rintro i hi hl hc hcj k hk ⟨i', hi', hc', hk'⟩
      have hne : i ≠ i' := by rintro rfl; exact hcj hc'
      exact HD i i' hi (hus i' hi').1 hl (hus i' hi').2.1 hc (hus i' hi').2.2 hne k hk hk'
    have hor : ∀ i, i ≠ j → (i = l.length ∨ (d i || i == j) = true) → (i = l.length ∨ d i = true) := by
      intro i hi h
      have : (i == j) = false := by simpa using hi
      rwa [this, Bool.or_false] at h
    have hcf : ∀ i, (d (cons i) || cons i == j) = false → d (cons i) = false ∧ cons i ≠ j := by
      intro i h
      simpa using h
    refine ⟨fun i oi ho hi e he hb => ?_, fun i => if i = j then x else v i, fun i => if i = j then T else S i, ?_, ?_, ?_, ?_, ?_⟩
    · have hi : (d i || i == j) = true := hi
      show (d e.on || e.on == j) = true
      rw [Bool.or_eq_true] at hi ⊢
      rcases hi with hi | hi
      · exact .inl (HCL i oi ho hi e he hb)
      · have hij : i = j := by simpa using hi
        subst hij
        have : o = oi := by have := hj.symm.trans ho; injection this
        subst this
        exact .inl (hdep e he hb)
    · intro i hi
      have : (i == j) = false := by simp; omega
      show (d i || i == j) = false
      rw [this, hdb i hi]; rfl
    · have := putsD_add (l := l) (d := d) (d' := fun i => d i || i == j) (v := v) (v' := fun i => if i = j then x else v i) (a := a0) (j := j) hdis hjl hdj (fun _ => rfl) (fun i hi => by simp [hi]) l.length hjl (Nat.le_refl _)
      rw [this, hdst]
      simp
    · exact HC.trans p3 (fun k hk ⟨i, hi, _, hs⟩ => by
        rcases hcu i k hi hs with h | h
        · exact h
        · omega)
    · intro i hi hl hc
      obtain ⟨hc1, hc2⟩ := hcf i hc
      by_cases e : i = j
      · subst e
        simp only [if_true]
        refine ⟨⟨w', p1, p2, Ch.refl _⟩, fun k hk => ?_⟩
        rcases p4 k hk with ⟨i', hi', _, hs⟩ | h
        · exact hcu i' k hi' hs
        · have := HC.size; exact .inr (by omega)
      · simp only [if_neg e]
        have hl := hor i e hl
        exact ⟨(HL i hi hl hc1).1.ch p3 (hap i hi hl hc1 hc2), (HL i hi hl hc1).2⟩
    · have side : ∀ i, i ≤ l.length → i ≠ j → (i = l.length ∨ (d i || i == j) = true) → (d (cons i) || cons i == j) = false → ∀ k, T k → ¬ S i k := by
        intro i hi e hl hc k hk hs
        obtain ⟨hc1, hc2⟩ := hcf i hc
        have hl := hor i e hl
        rcases p4 k hk with h | h
        · exact hap i hi hl hc1 hc2 k hs h
        · have := (HL i hi hl hc1).1.lt hs; omega
      intro i i' hi hi' hl hl' hc hc' hne k
      by_cases e : i = j
      · have e' : i' ≠ j := fun h => hne (e.trans h.symm)
        simp only [if_pos e, if_neg e']
        exact side i' hi' e' hl' hc' k
      · by_cases e' : i' = j
        · simp only [if_neg e, if_pos e']
          exact fun hs ht => side i hi e hl hc k ht hs
        · simp only [if_neg e, if_neg e']
          exact HD i i' hi hi' (hor i e hl) (hor i' e' hl') (hcf i hc).1 (hcf i' hc').1 hne k
  · rintro d a w hd ⟨_, v, S, hdb, rfl, HC, HL, HD⟩
    have hd : ∀ j, j < l.length → d j = true := fun j hj => hd j (by simpa using hj)
    have hor : ∀ i, i ≤ l.length → (i = l.length ∨ d i = true) := fun i hi => by
      rcases Nat.lt_or_eq_of_le hi with h | h
      · exact .inr (hd i h)
      · exact .inl h
    rw [← putsD_congr (d := d) (d' := fun _ => true) (v := v) (v' := v) l.length (fun i hi => ⟨(hd i hi).symm, rfl⟩), putsF_all l.length hds']
    exact hend v S w HC (fun i hi hc => HL i hi (hor i hi) (hdb _ (by omega))) (fun i i' hi hi' hc hc' => HD i i' hi hi' (hor i hi) (hor i' hi') (hdb _ (by omega)) (hdb _ (by omega)))
  · simp
  · intro L hn hm'
    have : ∀ i ∈ L, i < l.length := by
      intro i hi
      have := hm' i hi
      by_cases h : i < l.length
      · exact h
      · simp [Array.getD, h] at this
    have hsub := List.Nodup.length_le_of_subset hn (show L ⊆ List.range l.length from fun i hi => List.mem_range.2 (this i hi))
    simpa using hsub
  · refine ⟨fun i oi _ hi => by simp [Array.getD] at hi, fun _ => v0, fun i => if i = l.length then S0 else fun _ => False, ?_, ?_, (Ch.refl w0).drewN 1, ?_, ?_⟩
    · intro i hi
      simp [Array.getD]
    · rw [putsD_congr (d := fun _ => false) (v := fun _ => v0) l.length (fun i hi => ⟨by simp [Array.getD], rfl⟩)]
      exact (putsD_none l.length).symm
    · intro i hi hl _
      have e : i = l.length := by
        rcases hl with e | e
        · exact e
        · simp [Array.getD] at e
      subst e
      simp only [if_true]
      exact ⟨⟨w0, h0, h0l, (Ch.refl w0).drewN 1⟩, fun k hk => .inl (h0U k hk)⟩
    · intro i i' hi hi' hl hl' _ _ hne
      have e : ∀ i, (i = l.length ∨ (Array.replicate l.toArray.size false).getD i false = true) → i = l.length := fun i hl => by
        rcases hl with e | e
        · exact e
        · simp [Array.getD] at e
      exact absurd ((e i hl).trans (e i' hl').symm) hne
end
end Go.Proofs.YtlmcpkomjofcgaaGreatDoor
namespace Go.Proofs.YtlmcpkomjofcgaaGreatDoor
open Go.RowKit
structure RwS where
  g : Nat
  v : Value
  l : List UInt8
structure One (T E : TypeId) (w : World) (B : Nat) (x : RwS) : Prop where
  r : Rws T E w B x.g x.v x.l
  lo : B ≤ x.g
  ne : x.v.ownBlock ≠ some x.g
def RwS.F (x : RwS) (k : Nat) : Prop := Fpt x.g x.v k
def Fam (T E : TypeId) (w : World) (B : Nat) : List RwS → Prop
  | [] => True
  | x :: r => One T E w B x ∧ (∀ y ∈ r, ∀ k, x.F k → ¬ y.F k) ∧ Fam T E w B r
section
variable {T E : TypeId} {w w' w0 : World} {B : Nat} {x y z : RwS} {r : List RwS} {S : Nat → Prop}
end
end Go.Proofs.YtlmcpkomjofcgaaGreatDoor
namespace Go.Proofs.YtlmcpkomjofcgaaGreatDoor
open Go.RowKit
def fNo : Nat → Prop := fun _ => False
def fPure (u : Value) (x : Value) (S : Nat → Prop) (_ : World) : Prop := x = u ∧ S = fNo
def fRow (xs : List Int) (n : Nat) (x : Value) (S : Nat → Prop) (w : World) : Prop := ∃ g, x = .slice (some ⟨g, 0, none⟩) n n ∧ S = (fun k => k = g) ∧ RL iV w (g + 1) (some ⟨g, 0, none⟩) xs
def fCell (u : Value) (x : Value) (S : Nat → Prop) (w : World) : Prop := ∃ g, x = .slice (some ⟨g, 0, none⟩) 1 1 ∧ S = (fun k => k = g) ∧ w.cell? ⟨g, 0, none⟩ = some u
def fRws (T E : TypeId) (B : Nat) (l : List UInt8) (x : Value) (S : Nat → Prop) (w : World) : Prop := ∃ g v, x = .pointer (some ⟨g, 0, none⟩) ∧ S = Fpt g v ∧ One T E w B ⟨g, v, l⟩
def fRwA (T E : TypeId) (B g : Nat) (l : List UInt8) (x : Value) (S : Nat → Prop) (w : World) : Prop := ∃ v, x = .pointer (some ⟨g, 0, none⟩) ∧ S = Fpt g v ∧ One T E w B ⟨g, v, l⟩
def fRwI (T E : TypeId) (B g : Nat) (v : Value) (l : List UInt8) (_ : Value) (S : Nat → Prop) (w : World) : Prop := S = Fpt g v ∧ One T E w B ⟨g, v, l⟩
section
variable {u x : Value} {S : Nat → Prop} {w : World} {xs : List Int} {n B : Nat} {T E : TypeId} {l : List UInt8}
theorem Live.pure (h : Live (fPure u) x S w) : x = u := by obtain ⟨_, h, _⟩ := h; exact h.1
variable {Fj : Value → (Nat → Prop) → World → Prop} {C : Nat → Prop} {Q : Exit → Act → World → Prop} {A : Value → Act} {a : Act} {w' : World} {Tn : Nat → Prop}
theorem fin_pure (hQ : ∀ x T w' a, a = A x → Fj x T w' → (∀ k, T k → k < w'.heap.size) → Ch w w' C → (∀ k, T k → C k ∨ w.heap.size ≤ k) → Q .normal a w') (ha : a = A x) (hF : Fj x fNo w) : Q .normal a w :=
  hQ x fNo w a ha hF (fun _ h => h.elim) (Ch.refl w) (fun _ h => h.elim)
theorem fin_new (hQ : ∀ x T w' a, a = A x → Fj x T w' → (∀ k, T k → k < w'.heap.size) → Ch w w' C → (∀ k, T k → C k ∨ w.heap.size ≤ k) → Q .normal a w') (ha : a = A x) (hF : Fj x Tn w') (hb : Below w.heap.size w w') (hT : ∀ k, Tn k → w.heap.size ≤ k ∧ k < w'.heap.size) : Q .normal a w' :=
  hQ x Tn w' a ha hF (fun k h => (hT k h).2) (Ch.of_below hb) (fun k h => .inr (hT k h).1)
/-- A new block. -/
theorem fin_blk {o : Obj} (hQ : ∀ x T w' a, a = A x → Fj x T w' → (∀ k, T k → k < w'.heap.size) → Ch w w' C → (∀ k, T k → C k ∨ w.heap.size ≤ k) → Q .normal a w') (ha : a = A x) (hF : Fj x (fun k => k = w.heap.size) (w.alloc o)) : Q .normal a (w.alloc o) :=
  fin_new hQ ha hF (bl_alloc (Below.refl _ _) (Nat.le_refl _) _) (fun k h => by
    have h1 : (w.alloc o).heap.size = w.heap.size + 1 := by simp
    have h : k = w.heap.size := h
    omega)
/-- A row that grows ahead of its store; a struct in which it was stored. -/
def fMid (T E : TypeId) (B g : Nat) (vb : Value) (l : List UInt8) (x : Value) (S : Nat → Prop) (w : World) : Prop := S = Fpt g x ∧ OwB w B E x l ∧ Bk w g T #[vb] ∧ x.ownBlock ≠ some g ∧ B ≤ g
def fSt (T E : TypeId) (B g : Nat) (l : List UInt8) (_ : Value) (S : Nat → Prop) (w : World) : Prop := ∃ v, S = Fpt g v ∧ One T E w B ⟨g, v, l⟩
end
end Go.Proofs.YtlmcpkomjofcgaaGreatDoor
namespace Go.Proofs.YtlmcpkomjofcgaaGreatDoor
open Go.RowKit

end Go.Proofs.YtlmcpkomjofcgaaGreatDoor
