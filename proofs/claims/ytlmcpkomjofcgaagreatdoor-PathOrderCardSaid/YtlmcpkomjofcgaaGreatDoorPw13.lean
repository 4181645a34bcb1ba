/- What a maker of archives answers. Items in memory. Nothing here speaks of the program. An item of a row: its cells. Nothing here speaks of the program. Plain facts on the bytes of a number. Contract: samovarref02.PutLittle of one to eight bytes. Contract: samovarref11.two. Contract: samovarref11.four. Contract: samovarref11.Check. append(b, s...), s a string, onto bytes of the call's own: at a list of operations, at a step of a region that draws its order. Nothing here speaks of the program. append(b, s...), s a string, onto bytes of the call's own, with what turns. Nothing here speaks of the program. Three growing rows of the call's own and what has turned since its start. Nothing here speaks of the program. Contract: samovarref02.Same, in a region that draws: it reads alone. -/
import Derived.Test.YtlmcpkomjofcgaaGreatDoorPw3
import Derived.Test.YtlmcpkomjofcgaaGreatDoorPw4
import Derived.Test.YtlmcpkomjofcgaaGreatDoorProg
import Derived.Outline
import Derived.Test.YtlmcpkomjofcgaaGreatDoorPw7
import Derived.BigQuiet
import Derived.Test.YtlmcpkomjofcgaaGreatDoorPw1
import Derived.Deep.RegionLaw
import Derived.Lib.AppendStr
namespace Go.Proofs.YtlmcpkomjofcgaaGreatDoor
open Go.RowKit
/-- The archive or its error, new memory. -/
def BookPost (R : Rz (List UInt8)) (w : World) (e : Ending) (w' : World) : Prop :=
  Below w.heap.size w w' ∧ match R with
    | .ok o => ∃ v, e = .returned (.tuple #[v, .int .i64 0]) ∧ OwB w' w.heap.size 5 v o ∧ o.length ≤ 65536
    | .err k => e = .returned (.tuple #[.slice none 0 0, .int .i64 k]) ∧ k ≠ 0
theorem bookPost_err {R : Rz (List UInt8)} {w w' : World} {k : Int} (h : R = .err k) (hb : Below w.heap.size w w') (hk : k ≠ 0) : BookPost R w (.returned (.tuple #[.slice none 0 0, .int .i64 k])) w' := by
  subst h; exact ⟨hb, rfl, hk⟩
theorem bookPost_ok {R : Rz (List UInt8)} {w w' : World} {v : Value} {l : List UInt8} (h : R = .ok l) (hb : Below w.heap.size w w') (ho : OwB w' w.heap.size 5 v l) (hl : l.length ≤ 65536) : BookPost R w (.returned (.tuple #[v, .int .i64 0])) w' := by
  subst h; exact ⟨hb, v, rfl, ho, hl⟩
end Go.Proofs.YtlmcpkomjofcgaaGreatDoor
namespace Go.Proofs.YtlmcpkomjofcgaaGreatDoor
open Go.RowKit
/-- An item: its name, its data, is it to be squeezed? -/
structure It where
  name : List UInt8
  s : Sl
  sq : Bool
instance : Inhabited It := ⟨⟨[], ⟨none, 0, 0, []⟩, false⟩⟩
def itC (x : It) : List Value := [.string ⟨x.name.toArray⟩, .slice x.s.A x.s.n x.s.c, .bool x.sq]
theorem itCels : Cels itC 3 := ⟨fun _ => rfl, fun x u hu => by
  simp only [itC, List.mem_cons, List.not_mem_nil, or_false] at hu
  rcases hu with rfl | rfl | rfl <;> rfl, by omega⟩
def It.p (x : It) : Itm := ⟨x.name, x.s.l, x.sq⟩
def RIt (w : World) (B : Nat) (A : Option Addr) (L : List It) : Prop := RS itC w B A L ∧ ∀ x ∈ L, SlB w B x.s
section
variable {w w' : World} {B B' : Nat} {A : Option Addr} {L : List It}
theorem RIt.below (h : RIt w B A L) (hb : Below B' w w') (hB : B ≤ B') : RIt w' B A L := ⟨h.1.below hb hB, fun x hx => (h.2 x hx).below hb hB⟩
theorem RIt.more (h : RIt w B A L) (hB : B ≤ B') : RIt w B' A L := ⟨h.1.more hB, fun x hx => (h.2 x hx).more hB⟩
theorem RIt.nil : RIt w B none [] := ⟨RS.nil, fun x hx => by cases hx⟩
end
end Go.Proofs.YtlmcpkomjofcgaaGreatDoor
namespace Go.Proofs.YtlmcpkomjofcgaaGreatDoor
open Go.RowKit
theorem RIt.itm {w : World} {B : Nat} {A : Option Addr} {L : List It} (h : RIt w B A L) {k : Nat} (hk : k < L.length) :
    ∃ ad x sn, A = some ad ∧ ad.block < B ∧ Bx (L[k]? = some x) ∧ Bx (sn.data.toList = x.name) ∧ w.cell? (ad.add (k * 3)) = some (.string sn) ∧ w.cell? ⟨(ad.add (k * 3)).block, (ad.add (k * 3)).off + 1, none⟩ = some (.slice x.s.A x.s.n x.s.c) ∧
      w.cell? ⟨(ad.add (k * 3)).block, (ad.add (k * 3)).off + 2, none⟩ = some (.bool x.sq) ∧ Bx (SlB w B x.s) := by
  obtain ⟨ad, x, hA, hlt, hx, hc, hcs⟩ := h.1.at_ itCels hk
  exact ⟨ad, x, ⟨x.name.toArray⟩, hA, hlt, bx hx.out, bx rfl, hc _ rfl, hcs 0 _ rfl, hcs 1 _ rfl, bx (h.2 x (List.mem_of_getElem? hx.out))⟩
theorem itm_map {L : List It} {k : Nat} {x : It} (h : L[k]? = some x) : (L.map It.p)[k]? = some x.p := by rw [List.getElem?_map, h]; rfl
theorem sn_size {sn : ByteArray} {l : List UInt8} (h : sn.data.toList = l) : sn.size = l.length := by rw [← h]; rfl
theorem sn_len {sn : ByteArray} {l : List UInt8} {m : Nat} (h : sn.data.toList = l) (hl : l.length ≤ m) : sn.size ≤ m := by rw [sn_size h]; exact hl
end Go.Proofs.YtlmcpkomjofcgaaGreatDoor
namespace Go.Proofs.YtlmcpkomjofcgaaGreatDoor
open Go.RowKit
theorem u8_infoP : (Tryz.prog.info? 5).map (fun i => (i.zero, i.size, i.bytes)) = some (some (.int .u8 0), 1, 1) := by kernel_rfl
theorem byteTyP : ETy Tryz.prog 22 5 (.int .u8 0) 1 1 := ⟨Tryz.underlying22, info_parts u8_infoP, rfl, by decide⟩
end Go.Proofs.YtlmcpkomjofcgaaGreatDoor
namespace Go.Proofs.YtlmcpkomjofcgaaGreatDoor
open Go.RowKit
set_option maxRecDepth 100000 in
set_option maxHeartbeats 400000 in
theorem refPutLittle_ok (n : Nat) (v : Int) (w : World) (h1 : 1 ≤ n) (h2 : n ≤ 8) (hv : -9223372036854775808 ≤ v) (hv2 : v ≤ 9223372036854775807) :
    Calls Tryz.prog 63 #[.int .i64 n, .int .i64 v] w fun e w' => ∃ r, e = .returned r ∧ OwB w' w.heap.size 5 r (leB n v) ∧ Below w.heap.size w w' := by
  go_enter Tryz.func63, Tryz.ntmps63
  go_wp2
  go_loopw [1, 5, 6, 7] (fun y r i _ wr => ∃ k : Nat, k ≤ n ∧ i = .int .i64 (k : Int) ∧ y = .int .i64 (v / 256 ^ k) ∧ OwB wr w.heap.size 5 r ((leB n v).take k) ∧ Below w.heap.size w wr) (fun _ _ i _ _ => n - (intOf i).toNat)
  case atStart => exact ⟨0, by omega, rfl, by rw [Int.pow_zero, Int.ediv_one], OwL.nil, Below.refl _ _⟩
  case round =>
    obtain ⟨k, hk, rfl, rfl, hown, hb⟩ := hrel
    by_cases hk0 : k < n
    · obtain ⟨y, hy⟩ : ∃ y, y = v / 256 ^ k := ⟨_, rfl⟩
      rw [← hy]
      have HY := Lib.hid hy
      have hpos : (0 : Int) < 256 ^ k := Int.pow_pos (by omega)
      have hy1 : -9223372036854775808 ≤ y := by
        rw [hy]; exact Int.le_ediv_of_mul_le hpos (by
          have h1 : (1 : Int) ≤ 256 ^ k := hpos
          generalize (256 : Int) ^ k = z at h1
          omega)
      have hy2 : y ≤ 9223372036854775807 := by
        rw [hy]
        by_cases h0 : 0 ≤ v
        · exact Int.le_trans (Int.ediv_le_self _ h0) hv2
        · have := Int.ediv_neg_of_neg_of_pos (by omega : v < 0) hpos; omega
      clear hy
      obtain ⟨l1, l2, l3, l4, l5⟩ := low_facts y hy1
      have L3 := Lib.hid l3
      have L5 := Lib.hid l5
      clear l3 l5
      have hsz := hb.size
      go_wp2_with (at_builtin; refine wpList_appL _ bV_one rfl _ _ rfl byteTyP (by decide) w.heap.size _ _ rfl (hown.alloc _) _ _ 1 1 [UInt8.ofNat ((v % 18446744073709551616).toNat / 256 ^ k)] rfl rfl (RL.freshe _ _ ?c0 _) ?c1 ?c2 ?_)
      case c0 => exact low_cell v y k (by omega) HY.out hy1
      case c1 => simp [leB_len]; omega
      case c2 => simp; omega
      intro v1 w1 hown1 _ _ hb1
      go_wp2
      go_roundw
      case rel =>
        refine ⟨k + 1, by omega, by go_num, ?_, ?_, (hb.alloc hsz _).trans hb1⟩
        · rw [L5.out, HY.out, next_y]
        · rw [take_snoc' (leB_get v hk0)]; exact hown1
      case measure => simp [intOf]; omega
    · obtain rfl : k = n := by omega
      go_wp2
      go_ret
      refine ⟨_, rfl, ?_, hb⟩
      rw [List.take_of_length_le (by rw [leB_len]; omega)] at hown
      exact hown
end Go.Proofs.YtlmcpkomjofcgaaGreatDoor
namespace Go.Proofs.YtlmcpkomjofcgaaGreatDoor
open Go.RowKit
/-- What putting numbers behind a row leaves. -/
def RNum (w : World) (base : Nat) (v : Value) (l : List UInt8) (e : Ending) (w' : World) : Prop :=
  ∃ v', e = .returned v' ∧ OwB w' base 5 v' l ∧ Ch w w' (Fow v) ∧ OwnN w v v'
theorem numL_len (n : Nat) (xs : List Int) : (xs.flatMap (leB n)).length = n * xs.length := by
  induction xs with
  | nil => simp
  | cons x r ih => rw [List.flatMap_cons, List.length_append, leB_len, ih, List.length_cons, Nat.mul_add]; omega
set_option maxRecDepth 100000 in
set_option maxHeartbeats 2000000 in
theorem rtwo_any (base k c : Nat) (v : Value) (o : List UInt8) (A : Option Addr) (xs : List Int) (w : World) (h : OwB w base 5 v o) (hb : base ≤ w.heap.size) (hx : xs.length = k) (hX : RL iV w w.heap.size A xs) (hA : ∀ ad, A = some ad → ¬ Fow v ad.block)
    (hk : k ≤ 8) (h64 : ∀ x ∈ xs, -9223372036854775808 ≤ x ∧ x ≤ 9223372036854775807) (ho : o.length ≤ 4000000) :
    Calls Tryz.prog 46 #[v, .slice A k c] w (RNum w base v (o ++ xs.flatMap (leB 2))) := by
  have HX := bx hX
  have HL := bx hx
  have HO := bx ho
  have HA := bx hA
  have H64 := bx h64
  have H0 : Bx (OwB w base 5 v (o ++ (xs.take 0).flatMap (leB 2))) := bx (by simpa using h)
  have C0 : Bx (Ch w w (Fow v)) := bx (Ch.refl w)
  clear h hx hX hA ho h64
  go_enter Tryz.func46, Tryz.ntmps46
  go_wp2_with fail
  go_loopw [0, 5] (fun vj iv wx => ∃ (j : Nat), j ≤ k ∧ iv = .int .i64 (j : Int) ∧ Bx (OwB wx base 5 vj (o ++ (xs.take j).flatMap (leB 2))) ∧ Bx (Ch w wx (Fow v)) ∧ Bx (OwnN w v vj)) (fun _ iv _ => k - (intOf iv).toNat)
  case atStart => exact ⟨0, by omega, rfl, H0, C0, bx OwnN.refl⟩
  case round =>
    clear H0 C0
    obtain ⟨j, hj, rfl, HR, HC, HJ⟩ := hrel
    have hwr := HC.out.size
    by_cases hjk : j < k
    · have hjI : (j : Int) < (k : Int) := by omega
      obtain ⟨x, hxx⟩ : ∃ x, xs[j]? = some x := ⟨_, List.getElem?_eq_getElem (by rw [HL.out]; exact hjk)⟩
      have HXX := bx hxx
      have hXr : RL iV wr w.heap.size A xs := HX.out.ch HC.out (Nat.le_refl _) HA.out
      obtain ⟨ad, y, rfl, had, hy, hcy⟩ := RL.atl hXr (k := j) (by rw [HL.out]; exact hjk)
      obtain rfl : x = y := by have := HXX.out.symm.trans hy.out; injection this
      have h6 := H64.out x (List.mem_of_getElem? HXX.out)
      have HP := bx (refPutLittle_ok 2 x wr (by omega) (by omega) h6.1 h6.2)
      clear hxx hy hXr h6
      have hbase : base ≤ wr.heap.size := by omega
      obtain ⟨ol, hol⟩ : ∃ ol, o ++ (xs.take j).flatMap (leB 2) = ol := ⟨_, rfl⟩
      have HOL := bx hol
      have HN : Bx ((ol.length + (leB 2 x).length) * 1 ≤ 140737488355328) := bx (by
        rw [← hol, leB_len, List.length_append, numL_len, List.length_take]
        have := HO.out
        omega)
      have hOW : OwB wr base 5 u0 ol := by rw [← hol]; exact HR.out
      have HOW := bx hOW
      clear hol hOW
      go_wp2_with fail
      refine HP.out.mono ?_
      rintro e w1 ⟨r, rfl, hr1, hb1⟩
      obtain ⟨A1, c1, rfl, hr1, _, _⟩ := hr1.rd
      have hO1 := HOW.out.below hb1
      go_wp2_with (at_builtin; refine wpList_appL _ bV_one rfl (.tmp 12) (.tmp 17) rfl byteTyP (by decide) base u0 ol rfl hO1 w1.heap.size A1 (leB 2 x).length c1 (leB 2 x) rfl rfl hr1 HN.out (Nat.le_trans hbase hb1.size) ?_; intro v5 w5 hO5 hg5 hv5 hb5)
      obtain ⟨n1, n2⟩ := own_next HC.out HJ.out hb1 hg5 hv5
      have N1 : Bx (OwB w5 base 5 v5 (o ++ (xs.take (j + 1)).flatMap (leB 2))) := bx (by
        rw [take_snoc' HXX.out, List.flatMap_append, ← List.append_assoc, HOL.out]
        simpa using hO5)
      have N2 := bx n1
      have N3 := bx n2
      clear n1 n2 hO5 hg5 hv5 hb5 hb1 hr1 hO1
      go_roundw
      case rel => exact ⟨j + 1, by omega, by go_num, N1, N2, N3⟩
      case measure => simp [intOf]; omega
    · obtain rfl : j = k := by omega
      have hjI : ¬ (j : Int) < (j : Int) := by omega
      have hF : Bx (OwB wr base 5 u0 (o ++ xs.flatMap (leB 2))) := bx (by have := HR.out; rwa [List.take_of_length_le (by rw [HL.out]; omega)] at this)
      go_wp2
      go_ret
      exact ⟨_, rfl, hF.out, HC.out, HJ.out⟩
end Go.Proofs.YtlmcpkomjofcgaaGreatDoor
namespace Go.Proofs.YtlmcpkomjofcgaaGreatDoor
open Go.RowKit
set_option maxRecDepth 100000 in
set_option maxHeartbeats 2000000 in
theorem rfour_any (base k c : Nat) (v : Value) (o : List UInt8) (A : Option Addr) (xs : List Int) (w : World) (h : OwB w base 5 v o) (hb : base ≤ w.heap.size) (hx : xs.length = k) (hX : RL iV w w.heap.size A xs) (hA : ∀ ad, A = some ad → ¬ Fow v ad.block)
    (hk : k ≤ 8) (h64 : ∀ x ∈ xs, -9223372036854775808 ≤ x ∧ x ≤ 9223372036854775807) (ho : o.length ≤ 4000000) :
    Calls Tryz.prog 47 #[v, .slice A k c] w (RNum w base v (o ++ xs.flatMap (leB 4))) := by
  have HX := bx hX
  have HL := bx hx
  have HO := bx ho
  have HA := bx hA
  have H64 := bx h64
  have H0 : Bx (OwB w base 5 v (o ++ (xs.take 0).flatMap (leB 4))) := bx (by simpa using h)
  have C0 : Bx (Ch w w (Fow v)) := bx (Ch.refl w)
  clear h hx hX hA ho h64
  go_enter Tryz.func47, Tryz.ntmps47
  go_wp2_with fail
  go_loopw [0, 5] (fun vj iv wx => ∃ (j : Nat), j ≤ k ∧ iv = .int .i64 (j : Int) ∧ Bx (OwB wx base 5 vj (o ++ (xs.take j).flatMap (leB 4))) ∧ Bx (Ch w wx (Fow v)) ∧ Bx (OwnN w v vj)) (fun _ iv _ => k - (intOf iv).toNat)
  case atStart => exact ⟨0, by omega, rfl, H0, C0, bx OwnN.refl⟩
  case round =>
    clear H0 C0
    obtain ⟨j, hj, rfl, HR, HC, HJ⟩ := hrel
    have hwr := HC.out.size
    by_cases hjk : j < k
    · have hjI : (j : Int) < (k : Int) := by omega
      obtain ⟨x, hxx⟩ : ∃ x, xs[j]? = some x := ⟨_, List.getElem?_eq_getElem (by rw [HL.out]; exact hjk)⟩
      have HXX := bx hxx
      have hXr : RL iV wr w.heap.size A xs := HX.out.ch HC.out (Nat.le_refl _) HA.out
      obtain ⟨ad, y, rfl, had, hy, hcy⟩ := RL.atl hXr (k := j) (by rw [HL.out]; exact hjk)
      obtain rfl : x = y := by have := HXX.out.symm.trans hy.out; injection this
      have h6 := H64.out x (List.mem_of_getElem? HXX.out)
      have HP := bx (refPutLittle_ok 4 x wr (by omega) (by omega) h6.1 h6.2)
      clear hxx hy hXr h6
      have hbase : base ≤ wr.heap.size := by omega
      obtain ⟨ol, hol⟩ : ∃ ol, o ++ (xs.take j).flatMap (leB 4) = ol := ⟨_, rfl⟩
      have HOL := bx hol
      have HN : Bx ((ol.length + (leB 4 x).length) * 1 ≤ 140737488355328) := bx (by
        rw [← hol, leB_len, List.length_append, numL_len, List.length_take]
        have := HO.out
        omega)
      have hOW : OwB wr base 5 u0 ol := by rw [← hol]; exact HR.out
      have HOW := bx hOW
      clear hol hOW
      go_wp2_with fail
      refine HP.out.mono ?_
      rintro e w1 ⟨r, rfl, hr1, hb1⟩
      obtain ⟨A1, c1, rfl, hr1, _, _⟩ := hr1.rd
      have hO1 := HOW.out.below hb1
      go_wp2_with (at_builtin; refine wpList_appL _ bV_one rfl (.tmp 12) (.tmp 17) rfl byteTyP (by decide) base u0 ol rfl hO1 w1.heap.size A1 (leB 4 x).length c1 (leB 4 x) rfl rfl hr1 HN.out (Nat.le_trans hbase hb1.size) ?_; intro v5 w5 hO5 hg5 hv5 hb5)
      obtain ⟨n1, n2⟩ := own_next HC.out HJ.out hb1 hg5 hv5
      have N1 : Bx (OwB w5 base 5 v5 (o ++ (xs.take (j + 1)).flatMap (leB 4))) := bx (by
        rw [take_snoc' HXX.out, List.flatMap_append, ← List.append_assoc, HOL.out]
        simpa using hO5)
      have N2 := bx n1
      have N3 := bx n2
      clear n1 n2 hO5 hg5 hv5 hb5 hb1 hr1 hO1
      go_roundw
      case rel => exact ⟨j + 1, by omega, by go_num, N1, N2, N3⟩
      case measure => simp [intOf]; omega
    · obtain rfl : j = k := by omega
      have hjI : ¬ (j : Int) < (j : Int) := by omega
      have hF : Bx (OwB wr base 5 u0 (o ++ xs.flatMap (leB 4))) := bx (by have := HR.out; rwa [List.take_of_length_le (by rw [HL.out]; omega)] at this)
      go_wp2
      go_ret
      exact ⟨_, rfl, hF.out, HC.out, HJ.out⟩
end Go.Proofs.YtlmcpkomjofcgaaGreatDoor
namespace Go.Proofs.YtlmcpkomjofcgaaGreatDoor
open Go.RowKit
theorem mem_take_succ {l : List (List UInt8)} {j : Nat} {y nm : List UInt8} (h : l[j]? = some y) (hn : nm ∉ l.take j) (hy : y ≠ nm) : nm ∉ l.take (j + 1) := by
  rw [List.take_add_one, h]
  intro hm
  rcases List.mem_append.1 hm with hm | hm
  · exact hn hm
  · simp at hm; exact hy hm.symm
theorem mem_take_at {l : List (List UInt8)} {j i : Nat} {y : List UInt8} (h : l[j]? = some y) (hj : j < i) : y ∈ l.take i :=
  List.mem_of_getElem? (i := j) (by rw [List.getElem?_take, if_pos hj]; exact h)
set_option maxRecDepth 100000 in
set_option maxHeartbeats 8000000 in
theorem rchk_any (A : Option Addr) (n c : Nat) (L : List It) (w : World) (hn : L.length = n) (hnc : n ≤ c) (hb : n ≤ 140737488351232) (hs : ∀ x ∈ L, x.name.length ≤ 140737488351232 ∧ x.s.n ≤ 140737488351232) (hr : RIt w w.heap.size A L) :
    Calls Tryz.prog 45 #[.slice A n c] w fun e w' => e = .returned (.int .i64 (chkP (L.map It.p))) ∧ Below w.heap.size w w' := by
  obtain ⟨P, hP⟩ : ∃ P, L.map It.p = P := ⟨_, rfl⟩
  obtain ⟨R, hR⟩ : ∃ R, chkP (L.map It.p) = R := ⟨_, rfl⟩
  rw [hR]
  rw [hP] at hR
  have HPL := bx hP
  have HR := bx hR
  have HL := bx hn
  have HS := bx hs
  have HRW := bx hr
  have HPn : Bx (P.length = n) := bx (by rw [← hP, List.length_map]; exact hn)
  clear hP hR hn hs hr
  go_enter Tryz.func45, Tryz.ntmps45
  by_cases h64 : 64 < n
  · have hI : (64 : Int) < (n : Int) := by omega
    have HF : Bx (R = 17) := bx (by rw [← HR.out]; unfold chkP; rw [if_pos (by rw [HPn.out]; exact h64)])
    go_wp2
    go_ret
    exact ⟨by rw [HF.out]; rfl, Below.refl _ _⟩
  · have hI : ¬ (64 : Int) < (n : Int) := by omega
    have HG : Bx (chkF ((P.take 0).map (·.name)) (P.drop 0) = R) := bx (by rw [← HR.out]; unfold chkP; rw [if_neg (by rw [HPn.out]; exact h64)]; rfl)
    have HW0 := bx (Below.refl w.heap.size w)
    clear HR
    go_wp2
    go_loopw [3] (fun iv wx => ∃ t : Nat, t ≤ n ∧ iv = .int .i64 (t : Int) ∧ Bx (Below w.heap.size w wx) ∧ Bx (chkF ((P.take t).map (·.name)) (P.drop t) = R)) (fun i _ => n - (intOf i).toNat)
    case atStart => exact ⟨0, by omega, rfl, HW0, HG⟩
    case round =>
      clear HG HW0
      obtain ⟨t, ht, rfl, HW, HT⟩ := hrel
      by_cases htn : t < n
      · have htI : (t : Int) < (n : Int) := by omega
        have hrr : RIt wr w.heap.size A L := HRW.out.below HW.out (Nat.le_refl _)
        obtain ⟨ad, x, sn, rfl, hlt, HX, HSN, k0, k1, _, _⟩ := hrr.itm (k := t) (by rw [HL.out]; exact htn)
        have hxs := HS.out x (List.mem_of_getElem? HX.out)
        have hPx : P[t]? = some x.p := by rw [← HPL.out]; exact itm_map HX.out
        have HAT : Bx (chkF ((P.take t).map (·.name)) (P.drop t) = if nameA x.name = false then 13 else if x.name ∈ (P.take t).map (·.name) then 14 else if 32768 < x.s.l.length then 8 else chkF ((P.take (t + 1)).map (·.name)) (P.drop (t + 1))) := bx (chkF_at hPx)
        have hxl : x.s.l.length = x.s.n := (hrr.2 x (List.mem_of_getElem? HX.out)).1
        have HXL := bx hxl
        have HNM := bx (rname_any sn wr (sn_len HSN.out hxs.1))
        clear hrr hxl
        cases hnm : nameA x.name with
        | false =>
          have HF : Bx (R = 13) := bx (by rw [← HT.out, HAT.out, if_pos hnm])
          have HNF : Bx (nameA sn.data.toList = false) := bx (by rw [HSN.out]; exact hnm)
          go_wp2_with fail
          refine HNM.out.mono ?_
          rintro e w2 ⟨rfl, hb2⟩
          rw [HNF.out]
          go_wp2
          go_ret
          exact ⟨by rw [HF.out]; rfl, HW.out.trans (hb2.mono HW.out.size)⟩
        | true =>
          have HNF : Bx (nameA sn.data.toList = true) := bx (by rw [HSN.out]; exact hnm)
          have HAT2 : Bx (R = if x.name ∈ (P.take t).map (·.name) then 14 else if 32768 < x.s.l.length then 8 else chkF ((P.take (t + 1)).map (·.name)) (P.drop (t + 1))) := bx (by rw [← HT.out, HAT.out, if_neg (by rw [hnm]; simp)])
          clear HAT hnm HT
          obtain ⟨wb, rfl⟩ : ∃ wb, wb = wr := ⟨_, rfl⟩
          go_wp2_with fail
          refine HNM.out.mono ?_
          rintro e w2 ⟨rfl, hb2⟩
          rw [HNF.out]
          have HW2 : Bx (Below w.heap.size w w2) := bx (HW.out.trans (hb2.mono HW.out.size))
          have k0w : w2.cell? (ad.add (t * 3)) = some (.string sn) := (hb2.cell (p := ad.add (t * 3)) (by rw [blk_add]; have := HW.out.size; omega)).trans k0
          have k1w : w2.cell? ⟨(ad.add (t * 3)).block, (ad.add (t * 3)).off + 1, none⟩ = some (.slice x.s.A x.s.n x.s.c) := (hb2.cell (p := ⟨(ad.add (t * 3)).block, (ad.add (t * 3)).off + 1, none⟩) (by show (ad.add (t * 3)).block < _; rw [blk_add]; have := HW.out.size; omega)).trans k1
          have HN0 : Bx (x.name ∉ ((P.map (·.name)).take 0)) := bx (by simp)
          clear k0 k1 hb2 HW HNM
          go_wp2
          go_loopw [4] (fun iv wx => ∃ (j q : Nat), j ≤ t ∧ iv = .int .i64 (j : Int) ∧ wx = w2.drewN q ∧ Bx (x.name ∉ ((P.map (·.name)).take j))) (fun i _ => t - (intOf i).toNat)
          case atStart => exact ⟨0, 0, by omega, rfl, rfl, HN0⟩
          case round =>
            clear HN0
            obtain ⟨j, q, hj, rfl, rfl, HN⟩ := hrel
            by_cases hjt : j < t
            · have hjI : (j : Int) < (t : Int) := by omega
              have hrr : RIt w2 w.heap.size (some ad) L := HRW.out.below HW2.out (Nat.le_refl _)
              obtain ⟨ad', y, sy, had, hlt', HY, HSY, m0, _, _, _⟩ := hrr.itm (k := j) (by rw [HL.out]; omega)
              obtain rfl : ad = ad' := by injection had
              have hPy : (P.map (·.name))[j]? = some y.name := by rw [← HPL.out, List.map_map, List.getElem?_map, HY.out]; rfl
              have HPY := bx hPy
              have htc : (t : Int) < (n : Int) := by omega
              have hjc : (j : Int) < (n : Int) := by omega
              clear hrr had hlt' hPy k1w
              by_cases hyx : y.name = x.name
              · have hst : (sy.toList == sn.toList) = true := tl_same (by rw [HSN.out, HSY.out]; exact hyx)
                have HF : Bx (R = 14) := bx (by rw [HAT2.out, if_pos (by rw [List.map_take, ← hyx]; exact mem_take_at HPY.out hjt)])
                clear hyx
                go_wp2
                go_quiet (fail)
                go_wp2
                go_ret
                exact ⟨by rw [HF.out]; rfl, below_drewN (below_drewN HW2.out _) _⟩
              · have hst : (sy.toList == sn.toList) = false := tl_diff (by rw [HSN.out, HSY.out]; exact hyx)
                have HN2 := bx (mem_take_succ HPY.out HN.out hyx)
                clear hyx
                go_wp2
                go_quiet (fail)
                go_wp2
                go_roundw
                case rel => exact ⟨j + 1, q + nq, by omega, by go_num, rfl, HN2⟩
                case measure => simp [intOf]; omega
            · have hjI : ¬ (j : Int) < (t : Int) := by omega
              obtain rfl : j = t := by omega
              have HAT3 : Bx (R = if 32768 < x.s.l.length then 8 else chkF ((P.take (j + 1)).map (·.name)) (P.drop (j + 1))) := bx (by rw [HAT2.out, if_neg (by rw [List.map_take]; exact HN.out)])
              clear HAT2
              by_cases h32 : 32768 < x.s.n
              · have h32I : (32768 : Int) < (x.s.n : Int) := by omega
                have HF : Bx (R = 8) := bx (by rw [HAT3.out, if_pos (by rw [HXL.out]; exact h32)])
                go_wp2
                go_ret
                exact ⟨by rw [HF.out]; rfl, below_drewN HW2.out _⟩
              · have h32I : ¬ (32768 : Int) < (x.s.n : Int) := by omega
                have HF : Bx (chkF ((P.take (j + 1)).map (·.name)) (P.drop (j + 1)) = R) := bx (by rw [HAT3.out, if_neg (by rw [HXL.out]; exact h32)])
                have HW3 : Bx (Below w.heap.size w (w2.drewN q)) := bx (below_drewN HW2.out _)
                go_wp2
                go_roundw
                case rel => exact ⟨j + 1, by omega, by go_num, HW3, HF⟩
                case measure => simp [intOf]; omega
      · have htI : ¬ (t : Int) < (n : Int) := by omega
        obtain rfl : t = n := by omega
        have HF : Bx (R = 0) := bx (by rw [← HT.out, List.drop_of_length_le (by rw [HPn.out]; exact Nat.le_refl _)]; rfl)
        go_wp2
        go_ret
        exact ⟨by rw [HF.out]; rfl, HW.out⟩
end Go.Proofs.YtlmcpkomjofcgaaGreatDoor
namespace Go.Proofs.YtlmcpkomjofcgaaGreatDoor
open Go.RowKit

section
variable {P : Program} (w : World)
theorem run_appStr {t u e : TypeId} (ty : TypeId) (hE : ETy P t e (.int .u8 0) 1 1) (hu : P.underlying u = some .string) (base : Nat) (v : Value) (l : List UInt8) (hown : OwB w base e v l) (s : ByteArray)
    (hn : l.length + s.size ≤ 140737488355328) (hbase : base ≤ w.heap.size) :
    ∃ v' w', (Builtin.append_ #[t, u] ty #[v, .string s]).run P w = .ok v' w' ∧ OwB w' base e v' (l ++ s.data.toList) ∧ Below base w w' := by
  obtain ⟨i, hi, hz, hsz, hb⟩ := hE.info
  obtain ⟨v', w', hr, h2, h3, _⟩ := Lib.run_append_own_string (P := P) w base t u ty e i hE.sl hu hi hz hsz hb v l.length (l.map bV) hown s (by unfold maxLen; omega) hn hbase
  refine ⟨v', w', hr, ?_, (Below.refl _ _).grown h3 hbase fun k hk => (World.ownsRow.lt hown k hk).1⟩
  unfold OwB OwL
  rw [List.length_append, List.map_append]
  exact h2
theorem wpList_appStr {ops : Array Oper} {rest : List Oper} {o : Oper} {a : Act} {Q : Exit → Act → World → Prop} (hgd : o.guard = none) (s x : Operand) {t u e : TypeId}
    (ho : o.op = .call { callee := .builtin .append, args := #[s, x], argTypes := #[t, u] }) (hE : ETy P t e (.int .u8 0) 1 1) (hu : P.underlying u = some .string)
    (base : Nat) (v : Value) (l : List UInt8) (hs : a.eval s = v) (hown : OwB w base e v l) (b : ByteArray) (hx : a.eval x = .string b)
    (hn : l.length + b.size ≤ 140737488355328) (hbase : base ≤ w.heap.size)
    (h : ∀ v' w', OwB w' base e v' (l ++ b.data.toList) → Below base w w' → wpList P ops Q rest (a.put o.dst v') w') : wpList P ops Q (o :: rest) a w :=
  wpList_plain hgd fun K hK => by
    obtain ⟨v', w', hrun, h2, h3⟩ := run_appStr (P := P) w o.type hE hu base v l hown b hn hbase
    unfold Oper.wp execOp
    simp only [ho, resolve, invoke, builtin, Sem.run_bind, Sem.run_pure, Result.andThen_ok, List.map_toArray, List.map_cons, List.map_nil, hs, hx, hrun]
    exact hK _ _ (h v' w' h2 h3)
theorem step_appStr {ops : Array Oper} {o : Oper} {a : Act} {K : Act → World → Prop} {Q : Exit → Act → World → Prop} {E : Prop} (hgd : o.guard = none) (s x : Operand) {t u e : TypeId}
    (ho : o.op = .call { callee := .builtin .append, args := #[s, x], argTypes := #[t, u] }) (hE : ETy P t e (.int .u8 0) 1 1) (hu : P.underlying u = some .string)
    (base : Nat) (v : Value) (l : List UInt8) (hs : a.eval s = v) (hown : OwB w base e v l) (b : ByteArray) (hx : a.eval x = .string b)
    (hn : l.length + b.size ≤ 140737488355328) (hbase : base ≤ w.heap.size)
    (h : ∀ v' w', OwB w' base e v' (l ++ b.data.toList) → Below base w w' → K (a.put o.dst v') w') :
    if Region.wanted o (yielded ops a.tmps) = true then Oper.wp P o a w K Q else E := by
  have hw : Region.wanted o (yielded ops a.tmps) = true := by simp [Region.wanted, hgd]
  rw [if_pos hw]
  obtain ⟨v', w', hrun, h2, h3⟩ := run_appStr (P := P) w o.type hE hu base v l hown b hn hbase
  unfold Oper.wp execOp
  simp only [ho, resolve, invoke, builtin, Sem.run_bind, Sem.run_pure, Result.andThen_ok, List.map_toArray, List.map_cons, List.map_nil, hs, hx, hrun]
  exact h v' w' h2 h3
end
end Go.Proofs.YtlmcpkomjofcgaaGreatDoor
namespace Go.Proofs.YtlmcpkomjofcgaaGreatDoor
open Go.RowKit
theorem grown_ch {w w' : World} {v v' : Value} (g : w.grownBy w' v.ownBlock) (k : v'.ownBlock = v.ownBlock ∨ v'.ownBlock = some w.heap.size) : Ch w w' (Fow v) ∧ OwnN w v v' :=
  ⟨Ch.of_grown g (fun _ h => h), by
    rcases k with e | e
    · exact .inl e
    · exact .inr ⟨_, e, Nat.le_refl _⟩⟩
section
variable {P : Program} (w : World)
theorem run_appStrG {t u e : TypeId} (ty : TypeId) (hE : ETy P t e (.int .u8 0) 1 1) (hu : P.underlying u = some .string) (base : Nat) (v : Value) (l : List UInt8) (hown : OwB w base e v l) (s : ByteArray)
    (hn : l.length + s.size ≤ 140737488355328) (hbase : base ≤ w.heap.size) :
    ∃ v' w', (Builtin.append_ #[t, u] ty #[v, .string s]).run P w = .ok v' w' ∧ OwB w' base e v' (l ++ s.data.toList) ∧ Ch w w' (Fow v) ∧ OwnN w v v' := by
  obtain ⟨i, hi, hz, hsz, hb⟩ := hE.info
  obtain ⟨v', w', hr, h2, h3, h4⟩ := Lib.run_append_own_string (P := P) w base t u ty e i hE.sl hu hi hz hsz hb v l.length (l.map bV) hown s (by unfold maxLen; omega) hn hbase
  have hown2 := hown
  have key : v'.ownBlock = v.ownBlock ∨ v'.ownBlock = some w.heap.size := by
    rcases hown2.2 with ⟨e1, e2⟩ | ⟨g, cap, cur, rfl, hbg, hg, hnc, hcm, hcs, htake⟩
    · have hv : v = .slice none 0 0 := by first | exact e1 | exact e2
      subst hv
      by_cases h0 : s.size = 0
      · left
        rw [h4.2 ⟨rfl, h0⟩]
      · right
        rw [run_append_nil_string (P := P) w t u ty e i (.int .u8 0) hE.sl hu hi hz s (by omega) (by omega) (by rw [hb]; omega)] at hr
        injection hr with hr _
        rw [← hr]; rfl
    · by_cases hroom : l.length + s.size ≤ cap
      · left
        have hcs' : cur.size = cap := by simpa using hcs
        rw [Lib.run_append_room_string (P := P) w t u ty e i hE.sl hu hi hsz g l.length cap cur hg s hroom (by omega)] at hr
        injection hr with hr _
        rw [← hr]; rfl
      · right
        have holds : ∀ j u, (l.map bV)[j]? = some u → w.cell? ((⟨g, 0, none⟩ : Addr).add j) = some u := World.ownsRow.cells hown (g := g) rfl
        rw [Lib.run_append_grow_string (P := P) w t u ty e i (.int .u8 0) hE.sl hu hi hz ⟨g, 0, none⟩ l.length cap (l.map bV) (by rw [hsz]; simp) holds s (by omega) (by omega) (by rw [hb]; exact growslice_fits (by omega) (by omega))] at hr
        injection hr with hr _
        rw [← hr]; rfl
  refine ⟨v', w', hr, ?_, grown_ch h3 key⟩
  unfold OwB OwL
  rw [List.length_append, List.map_append]
  exact h2
theorem wpList_appStrG {ops : Array Oper} {rest : List Oper} {o : Oper} {a : Act} {Q : Exit → Act → World → Prop} (hgd : o.guard = none) (s x : Operand) {t u e : TypeId}
    (ho : o.op = .call { callee := .builtin .append, args := #[s, x], argTypes := #[t, u] }) (hE : ETy P t e (.int .u8 0) 1 1) (hu : P.underlying u = some .string)
    (base : Nat) (v : Value) (l : List UInt8) (hs : a.eval s = v) (hown : OwB w base e v l) (b : ByteArray) (hx : a.eval x = .string b)
    (hn : l.length + b.size ≤ 140737488355328) (hbase : base ≤ w.heap.size)
    (h : ∀ v' w', OwB w' base e v' (l ++ b.data.toList) → Ch w w' (Fow v) → OwnN w v v' → wpList P ops Q rest (a.put o.dst v') w') : wpList P ops Q (o :: rest) a w :=
  wpList_plain hgd fun K hK => by
    obtain ⟨v', w', hrun, h2, h3, h4⟩ := run_appStrG (P := P) w o.type hE hu base v l hown b hn hbase
    unfold Oper.wp execOp
    simp only [ho, resolve, invoke, builtin, Sem.run_bind, Sem.run_pure, Result.andThen_ok, List.map_toArray, List.map_cons, List.map_nil, hs, hx, hrun]
    exact hK _ _ (h v' w' h2 h3 h4)
theorem step_appStrG {ops : Array Oper} {o : Oper} {a : Act} {K : Act → World → Prop} {Q : Exit → Act → World → Prop} {E : Prop} (hgd : o.guard = none) (s x : Operand) {t u e : TypeId}
    (ho : o.op = .call { callee := .builtin .append, args := #[s, x], argTypes := #[t, u] }) (hE : ETy P t e (.int .u8 0) 1 1) (hu : P.underlying u = some .string)
    (base : Nat) (v : Value) (l : List UInt8) (hs : a.eval s = v) (hown : OwB w base e v l) (b : ByteArray) (hx : a.eval x = .string b)
    (hn : l.length + b.size ≤ 140737488355328) (hbase : base ≤ w.heap.size)
    (h : ∀ v' w', OwB w' base e v' (l ++ b.data.toList) → Ch w w' (Fow v) → OwnN w v v' → K (a.put o.dst v') w') :
    if Region.wanted o (yielded ops a.tmps) = true then Oper.wp P o a w K Q else E := by
  have hw : Region.wanted o (yielded ops a.tmps) = true := by simp [Region.wanted, hgd]
  rw [if_pos hw]
  obtain ⟨v', w', hrun, h2, h3, h4⟩ := run_appStrG (P := P) w o.type hE hu base v l hown b hn hbase
  unfold Oper.wp execOp
  simp only [ho, resolve, invoke, builtin, Sem.run_bind, Sem.run_pure, Result.andThen_ok, List.map_toArray, List.map_cons, List.map_nil, hs, hx, hrun]
  exact h v' w' h2 h3 h4
end
end Go.Proofs.YtlmcpkomjofcgaaGreatDoor
namespace Go.Proofs.YtlmcpkomjofcgaaGreatDoor
open Go.RowKit
structure Lst {α : Type} (f : α → Value) (w0 w : World) (B : Nat) (e : TypeId) (V : Value) (o : List α) (D : Value) (d : List α) (H : Value) (h : List α) : Prop where
  t : Tri f w B e V o D d H h
  b : Below B w0 w
  z : B ≤ w.heap.size
section
variable {α : Type} {f : α → Value} {w0 w w' : World} {B : Nat} {e : TypeId} {V D H v' v : Value} {o d h l l' n : List α}
theorem Ch.low {S : Nat → Prop} (c : Ch w w' S) (hb : Below B w0 w) (hz : B ≤ w.heap.size) (hS : ∀ k, S k → B ≤ k) : Below B w0 w' :=
  hb.trans (c.below hz fun k hk h => Nat.lt_irrefl _ (Nat.lt_of_lt_of_le hk (hS k h)))
theorem fow_low (h : OwL f w B e v l) (k : Nat) (hk : Fow v k) : B ≤ k := (World.ownsRow.lt h k hk).1
theorem apt_ch (ho : OwL f w B e v l) (ha : Apt V v) (c : Ch w w' (Fow V)) : OwL f w' B e v l := OwL.ch ho c (fun k hk h => by
  unfold Fow at h
  rcases ha with a | a | a
  · rw [a] at h; cases h
  · rw [a] at hk; cases hk
  · exact a (h.trans hk.symm))
theorem apt_own (ho : OwL f w B e v l) (ha : Apt V v) (k : OwnN w V v') : Apt v' v := by
  rcases k with k | ⟨b, k, hb⟩
  · unfold Apt; rw [k]; exact ha
  · unfold Apt
    rw [k]
    cases hv : v.ownBlock with
    | none => exact .inr (.inl rfl)
    | some b' =>
      have := (World.ownsRow.lt ho b' hv).2
      exact .inr (.inr (by intro e; injection e with e; omega))
theorem Tri.ch (h0 : Tri f w B e V o D d H h) (ho : OwL f w' B e v' l') (c : Ch w w' (Fow V)) (k : OwnN w V v') : Tri f w' B e v' l' D d H h :=
  ⟨ho, apt_ch h0.o2 h0.a12 c, apt_ch h0.o3 h0.a13 c, apt_own h0.o2 h0.a12 k, apt_own h0.o3 h0.a13 k, h0.a23⟩
theorem Lst.num1 (L : Lst f w0 w B e V o D d H h) (ho : OwL f w' B e v' l') (c : Ch w w' (Fow V)) (k : OwnN w V v') : Lst f w0 w' B e v' l' D d H h :=
  ⟨L.t.ch ho c k, c.low L.b L.z (fow_low L.t.o1), Nat.le_trans L.z c.size⟩
theorem Lst.rot (L : Lst f w0 w B e V o D d H h) : Lst f w0 w B e D d H h V o := ⟨L.t.rot, L.b, L.z⟩
theorem Lst.num2 (L : Lst f w0 w B e V o D d H h) (ho : OwL f w' B e v' l') (c : Ch w w' (Fow D)) (k : OwnN w D v') : Lst f w0 w' B e V o v' l' H h :=
  (L.rot.num1 ho c k).rot.rot
theorem Lst.num3 (L : Lst f w0 w B e V o D d H h) (ho : OwL f w' B e v' l') (c : Ch w w' (Fow H)) (k : OwnN w H v') : Lst f w0 w' B e V o D d v' l' :=
  (L.rot.rot.num1 ho c k).rot
theorem Lst.below (L : Lst f w0 w B e V o D d H h) (hb : Below w.heap.size w w') : Lst f w0 w' B e V o D d H h :=
  ⟨⟨L.t.o1.below hb, L.t.o2.below hb, L.t.o3.below hb, L.t.a12, L.t.a13, L.t.a23⟩, L.b.trans (hb.mono L.z), Nat.le_trans L.z hb.size⟩
theorem Lst.alloc (L : Lst f w0 w B e V o D d H h) (x : Obj) : Lst f w0 (w.alloc x) B e V o D d H h := L.below (bl_alloc (Below.refl _ _) (Nat.le_refl _) _)
theorem Lst.drew (L : Lst f w0 w B e V o D d H h) : Lst f w0 w.drew B e V o D d H h := L.below (below_drewN (Below.refl _ _) 1)
theorem Lst.drewN (L : Lst f w0 w B e V o D d H h) (k : Nat) : Lst f w0 (w.drewN k) B e V o D d H h := L.below (below_drewN (Below.refl _ _) k)
/-- The third row is given up. -/
theorem Lst.drop3 (L : Lst f w0 w B e V o D d H h) : Lst f w0 w B e V o D d (.slice none 0 0) [] := ⟨⟨L.t.o1, L.t.o2, OwL.nil, L.t.a12, .inr (.inl rfl), .inr (.inl rfl)⟩, L.b, L.z⟩
theorem Lst.nil (hb : Below B w0 w) (hz : B ≤ w.heap.size) : Lst f w0 w B e (.slice none 0 0) [] (.slice none 0 0) [] (.slice none 0 0) [] := ⟨Tri.nil, hb, hz⟩
/-- A new block is not the row's own. -/
theorem fow_new (h : OwL f w B e v l) {k : Nat} (hk : w.heap.size ≤ k) : ∀ ad, (some ⟨k, 0, none⟩ : Option Addr) = some ad → ¬ Fow v ad.block := fun ad ha hf => by
  injection ha with ha
  subst ha
  exact Nat.lt_irrefl _ (Nat.lt_of_lt_of_le (World.ownsRow.lt h _ hf).2 hk)
theorem fow_nil {A : Option Addr} : ∀ ad, A = some ad → ¬ Fow (.slice none 0 0) ad.block := fun _ _ h => by cases h
/-- Whatever lies below stays. -/
theorem Lst.rl {β : Type} {F : β → Value} {A : Option Addr} {m : List β} (L : Lst f w0 w B e V o D d H h) (r : RL F w0 B A m) : RL F w B A m := r.below L.b (Nat.le_refl _)
end
end Go.Proofs.YtlmcpkomjofcgaaGreatDoor
namespace Go.Proofs.YtlmcpkomjofcgaaGreatDoor
open Go.RowKit

set_option maxHeartbeats 400000 in
theorem same_quiet (A C : Option Addr) (n c m d : Nat) (w : World) (l r : List UInt8) (hn : l.length = n) (hm : r.length = m) (hl : (n : Int) ≤ 140737488355328) (hr : (m : Int) ≤ 140737488355328)
    (ha : RB w w.heap.size A l) (hc : RB w w.heap.size C r) :
    Calls Tryz.prog 10 #[.slice A n c, .slice C m d] w fun e w' => e = .returned (.bool (decide (l = r))) ∧ ∃ q, w' = w.drewN q := by
  subst hn
  subst hm
  by_cases he : l.length = r.length
  · go_enter Tryz.func10, Tryz.ntmps10
    have he1 : ((l.length : Int) != (r.length : Int)) = false := by simp [he]
    have HE := Lib.hid he
    clear he
    go_wp2
    go_loopw [5] (fun i wr => ∃ k m : Nat, k ≤ l.length ∧ i = .int .i64 (k : Int) ∧ l.take k = r.take k ∧ wr = w.drewN m) (fun i _ => l.length - (intOf i).toNat)
    case atStart => exact ⟨0, 0, by omega, rfl, rfl, rfl⟩
    case round =>
      obtain ⟨k, m, hk, rfl, heq, rfl⟩ := hrel
      have HQ := Lib.hid heq
      clear heq
      by_cases hk0 : k < l.length
      · have hk1 : k < r.length := by have := HE.out; omega
        obtain ⟨ad, x, rfl, _, hx, hcx⟩ := ha.byte hk0
        obtain ⟨bd, y, rfl, _, hy, hcy⟩ := hc.byte hk1
        by_cases hxy : x = y
        · subst hxy
          have hb1 : ((x.toNat : Int) != (x.toNat : Int)) = false := by simp
          go_wp2
          go_quiet (fail)
          go_wp2
          go_roundw
          case rel => exact ⟨k + 1, _, by omega, by go_num, by rw [take_snocS hx.out, take_snocS hy.out, HQ.out], rfl⟩
          case measure => simp [intOf]; omega
        · have hb1 : ((x.toNat : Int) != (y.toNat : Int)) = true := by
            simp only [bne_iff_ne, ne_eq, Int.natCast_inj]
            exact fun e => hxy (UInt8.toNat_inj.1 e)
          have HN : Hid (decide (l = r) = false) := by
            unfold Hid
            simp only [decide_eq_false_iff_not]
            rintro rfl
            have := hx.out.symm.trans hy.out
            exact hxy (by injection this)
          clear hxy
          go_wp2
          go_quiet (fail)
          go_wp2
          go_ret
          exact ⟨by rw [HN.out]; rfl, _, World.drewN_drewN _ _ _⟩
      · obtain rfl : k = l.length := by omega
        have HN : Hid (decide (l = r) = true) := by
          have h1 := HQ.out
          rw [List.take_length, List.take_of_length_le (by have := HE.out; omega)] at h1
          unfold Hid; simp [h1]
        go_wp2
        go_ret
        exact ⟨by rw [HN.out]; rfl, _, rfl⟩
  · have he1 : ((l.length : Int) != (r.length : Int)) = true := by simp; omega
    have hne : decide (l = r) = false := by simp; rintro rfl; exact he rfl
    rw [hne]
    go_enter Tryz.func10, Tryz.ntmps10
    go_wp2
    go_ret
    exact ⟨rfl, 0, rfl⟩
end Go.Proofs.YtlmcpkomjofcgaaGreatDoor
