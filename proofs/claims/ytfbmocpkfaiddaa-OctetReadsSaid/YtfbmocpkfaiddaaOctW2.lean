/- The walk of OctetPuts. -/
import Derived.Test.YtfbmocpkfaiddaaOctF
import Derived.Test.YtfbmocpkfaiddaaOctD
import Derived.BigRegion
import Derived.ChangeAlike
namespace Go.Proofs.Ytfbmocpkfaiddaa
open Go.RowKit

theorem OwL.at1 {α : Type} {f : α → Value} {w : World} {base e : Nat} {v : Value} {l : List α} (h : OwL f w base e v l) (hn : 1 ≤ l.length) : ∃ g c, v = .slice (some ⟨g, 0, none⟩) l.length c ∧ base ≤ g ∧ g < w.heap.size :=
  World.ownsRow.form h hn
set_option maxHeartbeats 1000000 in
theorem octetPuts_no (w : World) (n : Int) (v : Int) (h : n < 1 ∨ 8 < n) :
    Calls Try.prog 4 #[.int .i64 n, .int .i64 v] w fun e w' => e = .returned (.bool true) ∧ Below w.heap.size w w' := by
  go_enter Try.func4, Try.ntmps4
  go_wp2_with fail
  refine (fixed_any _).mono ?_
  rintro e w1 ⟨rfl, hb1⟩
  go_wp2_with (first
    | (go_at_call 13; refine (putLittle_no _ _ _ h).mono ?_; rintro e w' ⟨rfl, rfl⟩)
    | (go_at_call 14; refine (putBig_no _ _ _ h).mono ?_; rintro e w' ⟨rfl, rfl⟩)
    | (go_at_call 16; refine (refPutLittle_no _ _ _ h).mono ?_; rintro e w' ⟨rfl, rfl⟩))
  refine (same_any none none 0 0 0 0 _ [] [] rfl rfl (by omega) (by omega) RL.nil RL.nil).mono ?_
  rintro e w2 ⟨rfl, hb2⟩
  have hb3 := hb1.trans (hb2.mono hb1.size)
  go_wp2_with fail
  refine (refPutBig_no _ _ _ h).mono ?_
  rintro e w3 ⟨r, rfl, hown, hb4⟩
  have hb5 := hb3.trans (hb4.mono hb3.size)
  obtain ⟨A, c, rfl, hr, _⟩ := hown.rd
  go_wp2_with fail
  refine (same_any none _ 0 0 _ _ _ [] [] rfl rfl (by omega) (by simp) RL.nil hr).mono ?_
  rintro e w4 ⟨rfl, hb6⟩
  have hb7 := hb5.trans (hb6.mono hb5.size)
  go_wp2_with fail
  go_loop [10, 39] (fun _ i => i = .int .i64 0) (fun _ _ => 0)
  case atStart => exact rfl
  case round =>
    obtain rfl := hrel
    go_wp2_with (first
      | (go_at_call 13; refine (putLittle_no _ _ _ h).mono ?_; rintro e w' ⟨rfl, rfl⟩)
      | (go_at_call 16; refine (refPutLittle_no _ _ _ h).mono ?_; rintro e w' ⟨rfl, rfl⟩))
    refine (same_any none none 0 0 0 0 _ [] [] rfl rfl (by omega) (by omega) RL.nil RL.nil).mono ?_
    rintro e w5 ⟨rfl, hb8⟩
    have hb9 := hb7.trans (hb8.mono hb7.size)
    go_wp2_with fail
    refine (refPutBig_no _ _ _ h).mono ?_
    rintro e w6 ⟨r, rfl, hown2, hb10⟩
    have hb11 := hb9.trans (hb10.mono hb9.size)
    obtain ⟨A2, c2, rfl, hr2, _⟩ := hown2.rd
    go_wp2_with fail
    refine (same_any none _ 0 0 _ _ _ [] [] rfl rfl (by omega) (by simp) RL.nil hr2).mono ?_
    rintro e w7 ⟨rfl, hb12⟩
    have hb13 := hb11.trans (hb12.mono hb11.size)
    go_wp2
    go_ret
    exact ⟨rfl, hb13⟩

theorem set_ok {l : List UInt8} {n k : Nat} {x : UInt8} (hl : l.length = n) : (l.set k x).length = n := by simpa using hl

/-- Four rows of the call's own. -/
def St (w W : World) (n ga ca gb cb gc cc gd cd : Nat) (la lb lc ld : List UInt8) : Prop :=
  Below w.heap.size w W ∧ OwB W w.heap.size 5 (.slice (some ⟨ga, 0, none⟩) n ca) la ∧ OwB W w.heap.size 5 (.slice (some ⟨gb, 0, none⟩) n cb) lb ∧
  OwB W w.heap.size 5 (.slice (some ⟨gc, 0, none⟩) n cc) lc ∧ OwB W w.heap.size 5 (.slice (some ⟨gd, 0, none⟩) n cd) ld
theorem St.below {w W W' : World} {n ga ca gb cb gc cc gd cd : Nat} {la lb lc ld : List UInt8} (h : St w W n ga ca gb cb gc cc gd cd la lb lc ld) (hb : Below W.heap.size W W') :
    St w W' n ga ca gb cb gc cc gd cd la lb lc ld :=
  ⟨h.1.trans (hb.mono h.1.size), h.2.1.below hb, h.2.2.1.below hb, h.2.2.2.1.below hb, h.2.2.2.2.below hb⟩
theorem St.two {w W : World} {n ga ca gb cb gc cc gd cd k : Nat} {la lb lc ld : List UInt8} (h : St w W n ga ca gb cb gc cc gd cd la lb lc ld) (hab : ga < gb) (hbc : gb < gc) (hcd : gb < gd) (x y : UInt8) :
    St w ((W.setCell ⟨ga, k, none⟩ (bV x)).setCell ⟨gb, k, none⟩ (bV y)).drew n ga ca gb cb gc cc gd cd (la.set k x) (lb.set k y) lc ld := by
  obtain ⟨h0, h1, h2, h3, h4⟩ := h
  have G1 : W.grownBy (W.setCell ⟨ga, k, none⟩ (bV x)) (some ga) := gb_set (World.grownBy.refl _ _) _ _
  have G2 : (W.setCell ⟨ga, k, none⟩ (bV x)).grownBy ((W.setCell ⟨ga, k, none⟩ (bV x)).setCell ⟨gb, k, none⟩ (bV y)) (some gb) := gb_set (World.grownBy.refl _ _) _ _
  have ne : ∀ {g g' : Nat} {n c : Nat}, g ≠ g' → (Value.slice (some ⟨g, 0, none⟩) n c).ownBlock = none ∨ (Value.slice (some ⟨g, 0, none⟩) n c).ownBlock ≠ some g' := fun h => .inr (by simp [Value.ownBlock, h])
  refine ⟨((h0.setCell h1.blk.1 _).setCell h2.blk.1 _).drew, OwL.drew ((h1.set k x).kept G2 (ne (by omega))), OwL.drew (((h2.kept G1 (ne (by omega))).set k y)), OwL.drew ((h3.kept G1 (ne (by omega))).kept G2 (ne (by omega))), OwL.drew ((h4.kept G1 (ne (by omega))).kept G2 (ne (by omega)))⟩

set_option maxRecDepth 100000 in
set_option maxHeartbeats 2000000 in
theorem octetPuts_ok (w : World) (n : Nat) (v : Int) (h1 : 1 ≤ n) (h2 : n ≤ 8) (hv : -9223372036854775808 ≤ v) (hv2 : v ≤ 9223372036854775807) :
    Calls Try.prog 4 #[.int .i64 n, .int .i64 v] w fun e w' => e = .returned (.bool true) ∧ Below w.heap.size w w' := by
  go_enter Try.func4, Try.ntmps4
  go_wp2_with fail
  refine (fixed_any _).mono ?_
  rintro e w1 ⟨rfl, hb1⟩
  go_wp2_with fail
  refine (putLittle_ok n v _ h1 h2).mono ?_
  rintro e w2 ⟨r, rfl, oa, hb2⟩
  have hz1 := hb1.size
  have hb2 := hb1.trans (hb2.mono hb1.size)
  have hz2 := hb2.size
  obtain ⟨ga, ca, rfl, la1, la2⟩ := oa.at1 (by rw [leB_len]; omega)
  rw [leB_len]
  go_wp2_with fail
  refine (putBig_ok n v _ h1 h2).mono ?_
  rintro e w3 ⟨r, rfl, ob, hb3⟩
  have oa := oa.below hb3
  have hb3 := hb2.trans (hb3.mono hb2.size)
  have hz3 := hb3.size
  obtain ⟨gb, cb, rfl, lb1, lb2⟩ := ob.at1 (by simp [leB_len]; omega)
  simp only [List.length_reverse, leB_len] at oa ob ⊢
  have hab : ga < gb := by omega
  go_wp2_with fail
  refine (putLittle_ok n v _ h1 h2).mono ?_
  rintro e w4 ⟨r, rfl, oc, hb4⟩
  have oa := oa.below hb4
  have ob := ob.below hb4
  have hb4 := hb3.trans (hb4.mono hb3.size)
  have hz4 := hb4.size
  obtain ⟨gc, cc, rfl, lc1, lc2⟩ := oc.at1 (by rw [leB_len]; omega)
  rw [leB_len]
  go_wp2_with fail
  refine (putBig_ok n v _ h1 h2).mono ?_
  rintro e w5 ⟨r, rfl, od, hb5⟩
  have oa := oa.below hb5
  have ob := ob.below hb5
  have oc := oc.below hb5
  have hb5 := hb4.trans (hb5.mono hb4.size)
  obtain ⟨gd, cd, rfl, ld1, ld2⟩ := od.at1 (by simp [leB_len]; omega)
  simp only [List.length_reverse, leB_len] at oc od ⊢
  have hbc : gb < gc := by omega
  have hbd : gb < gd := by omega
  have S : St w w5 n ga ca gb cb gc cc gd cd (leB n v) (leB n v).reverse (leB n v) (leB n v).reverse := by
    have z0 : w.heap.size ≤ w1.heap.size := hb1.size
    exact ⟨hb5, oa.low z0, ob.low hz2, oc.low hz3, od.low hz4⟩
  have hll : (leB n v).length = n := leB_len n v
  have HLL := Lib.hid hll
  clear hz1 hz2 hz3 hz4 hb1 hb2 hb3 hb4 hb5 oa ob oc od la1 la2 lb1 lb2 lc1 lc2 ld1 ld2 hll
  go_wp2_with fail
  refine (refPutLittle_ok n v _ h1 h2 hv hv2).mono ?_
  rintro e w6 ⟨r, rfl, o, hb⟩
  obtain ⟨A, c, rfl, hr, _⟩ := o.rd
  have S := S.below hb
  go_wp2_with fail
  refine (same_any _ _ _ _ _ _ _ (leB n v) (leB n v) HLL.out rfl (by omega) (by rw [HLL.out]; omega) S.2.1.rl hr).mono ?_
  rintro e w7 ⟨rfl, hb⟩
  have S := S.below hb
  clear o hr
  go_wp2_with fail
  refine (refPutBig_ok n v _ h1 h2 hv hv2).mono ?_
  rintro e w8 ⟨r, rfl, o, hb⟩
  obtain ⟨A, c, rfl, hr, _⟩ := o.rd
  have S := S.below hb
  go_wp2_with fail
  refine (same_any _ _ _ _ _ _ _ (leB n v).reverse (leB n v).reverse (by rw [List.length_reverse, HLL.out]) (by simp) (by omega) (by rw [HLL.out]; omega) S.2.2.1.rl hr).mono ?_
  rintro e w9 ⟨rfl, hb⟩
  have S := S.below hb
  clear o hr
  go_wp2_with fail
  go_loopw [10, 39] (fun _ i wr => ∃ (k : Nat) (la lb : List UInt8), k ≤ n ∧ la.length = n ∧ lb.length = n ∧ i = .int .i64 (k : Int) ∧ St w wr n ga ca gb cb gc cc gd cd la lb (leB n v) (leB n v).reverse) (fun _ i _ => n - (intOf i).toNat)
  case atStart => exact ⟨0, _, _, by omega, HLL.out, by rw [List.length_reverse, HLL.out], rfl, S⟩
  case round =>
    obtain ⟨k, la, lb, hk, hla, hlb, rfl, S⟩ := hrel
    have HA := Lib.hid hla
    have HB := Lib.hid hlb
    clear hla hlb
    by_cases hk0 : k < n
    · obtain ⟨x, hx⟩ : ∃ x, la[k]? = some x := ⟨_, List.getElem?_eq_getElem (by rw [HA.out]; omega)⟩
      obtain ⟨y, hy⟩ : ∃ y, lb[k]? = some y := ⟨_, List.getElem?_eq_getElem (by rw [HB.out]; omega)⟩
      have ca1 : wr.cell? ⟨ga, k, none⟩ = some (.int .u8 (x.toNat : Int)) := S.2.1.cell hx
      have cb1 : wr.cell? ⟨gb, k, none⟩ = some (.int .u8 (y.toNat : Int)) := S.2.2.1.cell hy
      have fa := S.2.1.frz k
      have fb := S.2.2.1.frz k
      clear hx hy
      go_wp2
      go_region
      go_wp2
      go_roundw
      case rel =>
        refine ⟨k + 1, la.set k (x + 1), lb.set k (y + 1), by omega, by rw [List.length_set, HA.out], by rw [List.length_set, HB.out], by go_num, ?_⟩
        have T := S.two (k := k) hab hbc hbd (x + 1) (y + 1)
        have e1 : bV (x + 1) = .int .u8 (((x.toNat : Int) + 1) % 256) := by
          unfold bV; rw [UInt8.toNat_add]; rfl
        have e2 : bV (y + 1) = .int .u8 (((y.toNat : Int) + 1) % 256) := by
          unfold bV; rw [UInt8.toNat_add]; rfl
        rw [e1, e2] at T
        exact T
      case measure => simp [intOf]; omega
    · obtain rfl : k = n := by omega
      go_wp2_with fail
      refine (refPutLittle_ok k v _ h1 h2 hv hv2).mono ?_
      rintro e w6 ⟨r, rfl, o, hb⟩
      obtain ⟨A, c, rfl, hr, _⟩ := o.rd
      have S := S.below hb
      go_wp2_with fail
      refine (same_any _ _ _ _ _ _ _ (leB k v) (leB k v) HLL.out rfl (by omega) (by rw [HLL.out]; omega) S.2.2.2.1.rl hr).mono ?_
      rintro e w7 ⟨rfl, hb⟩
      have S := S.below hb
      clear o hr
      go_wp2_with fail
      refine (refPutBig_ok k v _ h1 h2 hv hv2).mono ?_
      rintro e w8 ⟨r, rfl, o, hb⟩
      obtain ⟨A, c, rfl, hr, _⟩ := o.rd
      have S := S.below hb
      go_wp2_with fail
      refine (same_any _ _ _ _ _ _ _ (leB k v).reverse (leB k v).reverse (by rw [List.length_reverse, HLL.out]) (by simp) (by omega) (by rw [HLL.out]; omega) S.2.2.2.2.rl hr).mono ?_
      rintro e w9 ⟨rfl, hb⟩
      have S := S.below hb
      clear o hr
      go_wp2
      go_ret
      exact ⟨rfl, S.1⟩
theorem octetPuts_walk (w : World) (n : Int) (_hn : -9223372036854775808 ≤ n ∧ n ≤ 9223372036854775807) (v : Int) (hv : -9223372036854775808 ≤ v ∧ v ≤ 9223372036854775807) :
    Calls Try.prog 4 #[.int .i64 n, .int .i64 v] w fun e w' => e = .returned (.bool true) ∧ Below w.heap.size w w' := by
  by_cases h : n < 1 ∨ 8 < n
  · exact octetPuts_no w n v h
  · obtain ⟨m, rfl⟩ := Int.eq_ofNat_of_zero_le (show 0 ≤ n by omega)
    exact octetPuts_ok w m v (by omega) (by omega) hv.1 hv.2
end Go.Proofs.Ytfbmocpkfaiddaa
