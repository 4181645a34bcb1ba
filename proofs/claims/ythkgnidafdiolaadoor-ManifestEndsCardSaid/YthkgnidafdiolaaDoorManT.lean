/- Contracts: samovarref12.Same; theirs, ours of the law. -/
import Derived.Test.YthkgnidafdiolaaDoorManL
import Derived.Test.YthkgnidafdiolaaDoorSame
namespace Go.Proofs.YthkgnidafdiolaaDoor
open Go.RowKit

def TheirPost (l : List Attr) (w : World) (e : Ending) (w' : World) : Prop := ∃ A c, e = .returned (.slice A l.length c) ∧ RS pairC w' w'.heap.size A l ∧ Below w.heap.size w w'
theorem theirPost_of {l q : List Attr} {w w' : World} {base : Nat} {e : TypeId} {v : Value} (h : l = q) (ho : OwS pairC 2 w' base e v q) (hb : Below w.heap.size w w') : TheirPost l w (.returned v) w' := by
  subst h
  obtain ⟨A, c, rfl, hr, _⟩ := ho.rd
  exact ⟨A, c, rfl, hr, hb⟩
theorem attr_take {l : List Attr} {k : Nat} {a : Attr} (h : l[k]? = some a) : l.take (k + 1) = l.take k ++ [a] := by rw [List.take_add_one, h]; rfl
set_option maxHeartbeats 1000000 in
theorem theirs_any (A : Option Addr) (n c : Nat) (l : List Attr) (w : World) (hn : l.length = n) (hz : n ≤ 1000000) (hr : RS pairC w w.heap.size A l) :
    Calls Tryd.prog 13 #[.slice A n c] w (TheirPost l w) := by
  have HL := Lib.hid hn
  clear hn
  go_enter Tryd.func13, Tryd.ntmps13
  go_wp2
  go_loopw [3, 5, 8] (fun v _ i wr => ∃ k : Nat, k ≤ n ∧ i = .int .i64 (k : Int) ∧ OwS pairC 2 wr w.heap.size 37 v (l.take k) ∧ Below w.heap.size w wr) (fun _ _ i _ => n - (intOf i).toNat)
  case atStart => exact ⟨0, by omega, rfl, OwS.nil, Below.refl _ _⟩
  case round =>
    obtain ⟨k, hk, rfl, hown, hbel⟩ := hrel
    by_cases hk0 : k < n
    · obtain ⟨ad, a, rfl, hlt, hx, hc0, hc1⟩ := (hr.below hbel (Nat.le_refl _)).at_ pairK (by rw [HL.out]; exact hk0)
      have hd0 := hc0 _ rfl
      have hd1 := hc1 0 _ rfl
      unfold sV at hd0 hd1
      rw [Nat.zero_add] at hd1
      clear hc0 hc1
      have hlen : ((l.take k).length + [a].length) * 32 ≤ 140737488355328 := by simp only [List.length_take, List.length_cons, List.length_nil]; omega
      have HLEN := Lib.hid hlen
      have HTK := Lib.hid (attr_take hx.out)
      have hsz := hbel.size
      clear hlen
      go_wp2_with (at_builtin; refine wpList_appS _ pairK rfl (.tmp 12) (.tmp 18) rfl rpairTy (by decide) w.heap.size _ (l.take k) rfl ((hown.alloc _).alloc _) _ _ 1 1 [a] rfl rfl (RS.newAt _ _ _ ?c0 _ _ ?c3) HLEN.out ?c2 ?_)
      case c0 => rfl
      case c3 => simp
      case c2 => simp; omega
      intro v2 w2 own2 _ _ hb2
      rw [← HTK.out] at own2
      have hb3 := (bl_alloc (bl_alloc hbel (Nat.le_refl _) _) (Nat.le_refl _) _).trans hb2
      go_wp2
      go_roundw
      case rel => exact ⟨k + 1, by omega, by go_num, own2, hb3⟩
      case measure => simp [intOf]; omega
    · obtain rfl : k = n := by omega
      have HTK : Hid (l = l.take k) := Lib.hid (by rw [← HL.out, List.take_length])
      go_wp2
      go_ret
      exact theirPost_of HTK.out hown hbel
set_option maxHeartbeats 1000000 in
theorem ours_any (A : Option Addr) (n c : Nat) (l : List Attr) (w : World) (hn : l.length = n) (hz : n ≤ 1000000) (hr : RS pairC w w.heap.size A l) :
    Calls Tryd.prog 15 #[.slice A n c] w (TheirPost l w) := by
  have HL := Lib.hid hn
  clear hn
  go_enter Tryd.func15, Tryd.ntmps15
  go_wp2
  go_loopw [3, 5, 8] (fun v _ i wr => ∃ k : Nat, k ≤ n ∧ i = .int .i64 (k : Int) ∧ OwS pairC 2 wr w.heap.size 44 v (l.take k) ∧ Below w.heap.size w wr) (fun _ _ i _ => n - (intOf i).toNat)
  case atStart => exact ⟨0, by omega, rfl, OwS.nil, Below.refl _ _⟩
  case round =>
    obtain ⟨k, hk, rfl, hown, hbel⟩ := hrel
    by_cases hk0 : k < n
    · obtain ⟨ad, a, rfl, hlt, hx, hc0, hc1⟩ := (hr.below hbel (Nat.le_refl _)).at_ pairK (by rw [HL.out]; exact hk0)
      have hd0 := hc0 _ rfl
      have hd1 := hc1 0 _ rfl
      unfold sV at hd0 hd1
      rw [Nat.zero_add] at hd1
      clear hc0 hc1
      have hlen : ((l.take k).length + [a].length) * 32 ≤ 140737488355328 := by simp only [List.length_take, List.length_cons, List.length_nil]; omega
      have HLEN := Lib.hid hlen
      have HTK := Lib.hid (attr_take hx.out)
      have hsz := hbel.size
      clear hlen
      go_wp2_with (at_builtin; refine wpList_appS _ pairK rfl (.tmp 12) (.tmp 18) rfl pairTy (by decide) w.heap.size _ (l.take k) rfl ((hown.alloc _).alloc _) _ _ 1 1 [a] rfl rfl (RS.newAt _ _ _ ?c0 _ _ ?c3) HLEN.out ?c2 ?_)
      case c0 => rfl
      case c3 => simp
      case c2 => simp; omega
      intro v2 w2 own2 _ _ hb2
      rw [← HTK.out] at own2
      have hb3 := (bl_alloc (bl_alloc hbel (Nat.le_refl _) _) (Nat.le_refl _) _).trans hb2
      go_wp2
      go_roundw
      case rel => exact ⟨k + 1, by omega, by go_num, own2, hb3⟩
      case measure => simp [intOf]; omega
    · obtain rfl : k = n := by omega
      have HTK : Hid (l = l.take k) := Lib.hid (by rw [← HL.out, List.take_length])
      go_wp2
      go_ret
      exact theirPost_of HTK.out hown hbel
theorem pr_ne {s t : ByteArray} (h : ¬ s.data.toList = t.data.toList) : (s.toList == t.toList) = false := by rw [Lib.toList_data, Lib.toList_data]; simpa using h
set_option maxHeartbeats 1000000 in
theorem samePairs_any (A C : Option Addr) (n c m d : Nat) (l r : List Attr) (w : World) (hn : l.length = n) (hm : r.length = m) (hz : n ≤ 1000000) (hz2 : m ≤ 1000000) (hl : RS pairC w w.heap.size A l) (hr : RS pairC w w.heap.size C r) :
    Calls Tryd.prog 12 #[.slice A n c, .slice C m d] w fun e w' => e = .returned (.bool (decide (l = r))) ∧ Below w.heap.size w w' := by
  have HL := Lib.hid hn
  have HR := Lib.hid hm
  by_cases he : n = m
  · subst he
    clear hn hm
    go_enter Tryd.func12, Tryd.ntmps12
    go_wp2
    go_loopw [5] (fun i wr => ∃ k q : Nat, k ≤ n ∧ i = .int .i64 (k : Int) ∧ Hid (l.take k = r.take k) ∧ wr = w.drewN q) (fun i _ => n - (intOf i).toNat)
    case atStart => exact ⟨0, 0, by omega, rfl, Lib.hid rfl, rfl⟩
    case round =>
      obtain ⟨k, q, hk, rfl, heq, rfl⟩ := hrel
      by_cases hk0 : k < n
      · obtain ⟨ad, a, rfl, hlt, hx, hc0, hc1⟩ := hl.at_ pairK (by rw [HL.out]; exact hk0)
        obtain ⟨ad2, b, rfl, hlt2, hy, hc2, hc3⟩ := hr.at_ pairK (by rw [HR.out]; exact hk0)
        have hd0 := hc0 _ rfl
        have hd1 := hc1 0 _ rfl
        have hd2 := hc2 _ rfl
        have hd3 := hc3 0 _ rfl
        unfold sV at hd0 hd1 hd2 hd3
        rw [Nat.zero_add] at hd1 hd3
        have i1 : (0 : Int) ≤ (k : Int) := by omega
        have i2 : (k : Int) < (n : Int) := by omega
        have i3 : (k : Int).toNat = k := by omega
        clear hc0 hc1 hc2 hc3
        by_cases hab : a = b
        · subst hab
          have HN : Hid (l.take (k + 1) = r.take (k + 1)) := Lib.hid (by rw [attr_take hx.out, attr_take hy.out, heq.out])
          go_wp2
          go_quiet (fail)
          rename_i nq
          go_wp2
          go_roundw
          case rel => exact ⟨k + 1, q + nq, by omega, by go_num, HN, rfl⟩
          case measure => simp [intOf]; omega
        · have HN : Hid (decide (l = r) = false) := Lib.hid (by
            simp only [decide_eq_false_iff_not]
            rintro rfl
            have := hx.out.symm.trans hy.out
            exact hab (by injection this))
          have hd : ((⟨a.1.toArray⟩ : ByteArray) = ⟨b.1.toArray⟩ ∧ (⟨a.2.toArray⟩ : ByteArray) = ⟨b.2.toArray⟩) → False := fun ⟨h1, h2⟩ => hab (by
            have e1 : a.1 = b.1 := by have := congrArg (fun s : ByteArray => s.data.toList) h1; exact this
            have e2 : a.2 = b.2 := by have := congrArg (fun s : ByteArray => s.data.toList) h2; exact this
            exact Prod.ext e1 e2)
          obtain ⟨s1, hs1⟩ : ∃ s : ByteArray, (⟨a.1.toArray⟩ : ByteArray) = s := ⟨_, rfl⟩
          obtain ⟨s2, hs2⟩ : ∃ s : ByteArray, (⟨a.2.toArray⟩ : ByteArray) = s := ⟨_, rfl⟩
          obtain ⟨s3, hs3⟩ : ∃ s : ByteArray, (⟨b.1.toArray⟩ : ByteArray) = s := ⟨_, rfl⟩
          obtain ⟨s4, hs4⟩ : ∃ s : ByteArray, (⟨b.2.toArray⟩ : ByteArray) = s := ⟨_, rfl⟩
          rw [hs1] at hd0
          rw [hs2] at hd1
          rw [hs3] at hd2
          rw [hs4] at hd3
          rw [hs1, hs2, hs3, hs4] at hd
          clear hs1 hs2 hs3 hs4 hab
          by_cases h13 : s1.data.toList = s3.data.toList
          · obtain rfl : s1 = s3 := ba_eq h13
            have h24 : ¬ s2.data.toList = s4.data.toList := fun e => hd ⟨rfl, ba_eq e⟩
            have g1 := pr_ne h24
            have g2 : ¬ s2 = s4 := fun e => h24 (by rw [e])
            clear hd h13 h24
            go_wp2
            go_quiet (fail)
            go_wp2
            go_ret
            exact ⟨ret_bool HN.out.symm, below_drewN (below_drewN (Below.refl _ _) _) _⟩
          · have g1 := pr_ne h13
            have g2 : ¬ s1 = s3 := fun e => h13 (by rw [e])
            clear hd h13
            go_wp2
            go_quiet (fail)
            go_wp2
            go_ret
            exact ⟨ret_bool HN.out.symm, below_drewN (below_drewN (Below.refl _ _) _) _⟩
      · obtain rfl : k = n := by omega
        have HN : Hid (decide (l = r) = true) := Lib.hid (by
          have h1 := heq.out
          rw [List.take_of_length_le (by rw [HL.out]; exact Nat.le_refl _), List.take_of_length_le (by rw [HR.out]; exact Nat.le_refl _)] at h1
          rw [h1]; simp)
        go_wp2
        go_ret
        exact ⟨ret_bool HN.out.symm, below_drewN (Below.refl _ _) _⟩
  · have he1 : ((n : Int) != (m : Int)) = true := by simp; omega
    have hne : decide (l = r) = false := decide_eq_false fun e => he (by rw [← hn, ← hm, e])
    rw [hne]
    clear he hn hm
    go_enter Tryd.func12, Tryd.ntmps12
    go_wp2
    go_ret
    exact ⟨rfl, Below.refl _ _⟩
end Go.Proofs.YthkgnidafdiolaaDoor
