/- samovarref13.plain, samovarref13.Class, Member: what they answer. -/
import Derived.Test.YthblilhdjabhnaaDoorNameB
import Derived.Lib.SlBytesConst
namespace Go.Proofs.YthblilhdjabhnaaDoor
open Go.RowKit

theorem RL.news {α : Type} {f : α → Value} (w : World) (l : List α) (cs : Array Value) (h : cs.toList = l.map f) (e : TypeId) (fr : Nat × Nat) : RL f (w.alloc (.cells cs e fr)) (w.heap.size + 1) (some ⟨w.heap.size, 0, none⟩) l := fun _ =>
  ⟨_, rfl, Nat.lt_succ_self _, fun i u hu => by
    have e : (⟨w.heap.size, 0, none⟩ : Addr).add i = ⟨w.heap.size, i, none⟩ := by unfold Addr.add; split <;> simp_all
    rw [e, World.cell?_alloc_mark, ← Array.getElem?_toList, h]; exact hu⟩
def badC : Array Value := #[.int .u8 46, .int .u8 59, .int .u8 91, .int .u8 92, .int .u8 40, .int .u8 41, .int .u8 60, .int .u8 62]

set_option maxHeartbeats 800000 in
theorem plain_any (c : UInt8) (w : World) :
    Calls Tryd.prog 37 #[.int .u8 (c.toNat : Int)] w fun e w' => e = .returned (.bool (okc c)) ∧ Below w.heap.size w w' := by
  have hcv := Lib.run_convert_bytes_const (P := Tryd.prog) w 54 5 badC 8 8 Tryd.underlying54 Tryd.underlying5
  have hr : RB (w.alloc (.cells badC 5 (badC.size, badC.size + 1))) (w.heap.size + 1) (some ⟨w.heap.size, 0, none⟩) badL := RL.news w badL _ rfl _ _
  have hb := bl_alloc (Below.refl w.heap.size w) (Nat.le_refl _) (.cells badC 5 (badC.size, badC.size + 1))
  generalize (w.alloc (.cells badC 5 (badC.size, badC.size + 1))) = w1 at *
  unfold badC at hcv
  go_enter Tryd.func37, Tryd.ntmps37
  go_wp2
  go_loop [8] (fun i => ∃ k : Nat, k ≤ 8 ∧ i = .int .i64 (k : Int) ∧ Hid (¬ c ∈ badL.take k)) (fun i => 8 - (intOf i).toNat)
  case atStart => exact ⟨0, by omega, rfl, Lib.hid (by simp)⟩
  case round =>
    obtain ⟨k, hk, rfl, hgo⟩ := hrel
    by_cases hk0 : k < 8
    · obtain ⟨ad, x, he, hlt, hx, hc⟩ := hr.byte (k := k) hk0
      cases he
      rw [show (⟨w.heap.size, 0, none⟩ : Addr).add k = ⟨w.heap.size, k, none⟩ by unfold Addr.add; split <;> simp_all] at hc
      by_cases hcx : c = x
      · subst hcx
        go_wp2
        go_ret
        refine ⟨ret_bool ?_, hb⟩
        symm
        have hm : badL.contains c = true := by rw [List.contains_eq_mem]; exact decide_eq_true (List.mem_of_getElem? hx.out)
        unfold okc; rw [hm]; simp
      · have hne : ¬ (c.toNat : Int) = (x.toNat : Int) := fun e => hcx (UInt8.toNat_inj.1 (by omega))
        go_wp2
        go_round
        case rel => exact ⟨k + 1, by omega, by go_num, Lib.hid (by rw [List.take_add_one, hx.out]; have h := hgo.out; simp [hcx]; exact h)⟩
        case measure => simp [intOf]; omega
    · obtain rfl : k = 8 := by omega
      have hm : badL.contains c = false := by rw [List.contains_eq_mem]; exact decide_eq_false hgo.out
      go_wp2
      · rename_i h3 _
        go_ret
        refine ⟨ret_bool ?_, hb⟩
        unfold okc; rw [hm, show decide (32 < c.toNat) = true from decide_eq_true (by omega)]
        have e : ((c.toNat : Int) != 127) = (c.toNat != 127) := by
          rw [Bool.eq_iff_iff, bne_iff_ne, bne_iff_ne]; omega
        rw [e]; simp
      · rename_i h3
        go_ret
        refine ⟨ret_bool ?_, hb⟩
        unfold okc; rw [show decide (32 < c.toNat) = false from decide_eq_false (by omega)]; rfl

theorem drop_at {s : ByteArray} {k : Nat} (h : k < s.size) : s.data.toList.drop k = s[k] :: s.data.toList.drop (k + 1) := by
  have h' : k < s.data.toList.length := h
  rw [List.drop_eq_getElem_cons h']; rfl
theorem drop_end (s : ByteArray) : s.data.toList.drop s.size = [] := List.drop_eq_nil_of_le (Nat.le_refl _)
set_option maxHeartbeats 800000 in
theorem refClass_any (s : ByteArray) (w : World) (hs : s.size ≤ 140737488355328) :
    Calls Tryd.prog 33 #[.string s] w fun e w' => e = .returned (.bool (decide (s.size ≤ 58) && classGo s.data.toList 0)) ∧ Below w.heap.size w w' := by
  by_cases h58 : s.size ≤ 58 ∧ 1 ≤ s.size
  · obtain ⟨h58, h1⟩ := h58
    go_enter Tryd.func33, Tryd.ntmps33
    go_wp2
    go_loopw [3, 4] (fun v i wr => ∃ (k n : Nat), k ≤ s.size ∧ n ≤ k ∧ v = .int .i64 (n : Int) ∧ i = .int .i64 (k : Int) ∧ Hid (classGo s.data.toList 0 = classGo (s.data.toList.drop k) n) ∧ Below w.heap.size w wr) (fun _ i _ => s.size - (intOf i).toNat)
    case atStart => exact ⟨0, 0, by omega, by omega, rfl, rfl, Lib.hid rfl, Below.refl _ _⟩
    case round =>
      obtain ⟨k, n, hk, hn, rfl, rfl, hgo, hb⟩ := hrel
      by_cases hk0 : k < s.size
      · have hd := Lib.hid (drop_at hk0)
        by_cases hc : s[k] = 47
        · by_cases hn0 : n = 0
          · subst hn0
            go_wp2
            go_ret
            refine ⟨ret_bool ?_, hb⟩
            rw [hgo.out, hd.out, hc]; simp [classGo]
          · go_wp2
            go_roundw
            case rel => exact ⟨k + 1, 0, by omega, by omega, rfl, by go_num, Lib.hid (by rw [hgo.out, hd.out, hc]; simp [classGo]; omega), hb⟩
            case measure => simp [intOf]; omega
        · have hc' : ¬ (s[k].toNat : Int) = 47 := fun e => hc (UInt8.toNat_inj.1 (by simpa using (by omega : s[k].toNat = 47)))
          have hst : classGo (s[k] :: s.data.toList.drop (k + 1)) n = (okc s[k] && classGo (s.data.toList.drop (k + 1)) (n + 1)) := by rw [classGo]; rw [if_neg hc]
          have HST := Lib.hid hst
          clear hst
          cases hok : okc s[k]
          · go_wp2_with (go_at_call 37; refine (plain_any _ _).mono ?_; rintro e w' ⟨rfl, hb'⟩; rw [hok])
            go_ret
            refine ⟨ret_bool ?_, hb.trans (hb'.mono hb.size)⟩
            rw [hgo.out, hd.out, HST.out, hok]; simp
          · go_wp2_with (go_at_call 37; refine (plain_any _ _).mono ?_; rintro e w' ⟨rfl, hb'⟩; rw [hok])
            go_roundw
            case rel => exact ⟨k + 1, n + 1, by omega, by omega, by go_num, by go_num, Lib.hid (by rw [hgo.out, hd.out, HST.out, hok]; simp), hb.trans (hb'.mono hb.size)⟩
            case measure => simp [intOf]; omega
      · obtain rfl : k = s.size := by omega
        have hd := Lib.hid (drop_end s)
        go_wp2
        go_ret
        refine ⟨ret_bool ?_, hb⟩
        rw [hgo.out, hd.out]; simp [classGo, h58]
  · rcases Nat.lt_or_ge s.size 1 with h1 | h1
    · go_enter Tryd.func33, Tryd.ntmps33
      go_wp2
      go_ret
      refine ⟨ret_bool ?_, Below.refl _ _⟩
      have : s.data.toList = [] := List.eq_nil_of_length_eq_zero (by rw [size_len]; omega)
      rw [this]; simp [classGo]
    · have h2 : ¬ (s.size ≤ 58) := by omega
      have h3 : 58 < s.size := by omega
      go_enter Tryd.func33, Tryd.ntmps33
      go_wp2
      go_ret
      exact ⟨ret_bool (by simp [h2]), Below.refl _ _⟩
end Go.Proofs.YthblilhdjabhnaaDoor
