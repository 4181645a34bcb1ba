/- Contract: samovarref12.Class. -/
import Derived.Test.YthkgnidafdiolaaDoorManG
import Derived.Lib.SlBytesConst
namespace Go.Proofs.YthkgnidafdiolaaDoor
open Go.RowKit

def badC : Array Value := #[.int .u8 46, .int .u8 59, .int .u8 91, .int .u8 92, .int .u8 40, .int .u8 41, .int .u8 60, .int .u8 62]
def badL : List UInt8 := [46, 59, 91, 92, 40, 41, 60, 62]
theorem okC_bad (c : UInt8) : okC c = (!decide (c.toNat ≤ 32) && !decide (c.toNat = 127) && !badL.contains c) := rfl
theorem cls_slash {s : List UInt8} {k n : Nat} {c : UInt8} (hx : s[k]? = some c) (hc : c = 47) : clsR n (s.drop k) = (decide (0 < n) && clsR 0 (s.drop (k + 1))) := by
  have hk := (List.getElem?_eq_some_iff.1 hx).1
  have e : s.drop k = c :: s.drop (k + 1) := by
    rw [List.drop_eq_getElem_cons hk]
    rw [List.getElem?_eq_getElem hk] at hx; injection hx with hx; rw [hx]
  rw [e]; conv => lhs; unfold clsR
  rw [if_pos hc]
theorem cls_else {s : List UInt8} {k n : Nat} {c : UInt8} (hx : s[k]? = some c) (hc : ¬ c = 47) : clsR n (s.drop k) = (okC c && clsR (n + 1) (s.drop (k + 1))) := by
  have hk := (List.getElem?_eq_some_iff.1 hx).1
  have e : s.drop k = c :: s.drop (k + 1) := by
    rw [List.drop_eq_getElem_cons hk]
    rw [List.getElem?_eq_getElem hk] at hx; injection hx with hx; rw [hx]
  rw [e]; conv => lhs; unfold clsR
  rw [if_neg hc]
set_option maxHeartbeats 2000000 in
theorem refClass_any (s : ByteArray) (w : World) (hs : s.size ≤ 4000000000) :
    Calls Tryd.prog 29 #[.string s] w fun e w' => e = .returned (.bool (classB s.data.toList)) ∧ Below w.heap.size w w' := by
  have HR := Lib.hid (classB_R s.data.toList)
  go_enter Tryd.func29, Tryd.ntmps29
  go_wp2
  go_loopw [3, 4, 6] (fun v i _ wr => ∃ (k n : Nat), k ≤ s.size ∧ n ≤ k ∧ v = .int .i64 (n : Int) ∧ i = .int .i64 (k : Int) ∧ Hid (clsR 0 s.data.toList = clsR n (s.data.toList.drop k)) ∧ Below w.heap.size w wr) (fun _ i _ _ => s.size - (intOf i).toNat)
  case atStart => exact ⟨0, 0, by omega, by omega, rfl, rfl, Lib.hid rfl, Below.refl _ _⟩
  case round =>
    obtain ⟨k, n, hk, hn, rfl, rfl, hgo, hbel⟩ := hrel
    by_cases hk0 : k < s.size
    · have HX := Lib.hid (byte_at hk0)
      obtain ⟨c, hcx⟩ : ∃ c, s[k] = c := ⟨_, rfl⟩
      have HC := Lib.hid hcx
      by_cases hc : s[k] = 47
      · have hcI : (s[k].toNat : Int) = 47 := by rw [hc]; rfl
        have hst := Lib.hid (hgo.out.trans (cls_slash (n := n) HX.out hc))
        clear hcx hc
        by_cases hn0 : n = 0
        · subst hn0
          have HF : Hid (classB s.data.toList = false) := Lib.hid (by rw [HR.out, hst.out]; rfl)
          go_wp2
          go_ret
          exact ⟨ret_bool HF.out.symm, hbel⟩
        · have hn1 : ((n : Int) == 0) = false := by simpa using hn0
          have HN : Hid (clsR 0 s.data.toList = clsR 0 (s.data.toList.drop (k + 1))) := Lib.hid (by rw [hst.out, show decide (0 < n) = true by simp; omega]; rfl)
          go_wp2
          go_roundw
          case rel => exact ⟨k + 1, 0, by omega, by omega, rfl, by go_num, HN, hbel⟩
          case measure => simp [intOf]; omega
      · have hcI : ¬ (s[k].toNat : Int) = 47 := u8_ne (y := 47) hc
        have hst := Lib.hid (hgo.out.trans (cls_else (n := n) HX.out hc))
        clear hcx hc
        obtain ⟨wo, rfl⟩ : ∃ wo : World, wo = wr := ⟨_, rfl⟩
        have hcv := Lib.run_convert_bytes_const (P := Tryd.prog) wo 22 5 badC 8 8 Tryd.underlying22 Tryd.underlying5
        have hr : RB (wo.alloc (.cells badC 5 (badC.size, badC.size + 1))) (wo.heap.size + 1) (some ⟨wo.heap.size, 0, none⟩) badL := RL.news wo badL _ rfl _ _
        have hb := bl_alloc hbel (Nat.le_refl _) (.cells badC 5 (badC.size, badC.size + 1))
        generalize (wo.alloc (.cells badC 5 (badC.size, badC.size + 1))) = w1 at *
        unfold badC at hcv
        go_wp2
        go_loop [6, 22] (fun _ i => ∃ j : Nat, j ≤ 8 ∧ i = .int .i64 (j : Int) ∧ Hid (¬ s[k] ∈ badL.take j)) (fun _ i => 8 - (intOf i).toNat)
        case atStart => exact ⟨0, by omega, rfl, Lib.hid (by simp)⟩
        case round =>
          obtain ⟨j, hj, rfl, hno⟩ := hrel
          by_cases hj0 : j < 8
          · obtain ⟨ad, x, he, hlt, hx, hcc⟩ := hr.byte (k := j) hj0
            cases he
            rw [show (⟨wo.heap.size, 0, none⟩ : Addr).add j = ⟨wo.heap.size, j, none⟩ by unfold Addr.add; split <;> simp_all] at hcc
            by_cases hcx : s[k] = x
            · have hm : badL.contains x = true := by rw [List.contains_eq_mem]; exact decide_eq_true (List.mem_of_getElem? hx.out)
              have HF : Hid (classB s.data.toList = false) := Lib.hid (by rw [HR.out, hst.out, okC_bad, hcx, hm]; simp)
              have hee : (s[k].toNat : Int) = (x.toNat : Int) := by rw [hcx]
              clear hcx hm
              go_wp2
              go_ret
              exact ⟨ret_bool HF.out.symm, hb⟩
            · have hne := u8_ne hcx
              have HN : Hid (¬ s[k] ∈ badL.take (j + 1)) := Lib.hid (by rw [List.take_add_one, hx.out]; have h := hno.out; simp [hcx]; exact h)
              clear hcx
              go_wp2
              go_round
              case rel => exact ⟨j + 1, by omega, by go_num, HN⟩
              case measure => simp [intOf]; omega
          · obtain rfl : j = 8 := by omega
            have hm : badL.contains s[k] = false := by rw [List.contains_eq_mem]; exact decide_eq_false hno.out
            have HM := Lib.hid hm
            clear hm
            by_cases h32 : (s[k].toNat : Int) ≤ 32
            · have HF : Hid (classB s.data.toList = false) := Lib.hid (by rw [HR.out, hst.out, okC_bad, decide_eq_true (by omega : s[k].toNat ≤ 32)]; rfl)
              go_wp2
              go_ret
              exact ⟨ret_bool HF.out.symm, hb⟩
            · by_cases h127 : (s[k].toNat : Int) = 127
              · have HF : Hid (classB s.data.toList = false) := Lib.hid (by rw [HR.out, hst.out, okC_bad, decide_eq_true (by omega : s[k].toNat = 127)]; simp)
                go_wp2
                go_ret
                exact ⟨ret_bool HF.out.symm, hb⟩
              · have HN : Hid (clsR 0 s.data.toList = clsR (n + 1) (s.data.toList.drop (k + 1))) := Lib.hid (by rw [hst.out, okC_bad, HM.out, decide_eq_false (by omega : ¬ s[k].toNat ≤ 32), decide_eq_false (by omega : ¬ s[k].toNat = 127)]; rfl)
                go_wp2
                go_roundw
                case rel => exact ⟨k + 1, n + 1, by omega, by omega, by go_num, by go_num, HN, hb⟩
                case measure => simp [intOf]; omega
    · obtain rfl : k = s.size := by omega
      have HF : Hid (classB s.data.toList = (decide (0 < n) && decide (s.size ≤ 58))) := Lib.hid (by
        rw [HR.out, hgo.out, List.drop_eq_nil_of_le (by exact Nat.le_refl _)]; rfl)
      go_wp2
      all_goals
        go_ret
        refine ⟨ret_bool ?_, hbel⟩
        rw [HF.out, Bool.eq_iff_iff]
        simp; omega
end Go.Proofs.YthkgnidafdiolaaDoor
