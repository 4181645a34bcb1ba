/- Contract: samovarref02.Same (for the seats behind the first). -/
import Derived.Test.YtdioijhmmmnbgaaPi2
import Derived.Test.YtdioijhmmmnbgaaQiFrame
namespace Go.Proofs.Ytdioijhmmmnbgaa
open Go.RowKit

theorem take_snocS {α : Type} {l : List α} {k : Nat} {x : α} (h : l[k]? = some x) : l.take (k + 1) = l.take k ++ [x] := by
  rw [List.take_add_one, h]; rfl
set_option maxHeartbeats 400000 in
theorem same_any (A C : Option Addr) (n c m d : Nat) (w : World) (l r : List UInt8) (hn : l.length = n) (hm : r.length = m) (hl : (n : Int) ≤ 140737488355328) (hr : (m : Int) ≤ 140737488355328)
    (ha : RB w w.heap.size A l) (hc : RB w w.heap.size C r) :
    Calls Try.prog 13 #[.slice A n c, .slice C m d] w fun e w' => e = .returned (.bool (decide (l = r))) ∧ Below w.heap.size w w' := by
  subst hn
  subst hm
  by_cases he : l.length = r.length
  · go_enter Try.func13, Try.ntmps13
    have he1 : ((l.length : Int) != (r.length : Int)) = false := by simp [he]
    have HE := Lib.hid he
    clear he
    go_wp2
    go_loopw [5] (fun i wr => ∃ k m : Nat, k ≤ l.length ∧ i = .int .i64 (k : Int) ∧ l.take k = r.take k ∧ wr = w.drewN m) (fun i _ => l.length - (intOf i).toNat)
    case atStart => exact ⟨0, 0, by omega, rfl, rfl, rfl⟩
    case round =>
      obtain ⟨k, m, hk, rfl, heq, rfl⟩ := hrel
      have HQ := Lib.hid heq
      clear heq
      by_cases hk0 : k < l.length
      · have hk1 : k < r.length := by have := HE.out; omega
        obtain ⟨ad, x, rfl, _, hx, hcx⟩ := ha.byte hk0
        obtain ⟨bd, y, rfl, _, hy, hcy⟩ := hc.byte hk1
        by_cases hxy : x = y
        · subst hxy
          have hb1 : ((x.toNat : Int) != (x.toNat : Int)) = false := by simp
          go_wp2
          go_quiet (fail)
          go_wp2
          go_roundw
          case rel => exact ⟨k + 1, _, by omega, by go_num, by rw [take_snocS hx.out, take_snocS hy.out, HQ.out], rfl⟩
          case measure => simp [intOf]; omega
        · have hb1 : ((x.toNat : Int) != (y.toNat : Int)) = true := by
            simp only [bne_iff_ne, ne_eq, Int.natCast_inj]
            exact fun e => hxy (UInt8.toNat_inj.1 e)
          have HN : Hid (decide (l = r) = false) := by
            unfold Hid
            simp only [decide_eq_false_iff_not]
            rintro rfl
            have := hx.out.symm.trans hy.out
            exact hxy (by injection this)
          clear hxy
          go_wp2
          go_quiet (fail)
          go_wp2
          go_ret
          exact ⟨by rw [HN.out]; rfl, below_drewN (below_drewN (Below.refl _ _) _) _⟩
      · obtain rfl : k = l.length := by omega
        have HN : Hid (decide (l = r) = true) := by
          have h1 := HQ.out
          rw [List.take_length, List.take_of_length_le (by have := HE.out; omega)] at h1
          unfold Hid; simp [h1]
        go_wp2
        go_ret
        exact ⟨by rw [HN.out]; rfl, below_drewN (Below.refl _ _) _⟩
  · have he1 : ((l.length : Int) != (r.length : Int)) = true := by simp; omega
    have hne : decide (l = r) = false := by simp; rintro rfl; exact he rfl
    rw [hne]
    go_enter Try.func13, Try.ntmps13
    go_wp2
    go_ret
    exact ⟨rfl, Below.refl _ _⟩
end Go.Proofs.Ytdioijhmmmnbgaa
