/- name.Class: what it answers. -/
import Derived.Test.YthblilhdjabhnaaDoorNameA
namespace Go.Proofs.YthblilhdjabhnaaDoor
open Go.RowKit

abbrev sV : ByteArray → Value := Value.string
/-- The parts of a class's name: as texts, and as bytes. -/
theorem parts_of (s : ByteArray) : ∃ ps : List ByteArray, ps = Lib.splitB ⟨#[47]⟩ 0 (Lib.countB s ⟨#[47]⟩) s ∧ ps.length = Lib.countB s ⟨#[47]⟩ + 1 ∧ (ps.all fun p => cleanB p.data.toList) = classGo s.data.toList 0 ∧ ∀ p ∈ ps, p.size ≤ s.size := by
  refine ⟨_, rfl, Lib.splitB_all _ (by decide) 0 _ s rfl, ?_, ?_⟩
  · rw [← split_all]
    have h := Lib.splitB_data ⟨#[47]⟩ 0 (Lib.countB s ⟨#[47]⟩) s
    show _ = (Lib.splitK [47] 0 (Lib.countB s ⟨#[47]⟩) s.data.toList).all cleanB
    rw [show ([47] : List UInt8) = (⟨#[47]⟩ : ByteArray).data.toList from rfl, ← h, List.all_map]
    rfl
  · generalize Lib.countB s ⟨#[47]⟩ = k
    induction k generalizing s with
    | zero => intro p hp; simp [Lib.splitB] at hp; subst hp; exact Nat.le_refl _
    | succ k ih =>
      intro p hp
      unfold Lib.splitB at hp
      split at hp
      · simp at hp; subst hp; exact Nat.le_refl _
      · rcases List.mem_cons.1 hp with e | e
        · subst e; rw [ByteArray.size_extract]; omega
        · have := ih _ p e; rw [ByteArray.size_extract] at this; omega

theorem split_any (s : ByteArray) (m : Int) (w : World) (hs : s.size < 4294967281) (hm : w.cell? ⟨0, 0, none⟩ = some (.int .i64 m)) :
    Calls Tryd.prog 35 #[.string s, .string ⟨#[47]⟩] w fun e w' => ∃ (ps : List ByteArray) (A : Option Addr) (n : Nat), e = .returned (.slice A n n) ∧ ps.length = n ∧ n ≤ s.size + 1 ∧ RL sV w' w'.heap.size A ps ∧ Below w.heap.size w w' ∧
      (ps.all fun p => cleanB p.data.toList) = classGo s.data.toList 0 ∧ ∀ p ∈ ps, p.size ≤ s.size := by
  refine (Tryd.strings_Split _ _ m _ hs hm (by decide)).mono ?_
  rintro e w' ⟨rfl, rfl⟩
  obtain ⟨ps, hps, hlen, hall, hsz⟩ := parts_of s
  rw [← hps]
  refine ⟨ps, _, _, rfl, hlen, ?_, ?_, bl_alloc (Below.refl _ _) (Nat.le_refl _) _, hall, hsz⟩
  · have := Lib.countB_le ⟨#[47]⟩ (by decide) _ s (Nat.le_refl _); omega
  · intro hne
    refine ⟨_, rfl, by simp, fun i u hu => ?_⟩
    have e : (⟨w.heap.size, 0, none⟩ : Addr).add i = ⟨w.heap.size, i, none⟩ := by unfold Addr.add; split <;> simp_all
    rw [e, (Bk.new w _ _).cell]
    simpa using hu

set_option maxHeartbeats 800000 in
theorem class_any (s : ByteArray) (m : Int) (w : World) (hs : s.size ≤ 140737488355328) (hm : w.cell? ⟨0, 0, none⟩ = some (.int .i64 m)) :
    Calls Tryd.prog 31 #[.string s] w fun e w' => e = .returned (.bool (decide (s.size ≤ 58) && classGo s.data.toList 0)) ∧ Below w.heap.size w w' := by
  by_cases h58 : s.size ≤ 58
  · go_enter Tryd.func31, Tryd.ntmps31
    go_wp2_with (go_at_call 35; refine (split_any _ m _ (by omega) hm).mono ?_; rintro e w1 ⟨ps, A, n, rfl, hn, hle, hr, hb, hall, hsz⟩; have HN := Lib.hid hn; have HA := Lib.hid hall; clear hn hall)
    go_loop [11] (fun i => ∃ k : Nat, k ≤ n ∧ i = .int .i64 (k : Int) ∧ Hid (((ps.take k).all fun p => cleanB p.data.toList) = true)) (fun i => n - (intOf i).toNat)
    case atStart => exact ⟨0, by omega, rfl, Lib.hid (by simp)⟩
    case round =>
      obtain ⟨k, hk, rfl, hgo⟩ := hrel
      by_cases hk0 : k < n
      · obtain ⟨ad, p, rfl, hlt, hp, hc⟩ := RL.atl hr (k := k) (by rw [HN.out]; exact hk0)
        have hpz := hsz p (List.mem_of_getElem? hp.out)
        cases hcl : cleanB p.data.toList
        · go_wp2_with (go_at_call 36; refine (clean_any _ _ (by omega)).mono ?_; rintro e w' ⟨rfl, rfl⟩; rw [hcl])
          go_ret
          refine ⟨ret_bool ?_, hb⟩
          symm
          rw [← HA.out, Bool.and_eq_false_iff]
          exact Or.inr (List.all_eq_false.2 ⟨p, List.mem_of_getElem? hp.out, by rw [hcl]; decide⟩)
        · go_wp2_with (go_at_call 36; refine (clean_any _ _ (by omega)).mono ?_; rintro e w' ⟨rfl, rfl⟩; rw [hcl])
          go_round
          case rel => exact ⟨k + 1, by omega, by go_num, Lib.hid (by rw [List.take_add_one, hp.out]; have h := hgo.out; simp [hcl] at h ⊢; exact h)⟩
          case measure => simp [intOf]; omega
      · obtain rfl : k = n := by omega
        go_wp2
        go_ret
        refine ⟨ret_bool ?_, hb⟩
        have h := hgo.out
        rw [show ps.take k = ps by rw [← HN.out]; exact List.take_length, HA.out] at h
        rw [h]
  · go_enter Tryd.func31, Tryd.ntmps31
    go_wp2
    go_ret
    exact ⟨ret_bool (by simp [h58]), Below.refl _ _⟩
end Go.Proofs.YthblilhdjabhnaaDoor
