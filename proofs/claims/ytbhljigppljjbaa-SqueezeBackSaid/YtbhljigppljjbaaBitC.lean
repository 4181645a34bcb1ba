/- Contracts: (*bits.Reader).Take where bits lack; (*bits.Reader).Bytes. -/
import Derived.Test.YtbhljigppljjbaaBitB
namespace Go.Proofs.Ytbhljigppljjbaa
open Go.RowKit

theorem gb_past {a b c : World} {row : Option Nat} {B : Nat} (h : a.grownBy b row) (k : Below B b c) (hB : a.heap.size ≤ B) : a.grownBy c row :=
  ⟨k.os.trans h.os, k.tape.trans h.tape, k.output.trans h.output, Nat.le_trans h.size k.size, fun i hi hne => (k.block i (by omega)).trans (h.block i hi hne)⟩
set_option maxHeartbeats 1000000 in
theorem btake_short (g : Nat) (b : List UInt8) (p n : Nat) (w : World) (h : BRd w g b p) (hn : n ≤ 16) (hp : 8 * b.length < p + n) :
    Calls Try.prog 44 #[.pointer (some ⟨g, 0, none⟩), .int .i64 (n : Int)] w fun e w' => e = .returned (.tuple #[.int .i64 0, .int .i64 2]) ∧ Below w.heap.size w w' := by
  have hle := h.le
  obtain ⟨A, c, h1, h2, _⟩ := id h
  have c0 : w.cell? ⟨g, 0, none⟩ = some (.slice A b.length c) := (h1.cell 0).trans rfl
  have c1 : w.cell? ⟨g, 1, none⟩ = some (.int .i64 (p : Int)) := (h1.cell 1).trans rfl
  have i1 : IntKind.i64.wrap (8 * (b.length : Int)) = 8 * (b.length : Int) := IntWalk.i64_in _ (by omega)
  have i2 : IntKind.i64.wrap (8 * (b.length : Int) - (p : Int)) = 8 * (b.length : Int) - (p : Int) := IntWalk.i64_in _ (by omega)
  have i3 : 8 * (b.length : Int) - (p : Int) < (n : Int) := by omega
  clear h1 h h2
  go_enter Try.func44, Try.ntmps44
  go_wp2
  go_quiet (fail)
  clear i1 i2
  go_wp2
  go_ret2
  exact ⟨rfl, below_drewN (Below.refl _ _) _⟩
set_option maxHeartbeats 1000000 in
theorem bbytes_short (g : Nat) (b : List UInt8) (p n : Nat) (w : World) (h : BRd w g b p) (hn : n ≤ 100000) (hp : b.length < (p + 7) / 8 + n) :
    Calls Try.prog 45 #[.pointer (some ⟨g, 0, none⟩), .int .i64 (n : Int)] w fun e w' => e = .returned (.tuple #[.slice none 0 0, .int .i64 2]) ∧ Below w.heap.size w w' := by
  have hle := h.le
  obtain ⟨A, c, h1, h2, _⟩ := id h
  have c0 : w.cell? ⟨g, 0, none⟩ = some (.slice A b.length c) := (h1.cell 0).trans rfl
  have c1 : w.cell? ⟨g, 1, none⟩ = some (.int .i64 (p : Int)) := (h1.cell 1).trans rfl
  have i3 : (b.length : Int) - ((p : Int) + 7) / 8 < (n : Int) := by omega
  clear h1 h h2
  go_enter Try.func45, Try.ntmps45
  go_wp2
  all_goals
    go_ret2
    exact ⟨rfl, Below.refl _ _⟩
set_option maxHeartbeats 2000000 in
theorem bbytes_ok (g : Nat) (b : List UInt8) (p n f : Nat) (w : World) (h : BRd w g b p) (hn : n ≤ 100000) (hf : (p + 7) / 8 = f) (hp : f + n ≤ b.length) :
    Calls Try.prog 45 #[.pointer (some ⟨g, 0, none⟩), .int .i64 (n : Int)] w fun e w' => ∃ A c, e = .returned (.tuple #[.slice A n c, .int .i64 0]) ∧ n ≤ c ∧ RB w' w'.heap.size A ((b.drop f).take n) ∧
      (∀ ad, A = some ad → w.heap.size ≤ ad.block) ∧ BRd w' g b (8 * (f + n)) ∧ w.grownBy w' (some g) := by
  have hle := h.le
  obtain ⟨A, c, h1, h2, h3, _⟩ := id h
  have c0 : w.cell? ⟨g, 0, none⟩ = some (.slice A b.length c) := (h1.cell 0).trans rfl
  have c1 : w.cell? ⟨g, 1, none⟩ = some (.int .i64 (p : Int)) := (h1.cell 1).trans rfl
  have f1 : w.frozen? ⟨g, 1, none⟩ = false := h1.frz 1
  have hff : ((p : Int) + 7) / 8 = (f : Int) := by omega
  have hfl : (f : Int) ≤ (b.length : Int) := by omega
  have hgl := h.lt
  have hS : BRd (w.setCell ⟨g, 1, none⟩ (.int .i64 (((f : Int) + (n : Int)) * 8))) g b (8 * (f + n)) := by
    have := h.set (q := 8 * (f + n)) (by omega)
    rwa [show (((8 * (f + n) : Nat)) : Int) = ((f : Int) + (n : Int)) * 8 by omega] at this
  have HG := Lib.hid (gb_set (World.grownBy.refl w (some g)) 1 (.int .i64 (((f : Int) + (n : Int)) * 8)))
  have c2 : ((w.setCell ⟨g, 1, none⟩ (.int .i64 (((f : Int) + (n : Int)) * 8))).alloc (.cells #[] 5)).cell? ⟨g, 0, none⟩ = some (.slice A b.length c) := by
    rw [World.cell?_alloc_lt _ _ _ (by show g < _; simpa [World.setCell] using hgl)]
    exact (World.cell?_setCell_other w ⟨g, 1, none⟩ ⟨g, 0, none⟩ _ (by simp)).trans c0
  have hr2 : RB (w.setCell ⟨g, 1, none⟩ (.int .i64 (((f : Int) + (n : Int)) * 8))) g A b := h2.setCell (by exact Nat.le_refl _) _
  have hsz : (w.setCell ⟨g, 1, none⟩ (.int .i64 (((f : Int) + (n : Int)) * 8))).heap.size = w.heap.size := by simp [World.setCell]
  have hcut := (hr2.cut (k := f) (cap := c) (by omega)).take n
  have HN : Hid ((([] : List UInt8).length + ((b.drop f).take n).length) * 1 ≤ 140737488355328) := Lib.hid (by simp; omega)
  have HL : Hid (((b.drop f).take n).length = n) := Lib.hid (by simp; omega)
  have HSZ := Lib.hid hsz
  clear h1 hr2 hsz
  have HL2 : Hid (((b.drop f).take n).length = f + n - f) := Lib.hid (by simp; omega)
  have HE : Hid (f + n - f = n) := Lib.hid (by omega)
  have hdisj : (c = f ∧ RL bV (w.setCell ⟨g, 1, none⟩ (.int .i64 (((f : Int) + (n : Int)) * 8))) g A ((b.drop f).take n)) ∨ (¬ c = f ∧ RL bV (w.setCell ⟨g, 1, none⟩ (.int .i64 (((f : Int) + (n : Int)) * 8))) g (A.map (·.add f)) ((b.drop f).take n)) := by
    by_cases e : c = f
    · rw [if_pos e] at hcut; exact .inl ⟨e, hcut⟩
    · rw [if_neg e] at hcut; exact .inr ⟨e, hcut⟩
  clear hcut
  have fin : ∀ (v1 : Value) (w1 : World), OwL bV w1 w.heap.size 5 v1 ([] ++ (b.drop f).take n) → Below w.heap.size ((w.setCell ⟨g, 1, none⟩ (.int .i64 (((f : Int) + (n : Int)) * 8))).alloc (.cells #[] 5)) w1 →
      ∃ A c, v1 = .slice A n c ∧ n ≤ c ∧ RB w1 w1.heap.size A ((b.drop f).take n) ∧ (∀ ad, A = some ad → w.heap.size ≤ ad.block) ∧ BRd w1 g b (8 * (f + n)) ∧ w.grownBy w1 (some g) := by
    intro v1 w1 hown hb1
    rw [List.nil_append] at hown
    obtain ⟨A1, c1, rfl, hr1, hc1, _⟩ := OwL.rd hown
    refine ⟨A1, c1, by rw [HL.out], by rw [← HL.out]; exact hc1, hr1, fun ad had => ?_, ?_, ?_⟩
    · subst had; exact (World.ownsRow.lt hown ad.block rfl).1
    · refine BRd.below ?_ hb1 hgl
      exact hS.keep fun i hi => Below.heap_alloc _ _ i (by rw [HSZ.out]; omega)
    · exact gb_past (gb_alloc HG.out _) hb1 (Nat.le_refl _)
  rcases hdisj with ⟨hcf, hcut⟩ | ⟨hcf, hcut⟩
  · go_enter Try.func45, Try.ntmps45
    go_wp2_with (at_builtin; refine wpList_appL _ bV_one rfl (.tmp 35) (.tmp 44) rfl byteTy (by decide) w.heap.size _ [] rfl ?c0 g _ (f + n - f) _ ((b.drop f).take n) rfl HL2.out ?c1 HN.out ?c2 ?_)
    case c0 => have := OwL.lit0 (f := bV) (e := 5) (base := w.heap.size) (w.setCell ⟨g, 1, none⟩ (.int .i64 (((f : Int) + (n : Int)) * 8))) (by rw [HSZ.out]; exact Nat.le_refl _); rw [HSZ.out] at this; exact this
    case c1 => exact RL.alloc hcut (by rw [HSZ.out]; omega) _
    case c2 => exact le_alloc0 (by rw [HSZ.out]; exact Nat.le_refl _) _
    intro v1 w1 hown _ _ hb1
    obtain ⟨A1, c1, rfl, r⟩ := fin v1 w1 hown hb1
    go_wp2
    go_ret2
    exact ⟨A1, c1, rfl, r⟩
  · go_enter Try.func45, Try.ntmps45
    go_wp2_with (at_builtin; refine wpList_appL _ bV_one rfl (.tmp 35) (.tmp 44) rfl byteTy (by decide) w.heap.size _ [] rfl ?c3 g _ (f + n - f) _ ((b.drop f).take n) rfl HL2.out ?c4 HN.out ?c5 ?_)
    case c3 => have := OwL.lit0 (f := bV) (e := 5) (base := w.heap.size) (w.setCell ⟨g, 1, none⟩ (.int .i64 (((f : Int) + (n : Int)) * 8))) (by rw [HSZ.out]; exact Nat.le_refl _); rw [HSZ.out] at this; exact this
    case c4 => exact RL.alloc hcut (by rw [HSZ.out]; omega) _
    case c5 => exact le_alloc0 (by rw [HSZ.out]; exact Nat.le_refl _) _
    intro v1 w1 hown _ _ hb1
    obtain ⟨A1, c1, rfl, r⟩ := fin v1 w1 hown hb1
    go_wp2
    go_ret2
    exact ⟨A1, c1, rfl, r⟩
end Go.Proofs.Ytbhljigppljjbaa
