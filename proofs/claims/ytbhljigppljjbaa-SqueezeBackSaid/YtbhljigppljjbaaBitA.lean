/- Contracts: bits.New, (*bits.Reader).At. -/
import Derived.Test.YtbhljigppljjbaaProg
import Derived.Test.YtbhljigppljjbaaTl
import Derived.Test.YtbhljigppljjbaaFrame
import Derived.Test.YtbhljigppljjbaaCel
import Derived.Test.YtbhljigppljjbaaBitP
import Derived.Test.YtbhljigppljjbaaInfP
import Derived.Deep.RegionHeld3
namespace Go.Proofs.Ytbhljigppljjbaa
open Go.RowKit

theorem byteTy : ETy Try.prog 22 5 (.int .u8 0) 1 1 := ⟨Try.underlying22, info_parts (by kernel_rfl), rfl, by decide⟩
/-- A reader in block g: its bytes, how many bits were passed. -/
def BRd (w : World) (g : Nat) (b : List UInt8) (p : Nat) : Prop :=
  ∃ A c, Bk w g 82 #[.slice A b.length c, .int .i64 (p : Int)] ∧ RB w g A b ∧ b.length ≤ c ∧ p ≤ 8 * b.length ∧ b.length ≤ 1000000000
theorem BRd.lt {w : World} {g : Nat} {b : List UInt8} {p : Nat} (h : BRd w g b p) : g < w.heap.size := by obtain ⟨A, c, h1, _⟩ := h; exact h1.lt
theorem BRd.le {w : World} {g : Nat} {b : List UInt8} {p : Nat} (h : BRd w g b p) : p ≤ 8 * b.length ∧ b.length ≤ 1000000000 := by obtain ⟨A, c, _, _, _, h1⟩ := h; exact h1
theorem BRd.keep {w w' : World} {g : Nat} {b : List UInt8} {p : Nat} (h : BRd w g b p) (hk : ∀ i, i ≤ g → w'.heap[i]? = w.heap[i]?) : BRd w' g b p := by
  obtain ⟨A, c, h1, h2, r⟩ := h
  exact ⟨A, c, (hk g (Nat.le_refl _)).trans h1, Rd.keep h2 fun q hq => World.cell?_of_block (hk _ (by omega)), r⟩
theorem BRd.below {w w' : World} {g B : Nat} {b : List UInt8} {p : Nat} (h : BRd w g b p) (hb : Below B w w') (hB : g < B) : BRd w' g b p := h.keep fun i hi => hb.block i (by omega)
theorem BRd.step {w w' : World} {g : Nat} {b : List UInt8} {p : Nat} (h : BRd w g b p) (hb : Below w.heap.size w w') : BRd w' g b p := h.below hb h.lt
theorem BRd.grown {w w' : World} {g : Nat} {b : List UInt8} {p : Nat} {row : Option Nat} (h : BRd w g b p) (hb : w.grownBy w' row) (hr : ∀ k, row = some k → g < k) : BRd w' g b p :=
  h.keep fun i hi => hb.block i (by have := h.lt; omega) (fun e => by have := hr i e.symm; omega)
/-- Where the reader stands is turned. -/
theorem BRd.set {w : World} {g : Nat} {b : List UInt8} {p q : Nat} (h : BRd w g b p) (hq : q ≤ 8 * b.length) : BRd (w.setCell ⟨g, 1, none⟩ (.int .i64 (q : Int))) g b q := by
  obtain ⟨A, c, h1, h2, h3, _, h5⟩ := h
  refine ⟨A, c, ?_, h2.setCell (by exact Nat.le_refl _) _, h3, hq, h5⟩
  have := h1.set 1 (.int .i64 (q : Int))
  simpa using this
set_option maxHeartbeats 400000 in
theorem bnew_any (A : Option Addr) (n c : Nat) (l : List UInt8) (w : World) (hn : l.length = n) (hz : n ≤ 1000000000) (hr : RB w w.heap.size A l) :
    Calls Try.prog 19 #[.slice A n c] w fun e w' => ∃ g, e = .returned (.pointer (some ⟨g, 0, none⟩)) ∧ w.heap.size ≤ g ∧ BRd w' g l 0 ∧ Below w.heap.size w w' := by
  have HN : Hid ((([] : List UInt8).length + l.length) * 1 ≤ 140737488355328) := Lib.hid (by simp; omega)
  have HL := Lib.hid hn
  clear hn
  go_enter Try.func19, Try.ntmps19
  go_wp2_with (at_builtin; refine wpList_appL _ bV_one rfl (.tmp 3) (.tmp 4) rfl byteTy (by decide) w.heap.size _ [] rfl (OwL.lit0 w (Nat.le_refl _)) w.heap.size A n c l rfl HL.out (RL.alloc hr (Nat.le_refl _) _) HN.out (le_alloc0 (Nat.le_refl _) _) ?_; intro v1 w1 hown _ _ hb1; rw [List.nil_append] at hown; obtain ⟨A1, c1, rfl, hr1, hc1, _⟩ := OwL.rd hown)
  have hb2 := ((Below.refl w.heap.size w).alloc (Nat.le_refl _) _).trans hb1
  clear hb1 hown
  go_ret
  refine ⟨w1.heap.size, rfl, hb2.size, ⟨A1, c1, Bk.new _ _ _, hr1.alloc (Nat.le_refl _) _, hc1, by omega, by rw [HL.out]; exact hz⟩, hb2.alloc hb2.size _⟩
set_option maxHeartbeats 400000 in
theorem bat_any (g : Nat) (b : List UInt8) (p : Nat) (w : World) (h : BRd w g b p) :
    Calls Try.prog 21 #[.pointer (some ⟨g, 0, none⟩)] w fun e w' => e = .returned (.int .i64 (p : Int)) ∧ w = w' := by
  obtain ⟨A, c, h1, _⟩ := h
  have hc : w.cell? ⟨g, 1, none⟩ = some (.int .i64 (p : Int)) := (h1.cell 1).trans rfl
  clear h1
  go_enter Try.func21, Try.ntmps21
  go_wp2
  go_ret
  exact ⟨rfl, rfl⟩
end Go.Proofs.Ytbhljigppljjbaa
