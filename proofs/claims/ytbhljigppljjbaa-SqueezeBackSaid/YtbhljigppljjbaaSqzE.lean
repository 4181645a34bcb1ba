/- Contract: (*bits.Writer).Bytes. -/
import Derived.Test.YtbhljigppljjbaaSqzB
import Derived.Test.YtbhljigppljjbaaSqzG
namespace Go.Proofs.Ytbhljigppljjbaa
open Go.RowKit

set_option maxHeartbeats 400000 in
theorem wbytes_any (Av : Nat → Prop) (g : Nat) (C D : Value) (S : Pt) (w : World) (hW : WrS Av w g C D S) :
    Calls Try.prog 32 #[.pointer (some ⟨g, 0, none⟩)] w fun e w' => ∃ v, e = .returned v ∧ OwB w' w.heap.size 5 v (bytesV S.1 ((S.2 + 7) / 8)) ∧ Below w.heap.size w w' := by
  obtain ⟨u, hK, hO, _, _, _, _, hL⟩ := hW
  obtain ⟨b, hb⟩ : ∃ b, bytesV S.1 ((S.2 + 7) / 8) = b := ⟨_, rfl⟩
  have hbl : b.length ≤ 50001 := by rw [← hb, bytesV_len]; omega
  rw [hb] at hO ⊢
  clear hb hL
  obtain ⟨A, c, rfl, hr, hc, _⟩ := OwL.rd hO
  obtain ⟨n, hn⟩ : ∃ n, b.length = n := ⟨_, rfl⟩
  rw [hn] at hbl hc hK
  have c0 : w.cell? ⟨g, 0, none⟩ = some (.slice A n c) := (hK.cell 0).trans rfl
  have hz : g < w.heap.size := hK.lt
  have HN : Bx ((([] : List UInt8).length + b.length) * 1 ≤ 140737488355328) := bx (by rw [hn]; simp; omega)
  have HL := bx hn
  clear hn hK hO
  go_enter Try.func32, Try.ntmps32
  go_wp2_with (at_builtin; refine wpList_appL _ bV_one rfl (.tmp 5) (.tmp 9) rfl byteTy (by decide) w.heap.size _ [] rfl (OwL.lit0 w (Nat.le_refl _)) w.heap.size A n c b rfl HL.out (RL.alloc hr (Nat.le_refl _) _) HN.out (le_alloc0 (Nat.le_refl _) _) ?_; intro v1 w1 hown _ _ hb1; rw [List.nil_append] at hown)
  go_ret
  exact ⟨_, rfl, hown, ((Below.refl w.heap.size w).alloc (Nat.le_refl _) _).trans hb1⟩
end Go.Proofs.Ytbhljigppljjbaa
