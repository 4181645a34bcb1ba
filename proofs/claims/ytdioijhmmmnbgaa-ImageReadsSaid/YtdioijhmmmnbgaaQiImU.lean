/- Contract: samovarlaw14.one. -/
import Derived.Test.YtdioijhmmmnbgaaQiImT
namespace Go.Proofs.Ytdioijhmmmnbgaa
open Go.RowKit
def oneP : Img := ⟨0, 52, [cst0, ⟨1, 0, 0, 0, [65]⟩, ⟨7, 1, 0, 0, []⟩], 0, 2, 0, [], [], [], []⟩
def oneX (G : Nat) : ImE := ⟨0, 52, some ⟨G, 0, none⟩, 3, 3, [cst0, ⟨1, 0, 0, 0, [65]⟩, ⟨7, 1, 0, 0, []⟩], 0, 2, 0, none, 0, 0, [], none, 0, 0, [], none, 0, 0, [], none, 0, 0, []⟩
theorem oneX_p (G : Nat) : (oneX G).p = oneP := rfl
def imZ : Array Value := #[.int .i64 0, .int .i64 0, .slice none 0 0, .int .i64 0, .int .i64 0, .int .i64 0, .slice none 0 0, .slice none 0 0, .slice none 0 0, .slice none 0 0]
set_option maxRecDepth 100000 in
set_option maxHeartbeats 4000000 in
theorem one_any (w : World) : Calls Try.prog 23 #[] w fun e w' => ∃ G, e = .returned (.agg (imC (oneX G))) ∧ w.heap.size ≤ G ∧ RIm w' w'.heap.size (oneX G) ∧ Below w.heap.size w w' := by
  go_enter Try.func23, Try.ntmps23
  go_wp2
  have hk : Bk ((w.alloc (.cells #[.int .i64 0, .int .i64 52, .slice (some ⟨w.heap.size + 1, 0, none⟩) 3 3, .int .i64 0, .int .i64 2, .int .i64 0, .slice none 0 0, .slice none 0 0, .slice none 0 0, .slice none 0 0] 29)).alloc (.cells #[.int .i64 0, .int .i64 0, .int .i64 0, .int .i64 0, .string ⟨#[]⟩, .int .i64 1, .int .i64 0, .int .i64 0, .int .i64 0, .string ⟨#[65]⟩, .int .i64 7, .int .i64 1, .int .i64 0, .int .i64 0, .string ⟨#[]⟩] 53)) w.heap.size 29 #[.int .i64 0, .int .i64 52, .slice (some ⟨w.heap.size + 1, 0, none⟩) 3 3, .int .i64 0, .int .i64 2, .int .i64 0, .slice none 0 0, .slice none 0 0, .slice none 0 0, .slice none 0 0] := (Bk.new w _ _).alloc _
  have hb : Below w.heap.size w ((w.alloc (.cells #[.int .i64 0, .int .i64 52, .slice (some ⟨w.heap.size + 1, 0, none⟩) 3 3, .int .i64 0, .int .i64 2, .int .i64 0, .slice none 0 0, .slice none 0 0, .slice none 0 0, .slice none 0 0] 29)).alloc (.cells #[.int .i64 0, .int .i64 0, .int .i64 0, .int .i64 0, .string ⟨#[]⟩, .int .i64 1, .int .i64 0, .int .i64 0, .int .i64 0, .string ⟨#[65]⟩, .int .i64 7, .int .i64 1, .int .i64 0, .int .i64 0, .string ⟨#[]⟩] 53)) := bl_alloc (bl_alloc (Below.refl _ _) (Nat.le_refl _) _) (Nat.le_refl _) _
  have hr : RL (fun v : Value => v) ((w.alloc (.cells #[.int .i64 0, .int .i64 52, .slice (some ⟨w.heap.size + 1, 0, none⟩) 3 3, .int .i64 0, .int .i64 2, .int .i64 0, .slice none 0 0, .slice none 0 0, .slice none 0 0, .slice none 0 0] 29)).alloc (.cells #[.int .i64 0, .int .i64 0, .int .i64 0, .int .i64 0, .string ⟨#[]⟩, .int .i64 1, .int .i64 0, .int .i64 0, .int .i64 0, .string ⟨#[65]⟩, .int .i64 7, .int .i64 1, .int .i64 0, .int .i64 0, .string ⟨#[]⟩] 53)) ((w.alloc (.cells #[.int .i64 0, .int .i64 52, .slice (some ⟨w.heap.size + 1, 0, none⟩) 3 3, .int .i64 0, .int .i64 2, .int .i64 0, .slice none 0 0, .slice none 0 0, .slice none 0 0, .slice none 0 0] 29)).heap.size + 1) (some ⟨(w.alloc (.cells #[.int .i64 0, .int .i64 52, .slice (some ⟨w.heap.size + 1, 0, none⟩) 3 3, .int .i64 0, .int .i64 2, .int .i64 0, .slice none 0 0, .slice none 0 0, .slice none 0 0, .slice none 0 0] 29)).heap.size, 0, none⟩) ([cst0, ⟨1, 0, 0, 0, [65]⟩, ⟨7, 1, 0, 0, []⟩].flatMap cstC) := RL.news _ _ _ rfl _ _
  have hz : (w.alloc (.cells #[.int .i64 0, .int .i64 52, .slice (some ⟨w.heap.size + 1, 0, none⟩) 3 3, .int .i64 0, .int .i64 2, .int .i64 0, .slice none 0 0, .slice none 0 0, .slice none 0 0, .slice none 0 0] 29)).heap.size = w.heap.size + 1 := by simp
  rw [hz] at hr
  have hrs : RS cstC ((w.alloc (.cells #[.int .i64 0, .int .i64 52, .slice (some ⟨w.heap.size + 1, 0, none⟩) 3 3, .int .i64 0, .int .i64 2, .int .i64 0, .slice none 0 0, .slice none 0 0, .slice none 0 0, .slice none 0 0] 29)).alloc (.cells #[.int .i64 0, .int .i64 0, .int .i64 0, .int .i64 0, .string ⟨#[]⟩, .int .i64 1, .int .i64 0, .int .i64 0, .int .i64 0, .string ⟨#[65]⟩, .int .i64 7, .int .i64 1, .int .i64 0, .int .i64 0, .string ⟨#[]⟩] 53)) (w.heap.size + 1 + 1) (some ⟨w.heap.size + 1, 0, none⟩) [cst0, ⟨1, 0, 0, 0, [65]⟩, ⟨7, 1, 0, 0, []⟩] := by
    have h9 := hr
    unfold RL at h9
    rw [List.map_id'] at h9
    exact h9
  have hrt := RS.top hrs
  generalize (w.alloc (.cells #[.int .i64 0, .int .i64 52, .slice (some ⟨w.heap.size + 1, 0, none⟩) 3 3, .int .i64 0, .int .i64 2, .int .i64 0, .slice none 0 0, .slice none 0 0, .slice none 0 0, .slice none 0 0] 29)).alloc (.cells #[.int .i64 0, .int .i64 0, .int .i64 0, .int .i64 0, .string ⟨#[]⟩, .int .i64 1, .int .i64 0, .int .i64 0, .int .i64 0, .string ⟨#[65]⟩, .int .i64 7, .int .i64 1, .int .i64 0, .int .i64 0, .string ⟨#[]⟩] 53) = wz at hk hb hrt ⊢
  have d0 := (hk.cell 0).trans rfl
  have d1 := (hk.cell 1).trans rfl
  have d2 := (hk.cell 2).trans rfl
  have d3 := (hk.cell 3).trans rfl
  have d4 := (hk.cell 4).trans rfl
  have d5 := (hk.cell 5).trans rfl
  have d6 := (hk.cell 6).trans rfl
  have d7 := (hk.cell 7).trans rfl
  have d8 := (hk.cell 8).trans rfl
  have d9 := (hk.cell 9).trans rfl
  exact bodyPost_ret (v := .agg (imC (oneX (w.heap.size + 1)))) (by simp [results, Try.results23, go_sem, d0, d1, d2, d3, d4, d5, d6, d7, d8, d9, imC, oneX]) rfl ⟨_, rfl, by omega, ⟨hrt, ⟨rfl, Nat.le_refl 3, (show ((3 : Nat) : Int) ≤ 9223372036854775807 by decide)⟩, RL.nil, ⟨rfl, Nat.le_refl 0, (show ((0 : Nat) : Int) ≤ 9223372036854775807 by decide)⟩, RM.nil, ⟨rfl, Nat.le_refl 0, (show ((0 : Nat) : Int) ≤ 9223372036854775807 by decide)⟩, RM.nil, ⟨rfl, Nat.le_refl 0, (show ((0 : Nat) : Int) ≤ 9223372036854775807 by decide)⟩, RA.nil, ⟨rfl, Nat.le_refl 0, (show ((0 : Nat) : Int) ≤ 9223372036854775807 by decide)⟩⟩, hb⟩
end Go.Proofs.Ytdioijhmmmnbgaa
