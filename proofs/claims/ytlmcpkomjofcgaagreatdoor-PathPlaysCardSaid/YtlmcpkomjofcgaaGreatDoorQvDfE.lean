/- Contract of the document's files: Fail. -/
import Derived.Test.YtlmcpkomjofcgaaGreatDoorQvDfD
import Derived.Deep.RegionHeld3
import Derived.Deep.RegionWith
import Derived.BigRegion
namespace Go.Proofs.YtlmcpkomjofcgaaGreatDoor
open Go.RowKit
theorem intTy8 : ETy Tryz.prog 41 3 (.int .i64 0) 1 8 := ⟨Tryz.underlying41, info_parts (by kernel_rfl), rfl, by decide⟩
theorem intN_one (x : Nat) : (intN x).oneCell' = true := rfl
section
variable {w wa w7 : World} {M N : Nat → Prop} {bx : Nat} {F : FS} {vL vF V7 : Value} {L : List FEl} {fl : List Nat} {j : Nat}
/-- One read more is to fail. -/
theorem DfB.failed (h : DfB w M N bx F vL vF L fl) (hb : Below w.heap.size w wa) (hg : wa.grownBy w7 vF.ownBlock) (hv : V7.ownBlock = vF.ownBlock ∨ V7.ownBlock = some wa.heap.size) (ho : OwL intN w7 0 3 V7 (fl ++ [F.reads + j])) (hnf : F.nf < 1000000) :
    ChP w M N bx { F with fails := fun q => if q = F.reads + j then true else F.fails q, nf := F.nf + 1 } (w7.setCell ⟨bx, 2, none⟩ V7) := by
  have hwa := hb.size
  have hw7 := hg.size
  have hbl := h.lt
  have hvb : ∀ k, V7.ownBlock = some k → k < w7.heap.size ∧ (vF.ownBlock = some k ∨ w.heap.size ≤ k) := fun k hk => ⟨(World.ownsRow.lt ho k hk).2, by
    rcases hv with e | e
    · exact .inl (by rw [← e]; exact hk)
    · right
      rw [e] at hk
      injection hk with hk
      omega⟩
  have hsame : ∀ q, q < w.heap.size → q ≠ bx → vF.ownBlock ≠ some q → (w7.setCell ⟨bx, 2, none⟩ V7).heap[q]? = w.heap[q]? := fun q hq h1 h2 => (Below.heap_setCell w7 ⟨bx, 2, none⟩ _ q h1).trans ((hg.block q (by omega) (fun e => h2 e.symm)).trans (hb.block q hq))
  have hch : Ch w (w7.setCell ⟨bx, 2, none⟩ V7) N := ((Ch.of_below hb).trans (Ch.of_grown (S := N) hg (fun k e => (h.nF k e).1)) (fun _ _ e => e)).setCell (fun _ => h.own) _
  have hG : Gr w (w7.setCell ⟨bx, 2, none⟩ V7) M (fun k => M k ∨ V7.ownBlock = some k) N := ⟨hch, h.sub, fun _ e => .inl e, fun k e => by
    rcases e with e | e
    · exact .inl e
    · rcases (hvb k e).2 with e | e
      · exact .inl (h.sub k (h.nF k e).1)
      · exact .inr e, fun k e => by
    rcases e with e | e
    · exact Nat.lt_of_lt_of_le (h.all k e) hch.size
    · have := (hvb k e).1; simpa using this⟩
  have hlt : ∀ k, N k → k < w.heap.size := fun k hk => h.all k (h.sub k hk)
  have hb7 : Bk w7 bx 43 #[vL, .int .i64 (F.reads : Int), vF] := (hg.block bx (by omega) (fun e => (h.nF bx e.symm).2 rfl)).trans ((hb.block bx hbl).trans h.box)
  refine ⟨_, fun k => N k ∨ V7.ownBlock = some k, hG, fun _ e => .inl e, fun k e => by
    rcases e with e | e
    · exact .inl e
    · rcases (hvb k e).2 with e | e
      · exact .inl (h.nF k e).1
      · exact .inr e, vL, V7, L, fl ++ [F.reads + j], ?_⟩
  refine ⟨by have := hb7.set 2 V7; simpa using this, h.lst.same10 (fun k hk => hsame k (hlt k (h.nL k hk).1) (h.nL k hk).2 (h.ne k hk)), ho.own_same (fun k hk => Below.heap_setCell w7 ⟨bx, 2, none⟩ _ k (fun e => by
    rcases (hvb k hk).2 with e2 | e2
    · exact (h.nF k e2).2 e
    · have e : k = bx := e
      omega)), fun k hk => ⟨.inl (h.nL k hk).1, (h.nL k hk).2⟩, fun k hk => ⟨.inr hk, fun e => by
    rcases (hvb k hk).2 with e2 | e2
    · exact (h.nF k e2).2 e
    · omega⟩, fun k hk e => by
    rcases (hvb k e).2 with e2 | e2
    · exact h.ne k hk e2
    · have := hlt k (h.nL k hk).1; omega, h.cnt, by rw [List.length_append, h.nf]; rfl, h.rows, fun x hx => ⟨hG.std (h.std x hx).1, (h.std x hx).2⟩, fun q => ?_, .inl h.own, fun k e => by
    rcases e with e | e
    · exact .inl (h.sub k e)
    · exact .inr e, hG.all, h.small.1, h.small.2.1, hnf⟩
  dsimp only
  by_cases e : q = F.reads + j
  · rw [if_pos e, e]; simp
  · rw [if_neg e, h.fails q]
    simp [e]
end
set_option maxRecDepth 100000 in
set_option maxHeartbeats 8000000 in
theorem r8fail_any (k : Int) (w : World) (M N : Nat → Prop) (bx0 : Nat) (F : FS) (h : DfM w M N bx0 F) (hnf : F.nf < 1000000) :
    Calls Tryz.prog 15 #[.pointer (some ⟨bx0, 0, none⟩), .int .i64 k] w fun e w' => e = .returned (.int .i64 (failFS F k).1) ∧ ChP w M N bx0 (failFS F k).2 w' := by
  have HH := bx h
  obtain ⟨P, hP⟩ : ∃ P, failFS F k = P := ⟨_, rfl⟩
  rw [hP]
  unfold failFS at hP
  by_cases h1 : k < 1
  · rw [if_pos (.inl h1)] at hP
    have HP := bx hP
    clear h hP hnf
    go_enter Tryz.func15, Tryz.ntmps15
    go_wp2
    go_ret
    rw [← HP.out]
    exact ⟨rfl, ChP.same HH.out (Below.refl _ _)⟩
  by_cases h2 : 65536 < k
  · rw [if_pos (.inr h2)] at hP
    have HP := bx hP
    clear h hP hnf
    go_enter Tryz.func15, Tryz.ntmps15
    go_wp2
    go_ret
    rw [← HP.out]
    exact ⟨rfl, ChP.same HH.out (Below.refl _ _)⟩
  rw [if_neg (by omega)] at hP
  have HP := bx hP
  obtain ⟨j, rfl⟩ : ∃ j : Nat, k = (j : Int) := ⟨k.toNat, by omega⟩
  obtain ⟨vL, vF, L, fl, hd⟩ := h
  have HD := bx hd
  obtain ⟨AF, nF, cF, hvF, hnF, hrF⟩ := OwL.sl hd.fls
  subst hvF
  have c1 : w.cell? ⟨bx0, 1, none⟩ = some (.int .i64 (F.reads : Int)) := (hd.box.cell 1).trans rfl
  have c2 : w.cell? ⟨bx0, 2, none⟩ = some (.slice AF nF cF) := (hd.box.cell 2).trans rfl
  have hlt : bx0 < w.heap.size := hd.lt
  have hrd : (F.reads : Int) ≤ 1000000 := by have := hd.small.2.1; omega
  have hwr : IntKind.i64.wrap ((F.reads : Int) + (j : Int)) = (F.reads : Int) + (j : Int) := IntWalk.i64_in _ (by omega)
  have HNF := bx hnf
  have HC1 : Bx (([.int .i64 ((F.reads : Int) + (j : Int))] : List Value) = [F.reads + j].map intN) := bx (by show _ = [intN (F.reads + j)]; unfold intN; rw [Int.natCast_add])
  have HNN : Bx ((fl.length + [F.reads + j].length) * 8 ≤ 140737488355328) := bx (by rw [hd.nf]; have := hd.small.2.2; simp only [List.length_cons, List.length_nil]; omega)
  have HZ2 := bx (hd.box.frz 2)
  have HLT := bx hlt
  clear hd hnF hrF hP hnf
  go_enter Tryz.func15, Tryz.ntmps15
  go_upto_region 3 with (fail)
  go_region_law ((refine step_appL (w.drew.alloc (.cells #[.int .i64 ((F.reads : Int) + (j : Int))] 3)) intN_one rfl (.tmp 15) (.tmp 22) rfl intTy8 (by decide) 0 _ fl rfl (OwL.alloc (OwL.drew HD.out.fls) _) _ _ 1 1 [F.reads + j] rfl rfl (RL.news w.drew [F.reads + j] _ HC1.out _ _) HNN.out (Nat.zero_le _) ?_; intro V7 w7 hO7 hg7 hv7 hb7; obtain ⟨A7, n7, c7, rfl, _, _⟩ := OwL.sl hO7; have HBA : Bx (Below w.heap.size w (w.drew.alloc (.cells #[.int .i64 ((F.reads : Int) + (j : Int))] 3))) := bx (bl_alloc ((Below.refl w.heap.size w).drew) (Nat.le_refl _) _); have HF7 := bx (HD.out.failed HBA.out hg7 hv7 hO7 HNF.out); have hbk : Bk w7 bx0 43 #[vL, .int .i64 (F.reads : Int), .slice AF nF cF] := (hg7.block bx0 (Nat.lt_of_lt_of_le HLT.out HBA.out.size) (fun e => (HD.out.nF bx0 e.symm).2 rfl)).trans ((HBA.out.block bx0 HLT.out).trans HD.out.box); have f2 : w7.cell? ⟨bx0, 2, none⟩ = some (.slice AF nF cF) := (hbk.cell 2).trans rfl; have f3 : w7.frozen? ⟨bx0, 2, none⟩ = false := hbk.frz 2; have f4 : bx0 < w7.heap.size := hbk.lt; clear hO7 hg7 hv7 hb7 hbk))
  all_goals (
    go_wp2
    go_ret
    rw [← HP.out]
    exact ⟨rfl, by first | exact HF7.out | simpa using HF7.out⟩)
end Go.Proofs.YtlmcpkomjofcgaaGreatDoor
