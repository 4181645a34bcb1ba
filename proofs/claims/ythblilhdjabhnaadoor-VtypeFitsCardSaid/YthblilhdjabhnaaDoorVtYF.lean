/- The walk of VtypeFits. -/
import Derived.Test.YthblilhdjabhnaaDoorVtX
import Derived.Test.YthblilhdjabhnaaDoorVtN
namespace Go.Proofs.YthblilhdjabhnaaDoor
open Go.RowKit

theorem fits_need (l : List Hdr) (a b : VT) : (fitsV l a b).2 = [] ∨ (fitsV l a b).1 = false := by
  unfold fitsV
  split
  · exact .inl rfl
  · split
    · exact need_false _ _ _
    · exact .inl rfl
set_option maxRecDepth 100000 in
set_option maxHeartbeats 4000000 in
theorem vtypeFits_walk (m : Int) (w : World) (hm : w.cell? ⟨0, 0, none⟩ = some (.int .i64 m)) (A0 : Option Addr) (n0 c0 : Nat) (l0 : List Hdr) (e0 : l0.length = n0) (r0 : RH w w.heap.size A0 l0) (q0 : ∀ h ∈ l0, h.1.length ≤ maxLen ∧ h.2.1.length ≤ maxLen) (_b0 : n0 ≤ 140737488351232)
    (A1 : Int) (s1 : ByteArray) (B1 : Int) (_b1 : s1.size ≤ 140737488351232) (A2 : Int) (s2 : ByteArray) (B2 : Int) (_b2 : s2.size ≤ 140737488351232) :
    Calls Tryd.prog 7 #[.slice A0 n0 c0, .agg #[.int .i64 A1, .string s1, .int .i64 B1], .agg #[.int .i64 A2, .string s2, .int .i64 B2]] w fun e w' => e = .returned (.bool true) ∧ Below w.heap.size w w' := by
  have E0 := Lib.hid e0
  have Q0 := Lib.hid q0
  clear e0 q0
  go_enter Tryd.func7, Tryd.ntmps7
  go_wp2_with fail
  refine (fixed17_any m _ (cell_old (bel2 _ _ _) hm)).mono ?_
  rintro e w1 ⟨rfl, hb⟩
  have b1 : Bk w1 w.heap.size 23 #[.int .i64 A1, .string s1, .int .i64 B1] := ((Bk.new w _ _).alloc _).below hb (by simp; omega)
  have b2 : Bk w1 (w.heap.size + 1) 23 #[.int .i64 A2, .string s2, .int .i64 B2] := (Bk.newAt (w.alloc _) _ _ (by simp)).below hb (by simp)
  have hb1 : Below w.heap.size w w1 := (bel2 _ _ _).trans (hb.mono (by simp; omega))
  have hc1 := b1.cell
  have hc2 := b2.cell
  have hl1 := b1.lt
  have hl2 := b2.lt
  clear hb
  obtain ⟨g, hg⟩ : ∃ g, w.heap.size = g := ⟨_, rfl⟩
  obtain ⟨k, hk⟩ : ∃ k, g + 1 = k := ⟨_, rfl⟩
  rw [hg] at b1 b2 hc1 hc2 hl1 hl2 ⊢
  simp only [hk] at b2 hc2 hl2 ⊢
  have HG := Lib.hid hg
  have HK := Lib.hid hk
  clear hg hk
  by_cases hz : n0 ≤ 300
  · by_cases hz1 : s1.size ≤ 3000
    · by_cases hz2 : s2.size ≤ 3000
      · go_wp2_with fail
        refine (fits_any A0 n0 c0 l0 E0.out (by omega) Q0.out A1 s1 B1 A2 s2 B2 _ ((r0.below hb1 (Nat.le_refl _)).top) (by omega) (by omega)).mono ?_
        rintro e w2 ⟨rfl, hb2⟩
        have hb2' := hb1.trans (hb2.mono hb1.size)
        have b12 := b1.below hb2 hl1
        have b22 := b2.below hb2 hl2
        have hd1 := b12.cell
        have hd2 := b22.cell
        have hl12 := b12.lt
        have hl22 := b22.lt
        clear hc1 hc2 b1 b2 hl1 hl2
        go_wp2_with fail
        refine (refFits_any A0 n0 c0 l0 E0.out (by omega) Q0.out A1 s1 B1 A2 s2 B2 _ ((r0.below hb2' (Nat.le_refl _)).top) (by omega) (by omega)).mono ?_
        rintro e w3 ⟨rfl, hb3⟩
        have hb3' := hb2'.trans (hb3.mono hb2'.size)
        have b13 := b12.below hb3 hl12
        have he1 := b13.cell
        have hl13 := b13.lt
        clear hd1 hd2 b12 b22 hl12 hl22
        go_wp2_with fail
        refine (fits_any A0 n0 c0 l0 E0.out (by omega) Q0.out A1 s1 B1 A1 s1 B1 _ ((r0.below hb3' (Nat.le_refl _)).top) (by omega) (by omega)).mono ?_
        rintro e w4 ⟨rfl, hb4⟩
        have hb4' := hb3'.trans (hb4.mono hb3'.size)
        rw [fits_eq]
        clear he1 b13 hl13
        generalize fitsV l0 (A1, s1.data.toList, B1) (A2, s2.data.toList, B2) = R
        obtain ⟨a, nd⟩ := R
        go_wp2
        all_goals
          go_ret
          exact ⟨ret_bool (by simp), HG.out ▸ hb4'⟩
      · have hz' : 3000 < s2.size := by omega
        go_wp2
        go_ret
        exact ⟨rfl, HG.out ▸ hb1⟩
    · have hz' : 3000 < s1.size := by omega
      go_wp2
      go_ret
      exact ⟨rfl, HG.out ▸ hb1⟩
  · have hz' : 300 < n0 := by omega
    go_wp2
    go_ret
    exact ⟨rfl, HG.out ▸ hb1⟩
end Go.Proofs.YthblilhdjabhnaaDoor
