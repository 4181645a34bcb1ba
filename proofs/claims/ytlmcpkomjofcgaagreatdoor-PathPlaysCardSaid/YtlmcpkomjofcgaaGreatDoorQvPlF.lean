/- samovarlaw22.few: what it answers. -/
import Derived.Test.YtlmcpkomjofcgaaGreatDoorQvPlA
namespace Go.Proofs.YtlmcpkomjofcgaaGreatDoor
open Go.RowKit
set_option maxRecDepth 100000 in
set_option maxHeartbeats 8000000 in
theorem few22_any (A0 : Option Addr) (n0 c0 : Nat) (l0 : List Ac) (w : World) (e0 : l0.length = n0) (r0 : RS acC w w.heap.size A0 l0) (q0 : ∀ x ∈ l0, AcOk w x ∧ x.name.length ≤ 140737488351232 ∧ x.s.n ≤ 140737488351232 ∧ x.t.n ≤ 140737488351232 ∧ ∀ p ∈ x.t.l, p.length ≤ 140737488351232) (b0 : n0 ≤ 140737488351232) :
    Calls Tryz.prog 12 #[.slice A0 n0 c0] w (FewP l0 w) := by
  have HR0 := bx r0
  have HE0 := bx e0
  have HQ0 := bx q0
  clear r0 e0 q0
  go_enter Tryz.func12, Tryz.ntmps12
  go_wp2_with fail
  go_loopw [3, 8] (fun sv iv wx => ∃ (j s : Nat), j ≤ n0 ∧ iv = .int .i64 (j : Int) ∧ sv = .int .i64 (s : Int) ∧ s ≤ 20000 ∧ j ≤ 61 ∧ Bx (Below w.heap.size w wx ∧ ∀ i x, i < j → l0[i]? = some x → x.s.n ≤ 20000 ∧ x.t.n ≤ 20)) (fun _ iv _ => n0 - (intOf iv).toNat)
  case atStart => exact ⟨0, 0, by omega, rfl, rfl, by omega, by omega, bx ⟨Below.refl _ _, fun i x hi => by omega⟩⟩
  case round =>
    obtain ⟨j, s, hj, rfl, rfl, hs, hj61, HST⟩ := hrel
    by_cases hjn : j < n0
    · have hjI : (j : Int) < (n0 : Int) := by omega
      have hj0 : (0 : Int) ≤ (j : Int) := by omega
      obtain ⟨ad, x, hA, _, hx, hc, hcs⟩ := (HR0.out.step HST.out.1).at_ acCels (k := j) (by rw [HE0.out]; exact hjn)
      subst hA
      have hq := HQ0.out x (List.mem_of_getElem? hx.out)
      have HX := bx hx.out
      have HOK := bx (hq.1.step HST.out.1)
      obtain ⟨kd, nm, ⟨As, ns, cs, ls⟩, ⟨At, nt, ct, lt⟩, nn⟩ := x
      obtain ⟨_, _, hns, hnt, _⟩ := hq
      dsimp only at hns hnt
      obtain ⟨sn, hsn⟩ : ∃ s : ByteArray, (⟨nm.toArray⟩ : ByteArray) = s := ⟨_, rfl⟩
      have HSV : Bx (strV nm = .string sn) := bx (by unfold strV; rw [hsn])
      have k0 : wr.cell? (ad.add (j * 5)) = some (.int .u8 (kd : Int)) := hc _ rfl
      have k1 := hcs 0 _ rfl
      have k2 : wr.cell? ⟨(ad.add (j * 5)).block, (ad.add (j * 5)).off + (1 + 1), none⟩ = some (.slice As ns cs) := hcs 1 _ rfl
      have k3 : wr.cell? ⟨(ad.add (j * 5)).block, (ad.add (j * 5)).off + (2 + 1), none⟩ = some (.slice At nt ct) := hcs 2 _ rfl
      have k4 : wr.cell? ⟨(ad.add (j * 5)).block, (ad.add (j * 5)).off + (3 + 1), none⟩ = some (.int .i64 nn) := hcs 3 _ rfl
      rw [Nat.zero_add, HSV.out] at k1
      obtain ⟨gi, hgi⟩ : ∃ gi, wr.heap.size = gi := ⟨_, rfl⟩
      obtain ⟨w4, hw4⟩ : ∃ w4, (wr.alloc (.cells z5 46)).setRow wr.heap.size #[.int .u8 (kd : Int), .string sn, .slice As ns cs, .slice At nt ct, .int .i64 nn] = w4 := ⟨_, rfl⟩
      have hK4 : Bk w4 gi 46 #[.int .u8 (kd : Int), .string sn, .slice As ns cs, .slice At nt ct, .int .i64 nn] := by rw [← hw4, ← hgi]; exact ((Bk.new wr _ z5).setRow _)
      have hB4 : Below wr.heap.size wr w4 := by rw [← hw4]; exact bl_setRow (bl_alloc (Below.refl wr.heap.size wr) (Nat.le_refl _) _) (Nat.le_refl _) _
      have hone : (#[.int .u8 (kd : Int), .string sn, .slice As ns cs, .slice At nt ct, .int .i64 nn] : Array Value).all (·.oneCell') = true := by simp [Value.oneCell']
      have HONE := bx hone
      have HB4 := bx (HST.out.1.trans (hB4.mono HST.out.1.size))
      have n2 : w4.cell? ⟨gi, 2, none⟩ = some (.slice As ns cs) := (hK4.cell 2).trans rfl
      have n3 : w4.cell? ⟨gi, 3, none⟩ = some (.slice At nt ct) := (hK4.cell 3).trans rfl
      have hg4 : gi < w4.heap.size := hK4.lt
      have HW4e := bx hw4
      have HGI := bx hgi
      clear hw4 hK4 hB4 hone hc hcs hx hsn hgi
      by_cases h1 : 20000 < s + ns
      · have h1I : (20000 : Int) < (s : Int) + (ns : Int) := by omega
        go_wp2_with (refine wpList_store_row rfl 46 (.tmp 5) (.tmp 12) rfl wr.heap.size #[.int .u8 (kd : Int), .string sn, .slice As ns cs, .slice At nt ct, .int .i64 nn] rfl rfl 46 z5 (Bk.new _ _ _) info_act rfl HONE.out ?_; rw [z5_eq, HW4e.out, HGI.out])
        go_ret
        exact ⟨false, rfl, (fun e => by cases e), HB4.out⟩
      · have h1I : ¬ (20000 : Int) < (s : Int) + (ns : Int) := by omega
        by_cases h2 : 60 < j
        · have h2I : (60 : Int) < (j : Int) := by omega
          go_wp2_with (refine wpList_store_row rfl 46 (.tmp 5) (.tmp 12) rfl wr.heap.size #[.int .u8 (kd : Int), .string sn, .slice As ns cs, .slice At nt ct, .int .i64 nn] rfl rfl 46 z5 (Bk.new _ _ _) info_act rfl HONE.out ?_; rw [z5_eq, HW4e.out, HGI.out])
          go_ret
          exact ⟨false, rfl, (fun e => by cases e), HB4.out⟩
        · have h2I : ¬ (60 : Int) < (j : Int) := by omega
          by_cases h3 : 20 < nt
          · have h3I : (20 : Int) < (nt : Int) := by omega
            go_wp2_with (refine wpList_store_row rfl 46 (.tmp 5) (.tmp 12) rfl wr.heap.size #[.int .u8 (kd : Int), .string sn, .slice As ns cs, .slice At nt ct, .int .i64 nn] rfl rfl 46 z5 (Bk.new _ _ _) info_act rfl HONE.out ?_; rw [z5_eq, HW4e.out, HGI.out])
            go_ret
            exact ⟨false, rfl, (fun e => by cases e), HB4.out⟩
          · have h3I : ¬ (20 : Int) < (nt : Int) := by omega
            have HF : Bx (∀ i x, i < j + 1 → l0[i]? = some x → x.s.n ≤ 20000 ∧ x.t.n ≤ 20) := bx (fun i x hi hx => by
              rcases Nat.lt_or_ge i j with h | h
              · exact HST.out.2 i x h hx
              · obtain rfl : i = j := by omega
                have e := HX.out
                rw [hx] at e
                injection e with e
                subst e
                exact ⟨by show ns ≤ 20000; omega, by show nt ≤ 20; omega⟩)
            go_wp2_with (refine wpList_store_row rfl 46 (.tmp 5) (.tmp 12) rfl wr.heap.size #[.int .u8 (kd : Int), .string sn, .slice As ns cs, .slice At nt ct, .int .i64 nn] rfl rfl 46 z5 (Bk.new _ _ _) info_act rfl HONE.out ?_; rw [z5_eq, HW4e.out, HGI.out])
            go_roundw
            case rel => exact ⟨j + 1, s + ns, by omega, by go_num, by go_num, by omega, by omega, bx ⟨HB4.out, HF.out⟩⟩
            case measure => simp [intOf]; omega
    · obtain rfl : j = n0 := by omega
      have hjI : ¬ (j : Int) < (j : Int) := by omega
      go_wp2
      go_ret
      exact ⟨true, rfl, fun _ => ⟨by rw [HE0.out]; exact hj61, fun x hx => by
        obtain ⟨i, hi⟩ := List.getElem?_of_mem hx
        have hil := (List.getElem?_eq_some_iff.1 hi).1
        exact HST.out.2 i x (by rw [← HE0.out]; exact hil) hi⟩, HST.out.1⟩
end Go.Proofs.YtlmcpkomjofcgaaGreatDoor
