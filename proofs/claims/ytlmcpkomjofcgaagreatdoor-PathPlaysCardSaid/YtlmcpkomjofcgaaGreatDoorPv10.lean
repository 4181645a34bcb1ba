/- Contracts: (*samovarref04.Reader).Left, Take, Bytes. The document's code, its lengths and distances, in plain numbers. Contracts: samovarref05.longest, Next. Contract: samovarref05.New. Contracts: samovarref06.Length, Distance, fixed. Contract: samovarref06.told. Contract: samovarref06.symbols. Contract: samovarref06.All. -/
import Derived.Test.YtlmcpkomjofcgaaGreatDoorPv5
import Derived.Test.YtlmcpkomjofcgaaGreatDoorPv4
import Derived.Test.YtlmcpkomjofcgaaGreatDoorPv3
import Derived.Laws.Tables
import Derived.Laws.Rows
import Derived.Test.YtlmcpkomjofcgaaGreatDoorPv6
import Derived.Laws.ResultCell
import Derived.Deep.DeepCutAuto
import Derived.Deep.WholeRow
namespace Go.Proofs.YtlmcpkomjofcgaaGreatDoor
open Go.RowKit

/-- The document's reader in block g: its bytes, how many bits were passed. -/
def RRd (w : World) (g : Nat) (b : List UInt8) (p : Nat) : Prop :=
  ∃ A c, Bk w g 106 #[.slice A b.length c, .int .i64 (p : Int)] ∧ RB w g A b ∧ b.length ≤ c ∧ p ≤ 8 * b.length ∧ b.length ≤ 1000000000
theorem RRd.lt {w : World} {g : Nat} {b : List UInt8} {p : Nat} (h : RRd w g b p) : g < w.heap.size := by obtain ⟨A, c, h1, _⟩ := h; exact h1.lt
theorem RRd.le {w : World} {g : Nat} {b : List UInt8} {p : Nat} (h : RRd w g b p) : p ≤ 8 * b.length ∧ b.length ≤ 1000000000 := by obtain ⟨A, c, _, _, _, h1⟩ := h; exact h1
theorem RRd.keep {w w' : World} {g : Nat} {b : List UInt8} {p : Nat} (h : RRd w g b p) (hk : ∀ i, i ≤ g → w'.heap[i]? = w.heap[i]?) : RRd w' g b p := by
  obtain ⟨A, c, h1, h2, r⟩ := h
  exact ⟨A, c, (hk g (Nat.le_refl _)).trans h1, Rd.keep h2 fun q hq => World.cell?_of_block (hk _ (by omega)), r⟩
theorem RRd.below {w w' : World} {g B : Nat} {b : List UInt8} {p : Nat} (h : RRd w g b p) (hb : Below B w w') (hB : g < B) : RRd w' g b p := h.keep fun i hi => hb.block i (by omega)
theorem RRd.step {w w' : World} {g : Nat} {b : List UInt8} {p : Nat} (h : RRd w g b p) (hb : Below w.heap.size w w') : RRd w' g b p := h.below hb h.lt
theorem RRd.grown {w w' : World} {g : Nat} {b : List UInt8} {p : Nat} {row : Option Nat} (h : RRd w g b p) (hb : w.grownBy w' row) (hr : ∀ k, row = some k → g < k) : RRd w' g b p :=
  h.keep fun i hi => hb.block i (by have := h.lt; omega) (fun e => by have := hr i e.symm; omega)
theorem RRd.set {w : World} {g : Nat} {b : List UInt8} {p q : Nat} (h : RRd w g b p) (hq : q ≤ 8 * b.length) : RRd (w.setCell ⟨g, 1, none⟩ (.int .i64 (q : Int))) g b q := by
  obtain ⟨A, c, h1, h2, h3, _, h5⟩ := h
  refine ⟨A, c, ?_, h2.setCell (by exact Nat.le_refl _) _, h3, hq, h5⟩
  have := h1.set 1 (.int .i64 (q : Int))
  simpa using this
set_option maxHeartbeats 1000000 in
theorem rleft_any (g : Nat) (b : List UInt8) (p : Nat) (w : World) (h : RRd w g b p) :
    Calls Tryz.prog 79 #[.pointer (some ⟨g, 0, none⟩)] w fun e w' => e = .returned (.int .i64 ((8 * b.length - p : Nat) : Int)) ∧ ∃ q, w' = w.drewN q := by
  have hle := h.le
  obtain ⟨A, c, h1, _⟩ := h
  have c0 : w.cell? ⟨g, 0, none⟩ = some (.slice A b.length c) := (h1.cell 0).trans rfl
  have c1 : w.cell? ⟨g, 1, none⟩ = some (.int .i64 (p : Int)) := (h1.cell 1).trans rfl
  have i1 : IntKind.i64.wrap (8 * (b.length : Int)) = 8 * (b.length : Int) := IntWalk.i64_in _ (by omega)
  have i2 : IntKind.i64.wrap (8 * (b.length : Int) - (p : Int)) = 8 * (b.length : Int) - (p : Int) := IntWalk.i64_in _ (by omega)
  clear h1
  go_enter Tryz.func79, Tryz.ntmps79
  go_wp2
  go_quiet (fail)
  rename_i nq
  go_wp2
  go_ret
  have hh : (8 * (b.length : Int) - (p : Int)) = ((8 * b.length - p : Nat) : Int) := by omega
  exact ⟨ret_v (by rw [← hh]; rfl), nq, rfl⟩
set_option maxHeartbeats 2000000 in
theorem rtake_short (g : Nat) (b : List UInt8) (p n : Nat) (w : World) (h : RRd w g b p) (hn : n ≤ 16) (hp : 8 * b.length < p + n) :
    Calls Tryz.prog 56 #[.pointer (some ⟨g, 0, none⟩), .int .i64 (n : Int)] w fun e w' => e = .returned (.tuple #[.int .i64 0, .int .i64 2]) ∧ Below w.heap.size w w' := by
  have hle := h.le
  have hgt : ((8 * b.length - p : Nat) : Int) < (n : Int) := by omega
  go_enter Tryz.func56, Tryz.ntmps56
  go_wp2_with fail
  refine (rleft_any g b p w h).mono ?_
  rintro e w1 ⟨rfl, q, rfl⟩
  go_wp2
  go_ret2
  exact ⟨rfl, below_drewN (Below.refl _ _) _⟩
set_option maxHeartbeats 4000000 in
theorem rtake_ok (g : Nat) (b : List UInt8) (p n : Nat) (w : World) (h : RRd w g b p) (hn : n ≤ 16) (hp : p + n ≤ 8 * b.length) :
    Calls Tryz.prog 56 #[.pointer (some ⟨g, 0, none⟩), .int .i64 (n : Int)] w fun e w' => e = .returned (.tuple #[.int .i64 (takeN b p n : Int), .int .i64 0]) ∧ RRd w' g b (p + n) ∧ w.grownBy w' (some g) := by
  have hle := h.le
  have hgt : ¬ ((8 * b.length - p : Nat) : Int) < (n : Int) := by omega
  go_enter Tryz.func56, Tryz.ntmps56
  go_wp2_with fail
  refine (rleft_any g b p w h).mono ?_
  rintro e w1 ⟨rfl, q0, rfl⟩
  have h0 : RRd (w.drewN q0) g b p := h
  have hg0 : w.grownBy (w.drewN q0) (some g) := gb_drewN (World.grownBy.refl w (some g)) q0
  clear h
  go_wp2_with fail
  clear hgt
  generalize w.drewN q0 = w1 at h0 hg0 ⊢
  go_loopg [6, 7, 8] n (fun κ v6 v7 v8 wr => ∃ i : Nat, κ = n - i ∧ i ≤ n ∧ v6 = .int .i64 (takeN b p i : Int) ∧ v7 = .int .i64 ((2 ^ i : Nat) : Int) ∧ v8 = .int .i64 (i : Int) ∧ RRd wr g b (p + i) ∧ w.grownBy wr (some g))
  case atStart => exact ⟨0, by omega, by omega, rfl, rfl, rfl, h0, hg0⟩
  case round =>
    clear h0 hg0
    obtain ⟨i, hgk, hi, rfl, rfl, rfl, hR, hG⟩ := hrel
    by_cases hin : i < n
    · obtain ⟨P, hP⟩ : ∃ P, p + i = P := ⟨_, rfl⟩
      have hP8 : P < 8 * b.length := by omega
      have hT : takeN b p (i + 1) = takeN b p i + 2 ^ i * bitAt b P := by rw [takeN, hP]
      have hlt := takeN_lt b p (i + 1)
      have hpw : (2 : Nat) ^ (i + 1) = 2 ^ i * 2 := Nat.pow_succ _ _
      have hp16 : (2 : Nat) ^ (i + 1) ≤ 2 ^ 16 := Nat.pow_le_pow_right (by decide) (by omega)
      rw [hP] at hR
      have HS := bx (hR.set (q := P + 1) (by omega))
      obtain ⟨A, c, h1, h2, _⟩ := id hR
      have c0 : wr.cell? ⟨g, 0, none⟩ = some (.slice A b.length c) := (h1.cell 0).trans rfl
      have c1 : wr.cell? ⟨g, 1, none⟩ = some (.int .i64 (P : Int)) := (h1.cell 1).trans rfl
      have f1 : wr.frozen? ⟨g, 1, none⟩ = false := h1.frz 1
      obtain ⟨ad, x, rfl, _, hx, hc⟩ := h2.byte (k := P / 8) (by omega)
      have hx8 := x.toNat_lt
      have j0 : IntKind.i64.wrap (x.toNat : Int) = (x.toNat : Int) := IntWalk.i64_in _ (by omega)
      go_upto_region 9 with (fail)
      go_quiet (fail)
      rename Nat => nq
      have hbit : bitAt b P = x.toNat / 2 ^ (P % 8) % 2 := by unfold bitAt; rw [List.getD_eq_getElem?_getD, hx.out]; rfl
      have HV : wrap64 ((takeN b p i : Int) + wrap64 (2 ^ i * ((x.toNat : Int) / 2 ^ (P % 8)).tmod 2)) = (takeN b p (i + 1) : Int) := by
        have e1 : ((x.toNat : Int) / 2 ^ (P % 8)).tmod 2 = (bitAt b P : Int) := by
          rw [hbit, Int.tmod_eq_emod_of_nonneg (Int.ediv_nonneg (by omega) (Int.le_of_lt (Int.pow_pos (by decide))))]
          simp
        have e2 : ((2 : Int) ^ i * (bitAt b P : Int)) = ((2 ^ i * bitAt b P : Nat) : Int) := by simp
        have hb1 := bitAt_lt b P
        have e3 : 2 ^ i * bitAt b P ≤ 2 ^ i * 1 := Nat.mul_le_mul (Nat.le_refl _) (by omega)
        rw [e1, e2, hT]
        obtain ⟨Q, hQ⟩ : ∃ Q, 2 ^ i * bitAt b P = Q := ⟨_, rfl⟩
        rw [hQ] at e3 hT ⊢
        rw [IntWalk.wrap64_in (Q : Int) (by omega), IntWalk.wrap64_in _ (by omega), Int.natCast_add]
      rw [HV]
      have hG1 := bx (gb_set (gb_drewN hG nq) 1 (.int .i64 ((P + 1 : Nat) : Int)))
      have HS2 : Bx (RRd ((wr.drewN nq).setCell ⟨g, 1, none⟩ (.int .i64 ((P + 1 : Nat) : Int))) g b (p + (i + 1))) := bx (by rw [show p + (i + 1) = P + 1 by omega]; exact HS.out)
      have c1' : (wr.drewN nq).cell? ⟨g, 1, none⟩ = some (.int .i64 (P : Int)) := c1
      have f1' : (wr.drewN nq).frozen? ⟨g, 1, none⟩ = false := f1
      have hP1 : ((P + 1 : Nat) : Int) = (P : Int) + 1 := by omega
      rw [hP1] at hG1 HS2
      have hpw2 : wrap64 (2 * 2 ^ i) = ((2 ^ (i + 1) : Nat) : Int) := by
        have e : ((2 : Int) * 2 ^ i) = ((2 ^ (i + 1) : Nat) : Int) := by
          rw [hpw, Nat.mul_comm]; simp
        rw [e]; exact IntWalk.wrap64_in _ (by omega)
      have HPW := bx hpw2
      clear HV hbit hT hlt HS hR h1 h2 c0 c1 f1 hx hc hG hpw2
      generalize wr.drewN nq = wz at hG1 HS2 c1' f1' ⊢
      go_wp2
      go_roundg (n - (i + 1))
      case rel => exact ⟨i + 1, rfl, by omega, rfl, by rw [HPW.out], by go_num, HS2.out, hG1.out⟩
      case measure => omega
    · obtain rfl : i = n := by omega
      go_wp2
      go_ret2
      exact ⟨rfl, hR, hG⟩
set_option maxHeartbeats 1000000 in
theorem rbytes_short (g : Nat) (b : List UInt8) (p n : Nat) (w : World) (h : RRd w g b p) (hn : n ≤ 100000) (hp : b.length < (p + 7) / 8 + n) :
    Calls Tryz.prog 57 #[.pointer (some ⟨g, 0, none⟩), .int .i64 (n : Int)] w fun e w' => e = .returned (.tuple #[.slice none 0 0, .int .i64 2]) ∧ w = w' := by
  have hle := h.le
  obtain ⟨A, c, h1, _⟩ := h
  have c0 : w.cell? ⟨g, 0, none⟩ = some (.slice A b.length c) := (h1.cell 0).trans rfl
  have c1 : w.cell? ⟨g, 1, none⟩ = some (.int .i64 (p : Int)) := (h1.cell 1).trans rfl
  have hgt : (b.length : Int) - ((p : Int) + 7) / 8 < (n : Int) := by omega
  have hgt2 : (b.length : Int) - (((p + 7) / 8 : Nat) : Int) < (n : Int) := by omega
  clear h1
  go_enter Tryz.func57, Tryz.ntmps57
  go_wp2
  go_ret2
  exact ⟨rfl, rfl⟩
set_option maxHeartbeats 2000000 in
theorem rbytes_ok (g : Nat) (b : List UInt8) (p n f : Nat) (w : World) (h : RRd w g b p) (hn : n ≤ 100000) (hf : (p + 7) / 8 = f) (hp : f + n ≤ b.length) :
    Calls Tryz.prog 57 #[.pointer (some ⟨g, 0, none⟩), .int .i64 (n : Int)] w fun e w' => ∃ A c, e = .returned (.tuple #[.slice A n c, .int .i64 0]) ∧ n ≤ c ∧ RB w' w'.heap.size A ((b.drop f).take n) ∧
      (∀ ad, A = some ad → w.heap.size ≤ ad.block) ∧ RRd w' g b (8 * (f + n)) ∧ w.grownBy w' (some g) := by
  have hle := h.le
  obtain ⟨A, c, h1, h2, h3, _⟩ := id h
  have c0 : w.cell? ⟨g, 0, none⟩ = some (.slice A b.length c) := (h1.cell 0).trans rfl
  have c1 : w.cell? ⟨g, 1, none⟩ = some (.int .i64 (p : Int)) := (h1.cell 1).trans rfl
  have f1 : w.frozen? ⟨g, 1, none⟩ = false := h1.frz 1
  have hff : ((p : Int) + 7) / 8 = (f : Int) := by omega
  have hfl : (f : Int) ≤ (b.length : Int) := by omega
  have hgl := h.lt
  have hS : RRd (w.setCell ⟨g, 1, none⟩ (.int .i64 (8 * ((f : Int) + (n : Int))))) g b (8 * (f + n)) := by
    have := h.set (q := 8 * (f + n)) (by omega)
    rwa [show (((8 * (f + n) : Nat)) : Int) = 8 * ((f : Int) + (n : Int)) by omega] at this
  have HG := Lib.hid (gb_set (World.grownBy.refl w (some g)) 1 (.int .i64 (8 * ((f : Int) + (n : Int)))))
  have c2 : ((w.setCell ⟨g, 1, none⟩ (.int .i64 (8 * ((f : Int) + (n : Int))))).alloc (.cells #[] 5)).cell? ⟨g, 0, none⟩ = some (.slice A b.length c) := by
    rw [World.cell?_alloc_lt _ _ _ (by show g < _; simpa [World.setCell] using hgl)]
    exact (World.cell?_setCell_other w ⟨g, 1, none⟩ ⟨g, 0, none⟩ _ (by simp)).trans c0
  have hr2 : RB (w.setCell ⟨g, 1, none⟩ (.int .i64 (8 * ((f : Int) + (n : Int))))) g A b := h2.setCell (by exact Nat.le_refl _) _
  have hsz : (w.setCell ⟨g, 1, none⟩ (.int .i64 (8 * ((f : Int) + (n : Int))))).heap.size = w.heap.size := by simp [World.setCell]
  have hcut := (hr2.cut (k := f) (cap := c) (by omega)).take n
  have HN : Hid ((([] : List UInt8).length + ((b.drop f).take n).length) * 1 ≤ 140737488355328) := Lib.hid (by simp; omega)
  have HL : Hid (((b.drop f).take n).length = n) := Lib.hid (by simp; omega)
  have HSZ := Lib.hid hsz
  clear h1 hr2 hsz
  have HL2 : Hid (((b.drop f).take n).length = f + n - f) := Lib.hid (by simp; omega)
  have HE : Hid (f + n - f = n) := Lib.hid (by omega)
  have hdisj : (c = f ∧ RL bV (w.setCell ⟨g, 1, none⟩ (.int .i64 (8 * ((f : Int) + (n : Int))))) g A ((b.drop f).take n)) ∨ (¬ c = f ∧ RL bV (w.setCell ⟨g, 1, none⟩ (.int .i64 (8 * ((f : Int) + (n : Int))))) g (A.map (·.add f)) ((b.drop f).take n)) := by
    by_cases e : c = f
    · rw [if_pos e] at hcut; exact .inl ⟨e, hcut⟩
    · rw [if_neg e] at hcut; exact .inr ⟨e, hcut⟩
  clear hcut
  have fin : ∀ (v1 : Value) (w1 : World), OwL bV w1 w.heap.size 5 v1 ([] ++ (b.drop f).take n) → Below w.heap.size ((w.setCell ⟨g, 1, none⟩ (.int .i64 (8 * ((f : Int) + (n : Int))))).alloc (.cells #[] 5)) w1 →
      ∃ A c, v1 = .slice A n c ∧ n ≤ c ∧ RB w1 w1.heap.size A ((b.drop f).take n) ∧ (∀ ad, A = some ad → w.heap.size ≤ ad.block) ∧ RRd w1 g b (8 * (f + n)) ∧ w.grownBy w1 (some g) := by
    intro v1 w1 hown hb1
    rw [List.nil_append] at hown
    obtain ⟨A1, c1, rfl, hr1, hc1, _⟩ := OwL.rd hown
    refine ⟨A1, c1, by rw [HL.out], by rw [← HL.out]; exact hc1, hr1, fun ad had => ?_, ?_, ?_⟩
    · subst had; exact (World.ownsRow.lt hown ad.block rfl).1
    · refine RRd.below ?_ hb1 hgl
      exact hS.keep fun i hi => Below.heap_alloc _ _ i (by rw [HSZ.out]; omega)
    · exact gb_past (gb_alloc HG.out _) hb1 (Nat.le_refl _)
  rcases hdisj with ⟨hcf, hcut⟩ | ⟨hcf, hcut⟩
  · go_enter Tryz.func57, Tryz.ntmps57
    go_wp2_with (at_builtin; refine wpList_appL _ bV_one rfl (.tmp 31) (.tmp 40) rfl byteTy (by decide) w.heap.size _ [] rfl ?c0 g _ (f + n - f) _ ((b.drop f).take n) rfl HL2.out ?c1 HN.out ?c2 ?_)
    case c0 => have := OwL.lit0 (f := bV) (e := 5) (base := w.heap.size) (w.setCell ⟨g, 1, none⟩ (.int .i64 (8 * ((f : Int) + (n : Int))))) (by rw [HSZ.out]; exact Nat.le_refl _); rw [HSZ.out] at this; exact this
    case c1 => exact RL.alloc hcut (by rw [HSZ.out]; omega) _
    case c2 => exact le_alloc0 (by rw [HSZ.out]; exact Nat.le_refl _) _
    intro v1 w1 hown _ _ hb1
    obtain ⟨A1, c1, rfl, r⟩ := fin v1 w1 hown hb1
    go_wp2
    go_ret2
    exact ⟨A1, c1, rfl, r⟩
  · go_enter Tryz.func57, Tryz.ntmps57
    go_wp2_with (at_builtin; refine wpList_appL _ bV_one rfl (.tmp 31) (.tmp 40) rfl byteTy (by decide) w.heap.size _ [] rfl ?c3 g _ (f + n - f) _ ((b.drop f).take n) rfl HL2.out ?c4 HN.out ?c5 ?_)
    case c3 => have := OwL.lit0 (f := bV) (e := 5) (base := w.heap.size) (w.setCell ⟨g, 1, none⟩ (.int .i64 (8 * ((f : Int) + (n : Int))))) (by rw [HSZ.out]; exact Nat.le_refl _); rw [HSZ.out] at this; exact this
    case c4 => exact RL.alloc hcut (by rw [HSZ.out]; omega) _
    case c5 => exact le_alloc0 (by rw [HSZ.out]; exact Nat.le_refl _) _
    intro v1 w1 hown _ _ hb1
    obtain ⟨A1, c1, rfl, r⟩ := fin v1 w1 hown hb1
    go_wp2
    go_ret2
    exact ⟨A1, c1, rfl, r⟩
end Go.Proofs.YtlmcpkomjofcgaaGreatDoor
namespace Go.Proofs.YtlmcpkomjofcgaaGreatDoor

/-- How much of the code's room one length takes. -/
def kOne (a n : Nat) : Nat := if 0 < a ∧ a ≤ n then 2 ^ (n - a) else 0
def kSum (l : List Nat) : Nat := (l.map fun a => kOne a 15).sum
theorem cnt_snoc (l : List Nat) (a n : Nat) : cntP (l ++ [a]) n = cntP l n + (if n = a ∧ 0 < a then 1 else 0) := by
  unfold cntP
  by_cases h0 : n = 0
  · rw [if_pos h0, if_pos h0, if_neg (by omega)]
  · rw [if_neg h0, if_neg h0, List.count_append, List.count_singleton]
    by_cases h : n = a
    · subst h; simp; omega
    · have h' : ¬ a = n := fun e => h e.symm
      simp [h, h']
theorem kraft_snoc (l : List Nat) (a : Nat) : ∀ n, kraftTo (l ++ [a]) n = kraftTo l n + kOne a n := by
  intro n
  induction n with
  | zero => unfold kOne; rw [if_neg (by omega)]; rfl
  | succ n ih =>
    simp only [kraftTo]
    rw [ih, cnt_snoc]
    unfold kOne
    by_cases h1 : 0 < a ∧ a ≤ n
    · rw [if_pos h1, if_neg (by omega), if_pos (by omega), show n + 1 - a = (n - a) + 1 by omega, Nat.pow_succ]; omega
    · rw [if_neg h1]
      by_cases h2 : n + 1 = a
      · subst h2; rw [if_pos (by omega), if_pos (by omega), Nat.sub_self, Nat.pow_zero]; omega
      · rw [if_neg (by omega), if_neg (by omega)]; omega
theorem kraft_nil : ∀ n, kraftTo [] n = 0 := by
  intro n
  induction n with
  | zero => rfl
  | succ n ih => simp only [kraftTo, ih]; unfold cntP; split <;> simp
theorem kSum_snoc (l : List Nat) (a : Nat) : kSum (l ++ [a]) = kSum l + kOne a 15 := by
  unfold kSum; rw [List.map_append, List.sum_append]; simp
theorem kSum_take {l : List Nat} {k m : Nat} (hk : l[k]? = some m) : kSum (l.take (k + 1)) = kSum (l.take k) + kOne m 15 := by
  rw [List.take_add_one, hk, Option.toList_some, kSum_snoc]
theorem kSum_eq (l : List Nat) : kSum l = kraftTo l 15 := by
  suffices ∀ k, kSum (l.take k) = kraftTo (l.take k) 15 by have := this l.length; rwa [List.take_length] at this
  intro k
  induction k with
  | zero => rw [List.take_zero, kraft_nil]; rfl
  | succ k ih =>
    cases hk : l[k]? with
    | none => rw [List.take_add_one, hk, Option.toList_none, List.append_nil]; exact ih
    | some m => rw [List.take_add_one, hk, Option.toList_some, kSum_snoc, kraft_snoc, ih]
theorem kSum_le (l : List Nat) : kSum l ≤ l.length * 16384 := by
  suffices ∀ k, k ≤ l.length → kSum (l.take k) ≤ k * 16384 by have := this l.length (Nat.le_refl _); rwa [List.take_length] at this
  intro k
  induction k with
  | zero => intro _; rw [List.take_zero]; exact Nat.le_refl _
  | succ k ih =>
    intro h
    rw [kSum_take (List.getElem?_eq_getElem (by omega : k < l.length))]
    have := ih (by omega)
    have h1 : kOne l[k] 15 ≤ 16384 := by
      unfold kOne; split
      · have : 2 ^ (15 - l[k]) ≤ 2 ^ 14 := Nat.pow_le_pow_right (by decide) (by omega)
        omega
      · omega
    omega
theorem ones_take {l : List Nat} {k m : Nat} (hk : l[k]? = some m) : (l.take (k + 1)).count 1 = (l.take k).count 1 + (if m = 1 then 1 else 0) := by
  rw [List.take_add_one, hk, Option.toList_some, List.count_append, List.count_singleton]
  by_cases h : m = 1
  · subst h; simp
  · have : ¬ 1 = m := fun e => h e.symm
    simp [h]
/-- The symbols that have words of n bits; none has a word of none. -/
def synV (l : List Nat) (n : Nat) : List Nat := if n = 0 then [] else symsP l l.length n
def synK (l : List Nat) (k n : Nat) : List Nat := if n = 0 then [] else symsP l k n
theorem syn_len (l : List Nat) (n : Nat) : (synV l n).length = cntP l n := by
  unfold synV cntP
  split
  · rfl
  · rw [symsP_len]
theorem syn_at {l : List Nat} {n c : Nat} : symAt l n c = if firstP l n ≤ c then (synV l n)[c - firstP l n]? else none := by
  unfold symAt symK synV
  by_cases h : n = 0
  · rw [if_pos h, if_pos h]; split <;> simp
  · rw [if_neg h, if_neg h]
theorem first_fits {l : List Nat} (h : kraftTo l 15 ≤ 32768) {n : Nat} (hn : n ≤ 15) : firstP l n ≤ 32768 := by
  have h1 := first_bound h hn
  have h2 : (2 : Nat) ^ n ≤ 2 ^ 15 := Nat.pow_le_pow_right (by decide) hn
  omega
theorem mem_le_most {l : List Nat} {x : Nat} (hx : x ∈ l) : x ≤ mostP l := by
  unfold mostP
  suffices ∀ a, a ≤ List.foldl max a l ∧ ∀ x ∈ l, x ≤ List.foldl max a l from (this 0).2 x hx
  clear hx
  induction l with
  | nil => intro a; exact ⟨Nat.le_refl _, fun x hx => by cases hx⟩
  | cons b l ih =>
    intro a
    rw [List.foldl_cons]
    have h := ih (max a b)
    refine ⟨by omega, fun x hx => ?_⟩
    rcases List.mem_cons.1 hx with e | e
    · subst e; omega
    · exact h.2 x e
theorem most_le {l : List Nat} {k : Nat} (h : ∀ x ∈ l, x ≤ k) : mostP l ≤ k := by
  unfold mostP
  suffices ∀ a, a ≤ k → List.foldl max a l ≤ k from this 0 (by omega)
  induction l with
  | nil => intro a ha; exact ha
  | cons b l ih =>
    intro a ha
    rw [List.foldl_cons]
    exact ih (fun x hx => h x (List.mem_cons_of_mem _ hx)) _ (by have := h b List.mem_cons_self; omega)
theorem most_is {l : List Nat} (h15 : ∀ x ∈ l, x ≤ 15) {k : Nat} (hk : ∀ j, k < j → j ≤ 15 → (synV l j).length = 0) (h : k = 0 ∨ (synV l k).length ≠ 0) : mostP l = k := by
  apply Nat.le_antisymm
  · refine most_le fun x hx => ?_
    rcases Nat.lt_or_ge k x with hlt | hge
    · have h1 := hk x hlt (h15 x hx)
      rw [syn_len] at h1
      unfold cntP at h1
      rw [if_neg (by omega)] at h1
      exact absurd hx (List.count_eq_zero.1 h1)
    · exact hge
  · rcases h with rfl | h
    · exact Nat.zero_le _
    · rw [syn_len] at h
      unfold cntP at h
      split at h
      · exact absurd rfl h
      · exact mem_le_most (List.count_pos_iff.1 (by omega))
theorem len_step : ∀ k, 257 ≤ k → k < 284 → (lenP (k + 1)).1 = (lenP k).1 + 2 ^ (lenP k).2 := by
  have key : ∀ k, k < 284 → 257 ≤ k → (lenP (k + 1)).1 = (lenP k).1 + 2 ^ (lenP k).2 := by decide +kernel
  exact fun k h1 h2 => key k h2 h1
theorem len_more : ∀ k, 257 ≤ k → k < 285 → (lenP k).2 = if 265 ≤ k then 1 + (k - 265) / 4 else 0 := by
  have key : ∀ k, k < 285 → 257 ≤ k → (lenP k).2 = if 265 ≤ k then 1 + (k - 265) / 4 else 0 := by decide +kernel
  exact fun k h1 h2 => key k h2 h1
theorem len_bd : ∀ k, 257 ≤ k → k < 286 → (lenP k).1 ≤ 258 ∧ (lenP k).2 ≤ 5 ∧ 3 ≤ (lenP k).1 := by
  have key : ∀ k, k < 286 → 257 ≤ k → (lenP k).1 ≤ 258 ∧ (lenP k).2 ≤ 5 ∧ 3 ≤ (lenP k).1 := by decide +kernel
  exact fun k h1 h2 => key k h2 h1
theorem dst_step : ∀ k, k < 29 → (dstP (k + 1)).1 = (dstP k).1 + 2 ^ (dstP k).2 := by decide +kernel
theorem dst_more : ∀ k, k < 30 → (dstP k).2 = if 4 ≤ k then 1 + (k - 4) / 2 else 0 := by decide +kernel
theorem dst_bd : ∀ k, k < 30 → (dstP k).1 ≤ 24577 ∧ (dstP k).2 ≤ 13 ∧ 1 ≤ (dstP k).1 := by decide +kernel
end Go.Proofs.YtlmcpkomjofcgaaGreatDoor
namespace Go.Proofs.YtlmcpkomjofcgaaGreatDoor
open Go.RowKit

/-- The document's code, as the cells cs: its rows lie in the blocks from lo to hi. -/
def RCd (w : World) (lo hi : Nat) (cs : Array Value) (l : List Nat) : Prop :=
  cs.size = 32 ∧ (lo ≤ hi ∧ hi ≤ w.heap.size) ∧ (∀ i, i < 16 → cs[i]? = some (.int .i64 (firstP l i : Int))) ∧
    (∀ i, i < 16 → ∃ A c, cs[16 + i]? = some (.slice A (synV l i).length c) ∧ RN w hi A (synV l i) ∧ (∀ ad, A = some ad → lo ≤ ad.block)) ∧ mostP l ≤ 15 ∧ kraftTo l 15 ≤ 32768 ∧ (∀ x ∈ l, x ≤ 15) ∧ l.length ≤ 288
section
variable {w w' : World} {lo hi : Nat} {cs : Array Value} {l : List Nat}
theorem RCd.keep (h : RCd w lo hi cs l) (hk : ∀ i, lo ≤ i → i < hi → w'.heap[i]? = w.heap[i]?) (hs : w.heap.size ≤ w'.heap.size) : RCd w' lo hi cs l := by
  obtain ⟨h1, h2, h3, h4, h5⟩ := h
  refine ⟨h1, ⟨h2.1, by omega⟩, h3, fun i hi' => ?_, h5⟩
  obtain ⟨A, c, a1, a2, a3⟩ := h4 i hi'
  refine ⟨A, c, a1, fun hn => ?_, a3⟩
  obtain ⟨ad, e, hb, hc⟩ := a2 hn
  exact ⟨ad, e, hb, fun j u hu => (World.cell?_of_block (by rw [blk_add]; exact hk _ (a3 ad e) hb)).trans (hc j u hu)⟩
theorem RCd.below {B : Nat} (h : RCd w lo hi cs l) (hb : Below B w w') (hB : hi ≤ B) : RCd w' lo hi cs l := h.keep (fun i _ h2 => hb.block i (by omega)) hb.size
theorem RCd.step (h : RCd w lo hi cs l) (hb : Below w.heap.size w w') : RCd w' lo hi cs l := h.below hb h.2.1.2
theorem RCd.grown {row : Option Nat} (h : RCd w lo hi cs l) (hb : w.grownBy w' row) (hr : ∀ k, row = some k → k < lo ∨ hi ≤ k) : RCd w' lo hi cs l :=
  h.keep (fun i h1 h2 => hb.block i (by have := h.2.1; omega) (fun e => by have := hr i e.symm; omega)) hb.size
theorem RCd.drewN (h : RCd w lo hi cs l) (n : Nat) : RCd (w.drewN n) lo hi cs l := h
end
set_option maxRecDepth 100000 in
set_option maxHeartbeats 1000000 in
theorem rlongest_any (lo hi : Nat) (cs : Array Value) (l : List Nat) (w : World) (hC : RCd w lo hi cs l) :
    Calls Tryz.prog 95 #[.agg cs] w fun e w' => e = .returned (.int .i64 (mostP l : Int)) ∧ Below w.heap.size w w' := by
  obtain ⟨h1, h2, h3, h4, h5, h6, h7, h8⟩ := hC
  obtain ⟨M, hM⟩ : ∃ M, mostP l = M := ⟨_, rfl⟩
  have HMOST := fun (k : Nat) (a : ∀ j, k < j → j ≤ 15 → (synV l j).length = 0) (b : k = 0 ∨ (synV l k).length ≠ 0) => (most_is h7 a b).symm.trans hM
  rw [hM]
  have HM := bx HMOST
  have H4 := bx h4
  obtain ⟨g, hg⟩ : ∃ g, w.heap.size = g := ⟨_, rfl⟩
  have hK : Bk (w.alloc (.cells cs 116)) g 116 cs := Bk.newAt _ _ _ hg
  have hB : Below w.heap.size w (w.alloc (.cells cs 116)) := bl_alloc (Below.refl _ _) (Nat.le_refl _) _
  clear h3 h4 h5 h6 h7 h8 HMOST hM
  go_enter Tryz.func95, Tryz.ntmps95
  go_wp2_with fail
  clear hg
  generalize w.alloc (.cells cs 116) = w1 at hK hB ⊢
  go_loopg [3] 15 (fun κ v3 wr => ∃ k : Nat, κ = k ∧ k ≤ 15 ∧ v3 = .int .i64 (k : Int) ∧ Bx (∀ j, k < j → j ≤ 15 → (synV l j).length = 0) ∧ w1 = wr)
  case atStart => exact ⟨15, by omega, by omega, rfl, ⟨fun j a b => by omega⟩, rfl⟩
  case round =>
    obtain ⟨k, hgk, hk, rfl, HZ, rfl⟩ := hrel
    by_cases h0 : k = 0
    · subst h0
      have HF : Bx (M = 0) := bx (HM.out 0 HZ.out (.inl rfl)).symm
      go_wp2
      go_ret
      exact ⟨by rw [HF.out]; rfl, hB⟩
    · obtain ⟨A, c, hcs, _, _⟩ := H4.out k (by omega)
      have c0 : w1.cell? ⟨g, 16 + k, none⟩ = some (.slice A (synV l k).length c) := (hK.cell (16 + k)).trans hcs
      have hk0 : (0 : Int) < (k : Int) := by omega
      clear hcs
      obtain ⟨L, hL⟩ : ∃ L, (synV l k).length = L := ⟨_, rfl⟩
      rw [hL] at c0
      by_cases hz : L = 0
      · have hzb : ((L : Int) == 0) = true := by rw [hz]; rfl
        have HZ2 : Bx (∀ j, k - 1 < j → j ≤ 15 → (synV l j).length = 0) := bx (fun j a b => by
          rcases Nat.lt_or_ge k j with h | h
          · exact HZ.out j h b
          · obtain rfl : j = k := by omega
            rw [hL, hz])
        clear hz hL HZ
        go_wp2
        go_roundg (k - 1)
        case rel => exact ⟨k - 1, rfl, by omega, by go_num, HZ2, rfl⟩
        case measure => omega
      · have hzb : ((L : Int) == 0) = false := by rw [beq_eq_false_iff_ne]; omega
        have HF : Bx (M = k) := bx (HM.out k HZ.out (.inr (by rw [hL]; exact hz))).symm
        clear hL HZ
        go_wp2
        go_ret
        exact ⟨by rw [HF.out]; rfl, hB⟩
theorem info_code : (Tryz.prog.info? 116).map (·.size) = some 32 := by kernel_rfl
/-- What Next answers. -/
def RNxPost (R : Rz (Nat × Nat)) (w : World) (gr : Nat) (b : List UInt8) (e : Ending) (w' : World) : Prop :=
  w.grownBy w' (some gr) ∧ match R with
    | .ok x => e = .returned (.tuple #[.int .i64 (x.1 : Int), .int .i64 0]) ∧ RRd w' gr b x.2
    | .err k => e = .returned (.tuple #[.int .i64 0, .int .i64 k])
theorem rnxPost_ok {R : Rz (Nat × Nat)} {w w' : World} {gr : Nat} {b : List UInt8} {s p : Nat} (h : R = .ok (s, p)) (hg : w.grownBy w' (some gr)) (hB : RRd w' gr b p) : RNxPost R w gr b (.returned (.tuple #[.int .i64 (s : Int), .int .i64 0])) w' := by
  subst h; exact ⟨hg, rfl, hB⟩
theorem rnxPost_err {R : Rz (Nat × Nat)} {w w' : World} {gr : Nat} {b : List UInt8} {k : Int} (h : R = .err k) (hg : w.grownBy w' (some gr)) : RNxPost R w gr b (.returned (.tuple #[.int .i64 0, .int .i64 k])) w' := by
  subst h; exact ⟨hg, rfl⟩
set_option maxRecDepth 100000 in
set_option maxHeartbeats 4000000 in
theorem rnext_any (lo hi gr : Nat) (cs : Array Value) (l : List Nat) (b : List UInt8) (p : Nat) (w : World) (hC : RCd w lo hi cs l) (hR : RRd w gr b p) (hlo : gr < lo) :
    Calls Tryz.prog 80 #[.agg cs, .pointer (some ⟨gr, 0, none⟩)] w (RNxPost (nextP l b p) w gr b) := by
  obtain ⟨R, hRR⟩ : ∃ R, nextP l b p = R := ⟨_, rfl⟩
  rw [hRR]
  have HR : Bx (R = nextF l b (mostP l - 0) 0 0 p) := bx (by rw [← hRR]; rfl)
  obtain ⟨g, hg⟩ : ∃ g, w.heap.size = g := ⟨_, rfl⟩
  have hcz := hC.1
  have hK : Bk (w.alloc (.cells cs 116)) g 116 cs := Bk.newAt _ _ _ hg
  have hB := bl_alloc (Below.refl w.heap.size w) (Nat.le_refl _) (.cells cs 116)
  have hC1 := hC.step hB
  have hR1 := hR.step hB
  have hG1 := gb_alloc (World.grownBy.refl w (some gr)) (.cells cs 116)
  have hgg : gr < g := by rw [← hg]; exact hR.lt
  clear hRR hC hR hB
  go_enter Tryz.func80, Tryz.ntmps80
  go_wp2_with (refine wpList_load_row rfl 116 (.tmp 2) rfl g rfl _ cs _ _ hK Tryz.underlying116 rfl (by rw [hcz]; exact info_code) ?_)
  refine (rlongest_any lo hi cs l _ hC1).mono ?_
  rintro e w2 ⟨rfl, hB2⟩
  obtain ⟨M, hM⟩ : ∃ M, mostP l = M := ⟨_, rfl⟩
  obtain ⟨q1, q2, q3, q4, q5, q6, q7, q8⟩ := id hC1
  rw [hM] at q5
  have HM := bx hM
  have H3 := bx q3
  have H6 := bx q6
  have HR2 : Bx (R = nextF l b (M - 0) 0 0 p) := bx (by rw [← HM.out]; exact HR.out)
  have hC2 := hC1.step hB2
  have hR2 := hR1.step hB2
  have hK2 := hK.below hB2 hK.lt
  have hG2 := gb_then hG1 hB2
  rw [hM]
  clear q1 q2 q3 q4 q6 q7 q8 hC1 hR1 hK hG1 hB2 hg hM HR
  go_wp2_with fail
  go_loopg [7, 8, 9, 10] M (fun κ v7 v8 _ _ wr => ∃ n c q : Nat, κ = M - n ∧ n ≤ M ∧ c < 2 ^ n ∧ v7 = .int .i64 (c : Int) ∧ v8 = .int .i64 (n : Int) ∧ Bk wr g 116 cs ∧ RRd wr gr b q ∧ RCd wr lo hi cs l ∧ w.grownBy wr (some gr) ∧ Bx (R = nextF l b (M - n) n c q))
  case atStart => exact ⟨0, 0, p, by omega, by omega, by decide, rfl, rfl, hK2, hR2, hC2, hG2, HR2⟩
  case round =>
    clear hK2 hR2 hC2 hG2 HR2
    obtain ⟨n, c, q, hgk, hn, hc, rfl, rfl, hK, hR, hC, hG, hgo⟩ := hrel
    by_cases hnm : n < M
    · have hf : M - n = (M - (n + 1)) + 1 := by omega
      have HGO : Bx (R = nextF l b ((M - (n + 1)) + 1) n c q) := bx (hf ▸ hgo.out)
      clear hf hgo
      have hnI : (n : Int) < (M : Int) := by omega
      by_cases hq : q + 1 ≤ 8 * b.length
      · have hp15 : (2 : Nat) ^ n ≤ 2 ^ 15 := Nat.pow_le_pow_right (by decide) (by omega)
        go_wp2_with fail
        refine (rtake_ok gr b q 1 wr hR (by omega) hq).mono ?_
        rintro e w3 ⟨rfl, hR3, hg3⟩
        have hK3 := hK.grown hg3 (fun e => by injection e; omega)
        have hC3 := hC.grown hg3 (fun k hk => by injection hk; omega)
        have hG3 := gb_trans hG hg3
        obtain ⟨d, hd⟩ : ∃ d, bitAt b q = d := ⟨_, rfl⟩
        have ht1 : takeN b q 1 = d := by rw [takeN, takeN, Nat.add_zero, hd]; omega
        have hd2 : d < 2 := by rw [← hd]; exact bitAt_lt _ _
        rw [ht1]
        obtain ⟨W, hW⟩ : ∃ W, 2 * c + d = W := ⟨_, rfl⟩
        obtain ⟨N, hN⟩ : ∃ N, n + 1 = N := ⟨_, rfl⟩
        have hN16 : N < 16 := by omega
        obtain ⟨F, hF⟩ : ∃ F, firstP l N = F := ⟨_, rfl⟩
        have hFb := first_fits H6.out (n := N) (by omega)
        rw [hF] at hFb
        obtain ⟨_, _, q3, q4, _⟩ := id hC3
        obtain ⟨A, cc, hcs, hrow, _⟩ := q4 N hN16
        have c0 : w3.cell? ⟨g, N, none⟩ = some (.int .i64 (F : Int)) := by rw [hK3.cell N, q3 N hN16, hF]
        have c1 : w3.cell? ⟨g, 16 + N, none⟩ = some (.slice A (synV l N).length cc) := (hK3.cell (16 + N)).trans hcs
        obtain ⟨L, hL⟩ : ∃ L, (synV l N).length = L := ⟨_, rfl⟩
        rw [hL] at c1
        have hWI : 2 * (c : Int) + (d : Int) = (W : Int) := by omega
        have hNI : (n : Int) + 1 = (N : Int) := by omega
        have HWI := bx hWI
        have HNI := bx hNI
        have HWc := bx hW
        have HNc := bx hN
        have hWb : W < 65536 := by omega
        have hsym : symAt l (n + 1) (2 * c + bitAt b q) = if F ≤ W then (synV l N)[W - F]? else none := by rw [hN, hd, hW, syn_at, hF]
        clear q3 q4 hcs hK hR hC hG hg3 ht1 hF hWI hNI hW hN
        go_upto_region 8 with (fail)
        rw [HWI.out, HNI.out]
        by_cases hFW : F ≤ W
        · rw [if_pos hFW] at hsym
          have hFI : (F : Int) ≤ (W : Int) := by omega
          obtain ⟨X, hX⟩ : ∃ X, W - F = X := ⟨_, rfl⟩
          rw [hX] at hsym
          have iX : IntKind.i64.wrap ((W : Int) - (F : Int)) = (X : Int) := by rw [show (W : Int) - (F : Int) = (X : Int) by omega]; exact IntWalk.i64_in _ (by omega)
          by_cases hXL : X < L
          · obtain ⟨ad, s, rfl, _, hs, hcs⟩ := RL.atl hrow (k := X) (by rw [hL]; exact hXL)
            have hcs' : w3.cell? (ad.add X) = some (.int .i64 (s : Int)) := hcs
            rw [hs.out] at hsym
            have HF : Bx (R = .ok (s, q + 1)) := bx (by rw [HGO.out, nextF_hit hq hsym])
            have hXI : (X : Int) < (L : Int) := by omega
            have hX0 : (0 : Int) ≤ (X : Int) := by omega
            clear hsym HGO hcs hL hX hs
            go_quiet (fail)
            rename Nat => nq
            have c0' : (w3.drewN nq).cell? ⟨g, N, none⟩ = some (.int .i64 (F : Int)) := c0
            have c1' : (w3.drewN nq).cell? ⟨g, 16 + N, none⟩ = some (.slice (some ad) L cc) := c1
            have hcs2 : (w3.drewN nq).cell? (ad.add X) = some (.int .i64 (s : Int)) := hcs'
            have hR4 : RRd (w3.drewN nq) gr b (q + 1) := hR3
            have hG4 := gb_drewN hG3 nq
            clear c0 c1 hcs' hR3 hG3 hK3 hC3 hrow
            generalize w3.drewN nq = w4 at c0' c1' hcs2 hR4 hG4 ⊢
            go_upto_region 9 with (fail)
            go_quiet (fail)
            rename Nat => nq2
            have hR5 : RRd (w4.drewN nq2) gr b (q + 1) := hR4
            have hG5 := gb_drewN hG4 nq2
            clear c0' c1' hcs2 hR4 hG4
            go_wp2
            go_ret2
            exact rnxPost_ok HF.out hG5 hR5
          · have hXI : ¬ (X : Int) < (L : Int) := by omega
            have hnone : (synV l N)[X]? = none := List.getElem?_eq_none (by rw [hL]; omega)
            rw [hnone] at hsym
            have HF : Bx (R = nextF l b (M - (n + 1)) (n + 1) (2 * c + bitAt b q) (q + 1)) := bx (by rw [HGO.out, nextF_miss hq hsym])
            clear hsym HGO hL hX hnone
            go_quiet (fail)
            rename Nat => nq
            have hR4 : RRd (w3.drewN nq) gr b (q + 1) := hR3
            have hG4 := gb_drewN hG3 nq
            have hK4 := hK3.drewN nq
            have hC4 := hC3.drewN nq
            clear c0 c1 hR3 hG3 hK3 hC3 hrow iX
            generalize w3.drewN nq = w4 at hR4 hG4 hK4 hC4 ⊢
            go_wp2
            go_roundg (M - (n + 1))
            case rel => exact ⟨n + 1, 2 * c + bitAt b q, q + 1, rfl, by omega, by rw [hd, HWc.out]; have := HWc.out; rw [Nat.pow_succ]; omega, by rw [hd, HWc.out], by rw [HNc.out], hK4, hR4, hC4, hG4, HF⟩
            case measure => omega
        · rw [if_neg hFW] at hsym
          have hFI : ¬ (F : Int) ≤ (W : Int) := by omega
          have HF : Bx (R = nextF l b (M - (n + 1)) (n + 1) (2 * c + bitAt b q) (q + 1)) := bx (by rw [HGO.out, nextF_miss hq hsym])
          clear hsym HGO hL
          go_quiet (fail)
          rename Nat => nq
          have hR4 : RRd (w3.drewN nq) gr b (q + 1) := hR3
          have hG4 := gb_drewN hG3 nq
          have hK4 := hK3.drewN nq
          have hC4 := hC3.drewN nq
          clear c0 c1 hR3 hG3 hK3 hC3 hrow
          generalize w3.drewN nq = w4 at hR4 hG4 hK4 hC4 ⊢
          go_wp2
          go_roundg (M - (n + 1))
          case rel => exact ⟨n + 1, 2 * c + bitAt b q, q + 1, rfl, by omega, by rw [hd, HWc.out]; have := HWc.out; rw [Nat.pow_succ]; omega, by rw [hd, HWc.out], by rw [HNc.out], hK4, hR4, hC4, hG4, HF⟩
          case measure => omega
      · have HF : Bx (R = .err 2) := bx (by rw [HGO.out, nextF_short (by omega)])
        go_wp2_with fail
        refine (rtake_short gr b q 1 wr hR (by omega) (by omega)).mono ?_
        rintro e w3 ⟨rfl, hb3⟩
        have hG3 := gb_then hG hb3
        go_wp2
        go_ret2
        exact rnxPost_err HF.out hG3
    · obtain rfl : n = M := by omega
      have HF : Bx (R = .err 6) := bx (by rw [hgo.out, Nat.sub_self]; rfl)
      go_wp2
      go_ret2
      exact rnxPost_err HF.out hG
end Go.Proofs.YtlmcpkomjofcgaaGreatDoor
namespace Go.Proofs.YtlmcpkomjofcgaaGreatDoor
open Go.RowKit

theorem results_code (tmps : Array Value) (w : World) (g : Nat) (cs : Array Value) (h4 : tmps.getD 4 undef = .pointer (some ⟨g, 0, none⟩)) (hk : Bk w g 116 cs) (hs : cs.size = 32) :
    (results Tryz.f60 tmps).run Tryz.prog w = .ok (.tuple #[.agg cs, tmps.getD 5 undef]) w := by
  rw [results_cell_tmp (p := 4) (u := 5) (ty := 116) Tryz.results60]
  have h4' : tmps[4]?.getD undef = .pointer (some ⟨g, 0, none⟩) := by simpa using h4
  have hl := run_loadVar_row (P := Tryz.prog) w g 116 116 cs (0, 0) _ hk Tryz.underlying116 rfl (by rw [hs]; exact info_code)
  simp [h4', asAddr, hl, Result.andThen]
def RNewPost (l : List Nat) (lone : Bool) (w : World) (e : Ending) (w' : World) : Prop :=
  Below w.heap.size w w' ∧ ∃ cs, cs.size = 32 ∧ cs.all (·.oneCell') = true ∧ if codeB l lone = true then ∃ lo hi, e = .returned (.tuple #[.agg cs, .int .i64 0]) ∧ RCd w' lo hi cs l ∧ w.heap.size ≤ lo else e = .returned (.tuple #[.agg cs, .int .i64 5])
def z32 : Array Value := #[.int .i64 0, .int .i64 0, .int .i64 0, .int .i64 0, .int .i64 0, .int .i64 0, .int .i64 0, .int .i64 0, .int .i64 0, .int .i64 0, .int .i64 0, .int .i64 0, .int .i64 0, .int .i64 0, .int .i64 0, .int .i64 0, .slice none 0 0, .slice none 0 0, .slice none 0 0, .slice none 0 0, .slice none 0 0, .slice none 0 0, .slice none 0 0, .slice none 0 0, .slice none 0 0, .slice none 0 0, .slice none 0 0, .slice none 0 0, .slice none 0 0, .slice none 0 0, .slice none 0 0, .slice none 0 0]
theorem z32_size : z32.size = 32 := rfl
theorem z32_one : z32.all (·.oneCell') = true := by kernel_rfl
theorem z32_at : ∀ i, i < 32 → z32[i]? = some (if i < 16 then .int .i64 0 else .slice none 0 0) := by
  intro i hi
  match i, hi with
  | 0, _ => rfl
  | 1, _ => rfl
  | 2, _ => rfl
  | 3, _ => rfl
  | 4, _ => rfl
  | 5, _ => rfl
  | 6, _ => rfl
  | 7, _ => rfl
  | 8, _ => rfl
  | 9, _ => rfl
  | 10, _ => rfl
  | 11, _ => rfl
  | 12, _ => rfl
  | 13, _ => rfl
  | 14, _ => rfl
  | 15, _ => rfl
  | 16, _ => rfl
  | 17, _ => rfl
  | 18, _ => rfl
  | 19, _ => rfl
  | 20, _ => rfl
  | 21, _ => rfl
  | 22, _ => rfl
  | 23, _ => rfl
  | 24, _ => rfl
  | 25, _ => rfl
  | 26, _ => rfl
  | 27, _ => rfl
  | 28, _ => rfl
  | 29, _ => rfl
  | 30, _ => rfl
  | 31, _ => rfl
  | i + 32, h => omega
/-- The code while it is made: of the bits up to k all words stand. -/
def nwC (l : List Nat) (k : Nat) (V : Nat → Value) (i : Nat) : Value := if i < 16 then (if i ≤ k then nV (firstP l i) else nV 0) else (if i - 16 ≤ k then V (i - 16) else .slice none 0 0)
def NwR (w : World) (g B : Nat) (l : List Nat) (k : Nat) (V : Nat → Value) : Prop := ∀ j, j ≤ k → ∃ A c, V j = .slice A (synV l j).length c ∧ RN w B A (synV l j) ∧ ∀ ad, A = some ad → g + 2 ≤ ad.block
theorem NwR.keep {w w' : World} {g B B' : Nat} {l : List Nat} {k : Nat} {V : Nat → Value} (h : NwR w g B l k V) (hk : ∀ i, g + 2 ≤ i → i < B → w'.heap[i]? = w.heap[i]?) (hB : B ≤ B') : NwR w' g B' l k V := fun j hj => by
  obtain ⟨A, c, h1, h2, h3⟩ := h j hj
  refine ⟨A, c, h1, fun hn => ?_, h3⟩
  obtain ⟨ad, e, hb, hc⟩ := h2 hn
  exact ⟨ad, e, by omega, fun j u hu => (World.cell?_of_block (by rw [blk_add]; exact hk _ (h3 ad e) hb)).trans (hc j u hu)⟩
set_option maxRecDepth 100000 in
set_option maxHeartbeats 8000000 in
theorem rnew_any (A : Option Addr) (n c : Nat) (l : List Nat) (lone : Bool) (w : World) (hn : l.length = n) (hz : n ≤ 288) (h15 : ∀ x ∈ l, x ≤ 15) (hr : RN w w.heap.size A l) :
    Calls Tryz.prog 60 #[.slice A n c, .bool lone] w (RNewPost l lone w) := by
  have HL := bx hn
  have H15 := bx h15
  clear hn h15
  obtain ⟨g, hg⟩ : ∃ g, w.heap.size = g := ⟨_, rfl⟩
  have hB0 := bl_alloc (bl_alloc (Below.refl w.heap.size w) (Nat.le_refl _) (.cells z32 116)) (Nat.le_refl _) (.cells z32 116)
  have hK0 : Bk ((w.alloc (.cells z32 116)).alloc (.cells z32 116)) g 116 z32 := (Bk.newAt _ _ _ hg).alloc _
  have hR0 : Rw ((w.alloc (.cells z32 116)).alloc (.cells z32 116)) (g + 1) 116 32 (nwC l 0 (fun _ => .slice none 0 0)) := Rw.of (Bk.newAt _ _ _ (by simp [hg])) rfl (fun i hi => by
    rw [z32_at i hi]
    unfold nwC
    congr 1
    split
    · split
      · rename_i h; obtain rfl : i = 0 := by omega
        rfl
      · rfl
    · split <;> rfl)
  go_enter Tryz.func60, Tryz.ntmps60
  go_wp2_with fail
  change Code.wp _ _ _ _ ((w.alloc (.cells z32 116)).alloc (.cells z32 116))
  generalize ((w.alloc (.cells z32 116)).alloc (.cells z32 116)) = w1 at hB0 hK0 hR0 ⊢
  have hr1 : RN w1 w.heap.size A l := RL.below hr hB0 (Nat.le_refl _)
  go_loopg [7, 8, 9, 10] n (fun κ v7 v8 v9 v10 wr => ∃ j : Nat, κ = n - j ∧ j ≤ n ∧ v10 = .int .i64 (j : Int) ∧ v7 = .int .i64 (kSum (l.take j) : Int) ∧ v8 = .int .i64 ((l.take j).count 1 : Int) ∧ v9 = .int .i64 (usedP (l.take j) : Int) ∧ w1 = wr)
  case atStart => exact ⟨0, by omega, by omega, rfl, rfl, rfl, rfl, rfl⟩
  case round =>
    obtain ⟨j, hgk, hj, rfl, rfl, rfl, rfl, rfl⟩ := hrel
    by_cases hjn : j < n
    · obtain ⟨ad, m, rfl, hadb, hm, hc⟩ := RL.atl hr1 (k := j) (by rw [HL.out]; exact hjn)
      have hc' : w1.cell? (ad.add j) = some (.int .i64 (m : Int)) := hc
      have hm15 : m ≤ 15 := H15.out m (List.mem_of_getElem? hm.out)
      have e1 := kSum_take hm.out
      have e2 := ones_take hm.out
      have e3 := usedP_take hm.out
      have b1 := kSum_le (l.take j)
      have b2 := usedP_le (l.take j)
      have b3 : (l.take j).count 1 ≤ (l.take j).length := List.count_le_length
      have hlj : (l.take j).length ≤ 288 := by rw [List.length_take]; omega
      have m0 : ¬ (m : Int) < 0 := by omega
      have m15 : ¬ (15 : Int) < (m : Int) := by omega
      obtain ⟨K, hK⟩ : ∃ K, kSum (l.take j) = K := ⟨_, rfl⟩
      obtain ⟨O, hO⟩ : ∃ O, (l.take j).count 1 = O := ⟨_, rfl⟩
      obtain ⟨U, hU⟩ : ∃ U, usedP (l.take j) = U := ⟨_, rfl⟩
      rw [hK] at e1 b1 ⊢
      rw [hO] at e2 b3 ⊢
      rw [hU] at e3 b2 ⊢
      have hK9 : K ≤ 5000000 := by omega
      by_cases hmz : m = 0
      · subst hmz
        have E1 : Bx (kSum (l.take (j + 1)) = K) := bx (by rw [e1]; rfl)
        have E2 : Bx ((l.take (j + 1)).count 1 = O) := bx (by rw [e2]; rfl)
        have E3 : Bx (usedP (l.take (j + 1)) = U) := bx (by rw [e3]; rfl)
        clear e1 e2 e3 hK hO hU hc
        go_wp2
        go_roundg (n - (j + 1))
        case rel => exact ⟨j + 1, rfl, by omega, by go_num, by rw [E1.out], by rw [E2.out], by rw [E3.out], rfl⟩
        case measure => omega
      · have hm1 : (0 : Int) < (m : Int) := by omega
        obtain ⟨s, hs⟩ : ∃ s, 15 - m = s := ⟨_, rfl⟩
        have hsI : (15 : Int) - (m : Int) = (s : Int) := by omega
        have hs14 : s ≤ 14 := by omega
        have hp : (2 : Nat) ^ s ≤ 2 ^ 14 := Nat.pow_le_pow_right (by decide) hs14
        have E1 : Bx (kSum (l.take (j + 1)) = K + 2 ^ s) := bx (by rw [e1]; unfold kOne; rw [if_pos (by omega), hs])
        have E3 : Bx (usedP (l.take (j + 1)) = U + 1) := bx (by rw [e3, if_pos hmz])
        have E2 : Bx ((l.take (j + 1)).count 1 = O + (if m = 1 then 1 else 0)) := bx e2
        clear e1 e2 e3 hK hO hU hc hs
        have HV : Bx (wrap64 ((K : Int) + wrap64 (2 ^ s)) = ((K + 2 ^ s : Nat) : Int)) := bx (by
          have e : ((2 : Int) ^ s) = ((2 ^ s : Nat) : Int) := by simp
          rw [e]
          obtain ⟨Q, hQ⟩ : ∃ Q, 2 ^ s = Q := ⟨_, rfl⟩
          rw [hQ] at hp ⊢
          rw [IntWalk.wrap64_in (Q : Int) (by omega), IntWalk.wrap64_in _ (by omega), Int.natCast_add])
        by_cases hm2 : m = 1
        · have hmb : ((m : Int) == 1) = true := by rw [hm2]; rfl
          have E2' : Bx ((l.take (j + 1)).count 1 = O + 1) := bx (by rw [E2.out, if_pos hm2])
          clear E2 hm2
          go_wp2
          go_roundg (n - (j + 1))
          case rel => exact ⟨j + 1, rfl, by omega, by go_num, by rw [E1.out, ← HV.out], by rw [E2'.out]; go_num, by rw [E3.out]; go_num, rfl⟩
          case measure => omega
        · have hmb : ((m : Int) == 1) = false := by rw [beq_eq_false_iff_ne]; omega
          have E2' : Bx ((l.take (j + 1)).count 1 = O) := bx (by rw [E2.out, if_neg hm2]; rfl)
          clear E2 hm2
          go_wp2
          go_roundg (n - (j + 1))
          case rel => exact ⟨j + 1, rfl, by omega, by go_num, by rw [E1.out, ← HV.out], by rw [E2'.out], by rw [E3.out]; go_num, rfl⟩
          case measure => omega
    · obtain rfl : j = n := by omega
      have htk : l.take j = l := List.take_of_length_le (by rw [HL.out]; exact Nat.le_refl _)
      rw [htk]
      have hkl := kSum_le l
      rw [HL.out] at hkl
      have hcb : codeB l lone = (decide (kSum l = 32768) || (lone && (decide (usedP l = 0) || (decide (usedP l = 1) && decide (l.count 1 = 1))))) := by rw [kSum_eq]; rfl
      obtain ⟨K, hK⟩ : ∃ K, kSum l = K := ⟨_, rfl⟩
      obtain ⟨O, hO⟩ : ∃ O, l.count 1 = O := ⟨_, rfl⟩
      obtain ⟨U, hU⟩ : ∃ U, usedP l = U := ⟨_, rfl⟩
      obtain ⟨b, hb⟩ : ∃ b, codeB l lone = b := ⟨_, rfl⟩
      rw [hK, hO, hU, hb] at hcb
      rw [hK, hO, hU]
      have HCB := bx hb
      have HKR : Bx (b = true → kraftTo l 15 ≤ 32768) := bx (fun h => code_kraft (hb.trans h))
      have hnj : ¬ j < j := by omega
      clear hK hO hU hb htk hkl
      go_upto_region 17 with (fail)
      go_cut [67] (fun v wx => v = .bool (!b) ∧ w1 = wx)
      case first =>
        by_cases hk : K = 32768
        · have hkb : ((K : Int) != 32768) = false := by rw [hk]; rfl
          have hbt : b = true := by rw [hcb, decide_eq_true hk]; rfl
          subst hbt
          clear hk hcb
          go_wp2
          go_meet
          case rel => exact ⟨rfl, rfl⟩
        · have hkb : ((K : Int) != 32768) = true := by rw [bne_iff_ne]; omega
          rw [decide_eq_false hk, Bool.false_or] at hcb
          cases lone with
          | false =>
            have hbt : b = false := hcb
            subst hbt
            clear hk hcb
            go_wp2
            go_meet
            case rel => exact ⟨rfl, rfl⟩
          | true =>
            rw [Bool.true_and] at hcb
            by_cases hu : U = 0
            · have hub : ((U : Int) == 0) = true := by rw [hu]; rfl
              have hbt : b = true := by rw [hcb, decide_eq_true hu]; rfl
              subst hbt
              clear hk hcb hu
              go_wp2
              go_meet
              case rel => exact ⟨rfl, rfl⟩
            · have hub : ((U : Int) == 0) = false := by rw [beq_eq_false_iff_ne]; omega
              rw [decide_eq_false hu, Bool.false_or] at hcb
              by_cases hu1 : U = 1
              · have hub1 : ((U : Int) == 1) = true := by rw [hu1]; rfl
                rw [decide_eq_true hu1, Bool.true_and] at hcb
                by_cases ho : O = 1
                · have hob : ((O : Int) == 1) = true := by rw [ho]; rfl
                  have hbt : b = true := by rw [hcb, decide_eq_true ho]
                  subst hbt
                  clear hk hcb hu hu1 ho
                  go_wp2
                  go_meet
                  case rel => exact ⟨rfl, rfl⟩
                · have hob : ((O : Int) == 1) = false := by rw [beq_eq_false_iff_ne]; omega
                  have hbt : b = false := by rw [hcb, decide_eq_false ho]
                  subst hbt
                  clear hk hcb hu hu1 ho
                  go_wp2
                  go_meet
                  case rel => exact ⟨rfl, rfl⟩
              · have hub1 : ((U : Int) == 1) = false := by rw [beq_eq_false_iff_ne]; omega
                have hbt : b = false := by rw [hcb, decide_eq_false hu1]; rfl
                subst hbt
                clear hk hcb hu hu1
                go_wp2
                go_meet
                case rel => exact ⟨rfl, rfl⟩
      case rest =>
        obtain ⟨rfl, rfl⟩ := hcut
        cases b with
        | false =>
          go_wp2_with (refine wpList_store_row rfl 116 (.tmp 4) (.tmp 68) rfl g z32 rfl rfl 116 z32 hK0 (by rw [z32_size]; exact info_code) rfl z32_one ?_)
          exact bodyPost_ret (v := .tuple #[.agg z32, .int .i64 5]) (results_code _ _ g z32 rfl (hK0.setRow z32) z32_size) rfl ⟨bl_setRow hB0 (by rw [hg]; exact Nat.le_refl _) z32, z32, z32_size, z32_one, by rw [if_neg (by rw [HCB.out]; decide)]⟩
        | true =>
          have HKR2 : Bx (kraftTo l 15 ≤ 32768) := bx (HKR.out rfl)
          clear hcb HKR
          go_wp2_with fail
          have hgz : g + 1 < w1.heap.size := hR0.lt
          have hNW0 : NwR w1 g w1.heap.size l 0 (fun _ => .slice none 0 0) := fun k hk => by
            obtain rfl : k = 0 := by omega
            exact ⟨none, 0, rfl, RL.nil, fun ad e => by cases e⟩
          go_loopg [12, 13] 15 (fun κ v12 v13 wr => ∃ (k : Nat) (V : Nat → Value), κ = 15 - k ∧ k ≤ 15 ∧ v12 = .int .i64 ((firstP l k + cntP l k : Nat) : Int) ∧ v13 = .int .i64 ((k + 1 : Nat) : Int) ∧ Rw wr (g + 1) 116 32 (nwC l k V) ∧ Bk wr g 116 z32 ∧ Below w.heap.size w wr ∧ NwR wr g wr.heap.size l k V)
          case atStart => exact ⟨0, _, by omega, by omega, rfl, rfl, hR0, hK0, hB0, hNW0⟩
          case round =>
            clear hR0 hK0 hNW0 hr1 hB0 hgz
            obtain ⟨k, V, hgk2, hk, rfl, rfl, hR, hK, hB, hNW⟩ := hrel
            have hgz : g + 1 < wr.heap.size := hR.lt
            by_cases hk15 : k < 15
            · obtain ⟨N, hN⟩ : ∃ N, k + 1 = N := ⟨_, rfl⟩
              have hN16 : N ≤ 15 := by omega
              have hN1 : 1 ≤ N := by omega
              obtain ⟨F, hF⟩ : ∃ F, firstP l N = F := ⟨_, rfl⟩
              have hFb := first_fits HKR2.out (n := N) hN16
              rw [hF] at hFb
              have hF2 : 2 * (firstP l k + cntP l k) = F := by rw [← hF, ← hN]; rfl
              obtain ⟨P, hP⟩ : ∃ P, firstP l k + cntP l k = P := ⟨_, rfl⟩
              rw [hP] at hF2 ⊢
              rw [hN]
              have hNI : (N : Int) ≤ 15 := by omega
              have c0 : wr.cell? ⟨g + 1, N, none⟩ = some (.int .i64 0) := by
                rw [hR.cell (by omega)]; unfold nwC; rw [if_pos (by omega), if_neg (by omega)]; rfl
              have f0 := hR.frz N
              have hR1 : Rw (wr.setCell ⟨g + 1, N, none⟩ (.int .i64 (F : Int))) (g + 1) 116 32 (fun i => if i < 16 then (if i ≤ N then nV (firstP l i) else nV 0) else (if i - 16 ≤ k then V (i - 16) else if i - 16 = N then .slice none 0 0 else .slice none 0 0)) := (hR.set N _).ext (fun i hi => by
                unfold nwC
                by_cases e : i = N
                · subst e; rw [if_pos (by omega), if_pos (by omega), if_pos rfl, hF]; rfl
                · rw [if_neg e]
                  by_cases e2 : i < 16
                  · rw [if_pos e2, if_pos e2]
                    by_cases e3 : i ≤ k
                    · rw [if_pos (by omega), if_pos e3]
                    · rw [if_neg (by omega), if_neg e3]
                  · rw [if_neg e2, if_neg e2]
                    split
                    · rfl
                    · split <;> rfl)
              have hK1 := hK.far (p := ⟨g + 1, N, none⟩) (by show g ≠ g + 1; omega) (.int .i64 (F : Int))
              have hB1 := hB.setCell (p := ⟨g + 1, N, none⟩) (by show w.heap.size ≤ g + 1; omega) (.int .i64 (F : Int))
              have hsz : (wr.setCell ⟨g + 1, N, none⟩ (.int .i64 (F : Int))).heap.size = wr.heap.size := by simp [World.setCell]
              have hNW1 : NwR (wr.setCell ⟨g + 1, N, none⟩ (.int .i64 (F : Int))) g (wr.setCell ⟨g + 1, N, none⟩ (.int .i64 (F : Int))).heap.size l k V := hNW.keep (fun i h1 h2 => Below.heap_setCell wr ⟨g + 1, N, none⟩ _ i (by show i ≠ g + 1; omega)) (by rw [hsz]; exact Nat.le_refl _)
              have hF2I : 2 * (P : Int) = (F : Int) := by omega
              have hP9 : P ≤ 16384 := by omega
              have HF2 := bx hF2I
              have HNN := bx hN
              have HFF := bx hF
              clear hN hF hF2 hP hF2I hR hK hB hNW
              go_wp2_with fail
              rw [HF2.out]
              clear c0 f0
              obtain ⟨H0, hH0⟩ : ∃ H0, (wr.setCell ⟨g + 1, N, none⟩ (.int .i64 (F : Int))).heap.size = H0 := ⟨_, rfl⟩
              have hgH : g + 1 < H0 := by rw [← hH0, hsz]; exact hgz
              have hH0' : H0 ≤ (wr.setCell ⟨g + 1, N, none⟩ (.int .i64 (F : Int))).heap.size := by omega
              rw [hH0] at hNW1
              clear hsz hgz hH0
              generalize wr.setCell ⟨g + 1, N, none⟩ (.int .i64 (F : Int)) = w2 at hR1 hK1 hB1 hNW1 hH0' ⊢
              go_loopg [12, 14] j (fun κ v12 v14 wr2 => ∃ (s : Nat) (v : Value), κ = j - s ∧ s ≤ j ∧ v14 = .int .i64 (s : Int) ∧ v12 = .int .i64 ((F + (symsP l s N).length : Nat) : Int) ∧ OwL nV wr2 H0 3 v (symsP l s N) ∧ H0 ≤ wr2.heap.size ∧
                Rw wr2 (g + 1) 116 32 (fun i => if i < 16 then (if i ≤ N then nV (firstP l i) else nV 0) else (if i - 16 ≤ k then V (i - 16) else if i - 16 = N then v else .slice none 0 0)) ∧ Bk wr2 g 116 z32 ∧ Below w.heap.size w wr2 ∧ NwR wr2 g H0 l k V)
              case atStart => exact ⟨0, .slice none 0 0, by omega, by omega, rfl, rfl, OwL.nil, hH0', hR1, hK1, hB1, hNW1⟩
              case round =>
                clear hR1 hK1 hB1 hNW1 hH0'
                obtain ⟨s, v, hgk3, hs, rfl, rfl, hO, hH, hR, hK, hB, hNW⟩ := hrel
                have hvb : ∀ q, v.ownBlock = some q → H0 ≤ q := fun q hq => (World.ownsRow.lt hO q hq).1
                have hsl : (symsP l s N).length ≤ 288 := by rw [count_take _ _ _ (by rw [HL.out]; exact hs)]; have : (l.take s).count N ≤ (l.take s).length := List.count_le_length; rw [List.length_take] at this; omega
                obtain ⟨SL, hSL⟩ : ∃ SL, (symsP l s N).length = SL := ⟨_, rfl⟩
                by_cases hsj : s < j
                · have hrr : RN wr w.heap.size A l := RL.below hr hB (Nat.le_refl _)
                  obtain ⟨ad, m, rfl, hadb, hm, hc⟩ := RL.atl hrr (k := s) (by rw [HL.out]; exact hsj)
                  have hc' : wr.cell? (ad.add s) = some (.int .i64 (m : Int)) := hc
                  have hsucc := symsP_succ l s N
                  rw [hm.out] at hsucc
                  by_cases hmN : m = N
                  · have hmb : ((m : Int) == (N : Int)) = true := by rw [hmN]; exact beq_self_eq_true _
                    rw [if_pos (by rw [hmN])] at hsucc
                    have HS := bx hsucc
                    have c1 : wr.cell? ⟨g + 1, 16 + N, none⟩ = some v := by
                      rw [hR.cell (by omega), if_neg (by omega), if_neg (by have := HNN.out; omega), if_pos (by omega)]
                    have HN1 : Bx (((symsP l s N).length + [s].length) * 8 ≤ 140737488355328) := bx (by rw [hSL]; simp; omega)
                    have hRa := hR.alloc (.cells #[.int .i64 (s : Int)] 3)
                    have hne : some (g + 1) ≠ v.ownBlock := fun e => by have := hvb _ e.symm; omega
                    have hne0 : some g ≠ v.ownBlock := fun e => by have := hvb _ e.symm; omega
                    have hKa := hK.alloc (.cells #[.int .i64 (s : Int)] 3)
                    have hBa := bl_alloc hB (Nat.le_refl _) (.cells #[.int .i64 (s : Int)] 3)
                    have hNWa : NwR (wr.alloc (.cells #[.int .i64 (s : Int)] 3)) g H0 l k V := hNW.keep (fun i h1 h2 => Below.heap_alloc wr _ i (by omega)) (Nat.le_refl _)
                    have HRa := bx hRa
                    have HKa := bx hKa
                    have HBa := bx hBa
                    have HNWa := bx hNWa
                    have HO := bx hO
                    have hH0z : H0 ≤ (wr.alloc (.cells #[.int .i64 (s : Int)] 3)).heap.size := le_alloc0 hH _
                    clear hsucc hc hR hRa hK hKa hB hBa hNW hNWa hO hrr
                    go_wp2_with (at_builtin; refine wpList_appL _ nV_one rfl (.tmp 95) (.tmp 97) rfl intTy (by decide) H0 v (symsP l s N) rfl (HO.out.alloc _) _ _ 1 1 [s] rfl rfl (RL.freshe wr s rfl _) HN1.out hH0z ?_; intro v5 w5 hO5 hg5 hk5 hb5; have hR5 := bx (HRa.out.grown hg5 hne); have c5 : w5.cell? ⟨g + 1, 16 + N, none⟩ = some v := (by rw [hR5.out.cell (by omega), if_neg (by omega), if_neg (by have := HNN.out; omega), if_pos (by omega)]); have f5 := hR5.out.frz (16 + N); obtain ⟨A5, n5, z5, rfl, _, _⟩ := OwL.sl hO5)
                    have hK5 := HKa.out.grown hg5 hne0
                    have hB5 : Below w.heap.size w w5 := HBa.out.trans (hb5.mono (by omega))
                    have hNW5 : NwR w5 g H0 l k V := HNWa.out.keep (fun i h1 h2 => hb5.block i (by omega)) (Nat.le_refl _)
                    have hH5 := hb5.size
                    have hO6 : OwL nV (w5.setCell ⟨g + 1, 16 + N, none⟩ (.slice A5 n5 z5)) H0 3 (.slice A5 n5 z5) (symsP l s N ++ [s]) := hO5.agree (fun q hq1 hq2 => Below.heap_setCell w5 ⟨g + 1, 16 + N, none⟩ (.slice A5 n5 z5) q (by show q ≠ g + 1; omega))
                    have hR6 : Rw (w5.setCell ⟨g + 1, 16 + N, none⟩ (.slice A5 n5 z5)) (g + 1) 116 32 (fun i => if i < 16 then (if i ≤ N then nV (firstP l i) else nV 0) else (if i - 16 ≤ k then V (i - 16) else if i - 16 = N then (.slice A5 n5 z5) else .slice none 0 0)) := (hR5.out.set (16 + N) (.slice A5 n5 z5)).ext (fun i hi => by
                      by_cases e : i = 16 + N
                      · subst e; rw [if_neg (by omega), if_neg (by have := HNN.out; omega), if_pos (by omega), if_pos rfl]
                      · rw [if_neg e]
                        by_cases e2 : i < 16
                        · rw [if_pos e2, if_pos e2]
                        · rw [if_neg e2, if_neg e2]
                          split
                          · rfl
                          · rw [if_neg (by omega), if_neg (by omega)])
                    have hK6 := hK5.far (p := ⟨g + 1, 16 + N, none⟩) (by show g ≠ g + 1; omega) (.slice A5 n5 z5)
                    have hB6 := hB5.setCell (p := ⟨g + 1, 16 + N, none⟩) (by show w.heap.size ≤ g + 1; omega) (.slice A5 n5 z5)
                    have hNW6 : NwR (w5.setCell ⟨g + 1, 16 + N, none⟩ (.slice A5 n5 z5)) g H0 l k V := hNW5.keep (fun i h1 h2 => Below.heap_setCell w5 ⟨g + 1, 16 + N, none⟩ _ i (by show i ≠ g + 1; omega)) (Nat.le_refl _)
                    have hH6 : H0 ≤ (w5.setCell ⟨g + 1, 16 + N, none⟩ (.slice A5 n5 z5)).heap.size := by simp [World.setCell]; omega
                    clear hO5 hg5 hk5 hb5 hR5 c5 f5 hK5 hB5 hNW5 hH5 c1 hc' HO HRa HKa HBa HNWa
                    go_roundg (j - (s + 1))
                    case rel => exact ⟨s + 1, (.slice A5 n5 z5), rfl, by omega, by go_num, by rw [HS.out, List.length_append, hSL]; go_num, by rw [HS.out]; exact hO6, hH6, hR6, hK6, hB6, hNW6⟩
                    case measure => omega
                  · have hmb : ((m : Int) == (N : Int)) = false := by rw [beq_eq_false_iff_ne]; omega
                    rw [if_neg (by simpa using hmN), List.append_nil] at hsucc
                    have HS := bx hsucc
                    clear hsucc hc hrr
                    go_wp2
                    go_roundg (j - (s + 1))
                    case rel => exact ⟨s + 1, v, rfl, by omega, by go_num, by rw [HS.out], by rw [HS.out]; exact hO, hH, hR, hK, hB, hNW⟩
                    case measure => omega
                · obtain rfl : s = j := by omega
                  have hsyn : symsP l s N = synV l N := by unfold synV; rw [if_neg (by omega), HL.out]
                  rw [hsyn] at hO hSL ⊢
                  have hcnt := syn_len l N
                  obtain ⟨Av, cv, rfl, hrv, _, _⟩ := OwL.rd hO
                  have hav : ∀ ad, Av = some ad → H0 ≤ ad.block := fun ad e => by subst e; exact hvb ad.block rfl
                  have HNW : Bx (NwR wr g wr.heap.size l N (fun q => if q ≤ k then V q else .slice Av (synV l N).length cv)) := bx (fun q hq => by
                    by_cases hqk : q ≤ k
                    · obtain ⟨A', c', h1, h2, h3⟩ := (hNW.keep (w' := wr) (B' := wr.heap.size) (fun _ _ _ => rfl) hH) q hqk
                      exact ⟨A', c', by dsimp only; rw [if_pos hqk]; exact h1, h2, h3⟩
                    · obtain rfl : q = N := by have := HNN.out; omega
                      exact ⟨Av, cv, by dsimp only; rw [if_neg hqk], hrv, fun ad e => by have := hav ad e; omega⟩)
                  have HRX : Bx (Rw wr (g + 1) 116 32 (nwC l N (fun q => if q ≤ k then V q else .slice Av (synV l N).length cv))) := bx (hR.ext (fun i hi => by
                    unfold nwC
                    split
                    · rfl
                    · have hkn := HNN.out
                      by_cases e1 : i - 16 ≤ k
                      · rw [if_pos (by omega), if_pos e1]; dsimp only; rw [if_pos e1]
                      · rw [if_neg e1]
                        by_cases e2 : i - 16 = N
                        · rw [if_pos (by omega), if_pos e2]; dsimp only; rw [if_neg e1]
                        · rw [if_neg (by omega), if_neg e2]))
                  have hnn : ¬ s < s := by omega
                  have HCN : Bx (F + (synV l N).length = firstP l N + cntP l N) := bx (by rw [HFF.out, hcnt])
                  clear hO hNW hR hrv hvb hsyn hcnt hSL
                  rw [HCN.out]
                  go_wp2
                  go_roundg (15 - N)
                  case rel => exact ⟨N, _, rfl, by omega, rfl, by go_num, HRX.out, hK, hB, HNW.out⟩
                  case measure => have := HNN.out; omega
            · obtain rfl : k = 15 := by omega
              obtain ⟨cs, hBk, hcz, hcs⟩ := id hR
              have hone : cs.all (·.oneCell') = true := by
                rw [Array.all_eq_true]
                intro i hi
                have h1 := hcs i (by omega)
                rw [Array.getElem?_eq_getElem hi] at h1
                injection h1 with h1
                rw [h1]
                unfold nwC
                split
                · split <;> rfl
                · split
                  · obtain ⟨A', c', h2, _⟩ := hNW (i - 16) (by omega)
                    rw [h2]; rfl
                  · rfl
              have hsz := hR.lt
              have HRC : Bx (RCd (wr.setRow g cs) (g + 2) (wr.setRow g cs).heap.size cs l) := bx (by
                refine ⟨hcz, ⟨by rw [size_setRow]; omega, Nat.le_refl _⟩, fun i hi => ?_, fun i hi => ?_, mostP_le H15.out, HKR2.out, H15.out, by rw [HL.out]; exact hz⟩
                · rw [hcs i (by omega)]; unfold nwC; rw [if_pos hi, if_pos (by omega)]; rfl
                · obtain ⟨A', c', h1, h2, h3⟩ := (hNW.keep (w' := wr.setRow g cs) (B' := (wr.setRow g cs).heap.size) (fun q hq _ => heap_setRow wr g cs q (by omega)) (by rw [size_setRow]; exact Nat.le_refl _)) i (by omega)
                  refine ⟨A', c', ?_, h2, fun ad e => h3 ad e⟩
                  rw [hcs (16 + i) (by omega)]; unfold nwC; rw [if_neg (by omega), show 16 + i - 16 = i by omega, if_pos (by omega), h1])
              have HBX := bx (bl_setRow hB (g := g) (by omega) cs)
              have HKX := bx (hK.setRow cs)
              clear hR hNW hcs
              go_wp2_with (first
                | (refine wpList_load_row rfl 116 (.tmp 6) rfl (g + 1) rfl _ cs _ _ hBk Tryz.underlying116 rfl (by rw [hcz]; exact info_code) ?_)
                | (refine wpList_store_row rfl 116 (.tmp 4) (.tmp 103) rfl g cs rfl rfl 116 z32 hK (by rw [hcz]; exact info_code) (by rw [hcz]; rfl) hone ?_))
              exact bodyPost_ret (v := .tuple #[.agg cs, .int .i64 0]) (results_code _ _ g cs rfl HKX.out hcz) rfl ⟨HBX.out, cs, hcz, hone, by rw [if_pos HCB.out]; exact ⟨_, _, rfl, HRC.out, by omega⟩⟩
end Go.Proofs.YtlmcpkomjofcgaaGreatDoor
namespace Go.Proofs.YtlmcpkomjofcgaaGreatDoor
open Go.RowKit

theorem two_mul_wrap {i : Nat} (h : i < 30) : wrap64 (2 * 2 ^ i) = ((2 ^ (i + 1) : Nat) : Int) := by
  have hp : (2 : Nat) ^ (i + 1) ≤ 2 ^ 30 := Nat.pow_le_pow_right (by decide) (by omega)
  have e : ((2 : Int) * 2 ^ i) = ((2 ^ (i + 1) : Nat) : Int) := by
    rw [Nat.pow_succ, Nat.mul_comm]; simp
  rw [e]
  obtain ⟨Q, hQ⟩ : ∃ Q, (2 : Nat) ^ (i + 1) = Q := ⟨_, rfl⟩
  rw [hQ] at hp ⊢
  exact IntWalk.wrap64_in _ (by omega)
set_option maxHeartbeats 2000000 in
theorem rdist_any (s : Nat) (w : World) (hs : s ≤ 29) : Calls Tryz.prog 82 #[.int .i64 (s : Int)] w fun e w' => e = .returned (.tuple #[.int .i64 ((dstP s).1 : Int), .int .i64 ((dstP s).2 : Int)]) ∧ w = w' := by
  go_enter Tryz.func82, Tryz.ntmps82
  go_wp2_with fail
  go_loopg [4, 5] s (fun κ v4 v5 wr => ∃ k : Nat, κ = s - k ∧ k ≤ s ∧ v4 = .int .i64 ((dstP k).1 : Int) ∧ v5 = .int .i64 (k : Int) ∧ w = wr)
  case atStart => exact ⟨0, by omega, by omega, rfl, rfl, rfl⟩
  case round =>
    obtain ⟨k, hgk, hk, rfl, rfl, rfl⟩ := hrel
    have hm := dst_more k (by omega)
    have hbd := dst_bd k (by omega)
    have HST := bx (fun h : k < 29 => dst_step k h)
    obtain ⟨L, hL⟩ : ∃ L, (dstP k).1 = L := ⟨_, rfl⟩
    obtain ⟨M, hM⟩ : ∃ M, (dstP k).2 = M := ⟨_, rfl⟩
    rw [hM] at hm hbd
    rw [hL] at hbd ⊢
    rw [hL, hM] at HST
    have HLx := bx hL
    have HMx := bx hM
    have HMM := bx hm
    clear hL hM hm
    go_upto_if 12 with (fail)
    go_cut [6] (fun v6 wx => v6 = .int .i64 (M : Int) ∧ w = wx)
    case first =>
      have hm := HMM.out
      by_cases h4 : 4 ≤ k
      · rw [if_pos h4] at hm
        have hkI : (4 : Int) ≤ (k : Int) := by omega
        have hq : ((k : Int) - 4) / 2 = ((M - 1 : Nat) : Int) := by omega
        have hM1 : 1 ≤ M := by omega
        clear h4 hm
        go_wp2
        go_meet
        case rel => exact ⟨by congr 1; first | omega | (rw [Int.tdiv_eq_ediv_of_nonneg (by omega)]; omega), rfl⟩
      · rw [if_neg h4] at hm
        have hkI : ¬ (4 : Int) ≤ (k : Int) := by omega
        subst hm
        go_wp2
        go_meet
        case rel => exact ⟨rfl, rfl⟩
    case rest =>
      obtain ⟨rfl, rfl⟩ := hcut
      by_cases hks : k = s
      · have hb : ((k : Int) == (s : Int)) = true := by rw [hks]; exact beq_self_eq_true _
        have H1 : Bx ((dstP s).1 = L ∧ (dstP s).2 = M) := bx (by rw [← hks]; exact ⟨HLx.out, HMx.out⟩)
        clear hks HLx HMx HST
        go_wp2
        go_ret2
        exact ⟨by rw [H1.out.1, H1.out.2]; rfl, rfl⟩
      · have hb : ((k : Int) == (s : Int)) = false := by rw [beq_eq_false_iff_ne]; omega
        go_wp2_with fail
        go_loopg [7, 8] M (fun κ v7 v8 wr => ∃ i : Nat, κ = M - i ∧ i ≤ M ∧ v7 = .int .i64 ((2 ^ i : Nat) : Int) ∧ v8 = .int .i64 (i : Int) ∧ w = wr)
        case atStart => exact ⟨0, by omega, by omega, rfl, rfl, rfl⟩
        case round =>
          obtain ⟨i, hgi, hi, rfl, rfl, rfl⟩ := hrel
          by_cases hiM : i < M
          · have HP := bx (two_mul_wrap (i := i) (by omega))
            go_wp2
            go_roundg (M - (i + 1))
            case rel => exact ⟨i + 1, rfl, by omega, by rw [← HP.out], by go_num, rfl⟩
            case measure => omega
          · obtain rfl : i = M := by omega
            have hp : (2 : Nat) ^ i ≤ 2 ^ 13 := Nat.pow_le_pow_right (by decide) hbd.2.1
            have HS : Bx ((dstP (k + 1)).1 = L + 2 ^ i) := bx (HST.out (by omega))
            have HW : Bx (wrap64 ((L : Int) + 2 ^ i) = ((L + 2 ^ i : Nat) : Int)) := bx (by
              have e : ((L : Int) + (2 : Int) ^ i) = ((L + 2 ^ i : Nat) : Int) := by simp
              rw [e]
              obtain ⟨Q, hQ⟩ : ∃ Q, (2 : Nat) ^ i = Q := ⟨_, rfl⟩
              rw [hQ] at hp ⊢
              exact IntWalk.wrap64_in _ (by omega))
            clear HST HLx HMx
            go_wp2
            go_roundg (s - (k + 1))
            case rel => exact ⟨k + 1, rfl, by omega, by rw [HS.out, ← HW.out], by go_num, rfl⟩
            case measure => omega
set_option maxRecDepth 100000 in
set_option maxHeartbeats 4000000 in
theorem rlen_any (s : Nat) (w : World) (hs1 : 257 ≤ s) (hs : s ≤ 285) : Calls Tryz.prog 81 #[.int .i64 (s : Int)] w fun e w' => e = .returned (.tuple #[.int .i64 ((lenP s).1 : Int), .int .i64 ((lenP s).2 : Int)]) ∧ w = w' := by
  by_cases h285 : s = 285
  · subst h285
    have h1 : (lenP 285).1 = 258 ∧ (lenP 285).2 = 0 := ⟨rfl, rfl⟩
    rw [h1.1, h1.2]
    go_enter Tryz.func81, Tryz.ntmps81
    go_wp2
    go_ret2
    exact ⟨rfl, rfl⟩
  have hsb : ((s : Int) == 285) = false := by rw [beq_eq_false_iff_ne]; omega
  have hs2 : s ≤ 284 := by omega
  clear h285
  go_enter Tryz.func81, Tryz.ntmps81
  go_wp2_with fail
  go_loopg [4, 5, 6] (s - 257) (fun κ v4 _ v6 wr => ∃ k : Nat, κ = s - k ∧ 257 ≤ k ∧ k ≤ s ∧ v4 = .int .i64 ((lenP k).1 : Int) ∧ v6 = .int .i64 (k : Int) ∧ w = wr)
  case atStart => exact ⟨257, by omega, by omega, by omega, rfl, rfl, rfl⟩
  case round =>
    obtain ⟨k, hgk, hk1, hk, rfl, rfl, rfl⟩ := hrel
    have HMM := bx (len_more k hk1 (by omega))
    have hbd := len_bd k hk1 (by omega)
    have HST := bx (fun h : k < 284 => len_step k hk1 h)
    obtain ⟨L, hL⟩ : ∃ L, (lenP k).1 = L := ⟨_, rfl⟩
    obtain ⟨M, hM⟩ : ∃ M, (lenP k).2 = M := ⟨_, rfl⟩
    rw [hM] at HMM hbd
    rw [hL] at hbd ⊢
    rw [hL, hM] at HST
    have HLx := bx hL
    have HMx := bx hM
    clear hL hM
    go_upto_if 14 with (fail)
    go_cut [5] (fun v5 wx => v5 = .int .i64 (M : Int) ∧ w = wx)
    case first =>
      have hm := HMM.out
      by_cases h4 : 265 ≤ k
      · rw [if_pos h4] at hm
        have hkI : (265 : Int) ≤ (k : Int) := by omega
        have hq : ((k : Int) - 265) / 4 = ((M - 1 : Nat) : Int) := by omega
        have hM1 : 1 ≤ M := by omega
        clear h4 hm
        go_wp2
        go_meet
        case rel => exact ⟨by congr 1; first | omega | (rw [Int.tdiv_eq_ediv_of_nonneg (by omega)]; omega), rfl⟩
      · rw [if_neg h4] at hm
        have hkI : ¬ (265 : Int) ≤ (k : Int) := by omega
        subst hm
        go_wp2
        go_meet
        case rel => exact ⟨rfl, rfl⟩
    case rest =>
      obtain ⟨rfl, rfl⟩ := hcut
      by_cases hks : k = s
      · have hb : ((k : Int) == (s : Int)) = true := by rw [hks]; exact beq_self_eq_true _
        have H1 : Bx ((lenP s).1 = L ∧ (lenP s).2 = M) := bx (by rw [← hks]; exact ⟨HLx.out, HMx.out⟩)
        clear hks HLx HMx HST
        go_wp2
        go_ret2
        exact ⟨by rw [H1.out.1, H1.out.2]; rfl, rfl⟩
      · have hb : ((k : Int) == (s : Int)) = false := by rw [beq_eq_false_iff_ne]; omega
        go_wp2_with fail
        go_loopg [4, 7, 8] (M + 1) (fun κ v4 v7 v8 wr => ∃ (i l2 : Nat), κ = M + 1 - i ∧ i ≤ M + 1 ∧ v7 = .int .i64 (i : Int) ∧ v8 = .int .i64 ((2 ^ i : Nat) : Int) ∧ v4 = .int .i64 (l2 : Int) ∧ Bx (l2 = if i ≤ M then L else L + 2 ^ M) ∧ w = wr)
        case atStart => exact ⟨0, L, by omega, by omega, rfl, rfl, rfl, bx (by rw [if_pos (by omega)]), rfl⟩
        case round =>
          obtain ⟨i, l2, hgi, hi, rfl, rfl, rfl, HL2, rfl⟩ := hrel
          by_cases hiM : i ≤ M
          · have HP := bx (two_mul_wrap (i := i) (by omega))
            obtain rfl : l2 = L := by rw [HL2.out, if_pos hiM]
            by_cases hie : i = M
            · have hib : ((i : Int) == (M : Int)) = true := by rw [hie]; exact beq_self_eq_true _
              have hp : (2 : Nat) ^ i ≤ 2 ^ 5 := Nat.pow_le_pow_right (by decide) (by omega)
              have HW : Bx (wrap64 ((l2 : Int) + 2 ^ i) = ((l2 + 2 ^ i : Nat) : Int)) := bx (by
                have e : ((l2 : Int) + (2 : Int) ^ i) = ((l2 + 2 ^ i : Nat) : Int) := by simp
                rw [e]
                obtain ⟨Q, hQ⟩ : ∃ Q, (2 : Nat) ^ i = Q := ⟨_, rfl⟩
                rw [hQ] at hp ⊢
                exact IntWalk.wrap64_in _ (by omega))
              have HN : Bx (l2 + 2 ^ i = if i + 1 ≤ M then l2 else l2 + 2 ^ M) := bx (by rw [if_neg (by omega), hie])
              clear hie
              go_wp2
              go_roundg (M + 1 - (i + 1))
              case rel => exact ⟨i + 1, l2 + 2 ^ i, rfl, by omega, by go_num, by rw [← HP.out], by rw [← HW.out], HN, rfl⟩
              case measure => omega
            · have hib : ((i : Int) == (M : Int)) = false := by rw [beq_eq_false_iff_ne]; omega
              have HN : Bx (l2 = if i + 1 ≤ M then l2 else l2 + 2 ^ M) := bx (by rw [if_pos (by omega)])
              go_wp2
              go_roundg (M + 1 - (i + 1))
              case rel => exact ⟨i + 1, l2, rfl, by omega, by go_num, by rw [← HP.out], rfl, HN, rfl⟩
              case measure => omega
          · obtain rfl : i = M + 1 := by omega
            have HS : Bx ((lenP (k + 1)).1 = l2) := bx (by rw [HL2.out, if_neg (by omega)]; exact HST.out (by omega))
            have hnl : ¬ ((M + 1 : Nat) : Int) ≤ (M : Int) := by omega
            clear HST HLx HMx HL2
            go_wp2
            go_roundg (s - (k + 1))
            case rel => exact ⟨k + 1, rfl, by omega, by omega, by rw [HS.out], by go_num, rfl⟩
            case measure => omega
theorem litV_step {j : Nat} (hj : j < 288) : fixLit.take (j + 1) = fixLit.take j ++ [litV j] := by
  rw [List.take_add_one, fixLit_all j hj]; rfl
set_option maxRecDepth 100000 in
set_option maxHeartbeats 4000000 in
theorem rfixed_any (w : World) : Calls Tryz.prog 58 #[] w fun e w' => ∃ A A' c c', e = .returned (.tuple #[.slice A 288 c, .slice A' 32 c']) ∧ RN w' w'.heap.size A fixLit ∧ RN w' w'.heap.size A' fixDist ∧ Below w.heap.size w w' := by
  go_enter Tryz.func58, Tryz.ntmps58
  go_wp2_with fail
  go_loopg [2, 4] 288 (fun κ v2 v4 wr => ∃ j : Nat, κ = 288 - j ∧ j ≤ 288 ∧ v4 = .int .i64 (j : Int) ∧ OwL nV wr w.heap.size 3 v2 (fixLit.take j) ∧ Below w.heap.size w wr)
  case atStart => exact ⟨0, by omega, by omega, rfl, OwL.nil, Below.refl _ _⟩
  case round =>
    obtain ⟨j, hgk, hj, rfl, hO, hB⟩ := hrel
    have hlen : (fixLit.take j).length = j := by rw [List.length_take, fixLit_len]; omega
    by_cases hjn : j < 288
    · have HN1 : Bx (((fixLit.take j).length + [litV j].length) * 8 ≤ 140737488355328) := bx (by rw [hlen]; simp; omega)
      have HST := bx (litV_step hjn)
      have hBz := hB.size
      have key : ∀ x : Nat, litV j = x → Bx (RL nV (wr.alloc (.cells #[.int .i64 (x : Int)] 3)) (wr.heap.size + 1) (some ⟨wr.heap.size, 0, none⟩) [litV j]) := fun x hx => bx (RL.freshe _ _ (by rw [hx]; rfl) _)
      have hBa : ∀ x : Nat, Below w.heap.size w (wr.alloc (.cells #[.int .i64 (x : Int)] 3)) := fun x => bl_alloc hB (Nat.le_refl _) _
      have KEY := bx key
      have HBA := bx hBa
      clear key hBa hlen
      by_cases h1 : j < 144
      · have K8 := KEY.out 8 (by unfold litV; rw [if_pos h1])
        clear KEY
        go_wp2_with (at_builtin; refine wpList_appL _ nV_one rfl (.tmp 23) (.tmp 25) rfl intTy (by decide) w.heap.size _ (fixLit.take j) rfl (hO.alloc _) _ _ 1 1 [litV j] rfl rfl K8.out HN1.out (le_alloc0 hBz _) ?_; intro v5 w5 hO5 hg5 hk5 hb5)
        have hB5 := (HBA.out 8).trans hb5
        rw [← HST.out] at hO5
        go_roundg (288 - (j + 1))
        case rel => exact ⟨j + 1, rfl, by omega, by go_num, hO5, hB5⟩
        case measure => omega
      · by_cases h2 : j < 256
        · have K8 := KEY.out 9 (by unfold litV; rw [if_neg h1, if_pos h2])
          clear KEY
          go_wp2_with (at_builtin; refine wpList_appL _ nV_one rfl (.tmp 23) (.tmp 25) rfl intTy (by decide) w.heap.size _ (fixLit.take j) rfl (hO.alloc _) _ _ 1 1 [litV j] rfl rfl K8.out HN1.out (le_alloc0 hBz _) ?_; intro v5 w5 hO5 hg5 hk5 hb5)
          have hB5 := (HBA.out 9).trans hb5
          rw [← HST.out] at hO5
          go_roundg (288 - (j + 1))
          case rel => exact ⟨j + 1, rfl, by omega, by go_num, hO5, hB5⟩
          case measure => omega
        · by_cases h3 : j < 280
          · have K8 := KEY.out 7 (by unfold litV; rw [if_neg h1, if_neg h2, if_pos h3])
            clear KEY
            go_wp2_with (at_builtin; refine wpList_appL _ nV_one rfl (.tmp 23) (.tmp 25) rfl intTy (by decide) w.heap.size _ (fixLit.take j) rfl (hO.alloc _) _ _ 1 1 [litV j] rfl rfl K8.out HN1.out (le_alloc0 hBz _) ?_; intro v5 w5 hO5 hg5 hk5 hb5)
            have hB5 := (HBA.out 7).trans hb5
            rw [← HST.out] at hO5
            go_roundg (288 - (j + 1))
            case rel => exact ⟨j + 1, rfl, by omega, by go_num, hO5, hB5⟩
            case measure => omega
          · have K8 := KEY.out 8 (by unfold litV; rw [if_neg h1, if_neg h2, if_neg h3])
            clear KEY
            go_wp2_with (at_builtin; refine wpList_appL _ nV_one rfl (.tmp 23) (.tmp 25) rfl intTy (by decide) w.heap.size _ (fixLit.take j) rfl (hO.alloc _) _ _ 1 1 [litV j] rfl rfl K8.out HN1.out (le_alloc0 hBz _) ?_; intro v5 w5 hO5 hg5 hk5 hb5)
            have hB5 := (HBA.out 8).trans hb5
            rw [← HST.out] at hO5
            go_roundg (288 - (j + 1))
            case rel => exact ⟨j + 1, rfl, by omega, by go_num, hO5, hB5⟩
            case measure => omega
    · obtain rfl : j = 288 := by omega
      have htk : fixLit.take 288 = fixLit := List.take_of_length_le (by rw [fixLit_len]; exact Nat.le_refl _)
      rw [htk] at hO
      obtain ⟨A, c, rfl, hr, _, _⟩ := OwL.rd hO
      rw [fixLit_len]
      clear hO htk hlen
      obtain ⟨wo, rfl⟩ : ∃ wo : World, wo = wr := ⟨_, rfl⟩
      go_wp2_with fail
      go_loopg [3, 6] 32 (fun κ v3 v6 wr2 => ∃ j : Nat, κ = 32 - j ∧ j ≤ 32 ∧ v6 = .int .i64 (j : Int) ∧ OwL nV wr2 wo.heap.size 3 v3 (List.replicate j 5) ∧ Below wo.heap.size wo wr2)
      case atStart => exact ⟨0, by omega, by omega, rfl, OwL.nil, Below.refl _ _⟩
      case round =>
        obtain ⟨i, hgi, hi, rfl, hO, hB2⟩ := hrel
        by_cases hin : i < 32
        · have HN1 : Bx (((List.replicate i 5).length + [5].length) * 8 ≤ 140737488355328) := bx (by simp; omega)
          have hBz := hB2.size
          have HBA := bx (bl_alloc hB2 (Nat.le_refl _) (.cells #[.int .i64 5] 3))
          go_wp2_with (at_builtin; refine wpList_appL _ nV_one rfl (.tmp 31) (.tmp 32) rfl intTy (by decide) wo.heap.size _ (List.replicate i 5) rfl (hO.alloc _) _ _ 1 1 [5] rfl rfl (RL.freshe _ 5 rfl _) HN1.out (le_alloc0 hBz _) ?_; intro v5 w5 hO5 hg5 hk5 hb5)
          have hB5 := HBA.out.trans hb5
          have hO6 : OwL nV w5 wo.heap.size 3 v5 (List.replicate (i + 1) 5) := by rw [List.replicate_succ']; exact hO5
          go_roundg (32 - (i + 1))
          case rel => exact ⟨i + 1, rfl, by omega, by go_num, hO6, hB5⟩
          case measure => omega
        · obtain rfl : i = 32 := by omega
          obtain ⟨A', c', rfl, hr', _, _⟩ := OwL.rd hO
          have hrx := hr.step hB2
          have HB := bx (hB.trans (hB2.mono hB.size))
          rw [List.length_replicate]
          clear hO
          go_wp2
          go_ret2
          exact ⟨A, A', c, c', rfl, hrx, hr', HB.out⟩
end Go.Proofs.YtlmcpkomjofcgaaGreatDoor
namespace Go.Proofs.YtlmcpkomjofcgaaGreatDoor
open Go.RowKit

def RToPost (R : Rz ((List Nat × List Nat) × Nat)) (w : World) (gr : Nat) (b : List UInt8) (e : Ending) (w' : World) : Prop :=
  w.grownBy w' (some gr) ∧ match R with
    | .ok x => ∃ A n c A' n' c', e = .returned (.tuple #[.slice A n c, .slice A' n' c', .int .i64 0]) ∧ x.1.1.length = n ∧ x.1.2.length = n' ∧ RN w' w'.heap.size A x.1.1 ∧ RN w' w'.heap.size A' x.1.2 ∧ RRd w' gr b x.2 ∧
        (∀ y ∈ x.1.1, y ≤ 15) ∧ (∀ y ∈ x.1.2, y ≤ 15) ∧ n ≤ 288 ∧ n' ≤ 288
    | .err k => e = .returned (.tuple #[.slice none 0 0, .slice none 0 0, .int .i64 k]) ∧ k ≠ 0
theorem rtoPost_err {R : Rz ((List Nat × List Nat) × Nat)} {w w' : World} {gr : Nat} {b : List UInt8} {k : Int} (h : R = .err k) (hg : w.grownBy w' (some gr)) (hk : k ≠ 0 := by decide) : RToPost R w gr b (.returned (.tuple #[.slice none 0 0, .slice none 0 0, .int .i64 k])) w' := by
  subst h; exact ⟨hg, rfl, hk⟩
theorem rtoPost_ok {R : Rz ((List Nat × List Nat) × Nat)} {w w' : World} {gr : Nat} {b : List UInt8} {l1 l2 : List Nat} {q n c n' c' : Nat} {A A' : Option Addr} (h : R = .ok ((l1, l2), q)) (hg : w.grownBy w' (some gr)) (h1 : l1.length = n) (h2 : l2.length = n') (h3 : RN w' w'.heap.size A l1) (h4 : RN w' w'.heap.size A' l2)
    (h5 : RRd w' gr b q) (h6 : ∀ y ∈ l1, y ≤ 15) (h7 : ∀ y ∈ l2, y ≤ 15) (h8 : n ≤ 288) (h9 : n' ≤ 288) : RToPost R w gr b (.returned (.tuple #[.slice A n c, .slice A' n' c', .int .i64 0])) w' := by
  subst h; exact ⟨hg, A, n, c, A', n', c', rfl, h1, h2, h3, h4, h5, h6, h7, h8, h9⟩
/-- What is kept while the lengths are read. -/
def RTo (w0 w : World) (gr : Nat) (b : List UInt8) (q : Nat) : Prop := w0.grownBy w (some gr) ∧ RRd w gr b q ∧ gr < w0.heap.size
section
variable {w0 w w' : World} {gr q q' : Nat} {b : List UInt8}
theorem RTo.next (h : RTo w0 w gr b q) (hg : w.grownBy w' (some gr)) (hR : RRd w' gr b q') : RTo w0 w' gr b q' := ⟨gb_trans h.1 hg, hR, h.2.2⟩
theorem RTo.step (h : RTo w0 w gr b q) {B : Nat} (hb : Below B w w') (hB : w0.heap.size ≤ B) : RTo w0 w' gr b q := ⟨gb_past h.1 hb hB, h.2.1.below hb (by have := h.2.2; omega), h.2.2⟩
theorem RTo.drewN (h : RTo w0 w gr b q) (n : Nat) : RTo w0 (w.drewN n) gr b q := h.step (below_drewN (Below.refl w0.heap.size w) n) (Nat.le_refl _)
theorem RTo.size (h : RTo w0 w gr b q) : w0.heap.size ≤ w.heap.size := h.1.size
end
theorem allF_small {lens : List Nat} {b : List UInt8} {total f p s q : Nat} {all : List Nat} (h : all.length < total) (hN : nextP lens b p = .ok (s, q)) (hs : s < 16) (hq : q ≤ 8 * b.length) : allF lens b total (f + 1) p all = allF lens b total f q (all ++ [s]) := by
  rw [allF_ok h hN, if_neg (by omega)]
  have e : runP s all = (s, 1, 0) := by unfold runP; rw [if_neg (by omega), if_neg (by omega), if_neg (by omega)]
  rw [e]
  show (tk b q 0).bind _ = _
  rw [tk, if_pos (by omega)]
  show (if total < all.length + (1 + takeN b q 0) then _ else allF lens b total f (q + 0) (all ++ List.replicate (1 + takeN b q 0) s)) = _
  have e0 : takeN b q 0 = 0 := rfl
  rw [e0, if_neg (by omega)]; rfl
theorem ord_cells2 : ∀ i, i < 19 → (#[Value.int .i64 16, .int .i64 17, .int .i64 18, .int .i64 0, .int .i64 8, .int .i64 7, .int .i64 9, .int .i64 6, .int .i64 10, .int .i64 5, .int .i64 11, .int .i64 4, .int .i64 12, .int .i64 3, .int .i64 13, .int .i64 2, .int .i64 14, .int .i64 1, .int .i64 15] : Array Value)[i]? = some (nV (ordL.getD i 0)) := by
  intro i hi
  match i, hi with
  | 0, _ => rfl
  | 1, _ => rfl
  | 2, _ => rfl
  | 3, _ => rfl
  | 4, _ => rfl
  | 5, _ => rfl
  | 6, _ => rfl
  | 7, _ => rfl
  | 8, _ => rfl
  | 9, _ => rfl
  | 10, _ => rfl
  | 11, _ => rfl
  | 12, _ => rfl
  | 13, _ => rfl
  | 14, _ => rfl
  | 15, _ => rfl
  | 16, _ => rfl
  | 17, _ => rfl
  | 18, _ => rfl
  | i + 19, h => omega
set_option maxRecDepth 100000 in
set_option maxHeartbeats 8000000 in
theorem rtold_any (gr : Nat) (b : List UInt8) (p : Nat) (w : World) (hR : RRd w gr b p) :
    Calls Tryz.prog 59 #[.pointer (some ⟨gr, 0, none⟩)] w (RToPost (toldP b p) w gr b) := by
  obtain ⟨R, hRR⟩ : ∃ R, toldP b p = R := ⟨_, rfl⟩
  rw [hRR]
  have hble := hR.le
  have hT0 : RTo w w gr b p := ⟨World.grownBy.refl w _, hR, hR.lt⟩
  have HR := bx hRR.symm
  obtain ⟨cs, hcs, hcz, hr1⟩ := mk_row (P := Tryz.prog) 41 3 (.int .i64 0) 8 Tryz.underlying41 info_int rfl 19 (by omega) (by omega)
  have hm1 : ∀ w : World, (Instr.makeSlice 41 (.int .i64 19) (.int .i64 19)).run Tryz.prog w = .ok (.slice (some ⟨w.heap.size, 0, none⟩) 19 19) (w.alloc (.cells cs 3)) := hr1
  have HCS := bx hcs
  have HCZ := bx hcz
  clear hcs hcz hr1 hR hRR
  go_enter Tryz.func59, Tryz.ntmps59
  by_cases hq1 : p + 5 ≤ 8 * b.length
  case neg =>
    have HF : Bx (R = .err 2) := bx (by rw [HR.out]; unfold toldP; rw [tk, if_neg hq1]; rfl)
    go_wp2_with fail
    refine (rtake_short gr b p 5 w hT0.2.1 (by omega) (by omega)).mono ?_
    rintro e w1 ⟨rfl, hb1⟩
    have hG := gb_then hT0.1 hb1
    go_wp2
    go_ret3
    exact rtoPost_err HF.out hG
  case pos =>
  go_wp2_with fail
  refine (rtake_ok gr b p 5 w hT0.2.1 (by omega) hq1).mono ?_
  rintro e w1 ⟨rfl, hR1, hg1⟩
  have hT1 := hT0.next hg1 hR1
  obtain ⟨x, hx⟩ : ∃ x, takeN b p 5 = x := ⟨_, rfl⟩
  have hx5 : x < 32 := by rw [← hx]; exact takeN_lt b p 5
  have HX := bx hx
  rw [hx]
  clear hT0 hg1 hR1 hx
  by_cases hq2 : p + 5 + 5 ≤ 8 * b.length
  case neg =>
    have HF : Bx (R = .err 2) := bx (by rw [HR.out]; unfold toldP; rw [tk, if_pos hq1]; show (tk b (p + 5) 5).bind _ = _; rw [tk, if_neg hq2]; rfl)
    go_wp2_with fail
    refine (rtake_short gr b (p + 5) 5 w1 hT1.2.1 (by omega) (by omega)).mono ?_
    rintro e w2 ⟨rfl, hb2⟩
    have hG := gb_then hT1.1 hb2
    go_wp2
    go_ret3
    exact rtoPost_err HF.out hG
  case pos =>
  go_wp2_with fail
  refine (rtake_ok gr b (p + 5) 5 w1 hT1.2.1 (by omega) hq2).mono ?_
  rintro e w2 ⟨rfl, hR2, hg2⟩
  have hT2 := hT1.next hg2 hR2
  obtain ⟨y, hy⟩ : ∃ y, takeN b (p + 5) 5 = y := ⟨_, rfl⟩
  have hy5 : y < 32 := by rw [← hy]; exact takeN_lt b (p + 5) 5
  have HY := bx hy
  rw [hy]
  clear hT1 hg2 hR2 hy
  by_cases hq3 : p + 5 + 5 + 4 ≤ 8 * b.length
  case neg =>
    have HF : Bx (R = .err 2) := bx (by rw [HR.out]; unfold toldP; rw [tk, if_pos hq1]; show (tk b (p + 5) 5).bind _ = _; rw [tk, if_pos hq2]; show (tk b (p + 5 + 5) 4).bind _ = _; rw [tk, if_neg hq3]; rfl)
    go_wp2_with fail
    refine (rtake_short gr b (p + 5 + 5) 4 w2 hT2.2.1 (by omega) (by omega)).mono ?_
    rintro e w3 ⟨rfl, hb3⟩
    have hG := gb_then hT2.1 hb3
    go_wp2
    go_ret3
    exact rtoPost_err HF.out hG
  case pos =>
  go_wp2_with fail
  refine (rtake_ok gr b (p + 5 + 5) 4 w2 hT2.2.1 (by omega) hq3).mono ?_
  rintro e w3 ⟨rfl, hR3, hg3⟩
  have hT3 := hT2.next hg3 hR3
  obtain ⟨z, hz9⟩ : ∃ z, takeN b (p + 5 + 5) 4 = z := ⟨_, rfl⟩
  have hz : z < 16 := by rw [← hz9]; exact takeN_lt b (p + 5 + 5) 4
  obtain ⟨q, hq9⟩ : ∃ q, p + 5 + 5 + 4 = q := ⟨_, rfl⟩
  have HG : Bx (R = toldG b x y z q) := bx (by
    rw [HR.out]; unfold toldP
    rw [tk, if_pos hq1]; show (tk b (p + 5) 5).bind _ = _
    rw [tk, if_pos hq2]; show (tk b (p + 5 + 5) 4).bind _ = _
    rw [tk, if_pos hq3, HX.out, HY.out, hz9, hq9]; rfl)
  rw [hz9]
  rw [hq9] at hT3
  clear hT2 hg3 hR3 hz9 hq9 HX HY HR hq1 hq2 hq3
  by_cases hbig : 286 < x + 257 ∨ 30 < y + 1
  · have HF : Bx (R = .err 5) := bx (by rw [HG.out, toldG, if_pos hbig])
    rcases Nat.lt_or_ge 286 (x + 257) with hb1 | hb1
    · go_wp2
      go_ret3
      exact rtoPost_err HF.out hT3.1
    · have hb2 : 30 < y + 1 := by omega
      go_wp2
      go_ret3
      exact rtoPost_err HF.out hT3.1
  · have HG2 : Bx (R = (lensF b (ordL.take (z + 4)) (List.replicate 19 0) q).bind (toldC b x y)) := bx (by rw [HG.out, toldG, if_neg hbig])
    have hb1 : x ≤ 29 ∧ y ≤ 29 := by omega
    clear hbig HG
    obtain ⟨go_, hgo_⟩ : ∃ go_, w3.heap.size = go_ := ⟨_, rfl⟩
    have hwz := hT3.size
    have hO3 : Rw ((w3.alloc (.cells #[.int .i64 16, .int .i64 17, .int .i64 18, .int .i64 0, .int .i64 8, .int .i64 7, .int .i64 9, .int .i64 6, .int .i64 10, .int .i64 5, .int .i64 11, .int .i64 4, .int .i64 12, .int .i64 3, .int .i64 13, .int .i64 2, .int .i64 14, .int .i64 1, .int .i64 15] 3)).alloc (.cells cs 3)) go_ 3 19 (fun i => nV (ordL.getD i 0)) := Rw.of ((Bk.newAt _ _ _ hgo_).alloc _) rfl ord_cells2
    have hL3 : Rw ((w3.alloc (.cells #[.int .i64 16, .int .i64 17, .int .i64 18, .int .i64 0, .int .i64 8, .int .i64 7, .int .i64 9, .int .i64 6, .int .i64 10, .int .i64 5, .int .i64 11, .int .i64 4, .int .i64 12, .int .i64 3, .int .i64 13, .int .i64 2, .int .i64 14, .int .i64 1, .int .i64 15] 3)).alloc (.cells cs 3)) (go_ + 1) 3 19 (fun i => nV ((List.replicate 19 0).getD i 0)) := Rw.of (Bk.newAt _ _ _ (by simp [hgo_])) HCS.out (fun i hi => by rw [HCZ.out i hi, rep0]; rfl)
    have hT4 := hT3.step (bl_alloc (bl_alloc (Below.refl w3.heap.size w3) (Nat.le_refl _) (.cells #[.int .i64 16, .int .i64 17, .int .i64 18, .int .i64 0, .int .i64 8, .int .i64 7, .int .i64 9, .int .i64 6, .int .i64 10, .int .i64 5, .int .i64 11, .int .i64 4, .int .i64 12, .int .i64 3, .int .i64 13, .int .i64 2, .int .i64 14, .int .i64 1, .int .i64 15] 3)) (Nat.le_refl _) (.cells cs 3)) hwz
    rw [hgo_] at hwz
    clear hT3
    go_wp2_with fail
    clear hgo_ hm1 HCS HCZ
    generalize ((w3.alloc (.cells #[.int .i64 16, .int .i64 17, .int .i64 18, .int .i64 0, .int .i64 8, .int .i64 7, .int .i64 9, .int .i64 6, .int .i64 10, .int .i64 5, .int .i64 11, .int .i64 4, .int .i64 12, .int .i64 3, .int .i64 13, .int .i64 2, .int .i64 14, .int .i64 1, .int .i64 15] 3)).alloc (.cells cs 3)) = w4 at hO3 hL3 hT4 ⊢
    go_loopg [11] (z + 4) (fun κ jj wr => ∃ (j q1 : Nat) (L : List Nat), κ = z + 4 - j ∧ j ≤ z + 4 ∧ jj = .int .i64 (j : Int) ∧ Bx (L.length = 19) ∧ Bx (∀ x ∈ L, x ≤ 7) ∧ Rw wr (go_ + 1) 3 19 (fun i => nV (L.getD i 0)) ∧
      Rw wr go_ 3 19 (fun i => nV (ordL.getD i 0)) ∧ RTo w wr gr b q1 ∧ Bx (R = (lensF b ((ordL.take (z + 4)).drop j) L q1).bind (toldC b x y)))
    case atStart => exact ⟨0, q, List.replicate 19 0, by omega, by omega, rfl, bx (List.length_replicate ..), bx (fun x hx => by rw [List.eq_of_mem_replicate hx]; omega), hL3, hO3, hT4, bx HG2.out⟩
    case round =>
      clear hL3 hO3 hT4 HG2
      obtain ⟨j, q1, L, hgk, hj, rfl, hLl, hL7, hL, hO, hT, hgo⟩ := hrel
      by_cases hjz : j < z + 4
      · have hjI : (j : Int) < (z : Int) + 4 := by omega
        obtain ⟨k, hk⟩ : ∃ k, ordL.getD j 0 = k := ⟨_, rfl⟩
        obtain ⟨ho1, ho2⟩ := ordL_at hz hjz
        rw [hk] at ho1 ho2
        have hglw : w.heap.size ≤ go_ + 1 := by omega
        have HO1 := bx ho1
        clear ho1
        by_cases hq3 : q1 + 3 ≤ 8 * b.length
        · obtain ⟨v, hv⟩ : ∃ v, takeN b q1 3 = v := ⟨_, rfl⟩
          have hv8 : v < 8 := by rw [← hv]; exact takeN_lt b q1 3
          have HGO : Bx (R = (lensF b ((ordL.take (z + 4)).drop (j + 1)) (L.set k v) (q1 + 3)).bind (toldC b x y)) := bx (by rw [hgo.out, lensF_step HO1.out hq3, hv])
          have HV := bx hv
          have HK := bx hk
          clear hv hk
          go_wp2_with fail
          refine (rtake_ok gr b q1 3 wr hT.2.1 (by omega) hq3).mono ?_
          rintro e w5 ⟨rfl, hR5, hg5⟩
          rw [HV.out]
          have hT5 := hT.next hg5 hR5
          have hgrl : gr < go_ := by have := hT.2.2; omega
          have hL5 := hL.grown hg5 (fun e => by injection e; omega)
          have hO5 := hO.grown hg5 (fun e => by injection e; omega)
          have ho5 : w5.cell? ⟨go_, j, none⟩ = some (.int .i64 (k : Int)) := by rw [hO5.cell (by omega), HK.out]; rfl
          have hl5 : w5.cell? ⟨go_ + 1, k, none⟩ = some (.int .i64 ((L.getD k 0 : Nat) : Int)) := hL5.cell ho2
          have hf5 := hL5.frz k
          have HL6 := bx (hL5.set k (.int .i64 (v : Int)))
          have HO6 := bx (hO5.far (p := ⟨go_ + 1, k, none⟩) (by show go_ ≠ go_ + 1; omega) (.int .i64 (v : Int)))
          have HT6 := bx (hT5.step ((Below.refl (go_ + 1) w5).setCell (p := ⟨go_ + 1, k, none⟩) (Nat.le_refl _) (.int .i64 (v : Int))) hglw)
          clear hL5 hO5 hT5 hg5 hR5 hL hO hT
          go_wp2
          go_roundg (z + 4 - (j + 1))
          case rel =>
            refine ⟨j + 1, q1 + 3, L.set k v, rfl, by omega, by go_num, bx (by rw [List.length_set, hLl.out]), bx ?_, HL6.out.ext fun i hi => ?_, HO6.out, HT6.out, HGO⟩
            · intro x hx
              rcases List.mem_or_eq_of_mem_set hx with h | h
              · exact hL7.out x h
              · omega
            · rw [List.getD_eq_getElem?_getD, List.getElem?_set]
              by_cases e : i = k
              · subst e; rw [if_pos rfl, if_pos rfl, if_pos (by rw [hLl.out]; exact hi)]; rfl
              · rw [if_neg (fun x => e x.symm), if_neg e, List.getD_eq_getElem?_getD]
          case measure => omega
        · have HF : Bx (R = .err 2) := bx (by rw [hgo.out, lensF_short HO1.out (by omega)]; rfl)
          clear hk
          go_wp2_with fail
          refine (rtake_short gr b q1 3 wr hT.2.1 (by omega) (by omega)).mono ?_
          rintro e w5 ⟨rfl, hb5⟩
          have HG6 := bx (gb_then hT.1 hb5)
          clear hb5 hL hO hT
          go_wp2
          go_ret3
          exact rtoPost_err HF.out HG6.out
      · obtain rfl : j = z + 4 := by omega
        have hjI : ¬ ((z + 4 : Nat) : Int) < (z : Int) + 4 := by omega
        have HGO : Bx (R = toldC b x y (L, q1)) := bx (by rw [hgo.out, List.drop_of_length_le (by rw [ordL_len hz]; exact Nat.le_refl _)]; rfl)
        have hLr : RN wr wr.heap.size (some ⟨go_ + 1, 0, none⟩) L := RL.more (Rw.read (l := L) (by rw [hLl.out]; exact hL) (fun i x hx => by rw [List.getD_eq_getElem?_getD, hx]; rfl)) (by have := hL.lt; omega)
        clear hgo hL hO
        go_wp2_with fail
        refine (rnew_any (some ⟨go_ + 1, 0, none⟩) 19 19 L false wr hLl.out (by omega) (fun x hx => by have := hL7.out x hx; omega) hLr).mono ?_
        rintro e w5 ⟨hb5, cc, hccz, hcc1, hp⟩
        have hT5 := hT.step hb5 hT.size
        cases hcb : codeB L false with
        | false =>
          have HF : Bx (R = .err 5) := bx (by rw [HGO.out, toldC, if_pos hcb])
          rw [hcb, if_neg (by simp)] at hp
          obtain rfl := hp
          have HG6 := bx (gb_alloc hT5.1 (.cells cc 116))
          clear hcb
          go_wp2_with (refine wpList_store_row rfl 116 (.tmp 14) (.tmp 83) rfl w5.heap.size cc rfl rfl 116 z32 (Bk.new w5 _ z32) (by rw [hccz]; exact info_code) (by rw [hccz]; rfl) hcc1 ?_; rw [World.setRow_alloc_new])
          go_ret3
          exact rtoPost_err HF.out HG6.out
        | true =>
          rw [hcb, if_pos rfl] at hp
          obtain ⟨lo, hi, rfl, hC, hlo⟩ := hp
          have HGO2 : Bx (R = toldA b x y (L, q1)) := bx (by rw [HGO.out, toldC, if_neg (by rw [hcb]; simp)])
          clear hcb HGO
          have hz6 := hT.size
          have hbA := bl_alloc (Below.refl w5.heap.size w5) (Nat.le_refl _) (.cells cc 116)
          obtain ⟨gc, hgc⟩ : ∃ gc, w5.heap.size = gc := ⟨_, rfl⟩
          have HKZ : Bx (Bk (w5.alloc (.cells z32 116)) gc 116 z32) := bx (Bk.newAt _ _ _ hgc)
          have HSR : Bx ((w5.alloc (.cells z32 116)).setRow gc cc = w5.alloc (.cells cc 116)) := bx (by rw [← hgc, World.setRow_alloc_new])
          have hgw : w.heap.size ≤ gc := by rw [← hgc]; exact hT5.size
          have hgrw : gr < w.heap.size := hT.2.2
          have hhi : hi ≤ gc := by rw [← hgc]; exact hC.2.1.2
          have hgrlo : gr < lo := by omega
          have HT6 := bx (hT5.step hbA hT5.size)
          have HC6 := bx (hC.step hbA)
          have HK6 : Bx (Bk (w5.alloc (.cells cc 116)) gc 116 cc) := bx (Bk.newAt _ _ _ hgc)
          have HSZ : Bx (gc + 1 ≤ (w5.alloc (.cells cc 116)).heap.size) := bx (by simp [hgc])
          obtain ⟨T, hT9⟩ : ∃ T, x + 257 + (y + 1) = T := ⟨_, rfl⟩
          have hTb : T ≤ 316 ∧ 258 ≤ T := by omega
          have HT9 := bx hT9
          have hq1 := hT5.2.1.le.1
          have hxT : x + 257 < T := by omega
          clear hT hT5 hb5 hC hlo hbA hT9
          go_wp2_with (refine wpList_store_row rfl 116 (.tmp 14) (.tmp 83) rfl gc cc rfl rfl 116 z32 HKZ.out (by rw [hccz]; exact info_code) (by rw [hccz]; rfl) hcc1 ?_; change wpList _ _ _ _ _ ((w5.alloc (.cells z32 116)).setRow gc cc); rw [HSR.out])
          have hT6 := HT6.out
          have hC6 := HC6.out
          have hK6 := HK6.out
          have hSZ := HSZ.out
          clear HT6 HC6 HK6 HSZ hgc
          generalize w5.alloc (.cells cc 116) = w6 at hT6 hC6 hK6 hSZ ⊢
          have HGO3 : Bx (R = (allF L b T (8 * b.length + 1) q1 []).bind fun v => if v.1.getD 256 0 = 0 then .err 5 else .ok ((v.1.take (x + 257), v.1.drop (x + 257)), v.2)) := bx (by rw [HGO2.out, toldA, HT9.out]; rfl)
          obtain ⟨B5, hB5⟩ : ∃ B5, gc + 1 = B5 := ⟨_, rfl⟩
          rw [hB5] at hSZ
          clear HGO2 hLr
          go_loopg [15] (8 * b.length + 1) (fun κ v wr => ∃ (q2 : Nat) (all : List Nat), OwL nV wr B5 3 v all ∧ B5 ≤ wr.heap.size ∧ RTo w wr gr b q2 ∧ RCd wr lo hi cc L ∧ Bk wr gc 116 cc ∧ all.length ≤ T ∧ Bx (∀ x ∈ all, x ≤ 15) ∧ 8 * b.length < q2 + κ ∧ q2 ≤ 8 * b.length ∧
            Bx (R = (allF L b T κ q2 all).bind fun v => if v.1.getD 256 0 = 0 then .err 5 else .ok ((v.1.take (x + 257), v.1.drop (x + 257)), v.2)))
          case atStart => exact ⟨q1, [], OwL.nil, hSZ, hT6, hC6, hK6, by simp, bx (by simp), by omega, hq1, HGO3⟩
          case round =>
            clear hT6 hC6 hK6 hSZ HGO3
            obtain ⟨q2, all, hO, hBz, hT, hC, hK, hal, h15, hgk, hq2, hgo⟩ := hrel
            obtain ⟨κ, rfl⟩ : ∃ κ, gk = κ + 1 := ⟨gk - 1, by omega⟩
            obtain ⟨Av, nv, cv, rfl, hnv, hrv⟩ := OwL.sl hO
            have hnvT : nv ≤ T := by rw [hnv.out]; exact hal
            by_cases hfull : T ≤ all.length
            · have hnvt : ¬ (nv : Int) < (x : Int) + 257 + ((y : Int) + 1) := by have := HT9.out; have := hnv.out; omega
              have HGO4 : Bx (R = if all.getD 256 0 = 0 then .err 5 else .ok ((all.take (x + 257), all.drop (x + 257)), q2)) := bx (by rw [hgo.out, allF_full hfull]; rfl)
              have hcap : nv ≤ cv := by
                obtain ⟨A', c', e, _, h, _⟩ := hO.rd
                injection e with e1 e2 e3
                subst e3
                rw [hnv.out]; exact h
              obtain ⟨ad9, e9, rfl, _, hx9, hc9⟩ := RL.atl hrv (k := 256) (by omega)
              have hc9' : wr.cell? ⟨ad9.block, ad9.off + 256, none⟩ = some (.int .i64 (e9 : Int)) := by rw [add_pos] at hc9; exact hc9
              have he9 : all.getD 256 0 = e9 := by rw [List.getD_eq_getElem?_getD, hx9.out]; rfl
              have hnvg : 256 < nv := by have := hnv.out; omega
              rw [he9] at HGO4
              have HG := bx hT.1
              clear hgo hc9 he9
              by_cases h0 : e9 = 0
              · have HF : Bx (R = .err 5) := bx (by rw [HGO4.out, if_pos h0])
                subst h0
                go_wp2
                go_ret3
                exact rtoPost_err HF.out HG.out
              · have HF : Bx (R = .ok ((all.take (x + 257), all.drop (x + 257)), q2)) := bx (by rw [HGO4.out, if_neg h0])
                have hb0 : ((e9 : Int) == 0) = false := by rw [beq_eq_false_iff_ne]; omega
                have hx1 : (x : Int) + 257 ≤ (cv : Int) := by have := hnv.out; omega
                have hx2 : (x : Int) + 257 ≤ (nv : Int) := by have := hnv.out; omega
                have hx3 : ¬ cv = x + 257 := by have := hnv.out; omega
                clear h0 HGO4
                go_wp2_with fail
                go_quiet (fail)
                rename Nat => nq
                go_wp2
                go_ret3
                have hl1 : (all.take (x + 257)).length = x + 257 := by rw [List.length_take]; have := hnv.out; omega
                have hl2 : (all.drop (x + 257)).length = nv - (x + 257) := by rw [List.length_drop, hnv.out]
                exact rtoPost_ok HF.out (gb_drewN HG.out nq) hl1 hl2 ((hrv.take _).drewN nq) (hrv.drop (x + 257)) (hT.drewN nq).2.1 (fun y hy => h15.out y (List.mem_of_mem_take hy)) (fun y hy => h15.out y (List.mem_of_mem_drop hy)) (by omega) (by have := HT9.out; have := hnv.out; omega)
            · have hnvt : nv < T := by rw [hnv.out]; omega
              have hlt9 : (nv : Int) < (x : Int) + 257 + ((y : Int) + 1) := by have := HT9.out; omega
              cases hN : nextP L b q2 with
              | err k =>
                have HF : Bx (R = .err k) := bx (by rw [hgo.out, allF_err (by omega) hN]; rfl)
                have HNX := bx hN
                have hk := nextP_errs hN
                clear hN
                go_wp2_with (refine wpList_load_row rfl 116 (.tmp 14) rfl gc rfl _ cc _ _ hK Tryz.underlying116 rfl (by rw [hccz]; exact info_code) ?_)
                refine (rnext_any lo hi gr cc L b q2 wr hC hT.2.1 hgrlo).mono ?_
                rintro e w7 ⟨hg7, hp⟩
                rw [HNX.out] at hp
                obtain rfl := hp
                have hG7 := gb_trans hT.1 hg7
                rcases hk with rfl | rfl
                · go_wp2
                  go_ret3
                  exact rtoPost_err HF.out hG7
                · go_wp2
                  go_ret3
                  exact rtoPost_err HF.out hG7
              | ok x7 =>
                obtain ⟨s, p1⟩ := x7
                have HNX := bx hN
                have hs19 : s < 19 := by have := nextP_lt hN; rw [hLl.out] at this; exact this
                have hmore := nextP_more hN
                have hokx := allF_ok (f := κ) (by omega : all.length < T) hN
                have hsm := fun h : s < 16 => allF_small (f := κ) (by omega : all.length < T) hN h hmore.2
                have HSM := bx (fun h : s < 16 => hgo.out.trans (by rw [hsm h]))
                have HGO := bx (hgo.out.trans (by rw [hokx]))
                clear hN hgo hokx hsm
                go_wp2_with (refine wpList_load_row rfl 116 (.tmp 14) rfl gc rfl _ cc _ _ hK Tryz.underlying116 rfl (by rw [hccz]; exact info_code) ?_)
                refine (rnext_any lo hi gr cc L b q2 wr hC hT.2.1 hgrlo).mono ?_
                rintro e w7 ⟨hg7, hp⟩
                rw [HNX.out] at hp
                obtain ⟨rfl, hR7⟩ := hp
                have hT7 := hT.next hg7 hR7
                have hC7 := hC.grown hg7 (fun k hk => by injection hk; omega)
                have hK7 := hK.grown hg7 (fun e => by injection e; omega)
                have hO7 := hO.keptAt hg7 (by omega)
                have hB7 : B5 ≤ w7.heap.size := Nat.le_trans hBz hg7.size
                have hrv7 : RN w7 w7.heap.size Av all := hO7.rl
                clear hT hC hO hBz hg7 hR7 hrv hK
                by_cases hs16 : s < 16
                · have HGO5 : Bx (R = (allF L b T κ p1 (all ++ [s])).bind fun v => if v.1.getD 256 0 = 0 then .err 5 else .ok ((v.1.take (x + 257), v.1.drop (x + 257)), v.2)) := bx (HSM.out hs16)
                  have hsI : (s : Int) < 16 := by omega
                  have HL : Bx ((all.length + [s].length) * 8 ≤ 140737488355328) := bx (by simp; omega)
                  have H15 : Bx (∀ x ∈ all ++ [s], x ≤ 15) := bx (fun x hx => by
                    rcases List.mem_append.1 hx with h | h
                    · exact h15.out x h
                    · simp at h; omega)
                  clear HSM HGO
                  go_wp2_with (at_builtin; refine wpList_appL _ nV_one rfl (.tmp 105) (.tmp 107) rfl intTy (by decide) B5 _ all rfl (hO7.alloc _) _ _ 1 1 [s] rfl rfl (RL.freshe _ s rfl _) HL.out (le_alloc0 hB7 _) ?_; intro v5 w9 hO5 hg5 _ hb5)
                  have hb9 : Below B5 w7 w9 := (bl_alloc (Below.refl B5 w7) hB7 _).trans hb5
                  have hB9 : B5 ≤ w9.heap.size := Nat.le_trans hB7 hb9.size
                  have hT9 := hT7.step hb9 (by omega)
                  have hC9 := hC7.below hb9 (by omega)
                  have hK9 := hK7.below hb9 (by omega)
                  go_roundg κ
                  case rel => exact ⟨p1, all ++ [s], hO5, hB9, hT9, hC9, hK9, by rw [List.length_append]; simp; omega, H15, by omega, by omega, HGO5⟩
                  case measure => omega
                · have hsI : ¬ (s : Int) < 16 := by omega
                  have hT7 : RTo w w7 gr b p1 := hT7
                  clear HSM
                  by_cases hbad : s = 16 ∧ all = []
                  · have HF : Bx (R = .err 6) := bx (by rw [HGO.out, if_pos hbad]; rfl)
                    have hnv0 : nv = 0 := by rw [hnv.out, hbad.2]; rfl
                    obtain ⟨rfl, _⟩ := hbad
                    subst hnv0
                    have HG7 := bx hT7.1
                    clear hsI hs16
                    go_wp2
                    go_ret3
                    exact rtoPost_err HF.out HG7.out
                  · have HGO := bx (HGO.out.trans (by rw [if_neg hbad]))
                    have hbd := runP_bd hs19 h15.out hbad
                    obtain ⟨vv, hvv⟩ : ∃ vv, (runP s all).1 = vv := ⟨_, rfl⟩
                    obtain ⟨nn, hnn⟩ : ∃ nn, (runP s all).2.1 = nn := ⟨_, rfl⟩
                    obtain ⟨ww, hww⟩ : ∃ ww, (runP s all).2.2 = ww := ⟨_, rfl⟩
                    rw [hvv, hnn, hww] at hbd HGO
                    have hrun : (s = 16 ∧ all ≠ [] ∧ vv = all.getLastD 0 ∧ nn = 3 ∧ ww = 2) ∨ (s = 17 ∧ vv = 0 ∧ nn = 3 ∧ ww = 3) ∨ (s = 18 ∧ vv = 0 ∧ nn = 11 ∧ ww = 7) := by
                      unfold runP at hvv hnn hww
                      by_cases e16 : s = 16
                      · rw [if_pos e16] at hvv hnn hww
                        exact .inl ⟨e16, fun e => hbad ⟨e16, e⟩, hvv.symm, hnn.symm, hww.symm⟩
                      · rw [if_neg e16] at hvv hnn hww
                        by_cases e17 : s = 17
                        · rw [if_pos e17] at hvv hnn hww
                          exact .inr (.inl ⟨e17, hvv.symm, hnn.symm, hww.symm⟩)
                        · rw [if_neg e17] at hvv hnn hww
                          have e18 : s = 18 := by omega
                          rw [if_pos e18] at hvv hnn hww
                          exact .inr (.inr ⟨e18, hvv.symm, hnn.symm, hww.symm⟩)
                    have HBAD := bx hbad
                    have HRUN := bx hrun
                    clear hvv hnn hww hbad hrun
                    go_upto_if 110 with (fail)
                    go_cut [18, 20] (fun a c wx => a = .int .i64 (vv : Int) ∧ c = .int .i64 (if s = 16 then 2 else 3) ∧ w7 = wx)
                    case first =>
                      rcases HRUN.out with ⟨hs, hne, hv9, _, _⟩ | ⟨hs, hv, _, _⟩ | ⟨hs, hv, _, _⟩
                      · have hsb : ((s : Int) == 16) = true := by rw [hs]; rfl
                        have hnv0 : 0 < nv := by rw [hnv.out]; exact List.length_pos_iff.2 hne
                        have hnvb : ((nv : Int) == 0) = false := by rw [beq_eq_false_iff_ne]; omega
                        obtain ⟨ad9, x9, rfl, _, hx9, hc9⟩ := RL.atl hrv7 (k := nv - 1) (by rw [← hnv.out]; omega)
                        have hxv : x9 = vv := by
                          rw [hv9, List.getLastD_eq_getLast?, List.getLast?_eq_getElem?, ← hnv.out, hx9.out]; rfl
                        have hc9' : w7.cell? (ad9.add (nv - 1)) = some (.int .i64 (vv : Int)) := by rw [hc9, hxv]; rfl
                        have hn1 : (1 : Int) ≤ (nv : Int) := by omega
                        have HS := bx hs
                        clear hc9 hxv hv9 hne hs
                        go_wp2
                        go_meet
                        case rel => exact ⟨rfl, by rw [if_pos HS.out], rfl⟩
                      · have hsb : ((s : Int) == 16) = false := by rw [hs]; rfl
                        have HS := bx hs
                        subst hv
                        clear hs
                        go_wp2
                        go_meet
                        case rel => exact ⟨rfl, by rw [if_neg (by rw [HS.out]; decide)], rfl⟩
                      · have hsb : ((s : Int) == 16) = false := by rw [hs]; rfl
                        have HS := bx hs
                        subst hv
                        clear hs
                        go_wp2
                        go_meet
                        case rel => exact ⟨rfl, by rw [if_neg (by rw [HS.out]; decide)], rfl⟩
                    case rest =>
                    obtain ⟨rfl, rfl, rfl⟩ := hcut
                    obtain ⟨W3, hW3⟩ : ∃ W3 : Int, (if s = 16 then 2 else 3) = W3 := ⟨_, rfl⟩
                    rw [hW3]
                    have HW3 := bx hW3
                    clear hW3
                    go_upto_if 121 with (fail)
                    go_cut [19, 20] (fun a c wx => a = .int .i64 (nn : Int) ∧ c = .int .i64 (ww : Int) ∧ w7 = wx)
                    case first =>
                      rcases HRUN.out with ⟨hs, hne, hv9, hn, hw⟩ | ⟨hs, hv, hn, hw⟩ | ⟨hs, hv, hn, hw⟩
                      · have hsb : ((s : Int) == 18) = false := by rw [hs]; rfl
                        have hW : W3 = 2 := by rw [← HW3.out, if_pos hs]
                        subst hn hw hW
                        clear hs hv9 hne
                        go_wp2
                        go_meet
                        case rel => exact ⟨rfl, rfl, rfl⟩
                      · have hsb : ((s : Int) == 18) = false := by rw [hs]; rfl
                        have hW : W3 = 3 := by rw [← HW3.out, if_neg (by omega)]
                        subst hn hw hW
                        clear hs hv
                        go_wp2
                        go_meet
                        case rel => exact ⟨rfl, rfl, rfl⟩
                      · have hsb : ((s : Int) == 18) = true := by rw [hs]; rfl
                        subst hn hw
                        clear hs hv
                        go_wp2
                        go_meet
                        case rel => exact ⟨rfl, rfl, rfl⟩
                    case rest =>
                    obtain ⟨rfl, rfl, rfl⟩ := hcut
                    by_cases hq4 : p1 + ww ≤ 8 * b.length
                    · obtain ⟨m, hm⟩ : ∃ m, takeN b p1 ww = m := ⟨_, rfl⟩
                      have hm8 : m < 128 := by
                        rw [← hm]
                        have h1 := takeN_lt b p1 ww
                        have h2 : 2 ^ ww ≤ 2 ^ 7 := Nat.pow_le_pow_right (by decide) hbd.2.2.2
                        omega
                      have HGO2 : Bx (R = (if T < all.length + (nn + m) then .err 6 else allF L b T κ (p1 + ww) (all ++ List.replicate (nn + m) vv)).bind fun v => if v.1.getD 256 0 = 0 then .err 5 else .ok ((v.1.take (x + 257), v.1.drop (x + 257)), v.2)) := bx (by
                        rw [HGO.out, tk, if_pos hq4, hm]; rfl)
                      have HM := bx hm
                      clear hm HGO
                      go_wp2_with fail
                      refine (rtake_ok gr b p1 ww w7 hT7.2.1 (by omega) hq4).mono ?_
                      rintro e w8 ⟨rfl, hR8, hg8⟩
                      rw [HM.out]
                      have hT8 := hT7.next hg8 hR8
                      have hC8 := hC7.grown hg8 (fun k hk => by injection hk; omega)
                      have hK8 := hK7.grown hg8 (fun e => by injection e; omega)
                      have hO8 := hO7.keptAt hg8 (by omega)
                      have hB8 : B5 ≤ w8.heap.size := Nat.le_trans hB7 hg8.size
                      clear hT7 hC7 hO7 hB7 hg8 hR8 hrv7 hK7
                      obtain ⟨N, hN9⟩ : ∃ N, nn + m = N := ⟨_, rfl⟩
                      have hNI : ((m : Int) + (nn : Int)) = (N : Int) := by omega
                      have hNb : N ≤ 200 ∧ 1 ≤ N := by omega
                      rw [hN9] at HGO2
                      have HNI := bx hNI
                      clear hNI hN9
                      go_wp2_with fail
                      rw [HNI.out]
                      obtain ⟨wo2, rfl⟩ : ∃ wo2 : World, wo2 = wr := ⟨_, rfl⟩
                      have hO8' : OwL nV w8 B5 3 (.slice Av nv cv) (all ++ List.replicate 0 vv) := by rw [List.replicate_zero, List.append_nil]; exact hO8
                      clear hO8
                      go_loopg [15, 21] N (fun κ2 v nnn wr => ∃ j : Nat, κ2 = N - j ∧ j ≤ N ∧ nnn = .int .i64 ((N : Int) - (j : Int)) ∧ OwL nV wr B5 3 v (all ++ List.replicate j vv) ∧ B5 ≤ wr.heap.size ∧ RTo w wr gr b (p1 + ww) ∧ RCd wr lo hi cc L ∧ Bk wr gc 116 cc)
                      case atStart => exact ⟨0, by omega, by omega, by go_num, hO8', hB8, hT8, hC8, hK8⟩
                      case round =>
                        clear hO8' hB8 hT8 hC8 hK8
                        obtain ⟨j, hgk2, hj, rfl, hO, hBz, hT, hC, hK⟩ := hrel
                        by_cases hjN : j < N
                        · have HL : Bx (((all ++ List.replicate j vv).length + [vv].length) * 8 ≤ 140737488355328) := bx (by simp; omega)
                          have hjI : (0 : Int) < (N : Int) - (j : Int) := by omega
                          go_wp2_with (at_builtin; refine wpList_appL _ nV_one rfl (.tmp 138) (.tmp 140) rfl intTy (by decide) B5 _ _ rfl (hO.alloc _) _ _ 1 1 [vv] rfl rfl (RL.freshe _ _ rfl _) HL.out (le_alloc0 hBz _) ?_; intro v5 w9 hO5 hg5 _ hb5)
                          have hb9 : Below B5 wr w9 := (bl_alloc (Below.refl B5 wr) hBz _).trans hb5
                          have hO9 : OwL nV w9 B5 3 v5 (all ++ List.replicate (j + 1) vv) := by rw [List.replicate_succ', ← List.append_assoc]; exact hO5
                          have hB9 : B5 ≤ w9.heap.size := Nat.le_trans hBz hb9.size
                          have hT9 := hT.step hb9 (by omega)
                          have hC9 := hC.below hb9 (by omega)
                          have hK9 := hK.below hb9 (by omega)
                          go_roundg (N - (j + 1))
                          case rel => exact ⟨j + 1, rfl, by omega, by go_num, hO9, hB9, hT9, hC9, hK9⟩
                          case measure => omega
                        · obtain rfl : j = N := by omega
                          have hjI : ¬ (0 : Int) < (j : Int) - (j : Int) := by omega
                          have HALL : Bx (∀ x ∈ all ++ List.replicate j vv, x ≤ 15) := bx (fun x hx => by
                            rcases List.mem_append.1 hx with h | h
                            · exact h15.out x h
                            · rw [List.eq_of_mem_replicate h]; exact hbd.1)
                          obtain ⟨A5, n5, c5, rfl, hn5, _⟩ := OwL.sl hO
                          have hn5' : n5 = all.length + j := by rw [hn5.out]; simp
                          have HT10 := HT9.out
                          by_cases hmany : T < all.length + j
                          · have HF : Bx (R = .err 6) := bx (by rw [HGO2.out, if_pos hmany]; rfl)
                            have hgt : (x : Int) + 257 + ((y : Int) + 1) < (n5 : Int) := by omega
                            have HG8 := bx hT.1
                            clear HT10 hn5'
                            go_wp2
                            go_ret3
                            exact rtoPost_err HF.out HG8.out
                          · have HGO3 := bx (HGO2.out.trans (by rw [if_neg hmany]))
                            have hgt : ¬ (x : Int) + 257 + ((y : Int) + 1) < (n5 : Int) := by omega
                            clear HT10 hn5' HGO2
                            go_wp2_with fail
                            go_roundg κ
                            case rel => exact ⟨p1 + ww, all ++ List.replicate j vv, hO, hBz, hT, hC, hK, by rw [List.length_append, List.length_replicate]; omega, HALL, by omega, by omega, HGO3⟩
                            case measure => omega
                    · have HF : Bx (R = .err 2) := bx (by rw [HGO.out, tk, if_neg hq4]; rfl)
                      go_wp2_with fail
                      refine (rtake_short gr b p1 ww w7 hT7.2.1 (by omega) (by omega)).mono ?_
                      rintro e w8 ⟨rfl, hb8⟩
                      have HG8 := bx (gb_then hT7.1 hb8)
                      clear hb8
                      go_wp2
                      go_ret3
                      exact rtoPost_err HF.out HG8.out
end Go.Proofs.YtlmcpkomjofcgaaGreatDoor
namespace Go.Proofs.YtlmcpkomjofcgaaGreatDoor
open Go.RowKit

def RSPost (R : Rz (List UInt8 × Nat)) (w : World) (gr : Nat) (b : List UInt8) (lim : Nat) (e : Ending) (w' : World) : Prop :=
  Below gr w w' ∧ match R with
    | .ok x => ∃ v, e = .returned (.tuple #[v, .int .i64 0]) ∧ RRd w' gr b x.2 ∧ OwB w' (gr + 1) 5 v x.1 ∧ x.1.length ≤ lim
    | .err k => e = .returned (.tuple #[.slice none 0 0, .int .i64 k]) ∧ k ≠ 0
theorem rsPost_err {R : Rz (List UInt8 × Nat)} {w w' : World} {gr : Nat} {b : List UInt8} {lim : Nat} {k : Int} (h : R = .err k) (hb : Below gr w w') (hk : k ≠ 0 := by decide) : RSPost R w gr b lim (.returned (.tuple #[.slice none 0 0, .int .i64 k])) w' := by
  subst h; exact ⟨hb, rfl, hk⟩
theorem rsPost_ok {R : Rz (List UInt8 × Nat)} {w w' : World} {gr : Nat} {b : List UInt8} {lim q : Nat} {v : Value} {o : List UInt8} (h : R = .ok (o, q)) (hb : Below gr w w') (h1 : RRd w' gr b q) (h2 : OwB w' (gr + 1) 5 v o) (h3 : o.length ≤ lim) : RSPost R w gr b lim (.returned (.tuple #[v, .int .i64 0])) w' := by
  subst h; exact ⟨hb, v, rfl, h1, h2, h3⟩
/-- While symbols are read. -/
structure RSy (w0 w : World) (gr g1 g2 lo1 hi1 lo2 hi2 : Nat) (cl cd : Array Value) (b : List UInt8) (lit dist : List Nat) (v : Value) (p : Nat) (out : List UInt8) : Prop where
  bl : Below gr w0 w
  rd : RRd w gr b p
  ow : OwB w (gr + 1) 5 v out
  k1 : Bk w g1 116 cl
  k2 : Bk w g2 116 cd
  c1 : RCd w lo1 hi1 cl lit
  c2 : RCd w lo2 hi2 cd dist
  far : ∀ k, v.ownBlock = some k → k ≠ g1 ∧ k ≠ g2 ∧ ¬ (lo1 ≤ k ∧ k < hi1) ∧ ¬ (lo2 ≤ k ∧ k < hi2)
  low : gr < lo1 ∧ gr < lo2 ∧ gr < g1 ∧ gr < g2
section
variable {w0 w w' : World} {gr g1 g2 lo1 hi1 lo2 hi2 : Nat} {cl cd : Array Value} {b : List UInt8} {lit dist : List Nat} {v : Value} {p q : Nat} {out : List UInt8}
theorem RSy.next (h : RSy w0 w gr g1 g2 lo1 hi1 lo2 hi2 cl cd b lit dist v p out) (hg : w.grownBy w' (some gr)) (hR : RRd w' gr b q) : RSy w0 w' gr g1 g2 lo1 hi1 lo2 hi2 cl cd b lit dist v q out := by
  obtain ⟨l1, l2, l3, l4⟩ := h.low
  exact ⟨h.bl.trans (gb_low hg (Nat.le_refl _) h.rd.lt), hR, h.ow.keptAt hg (by omega), h.k1.grown hg (fun e => by injection e; omega), h.k2.grown hg (fun e => by injection e; omega), h.c1.grown hg (fun k hk => by injection hk; omega), h.c2.grown hg (fun k hk => by injection hk; omega), h.far, h.low⟩
/-- One new cell was laid, and the row has grown. -/
theorem RSy.push (h : RSy w0 w gr g1 g2 lo1 hi1 lo2 hi2 cl cd b lit dist v p out) {v' : Value} {out' : List UInt8} {o : Obj} (hO : OwB w' (gr + 1) 5 v' out') (hg : (w.alloc o).grownBy w' v.ownBlock) (hv : v'.ownBlock = v.ownBlock ∨ v'.ownBlock = some (w.alloc o).heap.size) :
    RSy w0 w' gr g1 g2 lo1 hi1 lo2 hi2 cl cd b lit dist v' p out' := by
  obtain ⟨l1, l2, l3, l4⟩ := h.low
  have hsz : (w.alloc o).heap.size = w.heap.size + 1 := by simp
  have same : ∀ i, i < w.heap.size → v.ownBlock ≠ some i → w'.heap[i]? = w.heap[i]? := fun i hi hne => by
    rw [hg.block i (by omega) (fun e => hne e.symm), Below.heap_alloc w o i hi]
  have hvb : ∀ k, v.ownBlock = some k → gr + 1 ≤ k ∧ k < w.heap.size := fun k hk => World.ownsRow.lt h.ow k hk
  have hrd := h.rd.lt
  have hz1 := h.k1.lt
  have hz2 := h.k2.lt
  have hz3 := h.c1.2.1
  have hz4 := h.c2.2.1
  have hw := hg.size
  refine ⟨⟨hg.os.trans h.bl.os, hg.tape.trans h.bl.tape, hg.output.trans h.bl.output, by have := h.bl.size; omega, fun i hi => ?_⟩, ?_, hO, ?_, ?_, ?_, ?_, fun k hk => ?_, h.low⟩
  · rw [same i (by omega) (fun e => by have := hvb i e; omega)]; exact h.bl.block i hi
  · exact h.rd.keep fun i hi => same i (by omega) (fun e => by have := hvb i e; omega)
  · exact (same g1 hz1 (fun e => (h.far g1 e).1 rfl)).trans h.k1
  · exact (same g2 hz2 (fun e => (h.far g2 e).2.1 rfl)).trans h.k2
  · exact h.c1.keep (fun i a1 a2 => same i (by omega) (fun e => (h.far i e).2.2.1 ⟨a1, a2⟩)) (by omega)
  · exact h.c2.keep (fun i a1 a2 => same i (by omega) (fun e => (h.far i e).2.2.2 ⟨a1, a2⟩)) (by omega)
  · rcases hv with e | e
    · exact h.far k (e ▸ hk)
    · rw [e] at hk
      injection hk with hk
      omega
end
set_option maxRecDepth 100000 in
set_option maxHeartbeats 8000000 in
theorem rsymbols_any (gr lo1 hi1 lo2 hi2 : Nat) (cl cd : Array Value) (b : List UInt8) (lit dist : List Nat) (p lim : Nat) (v : Value) (out : List UInt8) (w : World) (hR : RRd w gr b p) (hO : OwB w (gr + 1) 5 v out) (hC1 : RCd w lo1 hi1 cl lit) (hC2 : RCd w lo2 hi2 cd dist)
    (hf : ∀ k, v.ownBlock = some k → ¬ (lo1 ≤ k ∧ k < hi1) ∧ ¬ (lo2 ≤ k ∧ k < hi2)) (hl1 : gr < lo1) (hl2 : gr < lo2) (hol : out.length ≤ lim) (hlim : lim ≤ 32768) :
    Calls Tryz.prog 61 #[.pointer (some ⟨gr, 0, none⟩), .agg cl, .agg cd, v, .int .i64 (lim : Int)] w (RSPost (symP lit dist lim out b p) w gr b lim) := by
  obtain ⟨R, hRR⟩ : ∃ R, symP lit dist lim out b p = R := ⟨_, rfl⟩
  rw [hRR]
  have HR := bx hRR
  clear hRR
  have hble := hR.le
  have hcz1 := hC1.1
  have hcz2 := hC2.1
  have hgr := hR.lt
  obtain ⟨g1, hg1⟩ : ∃ g1, w.heap.size = g1 := ⟨_, rfl⟩
  have hbA := bl_alloc (bl_alloc (Below.refl w.heap.size w) (Nat.le_refl _) (.cells cl 116)) (Nat.le_refl _) (.cells cd 116)
  have hV0 : RSy w ((w.alloc (.cells cl 116)).alloc (.cells cd 116)) gr g1 (g1 + 1) lo1 hi1 lo2 hi2 cl cd b lit dist v p out :=
    ⟨hbA.mono (by omega), hR.step hbA, hO.below hbA, (Bk.newAt _ _ _ hg1).alloc _, Bk.newAt _ _ _ (by simp [hg1]), hC1.step hbA, hC2.step hbA, fun k hk => by
      have h1 := hf k hk
      have h2 := (World.ownsRow.lt hO k hk).2
      exact ⟨by omega, by omega, h1.1, h1.2⟩, ⟨hl1, hl2, by omega, by omega⟩⟩
  clear hR hO hC1 hC2 hbA hf
  go_enter Tryz.func61, Tryz.ntmps61
  go_wp2_with fail
  clear hg1
  generalize ((w.alloc (.cells cl 116)).alloc (.cells cd 116)) = w1 at hV0 ⊢
  go_loopg [3] (8 * b.length + 1) (fun κ v wr => ∃ (q : Nat) (o : List UInt8), RSy w wr gr g1 (g1 + 1) lo1 hi1 lo2 hi2 cl cd b lit dist v q o ∧ o.length ≤ lim ∧ 8 * b.length < q + κ ∧ q ≤ 8 * b.length ∧ Bx (R = symF lit dist b lim κ q o))
  case atStart => exact ⟨p, out, hV0, hol, by omega, by omega, bx HR.out.symm⟩
  case round =>
    clear hV0 hol
    obtain ⟨q, o, hV, hol, hgk, hq, hgo⟩ := hrel
    obtain ⟨κ, rfl⟩ : ∃ κ, gk = κ + 1 := ⟨gk - 1, by omega⟩
    have hK1 := hV.k1
    cases hN : nextP lit b q with
    | err k =>
      have HF : Bx (R = .err k) := bx (hgo.out.trans (symF_err hN))
      have HNX := bx hN
      have hk := nextP_errs hN
      clear hN
      go_wp2_with (refine wpList_load_row rfl 116 (.tmp 6) rfl g1 rfl _ cl _ _ hK1 Tryz.underlying116 rfl (by rw [hcz1]; exact info_code) ?_)
      refine (rnext_any lo1 hi1 gr cl lit b q wr hV.c1 hV.rd hl1).mono ?_
      rintro e w2 ⟨hg3, hp⟩
      rw [HNX.out] at hp
      obtain rfl := hp
      have hB1 := hV.bl.trans (gb_low (B := gr) hg3 (Nat.le_refl _) hV.rd.lt)
      rcases hk with rfl | rfl
      · go_wp2
        go_ret2
        exact rsPost_err HF.out hB1
      · go_wp2
        go_ret2
        exact rsPost_err HF.out hB1
    | ok x =>
      obtain ⟨s, p1⟩ := x
      have HGO := bx (hgo.out.trans (symF_ok hN))
      have hmore := nextP_more hN
      have HNX := bx hN
      clear hN hgo
      go_wp2_with (refine wpList_load_row rfl 116 (.tmp 6) rfl g1 rfl _ cl _ _ hK1 Tryz.underlying116 rfl (by rw [hcz1]; exact info_code) ?_)
      refine (rnext_any lo1 hi1 gr cl lit b q wr hV.c1 hV.rd hl1).mono ?_
      rintro e w2 ⟨hg3, hp⟩
      rw [HNX.out] at hp
      obtain ⟨rfl, hR1⟩ := hp
      have hV1 : RSy w w2 gr g1 (g1 + 1) lo1 hi1 lo2 hi2 cl cd b lit dist _ p1 o := hV.next hg3 hR1
      clear hV hg3 hR1 hK1
      obtain ⟨Av, nv, cv, rfl, hnv, hrv⟩ := OwL.sl hV1.ow
      have hol2 : nv ≤ lim := by rw [hnv.out]; exact hol
      by_cases hs : s = 256
      · subst hs
        have HF : Bx (R = .ok (o, p1)) := bx (by rw [HGO.out, if_pos rfl])
        go_wp2
        go_ret2
        exact rsPost_ok HF.out hV1.bl hV1.rd hV1.ow hol
      · have HGO := bx (HGO.out.trans (by rw [if_neg hs]))
        have hse : ((s : Int) == 256) = false := by rw [beq_eq_false_iff_ne]; omega
        by_cases hs2 : s < 256
        · have HGO := bx (HGO.out.trans (by rw [if_pos hs2]))
          by_cases hfull : lim ≤ o.length
          · have HF : Bx (R = .err 8) := bx (by rw [HGO.out, if_pos hfull])
            have hnl : (lim : Int) ≤ (nv : Int) := by rw [hnv.out]; omega
            clear hs HGO
            go_wp2
            go_ret2
            exact rsPost_err HF.out hV1.bl
          · have HGO := bx (HGO.out.trans (by rw [if_neg hfull]))
            have hnl : ¬ (lim : Int) ≤ (nv : Int) := by rw [hnv.out]; omega
            have HL : Bx ((o.length + [UInt8.ofNat s].length) * 1 ≤ 140737488355328) := bx (by simp; omega)
            have HU : Bx (Value.int .u8 (s : Int) = bV (UInt8.ofNat s)) := bx (by unfold bV; rw [UInt8.toNat_ofNat']; congr 1; omega)
            have hgz : gr + 1 ≤ w2.heap.size := by have := hV1.rd.lt; omega
            have hO2 := hV1.ow
            clear hs hrv
            go_wp2_with (at_builtin; refine wpList_appL _ bV_one rfl (.tmp 38) (.tmp 41) rfl byteTy (by decide) (gr + 1) _ o rfl (hO2.alloc _) _ _ 1 1 [UInt8.ofNat s] rfl rfl (RL.freshe _ _ HU.out _) HL.out (le_alloc0 hgz _) ?_; intro v5 w5 hO5 hg5 hv5 hb5)
            have hP := hV1.push hO5 hg5 hv5
            go_roundg κ
            case rel => exact ⟨p1, o ++ [UInt8.ofNat s], hP, by rw [List.length_append]; simp; omega, by omega, by omega, HGO⟩
            case measure => omega
        · have HGO := bx (HGO.out.trans (by rw [if_neg hs2]))
          by_cases hs3 : 285 < s
          · have HF : Bx (R = .err 6) := bx (by rw [HGO.out, if_pos hs3])
            clear hs HGO
            go_wp2
            go_ret2
            exact rsPost_err HF.out hV1.bl
          · have HGO := bx (HGO.out.trans (by rw [if_neg hs3]))
            have h257 : 257 ≤ s := by omega
            have hLb := len_bd s h257 (by omega)
            obtain ⟨L, hL⟩ : ∃ L, (lenP s).1 = L := ⟨_, rfl⟩
            obtain ⟨M, hM⟩ : ∃ M, (lenP s).2 = M := ⟨_, rfl⟩
            rw [hL, hM] at HGO hLb
            have HLx := bx hL
            have HMx := bx hM
            clear hL hM hs
            go_wp2_with fail
            refine (rlen_any s w2 h257 (by omega)).mono ?_
            rintro e w3 ⟨rfl, rfl⟩
            rw [HLx.out, HMx.out]
            by_cases hq1 : p1 + M ≤ 8 * b.length
            · obtain ⟨k1, hk1⟩ : ∃ k1, takeN b p1 M = k1 := ⟨_, rfl⟩
              have hk1b : k1 < 65536 := by
                rw [← hk1]
                have h1 := takeN_lt b p1 M
                have h2 : 2 ^ M ≤ 2 ^ 14 := Nat.pow_le_pow_right (by decide) (by omega)
                omega
              have HK1 := bx hk1
              have HGO2 : Bx (R = (nextP dist b (p1 + M)).bind fun z => if 29 < z.1 then .err 6 else (tk b z.2 (dstP z.1).2).bind fun u => if o.length < (dstP z.1).1 + u.1 then .err 7 else if lim < o.length + (L + k1) then .err 8 else symF lit dist b lim κ u.2 (copyN ((dstP z.1).1 + u.1) (L + k1) o)) := bx (by rw [HGO.out, tk, if_pos hq1, hk1]; rfl)
              clear hk1 HGO
              go_wp2_with fail
              refine (rtake_ok gr b p1 M w2 hV1.rd (by omega) hq1).mono ?_
              rintro e w3 ⟨rfl, hR2, hg2'⟩
              rw [HK1.out]
              have hV2 := hV1.next hg2' hR2
              have hK2 := hV2.k2
              clear hV1 hrv hg2' hR2
              cases hN : nextP dist b (p1 + M) with
              | err k =>
                have HF : Bx (R = .err k) := bx (by rw [HGO2.out, hN]; rfl)
                have HNX2 := bx hN
                have hk := nextP_errs hN
                clear hN HGO2
                go_wp2_with (refine wpList_load_row rfl 116 (.tmp 7) rfl (g1 + 1) rfl _ cd _ _ hK2 Tryz.underlying116 rfl (by rw [hcz2]; exact info_code) ?_)
                refine (rnext_any lo2 hi2 gr cd dist b (p1 + M) w3 hV2.c2 hV2.rd hl2).mono ?_
                rintro e w4 ⟨hg3, hp⟩
                rw [HNX2.out] at hp
                obtain rfl := hp
                have hB1 := hV2.bl.trans (gb_low (B := gr) hg3 (Nat.le_refl _) hV2.rd.lt)
                rcases hk with rfl | rfl
                · go_wp2
                  go_ret2
                  exact rsPost_err HF.out hB1
                · go_wp2
                  go_ret2
                  exact rsPost_err HF.out hB1
              | ok x =>
                obtain ⟨t, p2⟩ := x
                have hmore2 := nextP_more hN
                have HNX2 := bx hN
                have HGO3 : Bx (R = if 29 < t then .err 6 else (tk b p2 (dstP t).2).bind fun u => if o.length < (dstP t).1 + u.1 then .err 7 else if lim < o.length + (L + k1) then .err 8 else symF lit dist b lim κ u.2 (copyN ((dstP t).1 + u.1) (L + k1) o)) := bx (by rw [HGO2.out, hN]; rfl)
                clear hN HGO2
                go_wp2_with (refine wpList_load_row rfl 116 (.tmp 7) rfl (g1 + 1) rfl _ cd _ _ hK2 Tryz.underlying116 rfl (by rw [hcz2]; exact info_code) ?_)
                refine (rnext_any lo2 hi2 gr cd dist b (p1 + M) w3 hV2.c2 hV2.rd hl2).mono ?_
                rintro e w4 ⟨hg3, hp⟩
                rw [HNX2.out] at hp
                obtain ⟨rfl, hR3⟩ := hp
                have hV3 : RSy w w4 gr g1 (g1 + 1) lo1 hi1 lo2 hi2 cl cd b lit dist _ p2 o := hV2.next hg3 hR3
                clear hV2 hg3 hR3 hK2
                by_cases ht : 29 < t
                · have HF : Bx (R = .err 6) := bx (by rw [HGO3.out, if_pos ht])
                  clear HGO3
                  go_wp2
                  go_ret2
                  exact rsPost_err HF.out hV3.bl
                · have HGO3 := bx (HGO3.out.trans (by rw [if_neg ht]))
                  have hDb := dst_bd t (by omega)
                  obtain ⟨D, hD⟩ : ∃ D, (dstP t).1 = D := ⟨_, rfl⟩
                  obtain ⟨dm, hdm⟩ : ∃ dm, (dstP t).2 = dm := ⟨_, rfl⟩
                  rw [hD, hdm] at HGO3 hDb
                  have HD := bx hD
                  have HDM := bx hdm
                  clear hD hdm
                  go_wp2_with fail
                  refine (rdist_any t w4 (by omega)).mono ?_
                  rintro e w5 ⟨rfl, rfl⟩
                  rw [HD.out, HDM.out]
                  by_cases hq2 : p2 + dm ≤ 8 * b.length
                  · obtain ⟨k2, hk2⟩ : ∃ k2, takeN b p2 dm = k2 := ⟨_, rfl⟩
                    have hk2b : k2 < 65536 := by
                      rw [← hk2]
                      have h1 := takeN_lt b p2 dm
                      have h2 : 2 ^ dm ≤ 2 ^ 14 := Nat.pow_le_pow_right (by decide) (by omega)
                      omega
                    have HK2 := bx hk2
                    have HGO4 : Bx (R = if o.length < D + k2 then .err 7 else if lim < o.length + (L + k1) then .err 8 else symF lit dist b lim κ (p2 + dm) (copyN (D + k2) (L + k1) o)) := bx (by rw [HGO3.out, tk, if_pos hq2, hk2]; rfl)
                    clear hk2 HGO3
                    go_wp2_with fail
                    refine (rtake_ok gr b p2 dm w4 hV3.rd (by omega) hq2).mono ?_
                    rintro e w5 ⟨rfl, hR4, hg4⟩
                    rw [HK2.out]
                    have hV4 := hV3.next hg4 hR4
                    clear hV3 hg4 hR4
                    by_cases hfar : o.length < D + k2
                    · have HF : Bx (R = .err 7) := bx (by rw [HGO4.out, if_pos hfar])
                      have hfi : (nv : Int) < (D : Int) + (k2 : Int) := by rw [hnv.out]; omega
                      clear HGO4
                      go_wp2
                      go_ret2
                      exact rsPost_err HF.out hV4.bl
                    · have hfi : ¬ (nv : Int) < (D : Int) + (k2 : Int) := by rw [hnv.out]; omega
                      have HGO4 := bx (HGO4.out.trans (by rw [if_neg hfar]))
                      by_cases hlong : lim < o.length + (L + k1)
                      · have HF : Bx (R = .err 8) := bx (by rw [HGO4.out, if_pos hlong])
                        have hli : (lim : Int) - (nv : Int) < (L : Int) + (k1 : Int) := by rw [hnv.out]; omega
                        clear HGO4
                        go_wp2
                        go_ret2
                        exact rsPost_err HF.out hV4.bl
                      · have hli : ¬ (lim : Int) - (nv : Int) < (L : Int) + (k1 : Int) := by rw [hnv.out]; omega
                        have HGO4 := bx (HGO4.out.trans (by rw [if_neg hlong]))
                        go_wp2_with fail
                        obtain ⟨N, hN⟩ : ∃ N, L + k1 = N := ⟨_, rfl⟩
                        obtain ⟨F, hF⟩ : ∃ F, D + k2 = F := ⟨_, rfl⟩
                        have hNb : N < 2000000 := by omega
                        have hFb : F ≤ o.length ∧ 1 ≤ F := by omega
                        have hsum : ((L : Int) + (k1 : Int)) = (N : Int) := by omega
                        have hFI : ((D : Int) + (k2 : Int)) = (F : Int) := by omega
                        rw [hN, hF] at HGO4
                        have hlongN : ¬ lim < o.length + N := by omega
                        rw [hsum, hFI]
                        have HGO5 : Bx (R = symF lit dist b lim κ (p2 + dm) (copyN F N o)) := bx HGO4.out
                        clear hN hF hsum hFI HK1 HK2 HD HDM HGO4 hLb hDb hk1b hk2b hfi hli hfar hlong HNX HNX2 HLx HMx hse
                        obtain ⟨wo, rfl⟩ : ∃ wo : World, wo = wr := ⟨_, rfl⟩
                        generalize decide ((s : Int) < 256) = b1
                        generalize decide (285 < (s : Int)) = b2
                        generalize decide (29 < (t : Int)) = b3
                        generalize decide ((nv : Int) < (F : Int)) = b4
                        generalize decide ((lim : Int) - (nv : Int) < (N : Int)) = b5
                        generalize (lim : Int) - (nv : Int) = b6
                        go_loopg [3, 19] N (fun κ2 v jj wr2 => ∃ (j : Nat) (o2 : List UInt8), κ2 = N - j ∧ j ≤ N ∧ jj = .int .i64 (j : Int) ∧ RSy w wr2 gr g1 (g1 + 1) lo1 hi1 lo2 hi2 cl cd b lit dist v (p2 + dm) o2 ∧ Bx (o2.length = o.length + j) ∧ Bx (copyN F N o = copyN F (N - j) o2))
                        case atStart => exact ⟨0, o, by omega, by omega, rfl, hV4, bx rfl, bx rfl⟩
                        case round =>
                          clear hV4
                          obtain ⟨j, o2, hgk2, hj, rfl, hV6, hol6, hcp⟩ := hrel
                          obtain ⟨A2, n2, cc2, rfl, hn2, hr2⟩ := OwL.sl hV6.ow
                          have hO6 := hV6.ow
                          have hgz : gr + 1 ≤ wr.heap.size := by have := hV6.rd.lt; omega
                          have hn2o : n2 = o.length + j := by rw [hn2.out, hol6.out]
                          by_cases hjN : j < N
                          · obtain ⟨kx, hkx⟩ : ∃ kx, n2 - F = kx := ⟨_, rfl⟩
                            have hkl : kx < o2.length := by rw [hol6.out]; omega
                            obtain ⟨ad, x, rfl, _, hx, hcx⟩ := RL.byte hr2 (k := kx) hkl
                            have hx8 := x.toNat_lt
                            have i2 : (n2 : Int) - (F : Int) = (kx : Int) := by omega
                            have hkn : (kx : Int) < (n2 : Int) := by omega
                            have hk9 : kx ≤ 3000000 := by omega
                            have HX : Bx (o2.getD (o2.length - F) 0 = x) := bx (by
                              rw [← hn2.out, hkx, List.getD_eq_getElem?_getD, hx.out]; rfl)
                            have HL : Bx ((o2.length + [x].length) * 1 ≤ 140737488355328) := bx (by rw [hol6.out]; simp; omega)
                            have hjI : (j : Int) < (N : Int) := by omega
                            clear hn2o hkx hr2
                            go_wp2_with (at_builtin; refine wpList_appL _ bV_one rfl (.tmp 105) (.tmp 113) rfl byteTy (by decide) (gr + 1) _ o2 rfl (hO6.alloc _) _ _ 1 1 [x] rfl rfl (RL.freshe _ _ rfl _) HL.out (le_alloc0 hgz _) ?_; intro v5 w6 hO5 hg5 hv5 hb5)
                            have hP := hV6.push hO5 hg5 hv5
                            have hcp2 : Bx (copyN F N o = copyN F (N - (j + 1)) (o2 ++ [x])) := bx (by
                              rw [hcp.out, show N - j = (N - (j + 1)) + 1 by omega, copyN_step _ _ _ _ HX.out])
                            have hol7 : Bx ((o2 ++ [x]).length = o.length + (j + 1)) := bx (by rw [List.length_append, hol6.out]; rfl)
                            go_roundg (N - (j + 1))
                            case rel => exact ⟨j + 1, o2 ++ [x], rfl, by omega, by go_num, hP, hol7, hcp2⟩
                            case measure => omega
                          · obtain rfl : j = N := by omega
                            have hjI : ¬ (j : Int) < (j : Int) := by omega
                            clear hn2o
                            have HF : Bx (R = symF lit dist b lim κ (p2 + dm) o2) := bx (by rw [HGO5.out, hcp.out, Nat.sub_self]; rfl)
                            go_wp2_with fail
                            go_roundg κ
                            case rel => exact ⟨p2 + dm, o2, hV6, by rw [hol6.out]; omega, by omega, by omega, HF⟩
                            case measure => omega
                  · have HF : Bx (R = .err 2) := bx (by rw [HGO3.out, tk, if_neg hq2]; rfl)
                    clear HGO3
                    go_wp2_with fail
                    refine (rtake_short gr b p2 dm w4 hV3.rd (by omega) (by omega)).mono ?_
                    rintro e w5 ⟨rfl, hb4⟩
                    have hB1 := hV3.bl.trans (hb4.mono (by have := hV3.rd.lt; omega))
                    go_wp2
                    go_ret2
                    exact rsPost_err HF.out hB1
            · have HF : Bx (R = .err 2) := bx (by rw [HGO.out, tk, if_neg hq1]; rfl)
              clear HGO
              go_wp2_with fail
              refine (rtake_short gr b p1 M w2 hV1.rd (by omega) (by omega)).mono ?_
              rintro e w3 ⟨rfl, hb2⟩
              have hB1 := hV1.bl.trans (hb2.mono (by have := hV1.rd.lt; omega))
              go_wp2
              go_ret2
              exact rsPost_err HF.out hB1
end Go.Proofs.YtlmcpkomjofcgaaGreatDoor
namespace Go.Proofs.YtlmcpkomjofcgaaGreatDoor
open Go.RowKit

/-- What comes behind a block. -/
def blkK (L x κ : Nat) (b : List UInt8) (X : Rz (List UInt8 × Nat)) : Rz (List UInt8 × Nat) := X.bind fun z => (if x = 1 then Rz.ok z else allB L b κ z.2 z.1).bind fun u => .ok (u.1, (u.2 + 7) / 8)
theorem blkK_of {L κ q x y : Nat} {b o : List UInt8} (h1 : q + 1 ≤ 8 * b.length) (h2 : q + 1 + 2 ≤ 8 * b.length) (hx : takeN b q 1 = x) (hy : takeN b (q + 1) 2 = y) :
    ((allB L b (κ + 1) q o).bind fun x => .ok (x.1, (x.2 + 7) / 8)) = blkK L x κ b (bodyP L o y b (q + 1 + 2)) := by
  rw [allB, blkP, tk, if_pos h1, hx]
  show (((tk b (q + 1) 2).bind _).bind _).bind _ = _
  rw [tk, if_pos h2, hy]
  show (((bodyP L o y b (q + 1 + 2)).bind _).bind _).bind _ = _
  unfold blkK
  cases bodyP L o y b (q + 1 + 2) with
  | err k => rfl
  | ok z =>
    show ((if decide (x = 1) = true then Rz.ok (z.1, z.2) else allB L b κ z.2 z.1).bind _) = ((if x = 1 then Rz.ok z else allB L b κ z.2 z.1).bind fun u => .ok (u.1, (u.2 + 7) / 8))
    by_cases h : x = 1
    · rw [decide_eq_true h, if_pos rfl, if_pos h]
    · rw [decide_eq_false h, if_neg (by simp), if_neg h]
theorem blk_short1 {L q κ : Nat} {b o : List UInt8} (h : 8 * b.length < q + 1) : ((allB L b (κ + 1) q o).bind fun x => Rz.ok (x.1, (x.2 + 7) / 8)) = .err 2 := by
  rw [allB, blkP, tk, if_neg (by omega)]; rfl
theorem blk_short2 {L q κ : Nat} {b o : List UInt8} (h1 : q + 1 ≤ 8 * b.length) (h : 8 * b.length < q + 1 + 2) : ((allB L b (κ + 1) q o).bind fun x => Rz.ok (x.1, (x.2 + 7) / 8)) = .err 2 := by
  rw [allB, blkP, tk, if_pos h1]
  show (((tk b (q + 1) 2).bind _).bind _).bind _ = _
  rw [tk, if_neg (by omega)]; rfl
set_option maxRecDepth 100000 in
set_option maxHeartbeats 8000000 in
theorem rall_any (A : Option Addr) (n c : Nat) (b : List UInt8) (lim : Int) (w : World) (hn : b.length = n) (hz : n ≤ 1000000000) (hr : RB w w.heap.size A b) (hlim1 : -9223372036854775808 ≤ lim) (hlim2 : lim ≤ 9223372036854775807) :
    Calls Tryz.prog 41 #[.slice A n c, .int .i64 lim] w (AllPost (inflP b lim) w) := by
  obtain ⟨R, hRR⟩ : ∃ R, inflP b lim = R := ⟨_, rfl⟩
  rw [hRR]
  by_cases hbad : lim < 0 ∨ 32768 < lim
  · have HF : Bx (R = .err 1) := bx (by rw [← hRR, inflP, if_pos hbad])
    clear hRR
    rcases (by omega : lim < 0 ∨ 0 ≤ lim) with hb1 | hb1
    · go_enter Tryz.func41, Tryz.ntmps41
      go_wp2
      go_ret3
      exact allPost_err HF.out (Below.refl _ _)
    · have hb2 : 32768 < lim := by omega
      go_enter Tryz.func41, Tryz.ntmps41
      go_wp2
      go_ret3
      exact allPost_err HF.out (Below.refl _ _)
  · obtain ⟨L, rfl⟩ : ∃ L : Nat, lim = (L : Int) := ⟨lim.toNat, by omega⟩
    have hL : L ≤ 32768 := by omega
    have HG : Bx (R = (allB L b (8 * b.length + 1) 0 []).bind fun x => .ok (x.1, (x.2 + 7) / 8)) := bx (by rw [← hRR, inflP, if_neg hbad, Int.toNat_natCast]; rfl)
    have HN : Bx ((([] : List UInt8).length + b.length) * 1 ≤ 140737488355328) := bx (by simp; omega)
    have HL := bx hn
    have hbl : b.length ≤ 1000000000 := by omega
    clear hRR hbad hlim1 hlim2 hn
    go_enter Tryz.func41, Tryz.ntmps41
    go_wp2_with (at_builtin; refine wpList_appL _ bV_one rfl (.tmp 27) (.tmp 28) rfl byteTy (by decide) w.heap.size _ [] rfl (OwL.lit0 w (Nat.le_refl _)) w.heap.size A n c b rfl HL.out (RL.alloc hr (Nat.le_refl _) _) HN.out (le_alloc0 (Nat.le_refl _) _) ?_; intro v1 w1 hown _ _ hb1; rw [List.nil_append] at hown; obtain ⟨A1, c1, rfl, hr1, hc1, _⟩ := OwL.rd hown)
    have hb2 := ((Below.refl w.heap.size w).alloc (Nat.le_refl _) _).trans hb1
    obtain ⟨gr, hgr⟩ : ∃ gr, w1.heap.size = gr := ⟨_, rfl⟩
    have hgw : w.heap.size ≤ gr := by rw [← hgr]; exact hb2.size
    have hR2 : RRd (w1.alloc (.cells #[.slice A1 b.length c1, .int .i64 0] 106)) gr b 0 := ⟨A1, c1, Bk.newAt _ _ _ hgr, by rw [← hgr]; exact hr1.alloc (Nat.le_refl _) _, hc1, by omega, hbl⟩
    have hB2 := bl_alloc hb2 (Nat.le_refl _) (.cells #[.slice A1 b.length c1, .int .i64 0] 106)
    clear hown hb1 hb2 hr1
    try rw [hgr]
    generalize w1.alloc (.cells #[.slice A1 b.length c1, .int .i64 0] 106) = w2 at hR2 hB2 ⊢
    go_loopg [8] (8 * b.length + 1) (fun κ v wr => ∃ (q : Nat) (o : List UInt8), RRd wr gr b q ∧ OwB wr (gr + 1) 5 v o ∧ o.length ≤ L ∧ Below w.heap.size w wr ∧ 8 * b.length < q + κ ∧ q ≤ 8 * b.length ∧ Bx (R = (allB L b κ q o).bind fun x => .ok (x.1, (x.2 + 7) / 8)))
    case atStart => exact ⟨0, [], hR2, OwL.nil, by simp, hB2, by omega, by omega, HG⟩
    case round =>
      clear hR2 hB2 HG
      obtain ⟨q, o, hR, hO, hol, hB, hgk, hq, hgo⟩ := hrel
      obtain ⟨κ, rfl⟩ : ∃ κ, gk = κ + 1 := ⟨gk - 1, by omega⟩
      by_cases hq1 : q + 1 ≤ 8 * b.length
      case neg =>
        have HF : Bx (R = .err 2) := bx (by rw [hgo.out, blk_short1 (by omega)])
        go_wp2_with fail
        refine (rtake_short gr b q 1 wr hR (by omega) (by omega)).mono ?_
        rintro e w3 ⟨rfl, hb3⟩
        have hB3 := hB.trans (hb3.mono hB.size)
        go_wp2
        go_ret3
        exact allPost_err HF.out hB3
      case pos =>
      go_wp2_with fail
      refine (rtake_ok gr b q 1 wr hR (by omega) hq1).mono ?_
      rintro e w3 ⟨rfl, hR3, hg3⟩
      have hO3 := hO.keptAt hg3 (by omega)
      have hB3 := hB.trans (gb_low hg3 hgw hR.lt)
      obtain ⟨x, hx⟩ : ∃ x, takeN b q 1 = x := ⟨_, rfl⟩
      have hx2 : x < 2 := by rw [← hx]; exact takeN_lt b q 1
      rw [hx]
      have HX := bx hx
      clear hR hO hB hg3 hx
      by_cases hq2 : q + 1 + 2 ≤ 8 * b.length
      case neg =>
        have HF : Bx (R = .err 2) := bx (by rw [hgo.out, blk_short2 hq1 (by omega)])
        go_wp2_with fail
        refine (rtake_short gr b (q + 1) 2 w3 hR3 (by omega) (by omega)).mono ?_
        rintro e w4 ⟨rfl, hb4⟩
        have hB4 := hB3.trans (hb4.mono hB3.size)
        go_wp2
        go_ret3
        exact allPost_err HF.out hB4
      case pos =>
      go_wp2_with fail
      refine (rtake_ok gr b (q + 1) 2 w3 hR3 (by omega) hq2).mono ?_
      rintro e w4 ⟨rfl, hR4, hg4⟩
      have hO4 := hO3.keptAt hg4 (by omega)
      have hB4 := hB3.trans (gb_low hg4 hgw hR3.lt)
      obtain ⟨y, hy⟩ : ∃ y, takeN b (q + 1) 2 = y := ⟨_, rfl⟩
      have hy4 : y < 4 := by rw [← hy]; exact takeN_lt b (q + 1) 2
      rw [hy]
      have HGO := bx (hgo.out.trans (blkK_of hq1 hq2 HX.out hy))
      obtain ⟨q3, hq3⟩ : ∃ q3, q + 1 + 2 = q3 := ⟨_, rfl⟩
      rw [hq3] at HGO hR4
      have hqq : q + 3 = q3 := by omega
      have hq38 : q3 ≤ 8 * b.length := by omega
      clear hR3 hO3 hB3 hg4 hy hgo hq3 HX hq1 hq2
      go_upto_block 2 with (fail)
      go_cut [8, 10] (fun v8 _ wx => ∃ (q2 : Nat) (o2 : List UInt8), RRd wx gr b q2 ∧ OwB wx (gr + 1) 5 v8 o2 ∧ o2.length ≤ L ∧ Below w.heap.size w wx ∧ q3 ≤ q2 ∧ q2 ≤ 8 * b.length ∧ Bx (R = blkK L x κ b (.ok (o2, q2))))
      case first =>
        by_cases hy0 : y = 0
        · subst hy0
          obtain ⟨Av, nv, cv, rfl, hnv, hrv⟩ := OwL.sl hO4
          have HGO2 : Bx (R = blkK L x κ b (storedP b L q3 o)) := bx HGO.out
          clear HGO
          obtain ⟨f, hf⟩ : ∃ f, (q3 + 7) / 8 = f := ⟨_, rfl⟩
          have HFF := bx hf
          by_cases h4 : b.length < f + 4
          · have HF : Bx (R = .err 2) := bx (by rw [HGO2.out, storedP, HFF.out, if_pos h4]; rfl)
            go_wp2_with fail
            refine (rbytes_short gr b q3 4 w4 hR4 (by omega) (by omega)).mono ?_
            rintro e w5 ⟨rfl, rfl⟩
            go_wp2
            go_ret3
            exact allPost_err HF.out hB4
          · go_wp2_with fail
            refine (rbytes_ok gr b q3 4 f w4 hR4 (by omega) hf (by omega)).mono ?_
            rintro e w5 ⟨Ah, ch, rfl, _, hrh, _, hR5, hg5⟩
            have hO5 := hO4.keptAt hg5 (by omega)
            have hB5 := hB4.trans (gb_low hg5 hgw hR4.lt)
            clear hO4 hB4 hR4 hg5 hrv
            obtain ⟨ad0, x0, rfl, _, hx0, hc0⟩ := RL.byte hrh (k := 0) (by rw [List.length_take, List.length_drop]; omega)
            obtain ⟨ad1, x1, e1, _, hx1, hc1⟩ := RL.byte hrh (k := 1) (by rw [List.length_take, List.length_drop]; omega)
            obtain ⟨ad2, x2, e2, _, hx2', hc2⟩ := RL.byte hrh (k := 2) (by rw [List.length_take, List.length_drop]; omega)
            obtain ⟨ad3, x3, e3, _, hx3, hc3⟩ := RL.byte hrh (k := 3) (by rw [List.length_take, List.length_drop]; omega)
            injection e1 with e1
            injection e2 with e2
            injection e3 with e3
            subst e1 e2 e3
            have b0 : byteN b f = x0.toNat := by have := hx0.out; rw [drop_take_at (by omega) (by omega)] at this; injection this with this; unfold byteN; rw [← this]; rfl
            have b1 : byteN b (f + 1) = x1.toNat := by have := hx1.out; rw [drop_take_at (by omega) (by omega)] at this; injection this with this; unfold byteN; rw [← this]
            have b2 : byteN b (f + 2) = x2.toNat := by have := hx2'.out; rw [drop_take_at (by omega) (by omega)] at this; injection this with this; unfold byteN; rw [← this]
            have b3 : byteN b (f + 3) = x3.toNat := by have := hx3.out; rw [drop_take_at (by omega) (by omega)] at this; injection this with this; unfold byteN; rw [← this]
            have y0 := x0.toNat_lt
            have y1 := x1.toNat_lt
            have y2 := x2.toNat_lt
            have y3 := x3.toNat_lt
            have k0 : w5.cell? ad0 = some (.int .u8 (x0.toNat : Int)) := by rw [add_zero] at hc0; exact hc0
            have k1 : w5.cell? ⟨ad0.block, ad0.off + 1, none⟩ = some (.int .u8 (x1.toNat : Int)) := by rw [add_pos] at hc1; exact hc1
            have k2 : w5.cell? ⟨ad0.block, ad0.off + 2, none⟩ = some (.int .u8 (x2.toNat : Int)) := by rw [add_pos] at hc2; exact hc2
            have k3 : w5.cell? ⟨ad0.block, ad0.off + 3, none⟩ = some (.int .u8 (x3.toNat : Int)) := by rw [add_pos] at hc3; exact hc3
            obtain ⟨n0, hn0⟩ : ∃ n0, x0.toNat + 256 * x1.toNat = n0 := ⟨_, rfl⟩
            obtain ⟨m0, hm0⟩ : ∃ m0, x2.toNat + 256 * x3.toNat = m0 := ⟨_, rfl⟩
            have HGO3 : Bx (R = blkK L x κ b (if n0 + m0 ≠ 65535 then .err 4 else if L < o.length + n0 then .err 8 else if b.length < f + 4 + n0 then .err 2 else .ok (o ++ (b.drop (f + 4)).take n0, 8 * (f + 4 + n0)))) := bx (by
              rw [HGO2.out, storedP, HFF.out, if_neg h4, b0, b1, b2, b3, hn0, hm0])
            have hn0I : (x0.toNat : Int) + 256 * (x1.toNat : Int) = (n0 : Int) := by omega
            have hm0I : (n0 : Int) + (x2.toNat : Int) + 256 * (x3.toNat : Int) = ((n0 + m0 : Nat) : Int) := by omega
            have HN0 := bx hn0I
            have HM0 := bx hm0I
            have hn16 : n0 < 65536 := by omega
            have j0 : ∀ z : UInt8, IntKind.i64.wrap (z.toNat : Int) = (z.toNat : Int) := fun z => IntWalk.i64_in _ (by have := z.toNat_lt; omega)
            clear hc0 hc1 hc2 hc3 b0 b1 b2 b3 hn0 hm0 hn0I hm0I HGO2 hx0 hx1 hx2' hx3 hrh
            go_upto_region 30 with (fail)
            go_quiet (fail)
            rename Nat => nq
            rw [HN0.out]
            have hR6 : RRd (w5.drewN nq) gr b (8 * (f + 4)) := hR5
            have hO6 := hO5.drewN nq
            have hB6 := below_drewN hB5 nq
            have k2' : (w5.drewN nq).cell? ⟨ad0.block, ad0.off + 2, none⟩ = some (.int .u8 (x2.toNat : Int)) := k2
            have k3' : (w5.drewN nq).cell? ⟨ad0.block, ad0.off + 3, none⟩ = some (.int .u8 (x3.toNat : Int)) := k3
            clear hR5 hO5 hB5 k0 k1 k2 k3
            generalize w5.drewN nq = w6 at hR6 hO6 hB6 k2' k3' ⊢
            go_upto_region 31 with (fail)
            by_cases hnm : n0 + m0 = 65535
            case neg =>
              have HF : Bx (R = .err 4) := bx (by rw [HGO3.out, if_pos hnm]; rfl)
              have hne : ((n0 : Int) + (x2.toNat : Int) + 256 * (x3.toNat : Int) != 65535) = true := by rw [HM0.out, bne_iff_ne]; omega
              clear hnm
              go_quiet (fail)
              rename Nat => nq2
              have hB7 := below_drewN hB6 nq2
              go_wp2
              go_ret3
              exact allPost_err HF.out hB7
            case pos =>
            have HGO4 := bx (HGO3.out.trans (by rw [if_neg (by omega)]))
            have hne : ((n0 : Int) + (x2.toNat : Int) + 256 * (x3.toNat : Int) != 65535) = false := by rw [HM0.out, bne_eq_false_iff_eq]; omega
            clear hnm HGO3
            go_quiet (fail)
            rename Nat => nq2
            have hR7 : RRd (w6.drewN nq2) gr b (8 * (f + 4)) := hR6
            have hO7 := hO6.drewN nq2
            have hB7 := below_drewN hB6 nq2
            clear hR6 hO6 hB6 k2' k3'
            generalize w6.drewN nq2 = w7 at hR7 hO7 hB7 ⊢
            have hnv9 : nv ≤ 40000 := by rw [hnv.out]; omega
            by_cases hlong : L < o.length + n0
            case pos =>
              have HF : Bx (R = .err 8) := bx (by rw [HGO4.out, if_pos hlong]; rfl)
              have hgt : (L : Int) - (nv : Int) < (n0 : Int) := by rw [hnv.out]; omega
              clear hlong
              go_wp2
              go_ret3
              exact allPost_err HF.out hB7
            case neg =>
            have HGO5 := bx (HGO4.out.trans (by rw [if_neg hlong]))
            have hgt : ¬ (L : Int) - (nv : Int) < (n0 : Int) := by rw [hnv.out]; omega
            clear HGO4
            by_cases hsh : b.length < f + 4 + n0
            case pos =>
              have HF : Bx (R = .err 2) := bx (by rw [HGO5.out, if_pos hsh]; rfl)
              go_wp2_with fail
              refine (rbytes_short gr b (8 * (f + 4)) n0 w7 hR7 (by omega) (by omega)).mono ?_
              rintro e w8 ⟨rfl, rfl⟩
              go_wp2
              go_ret3
              exact allPost_err HF.out hB7
            case neg =>
            have HGO6 := bx (HGO5.out.trans (by rw [if_neg hsh]))
            clear HGO5
            go_wp2_with fail
            refine (rbytes_ok gr b (8 * (f + 4)) n0 (f + 4) w7 hR7 (by omega) (by omega) (by omega)).mono ?_
            rintro e w8 ⟨Ap, cp, rfl, _, hrp, _, hR8, hg8⟩
            have hO8 := hO7.keptAt hg8 (by omega)
            have hB8 := hB7.trans (gb_low hg8 hgw hR7.lt)
            have hpl : ((b.drop (f + 4)).take n0).length = n0 := by rw [List.length_take, List.length_drop]; omega
            have HPL := bx hpl
            have HNN : Bx ((o.length + ((b.drop (f + 4)).take n0).length) * 1 ≤ 140737488355328) := bx (by rw [hpl]; omega)
            have hz8 : gr + 1 ≤ w8.heap.size := hR8.lt
            have hvb : ∀ k, (Value.slice Av nv cv).ownBlock = some k → gr < k := fun k hk => by have := (World.ownsRow.lt hO8 k hk).1; omega
            have HVB := bx hvb
            clear hR7 hO7 hB7 hg8 hgt hpl hvb
            go_wp2_with (at_builtin; refine wpList_appL _ bV_one rfl (.tmp 140) (.tmp 141) rfl byteTy (by decide) (gr + 1) _ o rfl hO8 w8.heap.size Ap n0 cp ((b.drop (f + 4)).take n0) rfl HPL.out hrp HNN.out hz8 ?_; intro v9 w9 hO9 hg9 hv9 hb9)
            have hR9 := hR8.grown hg9 (fun k hk => HVB.out k hk)
            have hB9 := hB8.trans (hb9.mono (by omega))
            have HGO7 : Bx (R = blkK L x κ b (.ok (o ++ (b.drop (f + 4)).take n0, 8 * (f + 4 + n0)))) := bx HGO6.out
            have hR10 : RRd w9 gr b (8 * (f + 4 + n0)) := hR9
            go_meet
            case rel => exact ⟨8 * (f + 4 + n0), _, hR10, hO9, by rw [List.length_append, HPL.out]; omega, hB9, by omega, by omega, HGO7⟩
        · by_cases hy3 : y = 3
          · subst hy3
            have HF : Bx (R = .err 3) := bx (by rw [HGO.out]; rfl)
            go_wp2
            go_ret3
            exact allPost_err HF.out hB4
          · have hyb0 : ((y : Int) == 0) = false := by rw [beq_eq_false_iff_ne]; omega
            have hyb3 : ((y : Int) == 3) = false := by rw [beq_eq_false_iff_ne]; omega
            have HGOC : Bx (R = blkK L x κ b (if y = 2 then (toldP b q3).bind fun u => codedP L o u.1.1 u.1.2 b u.2 else codedP L o fixLit fixDist b q3)) := bx (by rw [HGO.out, bodyP, if_neg hy0, if_neg hy3])
            clear HGO hy0 hy3
            go_wp2_with fail
            refine (rfixed_any w4).mono ?_
            rintro e w5 ⟨A5, A6, c5, c6, rfl, hr5, hr6, hb5⟩
            have hR5 := hR4.step hb5
            have hO5 := hO4.below hb5
            have hB5 := hB4.trans (hb5.mono hB4.size)
            clear hR4 hO4 hB4 hb5
            go_upto_if 54 with (fail)
            go_cut [16, 17, 10] (fun a c _ wx => ∃ A n cc A' n' cc' l d q', a = .slice A n cc ∧ c = .slice A' n' cc' ∧ l.length = n ∧ d.length = n' ∧ RN wx wx.heap.size A l ∧ RN wx wx.heap.size A' d ∧ RRd wx gr b q' ∧ OwB wx (gr + 1) 5 u8 o ∧ Below w.heap.size w wx ∧ (∀ t ∈ l, t ≤ 15) ∧ (∀ t ∈ d, t ≤ 15) ∧ n ≤ 288 ∧ n' ≤ 288 ∧ q3 ≤ q' ∧ q' ≤ 8 * b.length ∧ Bx (R = blkK L x κ b (codedP L o l d b q')))
            case first =>
              by_cases hy2 : y = 2
              · have hyb2 : ((y : Int) == 2) = true := by rw [hy2]; rfl
                have HGO := bx (HGOC.out.trans (by rw [if_pos hy2]))
                clear HGOC hy2
                have hp5 := rtold_any gr b q3 w5 hR5
                cases hto : toldP b q3 with
                | err k =>
                  have HF : Bx (R = .err k) := bx (by rw [HGO.out, hto]; rfl)
                  have HTO := bx hto
                  clear hto
                  go_wp2_with fail
                  refine hp5.mono ?_
                  rintro e w6 ⟨hg6, hp⟩
                  rw [HTO.out] at hp
                  obtain ⟨rfl, hk0⟩ := hp
                  have hB6 := hB5.trans (gb_low hg6 hgw hR5.lt)
                  have hkb : (k != 0) = true := by rw [bne_iff_ne]; exact hk0
                  have HK0 := bx hk0
                  clear hk0
                  go_wp2
                  go_ret3
                  exact allPost_err HF.out hB6 HK0.out
                | ok z =>
                  obtain ⟨⟨l, d⟩, q'⟩ := z
                  have HGO2 : Bx (R = blkK L x κ b (codedP L o l d b q')) := bx (by rw [HGO.out, hto]; rfl)
                  have HTO := bx hto
                  have hmono := good_told.mono b q3 (l, d) q' (by omega) hto
                  clear hto HGO
                  go_wp2_with fail
                  refine hp5.mono ?_
                  rintro e w6 ⟨hg6, hp⟩
                  rw [HTO.out] at hp
                  obtain ⟨A7, n7, c7, A8, n8, c8, rfl, e1, e2, e3, e4, e5, e6, e7, e8, e9⟩ := hp
                  have hB6 := hB5.trans (gb_low hg6 hgw hR5.lt)
                  have hO6 := hO5.keptAt hg6 (by omega)
                  have E3 := bx e3
                  have E4 := bx e4
                  have E6 := bx e6
                  have E7 := bx e7
                  have E1 := bx e1
                  have E2 := bx e2
                  clear hr5 hr6 hR5 hO5 hB5 hg6 hp5 e1 e2 e3 e4 e6 e7
                  go_wp2
                  go_meet
                  case rel => exact ⟨A7, n7, c7, A8, n8, c8, l, d, q', rfl, rfl, E1.out, E2.out, E3.out, E4.out, e5, hO6, hB6, E6.out, E7.out, e8, e9, hmono.1, hmono.2, HGO2⟩
              · have hyb2 : ((y : Int) == 2) = false := by rw [beq_eq_false_iff_ne]; omega
                have HGO := bx (HGOC.out.trans (by rw [if_neg hy2]))
                have HA := bx hr5
                have HB := bx hr6
                clear HGOC hy2 hr5 hr6
                go_wp2
                go_meet
                case rel => exact ⟨A5, 288, c5, A6, 32, c6, fixLit, fixDist, q3, rfl, rfl, fixLit_len, by decide +kernel, HA.out, HB.out, hR5, hO5, hB5, by decide +kernel, by decide +kernel, by omega, by omega, Nat.le_refl _, hq38, HGO⟩
            case rest =>
            obtain ⟨A7, n7, c7, A8, n8, c8, l, d, q', rfl, rfl, e1, e2, e3, e4, hR6, hO6, hB6, e6, e7, e8, e9, hq1, hq2, HGO⟩ := hcut
            clear hr5 hr6 hR5 hO5 hB5 HGOC
            go_wp2_with fail
            refine (rnew_any A7 n7 c7 l false wc e1 e8 e6 e3).mono ?_
            rintro e w6 ⟨hb6, cl, hclz, hcl1, hp⟩
            have hR7 := hR6.step hb6
            have hO7 := hO6.below hb6
            have hB7 := hB6.trans (hb6.mono hB6.size)
            have hrd7 := e4.step hb6
            have hzc := hb6.size
            have hvb : ∀ k, u8.ownBlock = some k → k < wc.heap.size := fun k hk => (World.ownsRow.lt hO6 k hk).2
            have HVB := bx hvb
            have hgc := hR6.lt
            clear hR6 hO6 hB6 e3 e4 hb6 hvb
            obtain ⟨g1, hg1⟩ : ∃ g1, w6.heap.size = g1 := ⟨_, rfl⟩
            have HKZ : Bx (Bk (w6.alloc (.cells z32 116)) g1 116 z32) := bx (Bk.newAt _ _ _ hg1)
            have HSR : Bx ((w6.alloc (.cells z32 116)).setRow g1 cl = w6.alloc (.cells cl 116)) := bx (by rw [← hg1, World.setRow_alloc_new])
            have HB8 := bx (bl_alloc hB7 (Nat.le_refl _) (.cells cl 116))
            cases hcb : codeB l false with
            | false =>
              have HF : Bx (R = .err 5) := bx (by rw [HGO.out, codedP, if_pos hcb]; rfl)
              rw [hcb, if_neg (by simp)] at hp
              obtain rfl := hp
              clear hcb
              go_wp2_with (refine wpList_store_row rfl 116 (.tmp 18) (.tmp 67) rfl g1 cl rfl rfl 116 z32 HKZ.out (by rw [hclz]; exact info_code) (by rw [hclz]; rfl) hcl1 ?_; change wpList _ _ _ _ _ ((w6.alloc (.cells z32 116)).setRow g1 cl); rw [HSR.out])
              go_ret3
              exact allPost_err HF.out HB8.out
            | true =>
            rw [hcb, if_pos rfl] at hp
            obtain ⟨lo1, hi1, rfl, hC1, hlo1⟩ := hp
            have HGO2 := bx (HGO.out.trans (by rw [codedP, if_neg (by rw [hcb]; simp)]))
            have hbA := bl_alloc (Below.refl w6.heap.size w6) (Nat.le_refl _) (.cells cl 116)
            have HC1 := bx (hC1.step hbA)
            have HR8 := bx (hR7.step hbA)
            have HO8 := bx (hO7.below hbA)
            have HD8 := bx (hrd7.step hbA)
            have HK1 : Bx (Bk (w6.alloc (.cells cl 116)) g1 116 cl) := bx (Bk.newAt _ _ _ hg1)
            have HZ1 : Bx (g1 < (w6.alloc (.cells cl 116)).heap.size) := bx (by simp [hg1])
            have hwg1 : wc.heap.size ≤ g1 := by rw [← hg1]; exact hzc
            clear hcb HGO hC1 hR7 hO7 hrd7 hB7 hbA
            go_wp2_with (refine wpList_store_row rfl 116 (.tmp 18) (.tmp 67) rfl g1 cl rfl rfl 116 z32 HKZ.out (by rw [hclz]; exact info_code) (by rw [hclz]; rfl) hcl1 ?_; change wpList _ _ _ _ _ ((w6.alloc (.cells z32 116)).setRow g1 cl); rw [HSR.out])
            have hC1 := HC1.out
            have hR8 := HR8.out
            have hO8 := HO8.out
            have hD8 := HD8.out
            have hB8 := HB8.out
            have hK1 := HK1.out
            have hz1 := HZ1.out
            clear HC1 HR8 HO8 HD8 HB8 HK1 HZ1 HKZ HSR hg1
            generalize w6.alloc (.cells cl 116) = w7 at hC1 hR8 hO8 hD8 hB8 hK1 hz1 ⊢
            refine (rnew_any A8 n8 c8 d true w7 e2 e9 e7 hD8).mono ?_
            rintro e w8 ⟨hb8, cd, hcdz, hcd1, hp⟩
            have hR9 := hR8.step hb8
            have hO9 := hO8.below hb8
            have hB9 := hB8.trans (hb8.mono hB8.size)
            have hC19 := hC1.step hb8
            have hK19 := hK1.below hb8 hz1
            have hz8 := hb8.size
            clear hR8 hO8 hB8 hD8 hC1 hK1 hb8
            obtain ⟨g2, hg2⟩ : ∃ g2, w8.heap.size = g2 := ⟨_, rfl⟩
            have HKZ : Bx (Bk (w8.alloc (.cells z32 116)) g2 116 z32) := bx (Bk.newAt _ _ _ hg2)
            have HSR : Bx ((w8.alloc (.cells z32 116)).setRow g2 cd = w8.alloc (.cells cd 116)) := bx (by rw [← hg2, World.setRow_alloc_new])
            have HB10 := bx (bl_alloc hB9 (Nat.le_refl _) (.cells cd 116))
            cases hcb : codeB d true with
            | false =>
              have HF : Bx (R = .err 5) := bx (by rw [HGO2.out, if_pos hcb]; rfl)
              rw [hcb, if_neg (by simp)] at hp
              obtain rfl := hp
              clear hcb
              go_wp2_with (refine wpList_store_row rfl 116 (.tmp 20) (.tmp 75) rfl g2 cd rfl rfl 116 z32 HKZ.out (by rw [hcdz]; exact info_code) (by rw [hcdz]; rfl) hcd1 ?_; change wpList _ _ _ _ _ ((w8.alloc (.cells z32 116)).setRow g2 cd); rw [HSR.out])
              go_ret3
              exact allPost_err HF.out HB10.out
            | true =>
            rw [hcb, if_pos rfl] at hp
            obtain ⟨lo2, hi2, rfl, hC2, hlo2⟩ := hp
            have HGO3 := bx (HGO2.out.trans (by rw [if_neg (by rw [hcb]; simp)]))
            have hbA := bl_alloc (Below.refl w8.heap.size w8) (Nat.le_refl _) (.cells cd 116)
            have HC1 := bx (hC19.step hbA)
            have HC2 := bx (hC2.step hbA)
            have HR10 := bx (hR9.step hbA)
            have HO10 := bx (hO9.below hbA)
            have HK1 := bx (hK19.below hbA hK19.lt)
            have HK2 : Bx (Bk (w8.alloc (.cells cd 116)) g2 116 cd) := bx (Bk.newAt _ _ _ hg2)
            clear hcb HGO2 hC19 hC2 hR9 hO9 hK19 hB9 hbA
            go_upto_region 23 with (refine wpList_store_row rfl 116 (.tmp 20) (.tmp 75) rfl g2 cd rfl rfl 116 z32 HKZ.out (by rw [hcdz]; exact info_code) (by rw [hcdz]; rfl) hcd1 ?_; change wpList _ _ _ _ _ ((w8.alloc (.cells z32 116)).setRow g2 cd); rw [HSR.out])
            have hC1 := HC1.out
            have hC2 := HC2.out
            have hR10 := HR10.out
            have hO10 := HO10.out
            have hB10 := HB10.out
            have hK1 := HK1.out
            have hK2 := HK2.out
            clear HC1 HC2 HR10 HO10 HB10 HK1 HK2 HKZ HSR hg2
            generalize w8.alloc (.cells cd 116) = w9 at hC1 hC2 hR10 hO10 hB10 hK1 hK2 ⊢
            go_wp2_with (first
              | (refine wpList_load_row rfl 116 (.tmp 18) rfl g1 rfl _ cl _ _ hK1 Tryz.underlying116 rfl (by rw [hclz]; exact info_code) ?_)
              | (refine wpList_load_row rfl 116 (.tmp 20) rfl g2 rfl _ cd _ _ hK2 Tryz.underlying116 rfl (by rw [hcdz]; exact info_code) ?_))
            have hp9 := rsymbols_any gr lo1 hi1 lo2 hi2 cl cd b l d q' L u8 o w9 hR10 hO10 hC1 hC2 (fun k hk => by have := HVB.out k hk; omega) (by omega) (by omega) hol hL
            cases hsy : symP l d L o b q' with
            | err k =>
              have HF : Bx (R = .err k) := bx (by rw [HGO3.out, hsy]; rfl)
              have HSY := bx hsy
              clear hsy
              refine hp9.mono ?_
              rintro e w10 ⟨hb10, hp⟩
              rw [HSY.out] at hp
              obtain ⟨rfl, hk0⟩ := hp
              have hB11 := hB10.trans (hb10.mono hgw)
              have hkb : (k != 0) = true := by rw [bne_iff_ne]; exact hk0
              have HK0 := bx hk0
              clear hk0 hp9
              go_wp2
              go_ret3
              exact allPost_err HF.out hB11 HK0.out
            | ok z =>
              obtain ⟨o2, q2⟩ := z
              have HGO4 : Bx (R = blkK L x κ b (.ok (o2, q2))) := bx (by rw [HGO3.out, hsy])
              have HSY := bx hsy
              have hmono := (good_symP l d L o).mono b q' o2 q2 hq2 hsy
              clear hsy
              refine hp9.mono ?_
              rintro e w10 ⟨hb10, hp⟩
              rw [HSY.out] at hp
              obtain ⟨v10, rfl, f1, f2, f3⟩ := hp
              have hB11 := hB10.trans (hb10.mono hgw)
              clear hp9 hR10 hO10 hB10 hC1 hC2 hK1 hK2
              go_wp2_with fail
              go_meet
              case rel => exact ⟨q2, o2, f1, f2, f3, hB11, by omega, hmono.2, HGO4⟩
      case rest =>
        obtain ⟨q2, o2, hR5, hO5, hol5, hB5, hq5, hq6, HGO5⟩ := hcut
        clear hR4 hO4 hB4 HGO
        obtain ⟨A1', c1', h1', _⟩ := id hR5
        have c1 : wc.cell? ⟨gr, 1, none⟩ = some (.int .i64 (q2 : Int)) := (h1'.cell 1).trans rfl
        clear h1'
        by_cases hx1 : x = 1
        · have HF : Bx (R = .ok (o2, (q2 + 7) / 8)) := bx (by rw [HGO5.out]; unfold blkK; show ((if x = 1 then Rz.ok (o2, q2) else _).bind _) = _; rw [if_pos hx1]; rfl)
          obtain ⟨Av, nv, cv, rfl, hnv, hrv⟩ := OwL.sl hO5
          have hxb : ((x : Int) == 1) = true := by rw [hx1]; rfl
          have i1 : IntKind.i64.wrap ((q2 : Int) + 7) = (q2 : Int) + 7 := IntWalk.i64_in _ (by omega)
          clear hx1 hrv
          go_wp2_with fail
          go_quiet (fail)
          rename Nat => nq
          clear i1
          go_wp2
          go_ret3
          have hOb : OwB (wc.drewN nq) w.heap.size 5 (.slice Av nv cv) o2 := (OwL.low hO5 (by omega)).drewN nq
          exact allPost_ok HF.out (below_drewN hB5 nq) hOb (by omega)
        · have hxb : ((x : Int) == 1) = false := by rw [beq_eq_false_iff_ne]; omega
          have HG6 : Bx (R = (allB L b κ q2 o2).bind fun x => .ok (x.1, (x.2 + 7) / 8)) := bx (by rw [HGO5.out]; unfold blkK; show ((if x = 1 then Rz.ok (o2, q2) else _).bind _) = _; rw [if_neg hx1])
          clear hx1
          go_wp2_with fail
          go_roundg κ
          case rel => exact ⟨q2, o2, hR5, hO5, hol5, hB5, by omega, hq6, HG6⟩
          case measure => omega
end Go.Proofs.YtlmcpkomjofcgaaGreatDoor
