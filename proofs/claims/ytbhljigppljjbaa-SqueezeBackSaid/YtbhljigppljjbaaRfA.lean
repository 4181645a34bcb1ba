/- Contracts: (*samovarref04.Reader).Left, Take, Bytes. -/
import Derived.Test.YtbhljigppljjbaaInfU
import Derived.Test.YtbhljigppljjbaaBitC
import Derived.Test.YtbhljigppljjbaaRow
namespace Go.Proofs.Ytbhljigppljjbaa
open Go.RowKit

/-- The document's reader in block g: its bytes, how many bits were passed. -/
def RRd (w : World) (g : Nat) (b : List UInt8) (p : Nat) : Prop :=
  ∃ A c, Bk w g 50 #[.slice A b.length c, .int .i64 (p : Int)] ∧ RB w g A b ∧ b.length ≤ c ∧ p ≤ 8 * b.length ∧ b.length ≤ 1000000000
theorem RRd.lt {w : World} {g : Nat} {b : List UInt8} {p : Nat} (h : RRd w g b p) : g < w.heap.size := by obtain ⟨A, c, h1, _⟩ := h; exact h1.lt
theorem RRd.le {w : World} {g : Nat} {b : List UInt8} {p : Nat} (h : RRd w g b p) : p ≤ 8 * b.length ∧ b.length ≤ 1000000000 := by obtain ⟨A, c, _, _, _, h1⟩ := h; exact h1
theorem RRd.keep {w w' : World} {g : Nat} {b : List UInt8} {p : Nat} (h : RRd w g b p) (hk : ∀ i, i ≤ g → w'.heap[i]? = w.heap[i]?) : RRd w' g b p := by
  obtain ⟨A, c, h1, h2, r⟩ := h
  exact ⟨A, c, (hk g (Nat.le_refl _)).trans h1, Rd.keep h2 fun q hq => World.cell?_of_block (hk _ (by omega)), r⟩
theorem RRd.below {w w' : World} {g B : Nat} {b : List UInt8} {p : Nat} (h : RRd w g b p) (hb : Below B w w') (hB : g < B) : RRd w' g b p := h.keep fun i hi => hb.block i (by omega)
theorem RRd.step {w w' : World} {g : Nat} {b : List UInt8} {p : Nat} (h : RRd w g b p) (hb : Below w.heap.size w w') : RRd w' g b p := h.below hb h.lt
theorem RRd.grown {w w' : World} {g : Nat} {b : List UInt8} {p : Nat} {row : Option Nat} (h : RRd w g b p) (hb : w.grownBy w' row) (hr : ∀ k, row = some k → g < k) : RRd w' g b p :=
  h.keep fun i hi => hb.block i (by have := h.lt; omega) (fun e => by have := hr i e.symm; omega)
theorem RRd.set {w : World} {g : Nat} {b : List UInt8} {p q : Nat} (h : RRd w g b p) (hq : q ≤ 8 * b.length) : RRd (w.setCell ⟨g, 1, none⟩ (.int .i64 (q : Int))) g b q := by
  obtain ⟨A, c, h1, h2, h3, _, h5⟩ := h
  refine ⟨A, c, ?_, h2.setCell (by exact Nat.le_refl _) _, h3, hq, h5⟩
  have := h1.set 1 (.int .i64 (q : Int))
  simpa using this
set_option maxHeartbeats 1000000 in
theorem rleft_any (g : Nat) (b : List UInt8) (p : Nat) (w : World) (h : RRd w g b p) :
    Calls Try.prog 38 #[.pointer (some ⟨g, 0, none⟩)] w fun e w' => e = .returned (.int .i64 ((8 * b.length - p : Nat) : Int)) ∧ ∃ q, w' = w.drewN q := by
  have hle := h.le
  obtain ⟨A, c, h1, _⟩ := h
  have c0 : w.cell? ⟨g, 0, none⟩ = some (.slice A b.length c) := (h1.cell 0).trans rfl
  have c1 : w.cell? ⟨g, 1, none⟩ = some (.int .i64 (p : Int)) := (h1.cell 1).trans rfl
  have i1 : IntKind.i64.wrap (8 * (b.length : Int)) = 8 * (b.length : Int) := IntWalk.i64_in _ (by omega)
  have i2 : IntKind.i64.wrap (8 * (b.length : Int) - (p : Int)) = 8 * (b.length : Int) - (p : Int) := IntWalk.i64_in _ (by omega)
  clear h1
  go_enter Try.func38, Try.ntmps38
  go_wp2
  go_quiet (fail)
  rename_i nq
  go_wp2
  go_ret
  have hh : (8 * (b.length : Int) - (p : Int)) = ((8 * b.length - p : Nat) : Int) := by omega
  exact ⟨ret_v (by rw [← hh]; rfl), nq, rfl⟩
set_option maxHeartbeats 2000000 in
theorem rtake_short (g : Nat) (b : List UInt8) (p n : Nat) (w : World) (h : RRd w g b p) (hn : n ≤ 16) (hp : 8 * b.length < p + n) :
    Calls Try.prog 22 #[.pointer (some ⟨g, 0, none⟩), .int .i64 (n : Int)] w fun e w' => e = .returned (.tuple #[.int .i64 0, .int .i64 2]) ∧ Below w.heap.size w w' := by
  have hle := h.le
  have hgt : ((8 * b.length - p : Nat) : Int) < (n : Int) := by omega
  go_enter Try.func22, Try.ntmps22
  go_wp2_with fail
  refine (rleft_any g b p w h).mono ?_
  rintro e w1 ⟨rfl, q, rfl⟩
  go_wp2
  go_ret2
  exact ⟨rfl, below_drewN (Below.refl _ _) _⟩
set_option maxHeartbeats 4000000 in
theorem rtake_ok (g : Nat) (b : List UInt8) (p n : Nat) (w : World) (h : RRd w g b p) (hn : n ≤ 16) (hp : p + n ≤ 8 * b.length) :
    Calls Try.prog 22 #[.pointer (some ⟨g, 0, none⟩), .int .i64 (n : Int)] w fun e w' => e = .returned (.tuple #[.int .i64 (takeN b p n : Int), .int .i64 0]) ∧ RRd w' g b (p + n) ∧ w.grownBy w' (some g) := by
  have hle := h.le
  have hgt : ¬ ((8 * b.length - p : Nat) : Int) < (n : Int) := by omega
  go_enter Try.func22, Try.ntmps22
  go_wp2_with fail
  refine (rleft_any g b p w h).mono ?_
  rintro e w1 ⟨rfl, q0, rfl⟩
  have h0 : RRd (w.drewN q0) g b p := h
  have hg0 : w.grownBy (w.drewN q0) (some g) := gb_drewN (World.grownBy.refl w (some g)) q0
  clear h
  go_wp2_with fail
  clear hgt
  generalize w.drewN q0 = w1 at h0 hg0 ⊢
  go_loopg [6, 7, 8] n (fun κ v6 v7 v8 wr => ∃ i : Nat, κ = n - i ∧ i ≤ n ∧ v6 = .int .i64 (takeN b p i : Int) ∧ v7 = .int .i64 ((2 ^ i : Nat) : Int) ∧ v8 = .int .i64 (i : Int) ∧ RRd wr g b (p + i) ∧ w.grownBy wr (some g))
  case atStart => exact ⟨0, by omega, by omega, rfl, rfl, rfl, h0, hg0⟩
  case round =>
    clear h0 hg0
    obtain ⟨i, hgk, hi, rfl, rfl, rfl, hR, hG⟩ := hrel
    by_cases hin : i < n
    · obtain ⟨P, hP⟩ : ∃ P, p + i = P := ⟨_, rfl⟩
      have hP8 : P < 8 * b.length := by omega
      have hT : takeN b p (i + 1) = takeN b p i + 2 ^ i * bitAt b P := by rw [takeN, hP]
      have hlt := takeN_lt b p (i + 1)
      have hpw : (2 : Nat) ^ (i + 1) = 2 ^ i * 2 := Nat.pow_succ _ _
      have hp16 : (2 : Nat) ^ (i + 1) ≤ 2 ^ 16 := Nat.pow_le_pow_right (by decide) (by omega)
      rw [hP] at hR
      have HS := bx (hR.set (q := P + 1) (by omega))
      obtain ⟨A, c, h1, h2, _⟩ := id hR
      have c0 : wr.cell? ⟨g, 0, none⟩ = some (.slice A b.length c) := (h1.cell 0).trans rfl
      have c1 : wr.cell? ⟨g, 1, none⟩ = some (.int .i64 (P : Int)) := (h1.cell 1).trans rfl
      have f1 : wr.frozen? ⟨g, 1, none⟩ = false := h1.frz 1
      obtain ⟨ad, x, rfl, _, hx, hc⟩ := h2.byte (k := P / 8) (by omega)
      have hx8 := x.toNat_lt
      have j0 : IntKind.i64.wrap (x.toNat : Int) = (x.toNat : Int) := IntWalk.i64_in _ (by omega)
      go_upto_region 9 with (fail)
      go_quiet (fail)
      rename Nat => nq
      have hbit : bitAt b P = x.toNat / 2 ^ (P % 8) % 2 := by unfold bitAt; rw [List.getD_eq_getElem?_getD, hx.out]; rfl
      have HV : wrap64 ((takeN b p i : Int) + wrap64 (2 ^ i * ((x.toNat : Int) / 2 ^ (P % 8)).tmod 2)) = (takeN b p (i + 1) : Int) := by
        have e1 : ((x.toNat : Int) / 2 ^ (P % 8)).tmod 2 = (bitAt b P : Int) := by
          rw [hbit, Int.tmod_eq_emod_of_nonneg (Int.ediv_nonneg (by omega) (Int.le_of_lt (Int.pow_pos (by decide))))]
          simp
        have e2 : ((2 : Int) ^ i * (bitAt b P : Int)) = ((2 ^ i * bitAt b P : Nat) : Int) := by simp
        have hb1 := bitAt_lt b P
        have e3 : 2 ^ i * bitAt b P ≤ 2 ^ i * 1 := Nat.mul_le_mul (Nat.le_refl _) (by omega)
        rw [e1, e2, hT]
        obtain ⟨Q, hQ⟩ : ∃ Q, 2 ^ i * bitAt b P = Q := ⟨_, rfl⟩
        rw [hQ] at e3 hT ⊢
        rw [IntWalk.wrap64_in (Q : Int) (by omega), IntWalk.wrap64_in _ (by omega), Int.natCast_add]
      rw [HV]
      have hG1 := bx (gb_set (gb_drewN hG nq) 1 (.int .i64 ((P + 1 : Nat) : Int)))
      have HS2 : Bx (RRd ((wr.drewN nq).setCell ⟨g, 1, none⟩ (.int .i64 ((P + 1 : Nat) : Int))) g b (p + (i + 1))) := bx (by rw [show p + (i + 1) = P + 1 by omega]; exact HS.out)
      have c1' : (wr.drewN nq).cell? ⟨g, 1, none⟩ = some (.int .i64 (P : Int)) := c1
      have f1' : (wr.drewN nq).frozen? ⟨g, 1, none⟩ = false := f1
      have hP1 : ((P + 1 : Nat) : Int) = (P : Int) + 1 := by omega
      rw [hP1] at hG1 HS2
      have hpw2 : wrap64 (2 * 2 ^ i) = ((2 ^ (i + 1) : Nat) : Int) := by
        have e : ((2 : Int) * 2 ^ i) = ((2 ^ (i + 1) : Nat) : Int) := by
          rw [hpw, Nat.mul_comm]; simp
        rw [e]; exact IntWalk.wrap64_in _ (by omega)
      have HPW := bx hpw2
      clear HV hbit hT hlt HS hR h1 h2 c0 c1 f1 hx hc hG hpw2
      generalize wr.drewN nq = wz at hG1 HS2 c1' f1' ⊢
      go_wp2
      go_roundg (n - (i + 1))
      case rel => exact ⟨i + 1, rfl, by omega, rfl, by rw [HPW.out], by go_num, HS2.out, hG1.out⟩
      case measure => omega
    · obtain rfl : i = n := by omega
      go_wp2
      go_ret2
      exact ⟨rfl, hR, hG⟩
set_option maxHeartbeats 1000000 in
theorem rbytes_short (g : Nat) (b : List UInt8) (p n : Nat) (w : World) (h : RRd w g b p) (hn : n ≤ 100000) (hp : b.length < (p + 7) / 8 + n) :
    Calls Try.prog 23 #[.pointer (some ⟨g, 0, none⟩), .int .i64 (n : Int)] w fun e w' => e = .returned (.tuple #[.slice none 0 0, .int .i64 2]) ∧ w = w' := by
  have hle := h.le
  obtain ⟨A, c, h1, _⟩ := h
  have c0 : w.cell? ⟨g, 0, none⟩ = some (.slice A b.length c) := (h1.cell 0).trans rfl
  have c1 : w.cell? ⟨g, 1, none⟩ = some (.int .i64 (p : Int)) := (h1.cell 1).trans rfl
  have hgt : (b.length : Int) - ((p : Int) + 7) / 8 < (n : Int) := by omega
  have hgt2 : (b.length : Int) - (((p + 7) / 8 : Nat) : Int) < (n : Int) := by omega
  clear h1
  go_enter Try.func23, Try.ntmps23
  go_wp2
  go_ret2
  exact ⟨rfl, rfl⟩
set_option maxHeartbeats 2000000 in
theorem rbytes_ok (g : Nat) (b : List UInt8) (p n f : Nat) (w : World) (h : RRd w g b p) (hn : n ≤ 100000) (hf : (p + 7) / 8 = f) (hp : f + n ≤ b.length) :
    Calls Try.prog 23 #[.pointer (some ⟨g, 0, none⟩), .int .i64 (n : Int)] w fun e w' => ∃ A c, e = .returned (.tuple #[.slice A n c, .int .i64 0]) ∧ n ≤ c ∧ RB w' w'.heap.size A ((b.drop f).take n) ∧
      (∀ ad, A = some ad → w.heap.size ≤ ad.block) ∧ RRd w' g b (8 * (f + n)) ∧ w.grownBy w' (some g) := by
  have hle := h.le
  obtain ⟨A, c, h1, h2, h3, _⟩ := id h
  have c0 : w.cell? ⟨g, 0, none⟩ = some (.slice A b.length c) := (h1.cell 0).trans rfl
  have c1 : w.cell? ⟨g, 1, none⟩ = some (.int .i64 (p : Int)) := (h1.cell 1).trans rfl
  have f1 : w.frozen? ⟨g, 1, none⟩ = false := h1.frz 1
  have hff : ((p : Int) + 7) / 8 = (f : Int) := by omega
  have hfl : (f : Int) ≤ (b.length : Int) := by omega
  have hgl := h.lt
  have hS : RRd (w.setCell ⟨g, 1, none⟩ (.int .i64 (8 * ((f : Int) + (n : Int))))) g b (8 * (f + n)) := by
    have := h.set (q := 8 * (f + n)) (by omega)
    rwa [show (((8 * (f + n) : Nat)) : Int) = 8 * ((f : Int) + (n : Int)) by omega] at this
  have HG := Lib.hid (gb_set (World.grownBy.refl w (some g)) 1 (.int .i64 (8 * ((f : Int) + (n : Int)))))
  have c2 : ((w.setCell ⟨g, 1, none⟩ (.int .i64 (8 * ((f : Int) + (n : Int))))).alloc (.cells #[] 5)).cell? ⟨g, 0, none⟩ = some (.slice A b.length c) := by
    rw [World.cell?_alloc_lt _ _ _ (by show g < _; simpa [World.setCell] using hgl)]
    exact (World.cell?_setCell_other w ⟨g, 1, none⟩ ⟨g, 0, none⟩ _ (by simp)).trans c0
  have hr2 : RB (w.setCell ⟨g, 1, none⟩ (.int .i64 (8 * ((f : Int) + (n : Int))))) g A b := h2.setCell (by exact Nat.le_refl _) _
  have hsz : (w.setCell ⟨g, 1, none⟩ (.int .i64 (8 * ((f : Int) + (n : Int))))).heap.size = w.heap.size := by simp [World.setCell]
  have hcut := (hr2.cut (k := f) (cap := c) (by omega)).take n
  have HN : Hid ((([] : List UInt8).length + ((b.drop f).take n).length) * 1 ≤ 140737488355328) := Lib.hid (by simp; omega)
  have HL : Hid (((b.drop f).take n).length = n) := Lib.hid (by simp; omega)
  have HSZ := Lib.hid hsz
  clear h1 hr2 hsz
  have HL2 : Hid (((b.drop f).take n).length = f + n - f) := Lib.hid (by simp; omega)
  have HE : Hid (f + n - f = n) := Lib.hid (by omega)
  have hdisj : (c = f ∧ RL bV (w.setCell ⟨g, 1, none⟩ (.int .i64 (8 * ((f : Int) + (n : Int))))) g A ((b.drop f).take n)) ∨ (¬ c = f ∧ RL bV (w.setCell ⟨g, 1, none⟩ (.int .i64 (8 * ((f : Int) + (n : Int))))) g (A.map (·.add f)) ((b.drop f).take n)) := by
    by_cases e : c = f
    · rw [if_pos e] at hcut; exact .inl ⟨e, hcut⟩
    · rw [if_neg e] at hcut; exact .inr ⟨e, hcut⟩
  clear hcut
  have fin : ∀ (v1 : Value) (w1 : World), OwL bV w1 w.heap.size 5 v1 ([] ++ (b.drop f).take n) → Below w.heap.size ((w.setCell ⟨g, 1, none⟩ (.int .i64 (8 * ((f : Int) + (n : Int))))).alloc (.cells #[] 5)) w1 →
      ∃ A c, v1 = .slice A n c ∧ n ≤ c ∧ RB w1 w1.heap.size A ((b.drop f).take n) ∧ (∀ ad, A = some ad → w.heap.size ≤ ad.block) ∧ RRd w1 g b (8 * (f + n)) ∧ w.grownBy w1 (some g) := by
    intro v1 w1 hown hb1
    rw [List.nil_append] at hown
    obtain ⟨A1, c1, rfl, hr1, hc1, _⟩ := OwL.rd hown
    refine ⟨A1, c1, by rw [HL.out], by rw [← HL.out]; exact hc1, hr1, fun ad had => ?_, ?_, ?_⟩
    · subst had; exact (World.ownsRow.lt hown ad.block rfl).1
    · refine RRd.below ?_ hb1 hgl
      exact hS.keep fun i hi => Below.heap_alloc _ _ i (by rw [HSZ.out]; omega)
    · exact gb_past (gb_alloc HG.out _) hb1 (Nat.le_refl _)
  rcases hdisj with ⟨hcf, hcut⟩ | ⟨hcf, hcut⟩
  · go_enter Try.func23, Try.ntmps23
    go_wp2_with (at_builtin; refine wpList_appL _ bV_one rfl (.tmp 31) (.tmp 40) rfl byteTy (by decide) w.heap.size _ [] rfl ?c0 g _ (f + n - f) _ ((b.drop f).take n) rfl HL2.out ?c1 HN.out ?c2 ?_)
    case c0 => have := OwL.lit0 (f := bV) (e := 5) (base := w.heap.size) (w.setCell ⟨g, 1, none⟩ (.int .i64 (8 * ((f : Int) + (n : Int))))) (by rw [HSZ.out]; exact Nat.le_refl _); rw [HSZ.out] at this; exact this
    case c1 => exact RL.alloc hcut (by rw [HSZ.out]; omega) _
    case c2 => exact le_alloc0 (by rw [HSZ.out]; exact Nat.le_refl _) _
    intro v1 w1 hown _ _ hb1
    obtain ⟨A1, c1, rfl, r⟩ := fin v1 w1 hown hb1
    go_wp2
    go_ret2
    exact ⟨A1, c1, rfl, r⟩
  · go_enter Try.func23, Try.ntmps23
    go_wp2_with (at_builtin; refine wpList_appL _ bV_one rfl (.tmp 31) (.tmp 40) rfl byteTy (by decide) w.heap.size _ [] rfl ?c3 g _ (f + n - f) _ ((b.drop f).take n) rfl HL2.out ?c4 HN.out ?c5 ?_)
    case c3 => have := OwL.lit0 (f := bV) (e := 5) (base := w.heap.size) (w.setCell ⟨g, 1, none⟩ (.int .i64 (8 * ((f : Int) + (n : Int))))) (by rw [HSZ.out]; exact Nat.le_refl _); rw [HSZ.out] at this; exact this
    case c4 => exact RL.alloc hcut (by rw [HSZ.out]; omega) _
    case c5 => exact le_alloc0 (by rw [HSZ.out]; exact Nat.le_refl _) _
    intro v1 w1 hown _ _ hb1
    obtain ⟨A1, c1, rfl, r⟩ := fin v1 w1 hown hb1
    go_wp2
    go_ret2
    exact ⟨A1, c1, rfl, r⟩
end Go.Proofs.Ytbhljigppljjbaa
