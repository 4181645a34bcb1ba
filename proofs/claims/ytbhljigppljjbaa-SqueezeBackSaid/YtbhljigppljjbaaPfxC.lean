/- Contract: prefix.New. -/
import Derived.Test.YtbhljigppljjbaaPfxA
import Derived.Test.YtbhljigppljjbaaPfxQ
import Derived.Test.YtbhljigppljjbaaRow
import Derived.Test.YtbhljigppljjbaaMapS
import Derived.Deep.RegionHeld3
import Derived.Outline
import Derived.Deep.DeepCutAuto
namespace Go.Proofs.Ytbhljigppljjbaa
open Go.RowKit

def nV (x : Nat) : Value := .int .i64 (x : Int)
def uV (x : Nat) : Value := .int .u32 (x : Int)
abbrev RN := RL nV
/-- What New answers. -/
def PNewPost (l : List Nat) (lone : Bool) (w : World) (e : Ending) (w' : World) : Prop :=
  Below w.heap.size w w' ∧ if codeB l lone = true then ∃ g, e = .returned (.tuple #[.pointer (some ⟨g, 0, none⟩), .int .i64 0]) ∧ PCd w' w.heap.size g l else e = .returned (.tuple #[.pointer none, .int .i64 5])
/-- The next word of each length, behind k symbols. -/
def nextK (l : List Nat) (k q : Nat) : Nat := if q = 0 then 0 else firstP l q + (symsP l k q).length
theorem nextK_same {l : List Nat} {k m : Nat} (hk : l[k]? = some m) (hm : m ≠ 0) : nextK l (k + 1) m = nextK l k m + 1 := by
  unfold nextK
  rw [if_neg hm, if_neg hm, symsP_len_succ hk, if_pos rfl, Nat.add_assoc]
theorem nextK_other {l : List Nat} {k m q : Nat} (hk : l[k]? = some m) (hq : q ≠ m) : nextK l (k + 1) q = nextK l k q := by
  unfold nextK
  rw [symsP_len_succ hk, if_neg hq]
theorem symG_succ {l : List Nat} {k m : Nat} (hk : l[k]? = some m) (hm : m ≠ 0) (q : Nat × Nat) : symG l (k + 1) q = if q = (m, nextK l k m) then some (.int .i64 (k : Int)) else symG l k q := by
  unfold symG nextK
  rw [if_neg hm]
  by_cases e : q = (m, firstP l m + (symsP l k m).length)
  · subst e
    rw [if_pos rfl]
    show ((symK l (k + 1) m (firstP l m + (symsP l k m).length)).map fun s => Value.int .i64 (s : Int)) = _
    rw [symK_same hk hm]; rfl
  · rw [if_neg e, symK_other hk (fun h => e (Prod.ext h.1 h.2))]
theorem wrdG_succ {l : List Nat} {k m : Nat} (hk : l[k]? = some m) (hm : m ≠ 0) (q : Int) : wrdG l (k + 1) q = if q = (k : Int) then some (wordV (m, nextK l k m)) else wrdG l k q := by
  unfold wrdG nextK
  rw [if_neg hm]
  by_cases e : q = (k : Int)
  · subst e
    rw [if_pos rfl, if_pos (by omega)]
    have hgd : l.getD k 0 = m := by rw [List.getD_eq_getElem?_getD, hk]; rfl
    show (wordOf l (k : Int).toNat).map wordV = _
    rw [Int.toNat_natCast]
    unfold wordOf
    rw [hgd, if_neg hm]; rfl
  · rw [if_neg e]
    by_cases h : 0 ≤ q ∧ q < (k : Int)
    · rw [if_pos h, if_pos (by omega)]
    · rw [if_neg h, if_neg (by omega)]
theorem wrdG_skip {l : List Nat} {k : Nat} (hk : l[k]? = some 0) (q : Int) : wrdG l (k + 1) q = wrdG l k q := by
  unfold wrdG
  by_cases e : q = (k : Int)
  · subst e
    rw [if_pos (by omega), if_neg (by omega)]
    have hgd : l.getD k 0 = 0 := by rw [List.getD_eq_getElem?_getD, hk]; rfl
    rw [Int.toNat_natCast]
    unfold wordOf
    rw [hgd, if_pos rfl]; rfl
  · by_cases h : 0 ≤ q ∧ q < (k : Int)
    · rw [if_pos h, if_pos (by omega)]
    · rw [if_neg h, if_neg (by omega)]
theorem iV_inj (x y : Int) (h : iV x = iV y) : x = y := by unfold iV at h; injection h
theorem zero_int (w : World) : (zeroValue 3).run Try.prog w = .ok (.int .i64 0) w := by kernel_rfl
theorem zero_word (w : World) : (zeroValue 99).run Try.prog w = .ok (wordV (0, 0)) w := by kernel_rfl
/-- What stands beside the two maps while both are stored into. -/
def PnI (w wr : World) (g gw ms : Nat) (C : Nat → Value) (mo m nx : Int) : Prop :=
  Rw wr (g + 1) 97 16 C ∧ Bk wr g 96 #[.map (some ms), .map (some (ms + 1)), .int .u8 mo] ∧ Bk wr gw 99 #[.int .u8 m, .int .u16 nx] ∧ Below w.heap.size w wr
theorem PnI.grown {w wr w' : World} {g gw ms : Nat} {C : Nat → Value} {mo m nx : Int} {b : Nat} (h : PnI w wr g gw ms C mo m nx) (hg : wr.grownBy w' (some b)) (hb : w.heap.size ≤ b) (hbg : b < g) (hgw : g < gw) : PnI w w' g gw ms C mo m nx := by
  obtain ⟨h1, h2, h3, h4⟩ := h
  have e : b < wr.heap.size := by have := h2.lt; omega
  exact ⟨h1.grown hg (fun e => by injection e; omega), h2.grown hg (fun e => by injection e; omega), h3.grown hg (fun e => by injection e; omega), h4.trans (gb_low hg hb e)⟩
theorem PnI.held {w wr : World} {g gw ms : Nat} {C : Nat → Value} {mo m nx : Int} (h : PnI w wr g gw ms C mo m nx) :
    wr.cell? ⟨g, 0, none⟩ = some (.map (some ms)) ∧ wr.cell? ⟨g, 1, none⟩ = some (.map (some (ms + 1))) ∧ wr.cell? ⟨gw, 0, none⟩ = some (.int .u8 m) ∧ wr.cell? ⟨gw, 1, none⟩ = some (.int .u16 nx) := by
  obtain ⟨_, h2, h3, _⟩ := h
  exact ⟨(h2.cell 0).trans rfl, (h2.cell 1).trans rfl, (h3.cell 0).trans rfl, (h3.cell 1).trans rfl⟩
theorem pnew_no {l : List Nat} {lone : Bool} {w w' : World} {e : Ending} (h : codeB l lone = false) (he : e = .returned (.tuple #[.pointer none, .int .i64 5])) (hb : Below w.heap.size w w') : PNewPost l lone w e w' := by
  refine ⟨hb, ?_⟩
  rw [if_neg (by rw [h]; simp)]
  exact he
theorem pnew_yes {l : List Nat} {lone : Bool} {w w' : World} {e : Ending} {g : Nat} (h : codeB l lone = true) (he : e = .returned (.tuple #[.pointer (some ⟨g, 0, none⟩), .int .i64 0])) (hc : PCd w' w.heap.size g l) (hb : Below w.heap.size w w') : PNewPost l lone w e w' := by
  refine ⟨hb, ?_⟩
  rw [if_pos h]
  exact ⟨g, he, hc⟩
theorem shl_small {c i : Nat} (hc : c ≤ 288) (hi : i < 15) : (c : Int) * 2 ^ (14 - i) % 4294967296 = ((c * 2 ^ (14 - i) : Nat) : Int) ∧ 2 ^ (15 - (i + 1)) = 2 ^ (14 - i) ∧ c * 2 ^ (14 - i) < 4294967296 := by
  have h1 : 2 ^ (14 - i) ≤ 2 ^ 14 := Nat.pow_le_pow_right (by decide) (by omega)
  have h2 : c * 2 ^ (14 - i) ≤ 288 * 2 ^ 14 := Nat.mul_le_mul hc h1
  have e : (c : Int) * 2 ^ (14 - i) = ((c * 2 ^ (14 - i) : Nat) : Int) := by simp
  refine ⟨?_, by rw [show 15 - (i + 1) = 14 - i by omega], by omega⟩
  rw [e]; omega
set_option maxRecDepth 100000 in
set_option maxHeartbeats 1000000 in
theorem pnew_any (A : Option Addr) (n c : Nat) (l : List Nat) (lone : Bool) (w : World) (hn : l.length = n) (hz : n ≤ 288) (h15 : ∀ x ∈ l, x ≤ 15) (hr : RN w w.heap.size A l) :
    Calls Try.prog 28 #[.slice A n c, .bool lone] w (PNewPost l lone w) := by
  have HL := Lib.hid hn
  have H15 := Lib.hid h15
  have hmm := @run_makeMap Try.prog
  obtain ⟨gc, hgc⟩ : ∃ gc, w.heap.size = gc := ⟨_, rfl⟩
  clear hn h15
  go_enter Try.func28, Try.ntmps28
  go_wp2_with fail
  have hgc' : gc = w.heap.size := hgc.symm
  have hgle : w.heap.size ≤ gc := by omega
  have HGC := Lib.hid hgc'
  have hR0 : Rw (w.alloc (.cells #[.int .u32 0, .int .u32 0, .int .u32 0, .int .u32 0, .int .u32 0, .int .u32 0, .int .u32 0, .int .u32 0, .int .u32 0, .int .u32 0, .int .u32 0, .int .u32 0, .int .u32 0, .int .u32 0, .int .u32 0, .int .u32 0, .int .u32 0] 92)) gc 92 17 (fun i => uV (cntP (l.take 0) i)) :=
    Rw.of (Bk.newAt _ _ _ hgc) rfl (fun i hi => by
      rw [List.take_zero, show cntP [] i = 0 by unfold cntP; split <;> simp]
      match i, hi with
      | 0, _ => rfl
      | 1, _ => rfl
      | 2, _ => rfl
      | 3, _ => rfl
      | 4, _ => rfl
      | 5, _ => rfl
      | 6, _ => rfl
      | 7, _ => rfl
      | 8, _ => rfl
      | 9, _ => rfl
      | 10, _ => rfl
      | 11, _ => rfl
      | 12, _ => rfl
      | 13, _ => rfl
      | 14, _ => rfl
      | 15, _ => rfl
      | 16, _ => rfl
      | i + 17, h => omega)
  have hB0 := bl_alloc (Below.refl w.heap.size w) (Nat.le_refl _) (.cells #[.int .u32 0, .int .u32 0, .int .u32 0, .int .u32 0, .int .u32 0, .int .u32 0, .int .u32 0, .int .u32 0, .int .u32 0, .int .u32 0, .int .u32 0, .int .u32 0, .int .u32 0, .int .u32 0, .int .u32 0, .int .u32 0, .int .u32 0] 92)
  clear hgc hgc'
  generalize w.alloc (.cells #[.int .u32 0, .int .u32 0, .int .u32 0, .int .u32 0, .int .u32 0, .int .u32 0, .int .u32 0, .int .u32 0, .int .u32 0, .int .u32 0, .int .u32 0, .int .u32 0, .int .u32 0, .int .u32 0, .int .u32 0, .int .u32 0, .int .u32 0] 92) = w0 at hR0 hB0 ⊢
  go_loopg [7, 24] n (fun κ used k wr => ∃ j : Nat, κ = n - j ∧ j ≤ n ∧ k = .int .i64 (j : Int) ∧ used = .int .i64 (usedP (l.take j) : Int) ∧ Rw wr gc 92 17 (fun i => uV (cntP (l.take j) i)) ∧ Below w.heap.size w wr)
  case atStart => exact ⟨0, by omega, by omega, rfl, rfl, hR0, hB0⟩
  case round =>
    clear hR0 hB0
    obtain ⟨j, hgk, hj, rfl, rfl, hR, hB⟩ := hrel
    by_cases hjn : j < n
    · obtain ⟨ad, m, rfl, hadb, hm, hc⟩ := RL.atl hr (k := j) (by rw [HL.out]; exact hjn)
      have hc' : wr.cell? (ad.add j) = some (.int .i64 (m : Int)) := by
        rw [hB.cell (by rw [blk_add]; exact hadb)]; exact hc
      have hm15 : m ≤ 15 := H15.out m (List.mem_of_getElem? hm.out)
      have hul := usedP_le (l.take j)
      have hcl := cntP_le (l.take j) m
      have hln : (l.take j).length ≤ j := List.length_take_le _ _
      have hcc : wr.cell? ⟨gc, m, none⟩ = some (.int .u32 (cntP (l.take j) m : Int)) := hR.cell (by omega)
      have hfz := hR.frz m
      have HU := Lib.hid (usedP_take hm.out)
      have HC := Lib.hid (cntP_take hm.out)
      clear hc
      rcases Nat.eq_zero_or_pos m with rfl | hm0
      · go_wp2
        go_roundg (n - (j + 1))
        case rel => exact ⟨j + 1, rfl, by omega, by go_num, by rw [HU.out]; rfl, hR.ext fun i _ => by rw [HC.out]; simp, hB⟩
        case measure => omega
      · have hR2 := hR.set m (.int .u32 ((cntP (l.take j) m : Int) + 1))
        have hB2 := hB.setCell (p := ⟨gc, m, none⟩) (by exact hgle) (.int .u32 ((cntP (l.take j) m : Int) + 1))
        have HR2 := Lib.hid hR2
        have HB2 := Lib.hid hB2
        clear hR2 hB2
        go_wp2
        go_roundg (n - (j + 1))
        case rel =>
          refine ⟨j + 1, rfl, by omega, by go_num, by rw [HU.out, if_pos (by omega)]; go_num, HR2.out.ext fun i _ => ?_, HB2.out⟩
          rw [HC.out]
          by_cases e : i = m
          · subst e; rw [if_pos ⟨rfl, by omega⟩, if_pos rfl]; unfold uV; go_num
          · rw [if_neg (fun x => e x.1), if_neg e]
        case measure => omega
    · obtain rfl : j = n := by omega
      have HJ : Hid (l.take j = l) := Lib.hid (List.take_of_length_le (by rw [HL.out]; exact Nat.le_refl _))
      have hR1 : Rw wr gc 92 17 (fun i => uV (cntP l i)) := hR.ext fun i _ => by rw [HJ.out]
      rw [HJ.out]
      go_wp2_with fail
      clear hR
      obtain ⟨wo, rfl⟩ : ∃ wo : World, wo = wr := ⟨_, rfl⟩
      have hK0 : kraftTo l 0 * 2 ^ (15 - 0) ≤ 32768 := by simp [kraftTo]
      have hL0 : leftP l 0 = 32768 := by simp [leftP, kraftTo]
      have HL0 := bx hL0
      have HK0 := bx hK0
      clear hL0 hK0
      go_loopg [10, 11] 15 (fun κ left nn wr => ∃ i : Nat, κ = 15 - i ∧ i ≤ 15 ∧ nn = .int .i64 ((i : Int) + 1) ∧ left = .int .u32 (leftP l i : Int) ∧ Bx (kraftTo l i * 2 ^ (15 - i) ≤ 32768) ∧ wr = wo)
      case atStart => exact ⟨0, by omega, by omega, rfl, by rw [HL0.out]; rfl, HK0, rfl⟩
      case round =>
        obtain ⟨i, hgk, hi, rfl, rfl, hK, rfl⟩ := hrel
        by_cases hi15 : i < 15
        · obtain ⟨hl1, hl2⟩ := left_succ hi15 hK.out
          have hcl := cntP_le l (i + 1)
          rw [HL.out] at hcl
          have hcc : wr.cell? ⟨gc, i + 1, none⟩ = some (.int .u32 (cntP l (i + 1) : Int)) := hR1.cell (by omega)
          obtain ⟨kk, hkk⟩ : ∃ kk, kraftTo l i * 2 ^ (15 - i) = kk := ⟨_, rfl⟩
          have hKK := hK.out
          rw [hkk] at hl1 hl2 hKK
          have HL1 := bx hl1
          have HL2 := bx hl2
          have HKK := bx hkk
          clear hl1 hl2 hkk
          have HP := bx (shl_small (c := cntP l (i + 1)) (i := i) (by omega) hi15)
          go_wp2_with fail
          · have hgt : (leftP l i : Int) < ((cntP l (i + 1) : Nat) : Int) * 2 ^ (14 - i) % 4294967296 := by assumption
            have HF : Bx (codeB l lone = false) := bx (by
              have h1 := HL1.out
              have h2 := HL2.out
              have h3 := HP.out
              rw [h3.1] at hgt
              refine code_over (kraft_le_over (n := i + 1) (by omega) ?_)
              rw [h2, h3.2.1]; omega)
            go_ret2
            exact pnew_no HF.out rfl hB
          · go_roundg (15 - (i + 1))
            case rel =>
              have hle : ((cntP l (i + 1) : Nat) : Int) * 2 ^ (14 - i) % 4294967296 ≤ (leftP l i : Int) := by assumption
              have h1 := HL1.out
              have h2 := HL2.out
              have h3 := HP.out
              rw [h3.1] at hle
              have hk2 : kraftTo l (i + 1) * 2 ^ (15 - (i + 1)) ≤ 32768 := by rw [h2, h3.2.1]; omega
              refine ⟨i + 1, rfl, by omega, by go_num, ?_, bx hk2, rfl⟩
              have h5 : leftP l (i + 1) = leftP l i - cntP l (i + 1) * 2 ^ (14 - i) := by
                have : leftP l (i + 1) = 32768 - kraftTo l (i + 1) * 2 ^ (15 - (i + 1)) := rfl
                rw [this, h2, h3.2.1]; omega
              rw [h3.1, h5]
              congr 1
              omega
            case measure => omega
        · obtain rfl : i = 15 := by omega
          have HK15 : Bx (kraftTo l 15 ≤ 32768) := bx (by have := hK.out; simpa using this)
          have HL15 : Bx (leftP l 15 = 32768 - kraftTo l 15) := bx (by unfold leftP; simp)
          have hc1 : wr.cell? ⟨gc, 1, none⟩ = some (.int .u32 (cntP l 1 : Int)) := hR1.cell (by omega)
          go_upto_region 22 with (fail)
          go_cut [1, 7, 11, 79] (fun _ _ _ v wx => v = .bool (!codeB l lone) ∧ wx = wr)
          case first =>
            have hul := usedP_le l
            have hcl1 := cntP_le l 1
            rw [HL.out] at hul hcl1
            have hcnt : Bx (cntP l 1 = l.count 1) := bx rfl
            by_cases hk : kraftTo l 15 = 32768
            · have ht : ¬ 0 < leftP l 15 := by rw [HL15.out, hk]; omega
              have HC : Bx (codeB l lone = true) := bx (by unfold codeB; rw [decide_eq_true hk]; rfl)
              have HK := bx hk
              clear hk
              go_wp2
              go_meet
              case rel => exact ⟨by rw [HC.out]; rfl, rfl⟩
            · have ht : 0 < leftP l 15 := by rw [HL15.out]; have := HK15.out; omega
              have HK := bx hk
              clear hk
              cases lone with
              | false =>
                have HC : Bx (codeB l false = false) := bx (by unfold codeB; rw [decide_eq_false HK.out]; rfl)
                go_wp2
                go_meet
                case rel => exact ⟨by rw [HC.out]; rfl, rfl⟩
              | true =>
                by_cases hu0 : usedP l = 0
                · have ht2 : ((usedP l : Int) == 0) = true := by rw [hu0]; rfl
                  have HC : Bx (codeB l true = true) := bx (by unfold codeB; rw [decide_eq_true hu0]; simp)
                  clear hu0
                  go_wp2
                  go_meet
                  case rel => exact ⟨by rw [HC.out]; rfl, rfl⟩
                · have ht2 : ((usedP l : Int) == 0) = false := by rw [beq_eq_false_iff_ne]; omega
                  have HU0 := bx hu0
                  clear hu0
                  by_cases hu1 : usedP l = 1
                  · have ht3 : ((usedP l : Int) == 1) = true := by rw [hu1]; rfl
                    have HU1 := bx hu1
                    clear hu1
                    by_cases hc1 : cntP l 1 = 1
                    · have ht4 : ((cntP l 1 : Int) == 1) = true := by rw [hc1]; rfl
                      have HC : Bx (codeB l true = true) := bx (by unfold codeB; rw [decide_eq_false HK.out, decide_eq_true HU1.out, decide_eq_true (hcnt.out.symm.trans hc1)]; simp)
                      clear hc1
                      go_wp2
                      go_meet
                      case rel => exact ⟨by rw [HC.out]; rfl, rfl⟩
                    · have ht4 : ((cntP l 1 : Int) == 1) = false := by rw [beq_eq_false_iff_ne]; omega
                      have HC : Bx (codeB l true = false) := bx (by unfold codeB; rw [decide_eq_false HK.out, decide_eq_false HU0.out, decide_eq_false (fun e => hc1 (hcnt.out.trans e))]; simp)
                      clear hc1
                      go_wp2
                      go_meet
                      case rel => exact ⟨by rw [HC.out]; rfl, rfl⟩
                  · have ht3 : ((usedP l : Int) == 1) = false := by rw [beq_eq_false_iff_ne]; omega
                    have HC : Bx (codeB l true = false) := bx (by unfold codeB; rw [decide_eq_false HK.out, decide_eq_false HU0.out, decide_eq_false hu1]; simp)
                    clear hu1
                    go_wp2
                    go_meet
                    case rel => exact ⟨by rw [HC.out]; rfl, rfl⟩
          case rest =>
            obtain ⟨rfl, rfl⟩ := hcut
            cases hcb : codeB l lone with
            | false =>
              have HC := bx hcb
              clear hcb
              go_wp2
              go_ret2
              exact pnew_no HC.out rfl hB
            | true =>
              have HC := bx hcb
              clear hcb
              obtain ⟨ms, hms⟩ : ∃ ms, wc.heap.size = ms := ⟨_, rfl⟩
              have hgcms : gc < ms := by have := hR1.lt; omega
              have hlo : w.heap.size ≤ ms := by have := hB.size; omega
              obtain ⟨g, hg⟩ : ∃ g, ms + 1 + 1 = g := ⟨_, rfl⟩
              have hsz1 : (wc.alloc (.map #[] 0)).heap.size = ms + 1 := by simp [hms]
              have hsz2 : ((wc.alloc (.map #[] 0)).alloc (.map #[] 0)).heap.size = g := by simp [hms, hg]
              have hsz3 : (((wc.alloc (.map #[] 0)).alloc (.map #[] 0)).alloc (.cells #[.map (some ms), .map (some (ms + 1)), .int .u8 0] 96)).heap.size = g + 1 := by simp [hms, hg]
              have hMs : MapT wordV ((((wc.alloc (.map #[] 0)).alloc (.map #[] 0)).alloc (.cells #[.map (some ms), .map (some (ms + 1)), .int .u8 0] 96)).alloc (.cells #[.int .u32 0, .int .u32 0, .int .u32 0, .int .u32 0, .int .u32 0, .int .u32 0, .int .u32 0, .int .u32 0, .int .u32 0, .int .u32 0, .int .u32 0, .int .u32 0, .int .u32 0, .int .u32 0, .int .u32 0, .int .u32 0] 97)) Try.prog 99 ms 0 (fun _ => none) := (((MapT.madeAt wc _ _ hms).alloc _).alloc _).alloc _
              have hMw : MapT iV ((((wc.alloc (.map #[] 0)).alloc (.map #[] 0)).alloc (.cells #[.map (some ms), .map (some (ms + 1)), .int .u8 0] 96)).alloc (.cells #[.int .u32 0, .int .u32 0, .int .u32 0, .int .u32 0, .int .u32 0, .int .u32 0, .int .u32 0, .int .u32 0, .int .u32 0, .int .u32 0, .int .u32 0, .int .u32 0, .int .u32 0, .int .u32 0, .int .u32 0, .int .u32 0] 97)) Try.prog 3 (ms + 1) 0 (fun _ => none) := ((MapT.madeAt _ _ _ hsz1).alloc _).alloc _
              have hCd : Bk ((((wc.alloc (.map #[] 0)).alloc (.map #[] 0)).alloc (.cells #[.map (some ms), .map (some (ms + 1)), .int .u8 0] 96)).alloc (.cells #[.int .u32 0, .int .u32 0, .int .u32 0, .int .u32 0, .int .u32 0, .int .u32 0, .int .u32 0, .int .u32 0, .int .u32 0, .int .u32 0, .int .u32 0, .int .u32 0, .int .u32 0, .int .u32 0, .int .u32 0, .int .u32 0] 97)) g 96 #[.map (some ms), .map (some (ms + 1)), .int .u8 ((0 : Nat) : Int)] := (Bk.newAt _ _ _ hsz2).alloc _
              have hNx : Rw ((((wc.alloc (.map #[] 0)).alloc (.map #[] 0)).alloc (.cells #[.map (some ms), .map (some (ms + 1)), .int .u8 0] 96)).alloc (.cells #[.int .u32 0, .int .u32 0, .int .u32 0, .int .u32 0, .int .u32 0, .int .u32 0, .int .u32 0, .int .u32 0, .int .u32 0, .int .u32 0, .int .u32 0, .int .u32 0, .int .u32 0, .int .u32 0, .int .u32 0, .int .u32 0] 97)) (g + 1) 97 16 (fun q => uV (if q ≤ 0 then firstP l q else 0)) :=
                Rw.of (Bk.newAt _ _ _ hsz3) rfl (fun q hq => by
                  have e : (if q ≤ 0 then firstP l q else 0) = 0 := by
                    split
                    · rename_i h; rw [Nat.le_zero.1 h]; rfl
                    · rfl
                  rw [e]
                  match q, hq with
                  | 0, _ => rfl
                  | 1, _ => rfl
                  | 2, _ => rfl
                  | 3, _ => rfl
                  | 4, _ => rfl
                  | 5, _ => rfl
                  | 6, _ => rfl
                  | 7, _ => rfl
                  | 8, _ => rfl
                  | 9, _ => rfl
                  | 10, _ => rfl
                  | 11, _ => rfl
                  | 12, _ => rfl
                  | 13, _ => rfl
                  | 14, _ => rfl
                  | 15, _ => rfl
                  | q + 16, h => omega)
              have hCt : Rw ((((wc.alloc (.map #[] 0)).alloc (.map #[] 0)).alloc (.cells #[.map (some ms), .map (some (ms + 1)), .int .u8 0] 96)).alloc (.cells #[.int .u32 0, .int .u32 0, .int .u32 0, .int .u32 0, .int .u32 0, .int .u32 0, .int .u32 0, .int .u32 0, .int .u32 0, .int .u32 0, .int .u32 0, .int .u32 0, .int .u32 0, .int .u32 0, .int .u32 0, .int .u32 0] 97)) gc 92 17 (fun i => uV (cntP l i)) := (((hR1.alloc _).alloc _).alloc _).alloc _
              have hB4 : Below w.heap.size w ((((wc.alloc (.map #[] 0)).alloc (.map #[] 0)).alloc (.cells #[.map (some ms), .map (some (ms + 1)), .int .u8 0] 96)).alloc (.cells #[.int .u32 0, .int .u32 0, .int .u32 0, .int .u32 0, .int .u32 0, .int .u32 0, .int .u32 0, .int .u32 0, .int .u32 0, .int .u32 0, .int .u32 0, .int .u32 0, .int .u32 0, .int .u32 0, .int .u32 0, .int .u32 0] 97)) :=
                bl_alloc (bl_alloc (bl_alloc (bl_alloc hB (Nat.le_refl _) _) (Nat.le_refl _) _) (Nat.le_refl _) _) (Nat.le_refl _) _
              have HG := bx hg
              have HMS := bx hms
              have P1 := bx hMs
              have P2 := bx hMw
              have P3 := bx hCd
              have P4 := bx hNx
              have P5 := bx hCt
              have P6 := bx hB4
              clear hsz1 hsz2 hsz3 hMs hMw hCd hNx hCt hB4 hc1 hR1 hB hg
              go_wp2_with fail
              have hg := HG.out
              have hMs := P1.out
              have hMw := P2.out
              have hCd := P3.out
              have hNx := P4.out
              have hCt := P5.out
              have hB4 := P6.out
              rw [hg]
              clear P1 P2 P3 P4 P5 P6 hms
              generalize ((((wc.alloc (.map #[] 0)).alloc (.map #[] 0)).alloc (.cells #[.map (some ms), .map (some (ms + 1)), .int .u8 0] 96)).alloc (.cells #[.int .u32 0, .int .u32 0, .int .u32 0, .int .u32 0, .int .u32 0, .int .u32 0, .int .u32 0, .int .u32 0, .int .u32 0, .int .u32 0, .int .u32 0, .int .u32 0, .int .u32 0, .int .u32 0, .int .u32 0, .int .u32 0] 97)) = w4 at hMs hMw hCd hNx hCt hB4 ⊢
              have hgms : ms + 1 < g := by omega
              have hgwl := hNx.lt
              clear hg
              go_loopg [15] 15 (fun κ nn wr => ∃ i : Nat, κ = 15 - i ∧ i ≤ 15 ∧ nn = .int .i64 ((i : Int) + 1) ∧ Rw wr (g + 1) 97 16 (fun q => uV (if q ≤ i then firstP l q else 0)) ∧ w4.grownBy wr (some (g + 1)))
              case atStart => exact ⟨0, by omega, by omega, rfl, hNx, World.grownBy.refl w4 _⟩
              case round =>
                clear hNx
                obtain ⟨i, hgk, hi, rfl, hNx, hgr⟩ := hrel
                by_cases hi15 : i < 15
                · rcases Nat.eq_zero_or_pos i with rfl | hi0
                  · go_wp2
                    go_roundg 14
                    case rel =>
                      refine ⟨1, rfl, by omega, rfl, hNx.ext fun q _ => ?_, hgr⟩
                      congr 1
                      match q with
                      | 0 => rfl
                      | 1 => rfl
                      | q + 2 => rfl
                    case measure => omega
                  · have ht1 : (1 : Int) < (i : Int) + 1 := by omega
                    have hc1 : wr.cell? ⟨g + 1, i, none⟩ = some (.int .u32 (firstP l i : Int)) := by
                      rw [hNx.cell (i := i) (by omega), if_pos (Nat.le_refl _)]; rfl
                    have hc2 : wr.cell? ⟨gc, i, none⟩ = some (.int .u32 (cntP l i : Int)) := (hCt.grown hgr (fun e => by injection e; omega)).cell (by omega)
                    have hc3 : wr.cell? ⟨g + 1, i + 1, none⟩ = some (.int .u32 0) := by
                      rw [hNx.cell (i := i + 1) (by omega), if_neg (by omega)]; rfl
                    have hf1 := hNx.frz (i + 1)
                    have hb := first_bound (code_kraft HC.out) hi
                    have hb2 : 2 ^ i ≤ 2 ^ 14 := Nat.pow_le_pow_right (by decide) (by omega)
                    have hb3 : firstP l i + cntP l i ≤ 16384 := Nat.le_trans hb hb2
                    have HS := bx (hNx.set (i + 1) (.int .u32 (((firstP l i : Int) + (cntP l i : Int)) * 2)))
                    have HGR := bx (gb_set hgr (i + 1) (.int .u32 (((firstP l i : Int) + (cntP l i : Int)) * 2)))
                    clear hb hb2 hNx hgr
                    go_wp2
                    go_region
                    go_wp2
                    go_roundg (15 - (i + 1))
                    case rel =>
                      refine ⟨i + 1, rfl, by omega, by go_num, ?_, gb_drewN HGR.out 1⟩
                      refine Rw.ext (C := _) HS.out fun q _ => ?_
                      by_cases e : q = i + 1
                      · subst e
                        rw [if_pos (Nat.le_refl _), if_pos rfl]
                        unfold uV
                        rw [firstP]
                        go_num
                      · rw [if_neg e]
                        by_cases e2 : q ≤ i
                        · rw [if_pos e2, if_pos (by omega)]
                        · rw [if_neg e2, if_neg (by omega)]
                    case measure => omega
                · obtain rfl : i = 15 := by omega
                  go_wp2_with fail
                  have hNx2 : Rw wr (g + 1) 97 16 (fun q => uV (nextK l 0 q)) := hNx.ext fun q hq => by
                    rw [if_pos (by omega)]
                    congr 1
                    unfold nextK
                    split
                    · rename_i e; subst e; rfl
                    · simp [symsP]
                  have hMs2 := hMs.grown hgr (fun e => by injection e; omega)
                  have hMw2 := hMw.grown hgr (fun e => by injection e; omega)
                  have hCd2 := hCd.grown hgr (fun e => by injection e; omega)
                  have hB2 := gb_low (B := w.heap.size) hgr (by omega) (by omega)
                  have hMs3 := hMs2.ext (G' := symG l 0) (fun x => by unfold symG; rw [symK_zero]; rfl)
                  have hMw3 := hMw2.ext (G' := wrdG l 0) (fun x => by unfold wrdG; rw [if_neg (by omega)])
                  have hB3 := hB4.trans hB2
                  have hMost : Bx (mostP (l.take 0) = 0) := bx rfl
                  clear hMs hMw hCd hCt hB4 hNx hgr hMs2 hMw2 hB2
                  obtain ⟨w5, rfl⟩ : ∃ w5 : World, w5 = wr := ⟨_, rfl⟩
                  go_loopg [104] j (fun κ kk wr => ∃ k : Nat, κ = j - k ∧ k ≤ j ∧ kk = .int .i64 (k : Int) ∧ Rw wr (g + 1) 97 16 (fun q => uV (nextK l k q)) ∧ MapT wordV wr Try.prog 99 ms k (symG l k) ∧
                    MapT iV wr Try.prog 3 (ms + 1) k (wrdG l k) ∧ Bk wr g 96 #[.map (some ms), .map (some (ms + 1)), .int .u8 (mostP (l.take k) : Int)] ∧ Below w.heap.size w wr)
                  case atStart => exact ⟨0, by omega, by omega, rfl, hNx2, hMs3, hMw3, hCd2, hB3⟩
                  case round =>
                    clear hNx2 hMs3 hMw3 hCd2 hB3
                    obtain ⟨k, hgk, hk, rfl, hNx, hMs, hMw, hCd, hB⟩ := hrel
                    by_cases hkj : k < j
                    · obtain ⟨ad, m, rfl, hadb, hm, hc⟩ := RL.atl hr (k := k) (by rw [HL.out]; exact hkj)
                      have hc' : wr.cell? (ad.add k) = some (.int .i64 (m : Int)) := by
                        rw [hB.cell (by rw [blk_add]; exact hadb)]; exact hc
                      have hm15 : m ≤ 15 := H15.out m (List.mem_of_getElem? hm.out)
                      clear hc
                      rcases Nat.eq_zero_or_pos m with rfl | hm0
                      · go_wp2
                        go_roundg (j - (k + 1))
                        case rel =>
                          refine ⟨k + 1, rfl, by omega, by go_num, hNx.ext fun q _ => ?_, (hMs.mono (Nat.le_succ _)).ext fun q => ?_, (hMw.mono (Nat.le_succ _)).ext fun q => wrdG_skip hm.out q, ?_, hB⟩
                          · congr 1
                            by_cases e : q = 0
                            · subst e; rfl
                            · exact nextK_other hm.out e
                          · unfold symG; rw [symK_skip hm.out]
                          · have := mostP_take hm.out
                            rw [this, Nat.max_zero]; exact hCd
                        case measure => omega
                      · have hnc : wr.cell? ⟨g + 1, m, none⟩ = some (.int .u32 (nextK l k m : Int)) := hNx.cell (by omega)
                        have hnf := hNx.frz m
                        have hnx : nextK l k m < 32768 := by
                          have h1 := word_fits (code_kraft HC.out) hm.out (by omega) hm15
                          have h2 : 2 ^ m ≤ 2 ^ 15 := Nat.pow_le_pow_right (by decide) hm15
                          unfold nextK
                          rw [if_neg (by omega)]
                          omega
                        obtain ⟨nx, hnxe⟩ : ∃ nx, nextK l k m = nx := ⟨_, rfl⟩
                        rw [hnxe] at hnc hnx
                        have HNX := bx hnxe
                        clear hnxe
                        obtain ⟨gw, hgw⟩ : ∃ gw, wr.heap.size = gw := ⟨_, rfl⟩
                        have hgwlt : g + 1 < gw := by have := hNx.lt; omega
                        obtain ⟨wA, hwA⟩ : ∃ wA, wr.alloc (.cells #[.int .u8 (m : Int), .int .u16 (nx : Int)] 99) = wA := ⟨_, rfl⟩
                        have hNxA : Rw wA (g + 1) 97 16 (fun q => uV (nextK l k q)) := by rw [← hwA]; exact hNx.alloc _
                        have hMsA : MapT wordV wA Try.prog 99 ms k (symG l k) := by rw [← hwA]; exact hMs.alloc _
                        have hMwA : MapT iV wA Try.prog 3 (ms + 1) k (wrdG l k) := by rw [← hwA]; exact hMw.alloc _
                        have hCdA : Bk wA g 96 #[.map (some ms), .map (some (ms + 1)), .int .u8 (mostP (l.take k) : Int)] := by rw [← hwA]; exact hCd.alloc _
                        have hBA : Below w.heap.size w wA := by rw [← hwA]; exact bl_alloc hB (Nat.le_refl _) _
                        have hWA : Bk wA gw 99 #[.int .u8 (m : Int), .int .u16 (nx : Int)] := by rw [← hwA]; exact Bk.newAt _ _ _ hgw
                        have hncA : wA.cell? ⟨g + 1, m, none⟩ = some (.int .u32 (nx : Int)) := by rw [hNxA.cell (by omega), HNX.out]; rfl
                        have hnfA := hNxA.frz m
                        have hw1A : wA.cell? ⟨gw, 0, none⟩ = some (.int .u8 (m : Int)) := (hWA.cell 0).trans rfl
                        have hw2A : wA.cell? ⟨gw, 1, none⟩ = some (.int .u16 (nx : Int)) := (hWA.cell 1).trans rfl
                        clear hNx hMs hMw hCd hB
                        have PI : PnI w ((wA.setCell ⟨g + 1, m, none⟩ (.int .u32 ((nx : Int) + 1))).drew) g gw ms (fun q => if q = m then .int .u32 ((nx : Int) + 1) else uV (nextK l k q)) (mostP (l.take k)) m nx :=
                          ⟨hNxA.set m _, hCdA.far (by show g ≠ g + 1; omega) _, hWA.far (by show gw ≠ g + 1; omega) _, below_drewN (hBA.setCell (p := ⟨g + 1, m, none⟩) (by show w.heap.size ≤ g + 1; omega) _) 1⟩
                        have P1 : MapT wordV ((wA.setCell ⟨g + 1, m, none⟩ (.int .u32 ((nx : Int) + 1))).drew) Try.prog 99 ms k (symG l k) := MapT.drew (hMsA.setCell (a := ⟨g + 1, m, none⟩) (by show ms ≠ g + 1; omega) _)
                        have P2 : MapT iV ((wA.setCell ⟨g + 1, m, none⟩ (.int .u32 ((nx : Int) + 1))).drew) Try.prog 3 (ms + 1) k (wrdG l k) := MapT.drew (hMwA.setCell (a := ⟨g + 1, m, none⟩) (by show ms + 1 ≠ g + 1; omega) _)
                        obtain ⟨kl, hkl⟩ := word_key (x := (m, nx)) (by show m < 256; omega) (by show nx < 65536; omega)
                        have hki : keyOf Try.prog 3 (iV (k : Int)) = some (.int .i64 (k : Int)) := Maps.keyOf_int_mk Try.underlying3 (Go.WalkArith.wf_i64 (by omega))
                        have hkm : k < maxLen := by unfold maxLen; omega
                        have hlo1 : w.heap.size ≤ ms + 1 := by omega
                        have hmsg : ms < g := by omega
                        have hggw : g < gw := by omega
                        have hne1 : some (ms + 1) ≠ some ms := fun e => by injection e; omega
                        have hne2 : some ms ≠ some (ms + 1) := fun e => by injection e; omega
                        have KL := bx hkl
                        have KI := bx hki
                        have PIx := bx PI
                        have P1x := bx P1
                        have P2x := bx P2
                        clear hNxA hMsA hMwA hCdA hBA hWA hkl hki PI P1 P2
                        go_upto_region 37 with (fail)
                        have PI := PIx.out
                        have P1 := P1x.out
                        have P2 := P2x.out
                        clear PIx P1x P2x hwA hgw hnc hncA hnfA hw1A hw2A hnf
                        generalize (wA.setCell ⟨g + 1, m, none⟩ (.int .u32 ((nx : Int) + 1))) = w6 at PI P1 P2 ⊢
                        obtain ⟨v1, s1, wa, r1, g1, O1⟩ := P1.entry wordK Try.underlying93 (zero_int _) hkm KL.out
                        obtain ⟨wb, r2, g2, M1⟩ := O1.store (t := 93) wordK word_inj (.int .i64 (k : Int))
                        have Pa := PI.grown g1 hlo hmsg hggw
                        have Pb := Pa.grown g2 hlo hmsg hggw
                        have P2b := (P2.grown g1 hne1).grown g2 hne1
                        obtain ⟨v2, s2, wc2, r3, g3, O2⟩ := P2b.entry (Maps.int_keyed Try.underlying3) Try.underlying94 (zero_word _) hkm KI.out
                        obtain ⟨wd, r4, g4, M2⟩ := O2.store (t := 94) (Maps.int_keyed Try.underlying3) iV_inj (wordV (m, nx))
                        have Pc := Pb.grown g3 hlo1 hgms hggw
                        have Pd := Pc.grown g4 hlo1 hgms hggw
                        have M1d := (M1.grown g3 hne2).grown g4 hne2
                        have hwv : wordV (m, nx) = .agg #[.int .u8 (m : Int), .int .u16 (nx : Int)] := rfl
                        have hiv : iV (k : Int) = .int .i64 (k : Int) := rfl
                        rw [hwv] at r1 r4
                        rw [hiv] at r3
                        have PDx := bx Pd
                        have M1x := bx M1d
                        have M2x := bx M2
                        have PIx := bx PI
                        have Pax := bx Pa
                        have Pbx := bx Pb
                        have Pcx := bx Pc
                        clear hwv hiv g1 g2 g3 g4 O1 O2 M1 M2 M1d P2b P1 P2 PI Pa Pb Pc Pd
                        go_region_held3 (fun w' => w'.cell? ⟨g, 0, none⟩ = some (.map (some ms)) ∧ w'.cell? ⟨g, 1, none⟩ = some (.map (some (ms + 1))) ∧ w'.cell? ⟨gw, 0, none⟩ = some (.int .u8 (m : Int)) ∧ w'.cell? ⟨gw, 1, none⟩ = some (.int .u16 (nx : Int)))
                          (first | exact PnI.held PIx.out | exact PnI.held Pax.out | exact PnI.held Pbx.out | exact PnI.held Pcx.out | exact PnI.held PDx.out) (fail)
                        have Pd := PDx.out
                        obtain ⟨hNxd, hCdd, hWd, hBd⟩ := Pd
                        have c0 : wd.cell? ⟨g, 2, none⟩ = some (.int .u8 (mostP (l.take k) : Int)) := (hCdd.cell 2).trans rfl
                        have f0 := hCdd.frz 2
                        have c1 : wd.cell? ⟨gw, 0, none⟩ = some (.int .u8 (m : Int)) := (hWd.cell 0).trans rfl
                        have HMO := bx (mostP_take hm.out)
                        have HXX := fun mo : Nat => bx (And.intro (hNxd.far (p := ⟨g, 2, none⟩) (by show g + 1 ≠ g; omega) (.int .u8 (mo : Int))) (And.intro (hCdd.set 2 (.int .u8 (mo : Int)))
                          (And.intro (hBd.setCell (p := ⟨g, 2, none⟩) (by show w.heap.size ≤ g; omega) (.int .u8 (mo : Int))) (And.intro (M1x.out.setCell (a := ⟨g, 2, none⟩) (by show ms ≠ g; omega) (.int .u8 (mo : Int))) (M2x.out.setCell (a := ⟨g, 2, none⟩) (by show ms + 1 ≠ g; omega) (.int .u8 (mo : Int)))))))
                        clear hNxd hCdd hWd hBd r1 r2 r3 r4
                        have fin : ∀ mo : Nat, mostP (l.take (k + 1)) = mo → Rw ((wd.setCell ⟨g, 2, none⟩ (.int .u8 (mo : Int))).drew) (g + 1) 97 16 (fun q => uV (nextK l (k + 1) q)) ∧ MapT wordV ((wd.setCell ⟨g, 2, none⟩ (.int .u8 (mo : Int))).drew) Try.prog 99 ms (k + 1) (symG l (k + 1)) ∧
                            MapT iV ((wd.setCell ⟨g, 2, none⟩ (.int .u8 (mo : Int))).drew) Try.prog 3 (ms + 1) (k + 1) (wrdG l (k + 1)) ∧ Bk ((wd.setCell ⟨g, 2, none⟩ (.int .u8 (mo : Int))).drew) g 96 #[.map (some ms), .map (some (ms + 1)), .int .u8 (mostP (l.take (k + 1)) : Int)] ∧ Below w.heap.size w ((wd.setCell ⟨g, 2, none⟩ (.int .u8 (mo : Int))).drew) := fun mo hmo => by
                          obtain ⟨q1, q2, q3, q4, q5⟩ := (HXX mo).out
                          refine ⟨q1.ext fun q hq => ?_, MapT.drew (q4.ext fun q => ?_), MapT.drew (q5.ext fun q => ?_), ?_, below_drewN q3 1⟩
                          · by_cases e : q = m
                            · subst e
                              rw [if_pos rfl, nextK_same hm.out (by omega), HNX.out]
                              unfold uV
                              go_num
                            · rw [if_neg e, nextK_other hm.out e]
                          · rw [← HNX.out]; exact symG_succ hm.out (by omega) q
                          · rw [← HNX.out]; exact wrdG_succ hm.out (by omega) q
                          · rw [hmo]
                            have : Bk (wd.setCell ⟨g, 2, none⟩ (.int .u8 (mo : Int))) g 96 #[.map (some ms), .map (some (ms + 1)), .int .u8 (mo : Int)] := by simpa using q2
                            exact this
                        rcases Nat.lt_or_ge (mostP (l.take k)) m with hlt | hge
                        · have FN := bx (fin m (by rw [HMO.out]; omega))
                          clear fin HXX
                          go_upto_region 38 with (fail)
                          go_region
                          go_wp2
                          go_roundg (j - (k + 1))
                          case rel => exact ⟨k + 1, rfl, by omega, by go_num, FN.out⟩
                          case measure => omega
                        · have FN := bx (fin (mostP (l.take k)) (by rw [HMO.out]; omega))
                          clear fin HXX
                          have hnl : ¬ mostP (l.take k) < m := by omega
                          go_upto_region 38 with (fail)
                          go_region
                          go_wp2
                          go_roundg (j - (k + 1))
                          case rel => exact ⟨k + 1, rfl, by omega, by go_num, FN.out⟩
                          case measure => omega
                    · obtain rfl : k = j := by omega
                      have HJK : Bx (l.take k = l) := bx (List.take_of_length_le (by rw [HL.out]; exact Nat.le_refl _))
                      have hkr := code_kraft HC.out
                      have hmost := mostP_le H15.out
                      rw [HJK.out] at hCd
                      have FC : Bx (PCd wr w.heap.size g l) := bx (by
                        rw [← HL.out] at hMs hMw
                        exact ⟨ms, ms + 1, _, _, hCd, hMs, hMw, ⟨hlo, by omega⟩, ⟨by omega, by omega⟩, hmost, hkr⟩)
                      have FB := bx hB
                      clear hNx hMs hMw hCd hB hkr hmost
                      go_wp2
                      go_ret2
                      exact pnew_yes HC.out rfl FC.out FB.out
end Go.Proofs.Ytbhljigppljjbaa
