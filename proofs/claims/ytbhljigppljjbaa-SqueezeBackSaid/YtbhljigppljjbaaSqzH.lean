/- Contract: squeeze.All. -/
import Derived.Test.YtbhljigppljjbaaSqzI
import Derived.Test.YtbhljigppljjbaaInfA
namespace Go.Proofs.Ytbhljigppljjbaa
open Go.RowKit

def AllSPost (b : List UInt8) (w : World) (e : Ending) (w' : World) : Prop :=
  Below w.heap.size w w' ∧ if b.length ≤ 32768 then ∃ v, e = .returned (.tuple #[v, .int .i64 0]) ∧ OwB w' w.heap.size 5 v (sqzP b) else e = .returned (.tuple #[.slice none 0 0, .int .i64 8])
set_option maxRecDepth 100000 in
set_option maxHeartbeats 6000000 in
theorem sall_any (A : Option Addr) (n c : Nat) (b : List UInt8) (w : World) (hn : b.length = n) (hz : n ≤ 1000000000) (hnc : n ≤ c) (hr : RB w w.heap.size A b) :
    Calls Try.prog 16 #[.slice A n c] w (AllSPost b w) := by
  by_cases hbig : n ≤ 32768
  · obtain ⟨cs, hcs, hcz, hr1⟩ := mk_row (P := Try.prog) 54 3 (.int .i64 0) 8 Try.underlying54 info_int rfl 288 (by omega) (by omega)
    obtain ⟨ds, hds, hdz, hr2⟩ := mk_row (P := Try.prog) 54 3 (.int .i64 0) 8 Try.underlying54 info_int rfl 32 (by omega) (by omega)
    have hm1 : ∀ w : World, (Instr.makeSlice 54 (.int .i64 288) (.int .i64 288)).run Try.prog w = .ok (.slice (some ⟨w.heap.size, 0, none⟩) 288 288) (w.alloc (.cells cs 3)) := hr1
    have hm2 : ∀ w : World, (Instr.makeSlice 54 (.int .i64 32) (.int .i64 32)).run Try.prog w = .ok (.slice (some ⟨w.heap.size, 0, none⟩) 32 32) (w.alloc (.cells ds 3)) := hr2
    clear hr1 hr2
    have HCS := bx hcs
    have HDS := bx hds
    have HCZ := bx hcz
    have HDZ := bx hdz
    have HL := bx hn
    clear hcs hds hcz hdz hn
    go_enter Try.func16, Try.ntmps16
    go_upto_region 3 with (fail)
    go_cut [4, 5, 19, 20] (fun v4 v5 v19 v20 wx => ∃ gl gd, v4 = .slice (some ⟨gl, 0, none⟩) 288 288 ∧ v5 = .slice (some ⟨gd, 0, none⟩) 32 32 ∧ v19 = v4 ∧ v20 = v5 ∧ gl ≠ gd ∧ w.heap.size ≤ gl ∧ w.heap.size ≤ gd ∧ Rw wx gl 3 288 (fun _ => nV 0) ∧ Rw wx gd 3 32 (fun _ => nV 0) ∧ Below w.heap.size w wx)
    case first =>
      -- DEV{
      go_region
      · have K : Bx (w.heap.size ≠ (w.heap.size + 1) ∧ w.heap.size ≤ w.heap.size ∧ w.heap.size ≤ (w.heap.size + 1) ∧ Rw (((w.alloc (.cells cs 3)).alloc (.cells ds 3)).drew) w.heap.size 3 288 (fun _ => nV 0) ∧ Rw (((w.alloc (.cells cs 3)).alloc (.cells ds 3)).drew) (w.heap.size + 1) 3 32 (fun _ => nV 0) ∧ Below w.heap.size w (((w.alloc (.cells cs 3)).alloc (.cells ds 3)).drew)) := bx ⟨by omega, by omega, by omega, Rw.of ((Bk.new w 3 cs).alloc _) HCS.out (fun i hi => HCZ.out i hi), Rw.of (Bk.newAt (w.alloc _) 3 ds (by simp)) HDS.out (fun i hi => HDZ.out i hi), below_drewN (bl_alloc (bl_alloc (Below.refl w.heap.size w) (Nat.le_refl _) _) (Nat.le_refl _) _) 1⟩
        go_wp2
        go_meet
        case rel => exact ⟨_, _, rfl, rfl, rfl, rfl, K.out⟩
      · have K : Bx ((w.heap.size + 1) ≠ w.heap.size ∧ w.heap.size ≤ (w.heap.size + 1) ∧ w.heap.size ≤ w.heap.size ∧ Rw (((w.alloc (.cells ds 3)).alloc (.cells cs 3)).drew) (w.heap.size + 1) 3 288 (fun _ => nV 0) ∧ Rw (((w.alloc (.cells ds 3)).alloc (.cells cs 3)).drew) w.heap.size 3 32 (fun _ => nV 0) ∧ Below w.heap.size w (((w.alloc (.cells ds 3)).alloc (.cells cs 3)).drew)) := bx ⟨by omega, by omega, by omega, Rw.of (Bk.newAt (w.alloc _) 3 cs (by simp)) HCS.out (fun i hi => HCZ.out i hi), Rw.of ((Bk.new w 3 ds).alloc _) HDS.out (fun i hi => HDZ.out i hi), below_drewN (bl_alloc (bl_alloc (Below.refl w.heap.size w) (Nat.le_refl _) _) (Nat.le_refl _) _) 1⟩
        go_wp2
        go_meet
        case rel => exact ⟨_, _, rfl, rfl, rfl, rfl, K.out⟩
      -- DEV}
    case rest =>
      clear hm1 hm2 HCS HDS HCZ HDZ
      obtain ⟨gl, gd, rfl, rfl, rfl, rfl, hne, hlo1, hlo2, hL0, hD0, hB0⟩ := hcut
      go_wp2_with fail
      go_loopg [6, 23] 288 (fun κ _ jj wr => ∃ j : Nat, κ = 288 - j ∧ j ≤ 288 ∧ jj = .int .i64 (j : Int) ∧ Rw wr gl 3 288 (fun i => if i < j then nV (litV i) else nV 0) ∧ Rw wr gd 3 32 (fun _ => nV 0) ∧ Below w.heap.size w wr)
      case atStart => exact ⟨0, by omega, by omega, rfl, hL0.ext fun i _ => by rw [if_neg (by omega)], hD0, hB0⟩
      case round =>
        clear hL0 hD0 hB0
        obtain ⟨j, hgk, hj, rfl, hL, hD, hB⟩ := hrel
        by_cases hjn : j < 288
        · have hc0 : wr.cell? ⟨gl, j, none⟩ = some (.int .i64 0) := by rw [hL.cell hjn, if_neg (by omega)]; rfl
          have hf0 := hL.frz j
          -- DEV{
          have key : ∀ v : Nat, litV j = v → Rw (wr.setCell ⟨gl, j, none⟩ (.int .i64 (v : Int))) gl 3 288 (fun i => if i < j + 1 then nV (litV i) else nV 0) ∧ Rw (wr.setCell ⟨gl, j, none⟩ (.int .i64 (v : Int))) gd 3 32 (fun _ => nV 0) ∧ Below w.heap.size w (wr.setCell ⟨gl, j, none⟩ (.int .i64 (v : Int))) := fun v hv => by
            refine ⟨(hL.set j _).ext fun i _ => ?_, hD.far (by exact hne.symm) _, hB.setCell (by exact hlo1) _⟩
            by_cases e : i = j
            · subst e; rw [if_pos (by omega), if_pos rfl, hv]; rfl
            · rw [if_neg e]
              by_cases e2 : i < j
              · rw [if_pos (by omega), if_pos e2]
              · rw [if_neg (by omega), if_neg e2]
          have key2 : ∀ v : Nat, litV j = v → Rw ((wr.setCell ⟨gl, j, none⟩ (.int .i64 8)).setCell ⟨gl, j, none⟩ (.int .i64 (v : Int))) gl 3 288 (fun i => if i < j + 1 then nV (litV i) else nV 0) ∧ Rw ((wr.setCell ⟨gl, j, none⟩ (.int .i64 8)).setCell ⟨gl, j, none⟩ (.int .i64 (v : Int))) gd 3 32 (fun _ => nV 0) ∧ Below w.heap.size w ((wr.setCell ⟨gl, j, none⟩ (.int .i64 8)).setCell ⟨gl, j, none⟩ (.int .i64 (v : Int))) := fun v hv => by
            refine ⟨((hL.set j _).set j _).ext fun i _ => ?_, (hD.far (by exact hne.symm) _).far (by exact hne.symm) _, (hB.setCell (by exact hlo1) _).setCell (by exact hlo1) _⟩
            by_cases e : i = j
            · subst e; rw [if_pos (by omega), if_pos rfl, hv]; rfl
            · rw [if_neg e, if_neg e]
              by_cases e2 : i < j
              · rw [if_pos (by omega), if_pos e2]
              · rw [if_neg (by omega), if_neg e2]
          clear hL hD hB
          by_cases h1 : j < 144
          · have K := bx (key 8 (by unfold litV; rw [if_pos h1]))
            clear key key2
            go_wp2
            go_roundg (288 - (j + 1))
            case rel => exact ⟨j + 1, rfl, by omega, by go_num, K.out⟩
            case measure => omega
          · by_cases h2 : j < 256
            · have K := bx (key2 9 (by unfold litV; rw [if_neg h1, if_pos h2]))
              clear key key2
              go_wp2
              go_roundg (288 - (j + 1))
              case rel => exact ⟨j + 1, rfl, by omega, by go_num, K.out⟩
              case measure => omega
            · by_cases h3 : j < 280
              · have K := bx (key2 7 (by unfold litV; rw [if_neg h1, if_neg h2, if_pos h3]))
                clear key key2
                go_wp2
                go_roundg (288 - (j + 1))
                case rel => exact ⟨j + 1, rfl, by omega, by go_num, K.out⟩
                case measure => omega
              · have K := bx (key 8 (by unfold litV; rw [if_neg h1, if_neg h2, if_neg h3]))
                clear key key2
                go_wp2
                go_roundg (288 - (j + 1))
                case rel => exact ⟨j + 1, rfl, by omega, by go_num, K.out⟩
                case measure => omega
          -- DEV}
        · obtain rfl : j = 288 := by omega
          go_wp2_with fail
          obtain ⟨wo, rfl⟩ : ∃ wo : World, wo = wr := ⟨_, rfl⟩
          go_loopg [7, 50] 32 (fun κ _ jj wr => ∃ j : Nat, κ = 32 - j ∧ j ≤ 32 ∧ jj = .int .i64 (j : Int) ∧ Rw wr gl 3 288 (fun i => if i < 288 then nV (litV i) else nV 0) ∧ Rw wr gd 3 32 (fun i => if i < j then nV 5 else nV 0) ∧ Below w.heap.size w wr)
          case atStart => exact ⟨0, by omega, by omega, rfl, hL, hD.ext fun i _ => by rw [if_neg (by omega)], hB⟩
          case round =>
            clear hL hD hB
            obtain ⟨k, hgk, hk, rfl, hL, hD, hB⟩ := hrel
            by_cases hkn : k < 32
            · have hc0 : wr.cell? ⟨gd, k, none⟩ = some (.int .i64 0) := by rw [hD.cell hkn, if_neg (by omega)]; rfl
              -- DEV{
              have hf0 := hD.frz k
              have K : Bx (Rw (wr.setCell ⟨gd, k, none⟩ (.int .i64 5)) gl 3 288 (fun i => if i < 288 then nV (litV i) else nV 0) ∧ Rw (wr.setCell ⟨gd, k, none⟩ (.int .i64 5)) gd 3 32 (fun i => if i < k + 1 then nV 5 else nV 0) ∧ Below w.heap.size w (wr.setCell ⟨gd, k, none⟩ (.int .i64 5))) := bx (by
                refine ⟨hL.far (by exact hne) _, (hD.set k _).ext fun i _ => ?_, hB.setCell (by exact hlo2) _⟩
                by_cases e : i = k
                · subst e; rw [if_pos (by omega), if_pos rfl]; rfl
                · rw [if_neg e]
                  by_cases e2 : i < k
                  · rw [if_pos (by omega), if_pos e2]
                  · rw [if_neg (by omega), if_neg e2])
              clear hL hD hB
              go_wp2
              go_roundg (32 - (k + 1))
              case rel => exact ⟨k + 1, rfl, by omega, by go_num, K.out⟩
              case measure => omega
              -- DEV}
            · obtain rfl : k = 32 := by omega
              have R1 : RN wr wr.heap.size (some ⟨gl, 0, none⟩) fixLit := RL.more (Rw.read (l := fixLit) (by rw [fixLit_len]; exact hL) (fun i x hx => by
                have hi : i < 288 := by
                  rcases Nat.lt_or_ge i 288 with h | h
                  · exact h
                  · rw [List.getElem?_eq_none (by rw [fixLit_len]; exact h)] at hx; cases hx
                rw [fixLit_all i hi] at hx
                injection hx with hx
                rw [if_pos hi, hx])) (by have := hL.lt; omega)
              have R2 : RN wr wr.heap.size (some ⟨gd, 0, none⟩) fixDist := RL.more (Rw.read (l := fixDist) (by unfold fixDist; rw [List.length_replicate]; exact hD) (fun i x hx => by
                unfold fixDist at hx
                have hi : i < 32 := by
                  rcases Nat.lt_or_ge i 32 with h | h
                  · exact h
                  · rw [List.getElem?_eq_none (by simpa using h)] at hx; cases hx
                rw [List.getElem?_replicate, if_pos hi] at hx
                injection hx with hx
                rw [if_pos hi, hx])) (by have := hD.lt; omega)
              have hgz1 := hL.lt
              have hgz2 := hD.lt
              have hr0 : RB wr wr.heap.size A b := (RL.below hr hB (Nat.le_refl _)).more hB.size
              clear hL hD
              obtain ⟨g, hg⟩ : ∃ g, wr.heap.size = g := ⟨_, rfl⟩
              have hWg : Bk (wr.alloc (.cells #[.slice none 0 0, .int .i64 0, .pointer none, .pointer none] 71)) g 71 #[.slice none 0 0, .int .i64 0, .pointer none, .pointer none] := Bk.newAt _ _ _ hg
              go_wp2_with fail
              have hsz1 : (wr.alloc (.cells #[.slice none 0 0, .int .i64 0, .pointer none, .pointer none] 71)).heap.size = g + 1 := by simp [hg]
              have hBA := bl_alloc hB (Nat.le_refl _) (.cells #[.slice none 0 0, .int .i64 0, .pointer none, .pointer none] 71)
              have R1A := (R1.alloc (Nat.le_refl _) (.cells #[.slice none 0 0, .int .i64 0, .pointer none, .pointer none] 71)).more (B' := g + 1) (by omega)
              have R2A := (R2.alloc (Nat.le_refl _) (.cells #[.slice none 0 0, .int .i64 0, .pointer none, .pointer none] 71)).more (B' := g) (by omega)
              clear R1 R2 hr0 hB
              have hwg : w.heap.size ≤ g := by rw [← hg]; omega
              clear hg
              generalize wr.alloc (.cells #[.slice none 0 0, .int .i64 0, .pointer none, .pointer none] 71) = wA at hWg hsz1 hBA R1A R2A ⊢
              refine (pnew_any (some ⟨gl, 0, none⟩) 288 288 fixLit false _ fixLit_len (by omega) (by decide +kernel) (R1A.more (by omega))).mono ?_
              rintro e w1 ⟨hb1, hp1⟩
              rw [if_pos code_lit] at hp1
              obtain ⟨g1, rfl, hC1⟩ := hp1
              rw [hsz1] at hb1 hC1
              have hW1 := hWg.below hb1 (by omega)
              have f2 := hW1.frz 2
              have c2 : w1.cell? ⟨g, 2, none⟩ = some (.pointer none) := (hW1.cell 2).trans rfl
              have hB1 := hBA.trans (hb1.mono (by omega))
              have R21 := R2A.below hb1 (by omega)
              have hg1 := hC1.lt
              clear hWg hBA R1A R2A hb1
              go_wp2_with fail
              have hW2 : Bk (w1.setCell ⟨g, 2, none⟩ (.pointer (some ⟨g1, 0, none⟩))) g 71 #[.slice none 0 0, .int .i64 0, .pointer (some ⟨g1, 0, none⟩), .pointer none] := by simpa using hW1.set 2 (.pointer (some ⟨g1, 0, none⟩))
              have hC2 : PCd (w1.setCell ⟨g, 2, none⟩ (.pointer (some ⟨g1, 0, none⟩))) (g + 1) g1 fixLit := hC1.keep (fun i h1 h2 => Below.heap_setCell w1 ⟨g, 2, none⟩ _ i (by show i ≠ g; omega))
              have hB2 := hB1.setCell (p := ⟨g, 2, none⟩) (by exact hwg) (.pointer (some ⟨g1, 0, none⟩))
              have R22 : RN (w1.setCell ⟨g, 2, none⟩ (.pointer (some ⟨g1, 0, none⟩))) g (some ⟨gd, 0, none⟩) fixDist := RL.setCell R21 (Nat.le_refl _) _
              have hr2 : RB (w1.setCell ⟨g, 2, none⟩ (.pointer (some ⟨g1, 0, none⟩))) w.heap.size A b := RL.below hr hB2 (Nat.le_refl _)
              clear hW1 hC1 hB1 R21 f2 c2
              have hgs : g1 < (w1.setCell ⟨g, 2, none⟩ (.pointer (some ⟨g1, 0, none⟩))).heap.size := hC2.lt.2
              generalize w1.setCell ⟨g, 2, none⟩ (.pointer (some ⟨g1, 0, none⟩)) = w2 at hW2 hC2 hB2 R22 hr2 hgs ⊢
              refine (pnew_any (some ⟨gd, 0, none⟩) 32 32 fixDist false _ (by rw [dst_n]) (by omega) (by decide +kernel) (R22.more (by omega))).mono ?_
              rintro e w3 ⟨hb3, hp3⟩
              rw [if_pos code_dst0] at hp3
              obtain ⟨g2, rfl, hC3⟩ := hp3
              obtain ⟨lo2, hlo2⟩ : ∃ lo2, w2.heap.size = lo2 := ⟨_, rfl⟩
              rw [hlo2] at hb3 hC3 hgs
              have hW3 := hW2.below hb3 (by omega)
              have f3 := hW3.frz 3
              have c3 : w3.cell? ⟨g, 3, none⟩ = some (.pointer none) := (hW3.cell 3).trans rfl
              have hB3 := hB2.trans (hb3.mono (by omega))
              have hC23 := hC2.below hb3 hgs
              have hg2 := hC3.lt
              clear hW2 hC2 hB2 R22 hr2 hb3
              go_wp2_with fail
              have hW4 : Bk (w3.setCell ⟨g, 3, none⟩ (.pointer (some ⟨g2, 0, none⟩))) g 71 #[.slice none 0 0, .int .i64 0, .pointer (some ⟨g1, 0, none⟩), .pointer (some ⟨g2, 0, none⟩)] := by simpa using hW3.set 3 (.pointer (some ⟨g2, 0, none⟩))
              have hC4 : PCd (w3.setCell ⟨g, 3, none⟩ (.pointer (some ⟨g2, 0, none⟩))) (g + 1) g1 fixLit := hC23.keep (fun i h1 h2 => Below.heap_setCell w3 ⟨g, 3, none⟩ _ i (by show i ≠ g; omega))
              have hD4 : PCd (w3.setCell ⟨g, 3, none⟩ (.pointer (some ⟨g2, 0, none⟩))) lo2 g2 fixDist := hC3.keep (fun i h1 h2 => Below.heap_setCell w3 ⟨g, 3, none⟩ _ i (by show i ≠ g; omega))
              have hB4 := hB3.setCell (p := ⟨g, 3, none⟩) (by exact hwg) (.pointer (some ⟨g2, 0, none⟩))
              have hs4 : g2 < (w3.setCell ⟨g, 3, none⟩ (.pointer (some ⟨g2, 0, none⟩))).heap.size := hD4.lt.2
              clear hW3 hC23 hC3 hB3 f3 c3
              generalize w3.setCell ⟨g, 3, none⟩ (.pointer (some ⟨g2, 0, none⟩)) = w4 at hW4 hC4 hD4 hB4 hs4 ⊢
              have hWS := WrS.start (Av := fun k => k < w4.heap.size ∧ k ≠ g) hW4 (fun h => h.2 rfl) (fun k h => h.1)
              refine (wput_any _ g _ _ (0, 0) 3 3 w4 hWS (by omega) (by omega) (by show 0 + 3 ≤ _; omega)).mono ?_
              rintro e w5 ⟨rfl, hW5, hK5⟩
              have hC5 := hC4.kp hK5 (fun k h1 h2 => ⟨by omega, by omega⟩)
              have hD5 := hD4.kp hK5 (fun k h1 h2 => ⟨by omega, by omega⟩)
              have hS5 : putN (0, 0) 3 3 = startP := by decide
              rw [hS5] at hW5
              have hB5 : Below w.heap.size w w5 := hB4.trans ⟨hK5.os, hK5.tape, hK5.output, hK5.size, fun k hk => hK5.same k ⟨by have := hB4.size; omega, by omega⟩⟩
              obtain ⟨mb, hmb⟩ : ∃ mb, w5.heap.size = mb := ⟨_, rfl⟩
              obtain ⟨Av, hAv⟩ : ∃ Av : Nat → Prop, (fun k => (k < w4.heap.size ∧ k ≠ g) ∨ k = w5.heap.size) = Av := ⟨_, rfl⟩
              have h45 := hK5.size
              have hSS : SqS w (w5.alloc (.map #[] 0)) b Av g mb g1 g2 (g + 1) lo2 startP 0 := by
                subst hAv
                refine ⟨hW5.wider _, hC5.below (bl_alloc (Below.refl w5.heap.size w5) (Nat.le_refl _) _) (by omega), hD5.below (bl_alloc (Below.refl w5.heap.size w5) (Nat.le_refl _) _) (by omega), fun k h1 h2 => .inl ⟨by omega, by omega⟩, fun k h1 h2 => .inl ⟨by omega, by omega⟩, .inr hmb.symm, ⟨0, Nat.le_refl _, ?_⟩, by rw [← hmb]; exact hB5.size, fun k hk => .inl ⟨by have := hB4.size; omega, by omega⟩, bl_alloc hB5 (Nat.le_refl _) _⟩
                exact (MapT.madeAt w5 _ _ hmb).ext (fun x => rfl)
              have hl1 : g1 < mb := by omega
              have hl2 : g2 < mb := by omega
              clear hW4 hC4 hD4 hB4 hWS hW5 hK5 hC5 hD5 hS5 hB5 hAv
              have hmm := @run_makeMap Try.prog
              go_wp2_with fail
              clear hmm hmb h45 hs4 hgs hg1 hg2 hlo2
              generalize w5.alloc (.map #[] 0) = w6 at hSS ⊢
              have HL0 := HL.out
              obtain ⟨R, hR⟩ : ∃ R, putAll startP (toksB b) = R := ⟨_, rfl⟩
              have HR0 : Bx (R = putAll startP (toksF b (n - 0) 0)) := bx (by rw [← hR, toksB, HL0]; rfl)
              have HRR : Bx (sqzP b = bytesV (endBits R).1 (((endBits R).2 + 7) / 8)) := bx (by unfold sqzP packP allBits; rw [hR])
              clear hR HL0
              go_loopg [10] n (fun κ v10 wr => ∃ (i : Nat) (S : Pt), κ = n - i ∧ i ≤ n ∧ v10 = .int .i64 (i : Int) ∧ SqS w wr b Av g mb g1 g2 (g + 1) lo2 S i ∧ Bx (R = putAll S (toksF b (n - i) i)) ∧ Bx (S.2 ≤ 3 + 9 * i))
              case atStart => exact ⟨0, startP, by omega, by omega, rfl, hSS, HR0, bx (by decide)⟩
              case round =>
                clear hSS HR0
                obtain ⟨i, S, hgk2, hi, rfl, hSS, HRi, HSi⟩ := hrel
                have hrr : RB wr wr.heap.size A b := (RL.below hr hSS.bl (Nat.le_refl _)).more hSS.bl.size
                by_cases hin : i < n
                · have hni : ¬ n ≤ i := by omega
                  have hbn : i < b.length := by rw [HL.out]; exact hin
                  go_upto_if 88 with (fail)
                  go_cut [11, 12, 13, 14, 15] (fun v11 v12 _ _ _ wx => ∃ N F : Nat, v11 = .int .i64 (N : Int) ∧ v12 = .int .i64 (F : Int) ∧ SqS w wx b Av g mb g1 g2 (g + 1) lo2 S i ∧ Bx (pick b i N F = tokAt b i))
                  case first =>
                    -- DEV{
                    by_cases hk3 : i + 3 ≤ n
                    · have hnk : ¬ (n : Int) < (i : Int) + 3 := by omega
                      obtain ⟨ad, x0, hAd, hadb, hx0, hc0⟩ := RL.byte hrr (k := i) hbn
                      subst hAd
                      have hh1 : (0 : Int) ≤ (i : Int) + 3 := by omega
                      have hh2 : (i : Int) + 3 ≤ (c : Int) := by omega
                      have hh3 : (i : Int) ≤ (i : Int) + 3 := by omega
                      have hh4 : ¬ c = i := by omega
                      have hh5 : (i : Int) + 3 - (i : Int) = 3 := by omega
                      have hTA := run_tri (P := Try.prog) wr (ad.add i) 76 5 (c - i) Try.underlying76
                      obtain ⟨x, hx⟩ : ∃ x, ((triB b i).1.toNat : Int) = x := ⟨_, rfl⟩
                      obtain ⟨y, hy⟩ : ∃ y, ((triB b i).2.1.toNat : Int) = y := ⟨_, rfl⟩
                      obtain ⟨z, hzz⟩ : ∃ z, ((triB b i).2.2.toNat : Int) = z := ⟨_, rfl⟩
                      obtain ⟨k0, k1, k2⟩ := tri_three hrr (i := i) (by rw [HL.out]; exact hk3) hx hy hzz
                      clear hc0
                      have hSA := hSS.below (bl_alloc (Below.refl wr.heap.size wr) (Nat.le_refl _) (.cells #[.int .u8 x, .int .u8 y, .int .u8 z] 76))
                      obtain ⟨nm, hnm, hmp⟩ := hSA.mp
                      have HX : Bx (Value.agg #[.int .u8 x, .int .u8 y, .int .u8 z] = triV (triB b i)) := bx (by subst hx hy hzz; rfl)
                      obtain ⟨kl, hkl⟩ := tri_key (triB b i)
                      have HKY := bx hkl
                      have hk3b : i + 3 ≤ b.length := by rw [HL.out]; exact hk3
                      have hlg : lastG b i (triB b i) = (lastK b i (keyB b i)).map fun a : Nat => Value.int .i64 (a : Int) := by unfold lastG; rw [triB_list hk3b]; cases lastK b i (keyB b i) <;> rfl
                      cases hlk : lastK b i (keyB b i) with
                      | none =>
                        rw [hlk] at hlg
                        have HV : Bx ((lastG b i (triB b i)).getD (.int .i64 0) = .int .i64 0) := bx (by rw [hlg]; rfl)
                        have HS : Bx ((lastG b i (triB b i)).isSome = false) := bx (by rw [hlg]; rfl)
                        have HT := bx (tokAt_none hk3b hlk)
                        have HSA := bx hSA
                        clear hlg hlk hx hy hzz hkl hSA hSS
                        go_wp2_with (at_lookup; refine wpList_lookV_ok rfl (.tmp 97) (.tmp 98) _ rfl 3 triK Try.underlying75 (.int .i64 0) (zero_int _) rfl hmp (triB b i) _ HX.out HKY.out _ _ HV.out HS.out ?_)
                        go_meet
                        case rel => exact ⟨0, 0, rfl, rfl, HSA.out, HT⟩
                      | some a =>
                        obtain ⟨la1, la2, la3⟩ := lastK_some hlk
                        rw [hlk] at hlg
                        have HV : Bx ((lastG b i (triB b i)).getD (.int .i64 0) = .int .i64 (a : Int)) := bx (by rw [hlg]; rfl)
                        have HS : Bx ((lastG b i (triB b i)).isSome = true) := bx (by rw [hlg]; rfl)
                        have HT := bx (tokAt_some hk3b hlk)
                        have hfa : (i : Int) - (a : Int) ≤ 32768 := by omega
                        have hfs : (i : Int) - (a : Int) = ((i - a : Nat) : Int) := by omega
                        have HFS := bx hfs
                        have HSA := bx hSA
                        have HRR2 := bx (RL.alloc hrr (Nat.le_refl _) (.cells #[.int .u8 x, .int .u8 y, .int .u8 z] 76))
                        clear hlg hlk hx hy hzz hkl hSA hSS hfs la3
                        go_wp2_with (at_lookup; refine wpList_lookV_ok rfl (.tmp 97) (.tmp 98) _ rfl 3 triK Try.underlying75 (.int .i64 0) (zero_int _) rfl hmp (triB b i) _ HX.out HKY.out _ _ HV.out HS.out ?_)
                        have hSA := HSA.out
                        clear HSA HX HKY HV HS hmp hTA k0 k1 k2 HRR2 hx0 hh1 hh2 hh3 hh4 hh5 hadb hrr hnk
                        generalize wr.alloc (.cells #[.int .u8 x, .int .u8 y, .int .u8 z] 76) = wA2 at hSA ⊢
                        go_loopg [11] 258 (fun κ v11 wy => ∃ N : Nat, κ = 258 - N ∧ N ≤ 258 ∧ i + N ≤ n ∧ v11 = .int .i64 (N : Int) ∧ SqS w wy b Av g mb g1 g2 (g + 1) lo2 S i ∧ Bx (matF b i a (258 - N) N = matB b i a))
                        case atStart => exact ⟨0, by omega, by omega, by omega, rfl, hSA, bx rfl⟩
                        case round =>
                          clear hSA
                          obtain ⟨N, hgN, hN, hiN, rfl, hSA, HM⟩ := hrel
                          have hry : RB wr w.heap.size (some ad) b := RL.below hr hSA.bl (Nat.le_refl _)
                          have stop : ¬ (N < 258 ∧ i + N < b.length ∧ b.getD (i + N) 0 = b.getD (a + N) 0) → ∀ q, ∃ N' F : Nat, Value.int .i64 (N : Int) = .int .i64 (N' : Int) ∧ Value.int .i64 ((i : Int) - (a : Int)) = .int .i64 (F : Int) ∧ SqS w (wr.drewN q) b Av g mb g1 g2 (g + 1) lo2 S i ∧ Bx (pick b i N' F = tokAt b i) := fun hst q =>
                            ⟨N, i - a, rfl, by rw [HFS.out], hSA.drewN q, bx (by rw [← HT.out, ← HM.out, mat_stop hst])⟩
                          have STOP := bx stop
                          have HSA := bx hSA
                          have j0 : IntKind.i64.wrap ((i : Int) + (N : Int)) = (i : Int) + (N : Int) := IntWalk.i64_in _ (by omega)
                          have j1 : IntKind.i64.wrap ((a : Int) + (N : Int)) = (a : Int) + (N : Int) := IntWalk.i64_in _ (by omega)
                          by_cases h258 : N < 258
                          · have hNI : (N : Int) < 258 := by omega
                            by_cases hlt : i + N < n
                            · obtain ⟨ad1, x1, hA1, _, hx1, hc1⟩ := RL.byte hry (k := i + N) (by rw [HL.out]; exact hlt)
                              obtain ⟨ad2, x2, hA2, _, hx2, hc2⟩ := RL.byte hry (k := a + N) (by rw [HL.out]; omega)
                              injection hA1 with hA1
                              injection hA2 with hA2
                              subst hA1 hA2
                              have hlI : (i : Int) + (N : Int) < (n : Int) := by omega
                              have e0 : (0 : Int) ≤ (i : Int) + (N : Int) := by omega
                              have e1 : (0 : Int) ≤ (a : Int) + (N : Int) := by omega
                              have e2 : (a : Int) + (N : Int) < (n : Int) := by omega
                              have e3 : ((i : Int) + (N : Int)).toNat = i + N := by omega
                              have e4 : ((a : Int) + (N : Int)).toNat = a + N := by omega
                              have g1' : b.getD (i + N) 0 = x1 := by rw [List.getD_eq_getElem?_getD, hx1.out]; rfl
                              have g2' : b.getD (a + N) 0 = x2 := by rw [List.getD_eq_getElem?_getD, hx2.out]; rfl
                              by_cases hxx : x1 = x2
                              · have hbe : ((x1.toNat : Int) == (x2.toNat : Int)) = true := by rw [hxx]; exact beq_self_eq_true _
                                have HM2 : Bx (matF b i a (258 - (N + 1)) (N + 1) = matB b i a) := bx (by rw [← HM.out, mat_step h258 (by rw [HL.out]; exact hlt) (by rw [g1', g2', hxx])])
                                clear stop hSA hry g1' g2' hx1 hx2 STOP HM
                                go_upto_region 31 with (fail)
                                go_quiet (fail)
                                rename Nat => nq
                                have HSB := bx (HSA.out.drewN nq)
                                clear hc1 hc2
                                generalize wr.drewN nq = wz at HSB ⊢
                                go_wp2
                                go_roundg (258 - (N + 1))
                                case rel => exact ⟨N + 1, rfl, by omega, by omega, by go_num, HSB.out, HM2⟩
                                case measure => omega
                              · have hbe : ((x1.toNat : Int) == (x2.toNat : Int)) = false := by
                                  rw [beq_eq_false_iff_ne]
                                  exact fun e => hxx (UInt8.toNat_inj.1 (by omega))
                                have ST := bx (STOP.out (fun h => hxx (by rw [← g1', ← g2']; exact h.2.2)))
                                clear stop hSA hry g1' g2' hx1 hx2 STOP HM
                                go_upto_region 31 with (fail)
                                go_quiet (fail)
                                rename Nat => nq
                                clear hc1 hc2
                                have ST2 := bx (ST.out nq)
                                clear ST
                                generalize wr.drewN nq = wz at ST2 ⊢
                                go_wp2
                                go_meet
                                case rel => exact ST2.out
                            · have hlI : ¬ (i : Int) + (N : Int) < (n : Int) := by omega
                              have ST := bx (STOP.out (fun h => hlt (by rw [← HL.out]; exact h.2.1)))
                              clear stop hSA hry STOP HM
                              go_upto_region 31 with (fail)
                              go_quiet (fail)
                              rename Nat => nq
                              have ST2 := bx (ST.out nq)
                              clear ST
                              generalize wr.drewN nq = wz at ST2 ⊢
                              go_wp2
                              go_meet
                              case rel => exact ST2.out
                          · have hNI : ¬ (N : Int) < 258 := by omega
                            have ST := bx (STOP.out (fun h => h258 h.1))
                            clear stop hSA hry STOP HM
                            go_upto_region 31 with (fail)
                            go_quiet (fail)
                            rename Nat => nq
                            have ST2 := bx (ST.out nq)
                            clear ST
                            generalize wr.drewN nq = wz at ST2 ⊢
                            go_wp2
                            go_meet
                            case rel => exact ST2.out
                    · have hkn : (n : Int) < (i : Int) + 3 := by omega
                      go_wp2
                      go_meet
                      case rel => exact ⟨0, 0, rfl, rfl, hSS, bx (tokAt_late (by rw [HL.out]; exact hk3))⟩
                    -- DEV}
                  case rest =>
                    clear hSS hrr
                    obtain ⟨N, F, rfl, rfl, hSA, HT⟩ := hcut
                    obtain ⟨tg, _, tw1, tw2⟩ := tokAt_step (b := b) (i := i) (lim := n) hbn (by rw [HL.out]; exact Nat.le_refl _) (by rw [HL.out]; exact hbig)
                    have tb := tok_bits tg S
                    obtain ⟨T, hT⟩ : ∃ T, putTok S (tokAt b i) = T := ⟨_, rfl⟩
                    obtain ⟨W, hW⟩ : ∃ W, (tokAt b i).wide = W := ⟨_, rfl⟩
                    have HR2 := rest_step (S := S) (R := R) hbn (by rw [HL.out]; exact HRi.out)
                    rw [hT, hW, HL.out] at HR2
                    rw [hT, hW] at tb
                    rw [hW] at tw1 tw2
                    have HR2 := bx HR2
                    have htl : (b.take i).length = i := by rw [List.length_take]; omega
                    rw [← HT.out] at hT hW tg
                    have HS80 : S.2 + 80 ≤ 400000 := by have := HSi.out; omega
                    have HTi : Bx (T.2 ≤ 3 + 9 * (i + W)) := bx (by have := HSi.out; omega)
                    have tw1 : i + W ≤ n := by rw [← HL.out]; exact tw1
                    clear HRi HSi HT tb
                    go_step
                    go_step
                    go_cut [11] (fun v11 wx => v11 = .int .i64 (W : Int) ∧ SqS w wx b Av g mb g1 g2 (g + 1) lo2 T i)
                    case first =>
                      -- DEV{
                      obtain ⟨d2, d3⟩ := hSA.wt.cells
                      have LIT : (N < 3 ∨ (N = 3 ∧ 4096 < F)) → ∃ x, b[i]? = some x ∧ T = putSym fixLit S x.toNat ∧ W = 1 := fun h => by
                        rw [pick_lit h] at hT hW
                        refine ⟨b.getD i 0, by rw [List.getD_eq_getElem?_getD, List.getElem?_eq_getElem hbn]; rfl, hT.symm, hW.symm⟩
                      have CPY : ¬ (N < 3 ∨ (N = 3 ∧ 4096 < F)) → T = putDst (putLen S N) F ∧ W = N ∧ 3 ≤ N ∧ N ≤ 258 ∧ 1 ≤ F ∧ F ≤ 32768 := fun h => by
                        rw [pick_cpy h] at hT hW tg
                        obtain ⟨q1, q2, q3, q4, q5, q6⟩ := tg
                        exact ⟨hT.symm, hW.symm, q1, q2, q3, q5⟩
                      have LITx := bx LIT
                      have CPYx := bx CPY
                      clear LIT CPY tg hT hW
                      have lit : (N < 3 ∨ (N = 3 ∧ 4096 < F)) → ∃ (x : UInt8) (ad : Addr), A = some ad ∧ wc.cell? (ad.add i) = some (.int .u8 (x.toNat : Int)) ∧ T = putSym fixLit S x.toNat ∧ W = 1 ∧ x.toNat < 256 := fun h => by
                        obtain ⟨x, hx, h1, h2⟩ := LITx.out h
                        obtain ⟨ad, x', hA, _, hx', hc⟩ := RL.byte (RL.below hr hSA.bl (Nat.le_refl _)) (k := i) hbn
                        rw [hx] at hx'
                        have hxx := hx'.out
                        injection hxx with hxx
                        subst hxx
                        exact ⟨x, ad, hA, hc, h1, h2, x.toNat_lt⟩
                      have j0 : ∀ x : UInt8, IntKind.i64.wrap (x.toNat : Int) = (x.toNat : Int) := fun x => IntWalk.i64_in _ (by have := x.toNat_lt; omega)
                      have hiI : (i : Int) < (n : Int) := by omega
                      by_cases hN3 : N < 3
                      · have hNI : (N : Int) < 3 := by omega
                        obtain ⟨x, ad, hA, hc, hTT, rfl, hx256⟩ := lit (.inl hN3)
                        have HTT := bx hTT
                        subst hA
                        have HSA := bx hSA
                        clear lit LITx CPYx hTT hSA
                        go_upto_region 35 with (fail)
                        go_still_tail 10, (by kernel_rfl)
                        change wpList _ _ _ _ _ wc.drew
                        have hSB := HSA.out.drewN 1
                        have hlo := lit_ok (s := x.toNat) (by omega)
                        have HLO := bx hlo
                        clear hc d2 d3 HSA hlo
                        change SqS w wc.drew b Av g mb g1 g2 (g + 1) lo2 S i at hSB
                        generalize wc.drew = wB at hSB ⊢
                        go_wp2_with fail
                        refine (sput_any Av g g1 (g + 1) x.toNat _ _ S fixLit wB hSB.wt hSB.c1 hSB.a1 (by rw [lit_n]; omega) HLO.out.1 HLO.out.2.1 (by rw [lit_n]; omega) HLO.out.2.2 (by omega)).mono ?_
                        rintro e wC ⟨rfl, hWC, hKC⟩
                        rw [← HTT.out] at hWC
                        have hSC := hSB.kp hWC hKC
                        clear hWC hKC hSB
                        go_wp2_with fail
                        go_meet
                        case rel => exact ⟨rfl, hSC⟩
                      · have hNI : ¬ (N : Int) < 3 := by omega
                        by_cases hN4 : N = 3
                        · have hNb : ((N : Int) == 3) = true := by rw [hN4]; rfl
                          by_cases hF : 4096 < F
                          · have hFI : (4096 : Int) < (F : Int) := by omega
                            obtain ⟨x, ad, hA, hc, hTT, rfl, hx256⟩ := lit (.inr ⟨hN4, hF⟩)
                            have HTT := bx hTT
                            have HN4 := bx hN4
                            clear hN4
                            subst hA
                            have HSA := bx hSA
                            clear lit LITx CPYx hTT hSA
                            go_upto_region 35 with (fail)
                            go_still_tail 10, (by kernel_rfl)
                            change wpList _ _ _ _ _ wc.drew
                            have hSB := HSA.out.drewN 1
                            have hlo := lit_ok (s := x.toNat) (by omega)
                            have HLO := bx hlo
                            clear hc d2 d3 HSA hlo
                            change SqS w wc.drew b Av g mb g1 g2 (g + 1) lo2 S i at hSB
                            generalize wc.drew = wB at hSB ⊢
                            go_wp2_with fail
                            refine (sput_any Av g g1 (g + 1) x.toNat _ _ S fixLit wB hSB.wt hSB.c1 hSB.a1 (by rw [lit_n]; omega) HLO.out.1 HLO.out.2.1 (by rw [lit_n]; omega) HLO.out.2.2 (by omega)).mono ?_
                            rintro e wC ⟨rfl, hWC, hKC⟩
                            rw [← HTT.out] at hWC
                            have hSC := hSB.kp hWC hKC
                            clear hWC hKC hSB
                            go_wp2_with fail
                            go_meet
                            case rel => exact ⟨rfl, hSC⟩
                          · have hFI : ¬ (4096 : Int) < (F : Int) := by omega
                            obtain ⟨hTT, rfl, c1, c2, c3, c4⟩ := CPYx.out (by omega)
                            have HTT := bx hTT
                            have HN4 := bx hN4
                            clear lit LITx CPYx hTT d2 d3 hN4
                            go_wp2_with fail
                            refine (scopy_any Av g g1 (g + 1) g2 lo2 W F S wc hSA.wt hSA.c1 hSA.c2 hSA.a1 hSA.a2 c1 c2 c3 c4 HS80).mono ?_
                            rintro e wC ⟨rfl, hWC, hKC⟩
                            rw [← HTT.out] at hWC
                            have hSC := hSA.kp hWC hKC
                            clear hWC hKC hSA
                            go_wp2_with fail
                            go_meet
                            case rel => exact ⟨rfl, hSC⟩
                        · have hNb : ((N : Int) == 3) = false := by rw [beq_eq_false_iff_ne]; omega
                          obtain ⟨hTT, rfl, c1, c2, c3, c4⟩ := CPYx.out (by omega)
                          have HTT := bx hTT
                          clear lit LITx CPYx hTT d2 d3
                          go_wp2_with fail
                          refine (scopy_any Av g g1 (g + 1) g2 lo2 W F S wc hSA.wt hSA.c1 hSA.c2 hSA.a1 hSA.a2 c1 c2 c3 c4 HS80).mono ?_
                          rintro e wC ⟨rfl, hWC, hKC⟩
                          rw [← HTT.out] at hWC
                          have hSC := hSA.kp hWC hKC
                          clear hWC hKC hSA
                          go_wp2_with fail
                          go_meet
                          case rel => exact ⟨rfl, hSC⟩
                      -- DEV}
                    case rest =>
                      obtain ⟨rfl, hSC⟩ := hcut
                      clear hSA
                      have hHL := HL
                      go_wp2_with fail
                      go_loopg [10, 11] W (fun κ v10 v11 wr => ∃ I : Nat, κ = i + W - I ∧ i ≤ I ∧ I ≤ i + W ∧ v10 = .int .i64 (I : Int) ∧ v11 = .int .i64 ((i + W - I : Nat) : Int) ∧ SqS w wr b Av g mb g1 g2 (g + 1) lo2 T I)
                      case atStart => exact ⟨i, by omega, by omega, by omega, rfl, by go_num, hSC⟩
                      case round =>
                        clear hSC
                        obtain ⟨I, hgI, hI1, hI2, rfl, rfl, hSC⟩ := hrel
                        by_cases hIW : I < i + W
                        · have hpos : (0 : Int) < ((i + W - I : Nat) : Int) := by omega
                          by_cases hk3 : I + 3 ≤ n
                          · have hnk : ¬ (n : Int) < (I : Int) + 3 := by omega
                            have hrr : RB wr wr.heap.size A b := (RL.below hr hSC.bl (Nat.le_refl _)).more hSC.bl.size
                            obtain ⟨ad, hAd⟩ : ∃ ad, A = some ad := by
                              obtain ⟨ad, _, h, _⟩ := RL.byte hrr (k := I) (by rw [HL.out]; omega)
                              exact ⟨ad, h⟩
                            subst hAd
                            have hh1 : (0 : Int) ≤ (I : Int) + 3 := by omega
                            have hh2 : (I : Int) + 3 ≤ (c : Int) := by omega
                            have hh3 : (I : Int) ≤ (I : Int) + 3 := by omega
                            have hh4 : ¬ c = I := by omega
                            have hh5 : (I : Int) + 3 - (I : Int) = 3 := by omega
                            have hTA := run_tri (P := Try.prog) wr (ad.add I) 76 5 (c - I) Try.underlying76
                            obtain ⟨x, hx⟩ : ∃ x, ((triB b I).1.toNat : Int) = x := ⟨_, rfl⟩
                            obtain ⟨y, hy⟩ : ∃ y, ((triB b I).2.1.toNat : Int) = y := ⟨_, rfl⟩
                            obtain ⟨z, hzz⟩ : ∃ z, ((triB b I).2.2.toNat : Int) = z := ⟨_, rfl⟩
                            have hk3b : I + 3 ≤ b.length := by rw [HL.out]; exact hk3
                            obtain ⟨k0, k1, k2⟩ := tri_three hrr (i := I) hk3b hx hy hzz
                            obtain ⟨nm, hnm, hmp⟩ := hSC.mp
                            have HX : Bx (Value.agg #[.int .u8 x, .int .u8 y, .int .u8 z] = triV (triB b I)) := bx (by subst hx hy hzz; rfl)
                            obtain ⟨kl, hkl⟩ := tri_key (triB b I)
                            have HKY := bx hkl
                            have HSC := bx hSC
                            have HNM := bx hnm
                            have hnmx : nm < maxLen := by unfold maxLen; omega
                            clear hx hy hzz hkl hrr hSC hnm
                            go_wp2_with (at_mapUpdate; refine wpList_storeT rfl (.tmp 173) (.tmp 180) (.tmp 181) _ rfl 3 triK Try.underlying75 rfl hmp tri_inj hnmx (triB b I) (.int .i64 (I : Int)) _ HX.out rfl HKY.out ?_; intro w9 hm9 hg9)
                            have hSD := HSC.out.grown hg9 hl1 hl2 (j := I + 1) (by have := HNM.out; omega) (hm9.ext (fun q => lastG_succ hk3b q))
                            clear hm9 hg9 hmp k0 k1 k2 hTA HSC
                            go_roundg (i + W - (I + 1))
                            case rel => exact ⟨I + 1, rfl, by omega, by omega, by go_num, by go_num, hSD⟩
                            case measure => omega
                          · have hkn : (n : Int) < (I : Int) + 3 := by omega
                            have hSD := hSC.late (by rw [HL.out]; exact hk3)
                            clear hSC
                            go_wp2
                            go_roundg (i + W - (I + 1))
                            case rel => exact ⟨I + 1, rfl, by omega, by omega, by go_num, by go_num, hSD⟩
                            case measure => omega
                        · obtain rfl : I = i + W := by omega
                          have hneg : ¬ (0 : Int) < ((i + W - (i + W) : Nat) : Int) := by omega
                          have hzz0 : i + W - (i + W) = 0 := by omega
                          rw [hzz0] at hneg ⊢
                          obtain ⟨J, hJ⟩ : ∃ J, i + W = J := ⟨_, rfl⟩
                          rw [hJ] at hSC HR2 HTi tw1 ⊢
                          have hiJ : i < J := by omega
                          clear hJ hzz0 hneg
                          go_wp2
                          go_roundg (n - J)
                          case rel => exact ⟨J, T, rfl, by omega, rfl, hSC, HR2, HTi⟩
                          case measure => omega
                · obtain rfl : i = n := by omega
                  -- DEV{
                  have HR3 : Bx (R = S) := bx (by rw [HRi.out, toksF_done (by rw [HL.out]; exact Nat.le_refl _)]; rfl)
                  have HSZ := HSi.out
                  rw [← HR3.out] at HSZ hSS
                  obtain ⟨d2, d3⟩ := hSS.wt.cells
                  have hlo := lit_ok (s := 256) (by omega)
                  have HLO := bx hlo
                  have hni2 : ¬ i < i := by omega
                  clear hlo hrr HRi HSi
                  have HSS := bx hSS
                  clear hSS
                  go_wp2_with fail
                  have hSS := HSS.out
                  refine (sput_any Av g g1 (g + 1) 256 _ _ R fixLit wr hSS.wt hSS.c1 hSS.a1 (by rw [lit_n]; omega) HLO.out.1 HLO.out.2.1 (by rw [lit_n]; omega) HLO.out.2.2 (by omega)).mono ?_
                  rintro e w7 ⟨rfl, hW7, hK7⟩
                  have hS7 := hSS.kp hW7 hK7
                  clear hSS HSS d2 d3 hW7 hK7
                  go_wp2_with fail
                  refine (wbytes_any Av g _ _ (putSym fixLit R 256) w7 hS7.wt).mono ?_
                  rintro e w8 ⟨v8, rfl, hO8, hb8⟩
                  have hB8 := hS7.bl.trans (hb8.mono hS7.bl.size)
                  have hO9 := hO8.low hS7.bl.size
                  have HRR2 : Bx (sqzP b = bytesV (putSym fixLit R 256).1 (((putSym fixLit R 256).2 + 7) / 8)) := bx HRR.out
                  have HB8 := bx hB8
                  have HO9 := bx hO9
                  clear hS7 hO8 hb8 hB8 hO9
                  go_wp2_with fail
                  go_ret2
                  refine ⟨HB8.out, ?_⟩
                  rw [if_pos (by rw [HL.out]; exact hbig)]
                  exact ⟨_, rfl, by rw [HRR2.out]; exact HO9.out⟩
                  -- DEV}
  · have hbI : (32768 : Int) < (n : Int) := by omega
    have HL := bx hn
    clear hn
    go_enter Try.func16, Try.ntmps16
    go_wp2
    go_ret2
    refine ⟨Below.refl _ _, ?_⟩
    rw [if_neg (by rw [HL.out]; exact hbig)]
    rfl
end Go.Proofs.Ytbhljigppljjbaa
