/- Contracts: inflate.spread, inflate.fixed. -/
import Derived.Test.YtbhljigppljjbaaPfxC
import Derived.Deep.OwnRows
import Derived.Outline
namespace Go.Proofs.Ytbhljigppljjbaa
open Go.RowKit

theorem spread_fits (c per : Nat) (hc : c ≤ 40) (hp : 2 ≤ per) (hp9 : per ≤ 1000) : wrap64 (((per : Int) + (c : Int) % (per : Int)) * 2 ^ (c / per - 1)) = (((per + c % per) * 2 ^ (c / per - 1) : Nat) : Int) := by
  have e : ((per : Int) + (c : Int) % (per : Int)) * 2 ^ (c / per - 1) = (((per + c % per) * 2 ^ (c / per - 1) : Nat) : Int) := by simp
  rw [e]
  have h1 : c / per ≤ 20 := by
    have : c / per ≤ c / 2 := Nat.div_le_div_left hp (by omega)
    omega
  have h2 : 2 ^ (c / per - 1) ≤ 2 ^ 20 := Nat.pow_le_pow_right (by decide) (by omega)
  have h3 : c % per ≤ c := Nat.mod_le _ _
  have h4 : per + c % per ≤ per + 40 := by omega
  have h6 : (per + c % per) * 2 ^ (c / per - 1) ≤ 1040 * 2 ^ 20 := Nat.mul_le_mul (by omega) h2
  exact IntWalk.wrap64_in _ ⟨by omega, by omega⟩
theorem ret_i2 {a b c d : Int} (h1 : a = b) (h2 : c = d) : Ending.returned (.tuple #[.int .i64 a, .int .i64 c]) = .returned (.tuple #[.int .i64 b, .int .i64 d]) := by rw [h1, h2]
set_option maxHeartbeats 400000 in
theorem spread_any (a : Int) (c per : Nat) (w : World) (ha : a = (c : Int)) (hc : c ≤ 40) (hp : per = 2 ∨ per = 4) :
    Calls Try.prog 47 #[.int .i64 a, .int .i64 (per : Int)] w fun e w' => e = .returned (.tuple #[.int .i64 ((spreadP c per).1 : Int), .int .i64 ((spreadP c per).2 : Int)]) ∧ w = w' := by
  subst ha
  rcases hp with rfl | rfl
  · by_cases h : c < 4
    · have HS : Bx (spreadP c 2 = (c, 0)) := bx (by unfold spreadP; rw [if_pos (by omega)])
      go_enter Try.func47, Try.ntmps47
      go_wp2
      go_ret2
      rw [HS.out]
      exact ⟨rfl, rfl⟩
    · have HS : Bx (spreadP c 2 = ((2 + c % 2) * 2 ^ (c / 2 - 1), c / 2 - 1)) := bx (by unfold spreadP; rw [if_neg (by omega)])
      have HP : Bx (wrap64 ((2 + (c : Int) % 2) * 2 ^ (c / 2 - 1)) = (((2 + c % 2) * 2 ^ (c / 2 - 1) : Nat) : Int)) := bx (spread_fits c 2 hc (by omega) (by omega))
      go_enter Try.func47, Try.ntmps47
      go_wp2
      go_ret2
      rw [HS.out]
      exact ⟨ret_i2 HP.out (by omega), rfl⟩
  · by_cases h : c < 8
    · have HS : Bx (spreadP c 4 = (c, 0)) := bx (by unfold spreadP; rw [if_pos (by omega)])
      go_enter Try.func47, Try.ntmps47
      go_wp2
      go_ret2
      rw [HS.out]
      exact ⟨rfl, rfl⟩
    · have HS : Bx (spreadP c 4 = ((4 + c % 4) * 2 ^ (c / 4 - 1), c / 4 - 1)) := bx (by unfold spreadP; rw [if_neg (by omega)])
      have HP : Bx (wrap64 ((4 + (c : Int) % 4) * 2 ^ (c / 4 - 1)) = (((4 + c % 4) * 2 ^ (c / 4 - 1) : Nat) : Int)) := bx (spread_fits c 4 hc (by omega) (by omega))
      go_enter Try.func47, Try.ntmps47
      go_wp2
      go_ret2
      rw [HS.out]
      exact ⟨ret_i2 HP.out (by omega), rfl⟩
/-- A row of so many equal cells, made of the call's own. -/
theorem mk_row {P : Program} (t e : TypeId) (z : Value) (bytes : Nat) (ht : P.underlying t = some (.slice e)) (hinfo : (P.info? e).map (fun i => (i.zero, i.size, i.bytes)) = some (some z, 1, bytes)) (hz1 : z.cells = #[z])
    (n : Nat) (hbytes : bytes * n ≤ 281474976710656) (h63 : n ≤ 9223372036854775807) :
    ∃ cs : Array Value, cs.size = n ∧ (∀ i, i < n → cs[i]? = some z) ∧ ∀ w : World, (Instr.makeSlice t (.int .i64 (n : Int)) (.int .i64 (n : Int))).run P w = .ok (.slice (some ⟨w.heap.size, 0, none⟩) n n) (w.alloc (.cells cs e)) := by
  refine ⟨madeCells #[z] n, ?_, ?_, fun w => run_make_row' t e z bytes ht hinfo hz1 .i64 .i64 n hbytes h63 w⟩
  · have := congrArg List.length (toList_madeCells_one z n); simpa using this
  · intro i hi
    rw [← Array.getElem?_toList, toList_madeCells_one]; simp [hi]
theorem info_int : (Try.prog.info? 3).map (fun i => (i.zero, i.size, i.bytes)) = some (some (.int .i64 0), 1, 8) := by kernel_rfl
theorem Rw.read {w : World} {g : Nat} {t : TypeId} {α : Type} {f : α → Value} {l : List α} {C : Nat → Value} (h : Rw w g t l.length C) (hC : ∀ i x, l[i]? = some x → C i = f x) : RL f w (g + 1) (some ⟨g, 0, none⟩) l := fun _ =>
  ⟨_, rfl, Nat.lt_succ_self _, fun i u hu => by
    rw [Addr.add_lit, Nat.zero_add]
    rw [List.getElem?_map] at hu
    cases hx : l[i]? with
    | none => rw [hx] at hu; cases hu
    | some x =>
      rw [hx] at hu
      injection hu with hu
      rw [h.cell (by rcases Nat.lt_or_ge i l.length with h' | h'; exact h'; rw [List.getElem?_eq_none h'] at hx; cases hx), hC i x hx, hu]⟩
def litV (i : Nat) : Nat := if i < 144 then 8 else if i < 256 then 9 else if i < 280 then 7 else 8
theorem fixLit_all : ∀ i, i < 288 → fixLit[i]? = some (litV i) := by decide +kernel
theorem fixLit_len : fixLit.length = 288 := by decide +kernel
set_option maxRecDepth 100000 in
set_option maxHeartbeats 1000000 in
theorem fixed_any (w : World) : Calls Try.prog 35 #[] w fun e w' => ∃ A A' c c', e = .returned (.tuple #[.slice A 288 c, .slice A' 32 c']) ∧ RN w' w'.heap.size A fixLit ∧ RN w' w'.heap.size A' fixDist ∧ Below w.heap.size w w' := by
  obtain ⟨cs, hcs, hcz, hr1⟩ := mk_row (P := Try.prog) 54 3 (.int .i64 0) 8 Try.underlying54 info_int rfl 288 (by omega) (by omega)
  obtain ⟨ds, hds, hdz, hr2⟩ := mk_row (P := Try.prog) 54 3 (.int .i64 0) 8 Try.underlying54 info_int rfl 32 (by omega) (by omega)
  have hm1 : ∀ w : World, (Instr.makeSlice 54 (.int .i64 288) (.int .i64 288)).run Try.prog w = .ok (.slice (some ⟨w.heap.size, 0, none⟩) 288 288) (w.alloc (.cells cs 3)) := hr1
  have hm2 : ∀ w : World, (Instr.makeSlice 54 (.int .i64 32) (.int .i64 32)).run Try.prog w = .ok (.slice (some ⟨w.heap.size, 0, none⟩) 32 32) (w.alloc (.cells ds 3)) := hr2
  clear hr1 hr2
  have HCS := bx hcs
  have HDS := bx hds
  have HCZ := bx hcz
  have HDZ := bx hdz
  clear hcs hds hcz hdz
  go_enter Try.func35, Try.ntmps35
  go_wp2
  go_region
  · have hL0 : Rw (((w.alloc (.cells cs 3)).alloc (.cells ds 3)).drew) w.heap.size 3 288 (fun _ => nV 0) := Rw.of ((Bk.new w 3 cs).alloc _) HCS.out (fun i hi => HCZ.out i hi)
    have hD0 : Rw (((w.alloc (.cells cs 3)).alloc (.cells ds 3)).drew) (w.heap.size + 1) 3 32 (fun _ => nV 0) := Rw.of (Bk.newAt (w.alloc _) 3 ds (by simp)) HDS.out (fun i hi => HDZ.out i hi)
    have hB0 : Below w.heap.size w (((w.alloc (.cells cs 3)).alloc (.cells ds 3)).drew) := below_drewN (bl_alloc (bl_alloc (Below.refl w.heap.size w) (Nat.le_refl _) _) (Nat.le_refl _) _) 1
    obtain ⟨gl, hgl⟩ : ∃ gl, w.heap.size = gl := ⟨_, rfl⟩
    obtain ⟨gd, hgd⟩ : ∃ gd, (w.heap.size + 1) = gd := ⟨_, rfl⟩
    have hne : gl ≠ gd := by omega
    have hlo : w.heap.size ≤ gl ∧ w.heap.size ≤ gd := by omega
    have HGL := bx hgl
    have HGD := bx hgd
    have HL0 := bx hL0
    have HD0 := bx hD0
    have HB0 := bx hB0
    clear hgl hgd hL0 hD0 hB0
    go_wp2_with fail
    have hL0 := HL0.out
    have hD0 := HD0.out
    have hB0 := HB0.out
    rw [HGD.out] at hD0 ⊢
    rw [HGL.out] at hL0 ⊢
    clear HL0 HD0 HB0 HGL HGD
    generalize ((w.alloc (.cells cs 3)).alloc (.cells ds 3)).drew = w0 at hL0 hD0 hB0 ⊢
    go_loopg [8] 288 (fun κ jj wr => ∃ j : Nat, κ = 288 - j ∧ j ≤ 288 ∧ jj = .int .i64 (j : Int) ∧ Rw wr gl 3 288 (fun i => if i < j then nV (litV i) else nV 0) ∧ Rw wr gd 3 32 (fun _ => nV 0) ∧ Below w.heap.size w wr)
    case atStart => exact ⟨0, by omega, by omega, rfl, hL0.ext fun i _ => by rw [if_neg (by omega)], hD0, hB0⟩
    case round =>
      clear hL0 hD0 hB0
      obtain ⟨j, hgk, hj, rfl, hL, hD, hB⟩ := hrel
      by_cases hjn : j < 288
      · have hc0 : wr.cell? ⟨gl, j, none⟩ = some (.int .i64 0) := by rw [hL.cell hjn, if_neg (by omega)]; rfl
        have hf0 := hL.frz j
        have key : ∀ v : Nat, litV j = v → Rw (wr.setCell ⟨gl, j, none⟩ (.int .i64 (v : Int))) gl 3 288 (fun i => if i < j + 1 then nV (litV i) else nV 0) ∧ Rw (wr.setCell ⟨gl, j, none⟩ (.int .i64 (v : Int))) gd 3 32 (fun _ => nV 0) ∧ Below w.heap.size w (wr.setCell ⟨gl, j, none⟩ (.int .i64 (v : Int))) := fun v hv => by
          refine ⟨(hL.set j _).ext fun i _ => ?_, hD.far (by exact hne.symm) _, hB.setCell (by exact hlo.1) _⟩
          by_cases e : i = j
          · subst e; rw [if_pos (by omega), if_pos rfl, hv]; rfl
          · rw [if_neg e]
            by_cases e2 : i < j
            · rw [if_pos (by omega), if_pos e2]
            · rw [if_neg (by omega), if_neg e2]
        clear hL hD hB
        by_cases h1 : j < 144
        · have K := bx (key 8 (by unfold litV; rw [if_pos h1]))
          clear key
          go_wp2
          go_roundg (288 - (j + 1))
          case rel => exact ⟨j + 1, rfl, by omega, by go_num, K.out⟩
          case measure => omega
        · by_cases h2 : j < 256
          · have K := bx (key 9 (by unfold litV; rw [if_neg h1, if_pos h2]))
            clear key
            go_wp2
            go_roundg (288 - (j + 1))
            case rel => exact ⟨j + 1, rfl, by omega, by go_num, K.out⟩
            case measure => omega
          · by_cases h3 : j < 280
            · have K := bx (key 7 (by unfold litV; rw [if_neg h1, if_neg h2, if_pos h3]))
              clear key
              go_wp2
              go_roundg (288 - (j + 1))
              case rel => exact ⟨j + 1, rfl, by omega, by go_num, K.out⟩
              case measure => omega
            · have K := bx (key 8 (by unfold litV; rw [if_neg h1, if_neg h2, if_neg h3]))
              clear key
              go_wp2
              go_roundg (288 - (j + 1))
              case rel => exact ⟨j + 1, rfl, by omega, by go_num, K.out⟩
              case measure => omega
      · obtain rfl : j = 288 := by omega
        go_wp2_with fail
        obtain ⟨wo, rfl⟩ : ∃ wo : World, wo = wr := ⟨_, rfl⟩
        go_loopg [33] 32 (fun κ jj wr => ∃ j : Nat, κ = 32 - j ∧ j ≤ 32 ∧ jj = .int .i64 (j : Int) ∧ Rw wr gl 3 288 (fun i => if i < 288 then nV (litV i) else nV 0) ∧ Rw wr gd 3 32 (fun i => if i < j then nV 5 else nV 0) ∧ Below w.heap.size w wr)
        case atStart => exact ⟨0, by omega, by omega, rfl, hL, hD.ext fun i _ => by rw [if_neg (by omega)], hB⟩
        case round =>
          clear hL hD hB
          obtain ⟨k, hgk, hk, rfl, hL, hD, hB⟩ := hrel
          by_cases hkn : k < 32
          · have hc0 : wr.cell? ⟨gd, k, none⟩ = some (.int .i64 0) := by rw [hD.cell hkn, if_neg (by omega)]; rfl
            have hf0 := hD.frz k
            have K : Bx (Rw (wr.setCell ⟨gd, k, none⟩ (.int .i64 5)) gl 3 288 (fun i => if i < 288 then nV (litV i) else nV 0) ∧ Rw (wr.setCell ⟨gd, k, none⟩ (.int .i64 5)) gd 3 32 (fun i => if i < k + 1 then nV 5 else nV 0) ∧ Below w.heap.size w (wr.setCell ⟨gd, k, none⟩ (.int .i64 5))) := bx (by
              refine ⟨hL.far (by exact hne) _, (hD.set k _).ext fun i _ => ?_, hB.setCell (by exact hlo.2) _⟩
              by_cases e : i = k
              · subst e; rw [if_pos (by omega), if_pos rfl]; rfl
              · rw [if_neg e]
                by_cases e2 : i < k
                · rw [if_pos (by omega), if_pos e2]
                · rw [if_neg (by omega), if_neg e2])
            clear hL hD hB
            go_wp2
            go_roundg (32 - (k + 1))
            case rel => exact ⟨k + 1, rfl, by omega, by go_num, K.out⟩
            case measure => omega
          · obtain rfl : k = 32 := by omega
            have hgz1 := hL.lt
            have hgz2 := hD.lt
            have R1 : Bx (RN wr wr.heap.size (some ⟨gl, 0, none⟩) fixLit) := bx (RL.more (Rw.read (l := fixLit) (by rw [fixLit_len]; exact hL) (fun i x hx => by
              have hi : i < 288 := by
                rcases Nat.lt_or_ge i 288 with h | h
                · exact h
                · rw [List.getElem?_eq_none (by rw [fixLit_len]; exact h)] at hx; cases hx
              rw [fixLit_all i hi] at hx
              injection hx with hx
              rw [if_pos hi, hx])) (by omega))
            have R2 : Bx (RN wr wr.heap.size (some ⟨gd, 0, none⟩) fixDist) := bx (RL.more (Rw.read (l := fixDist) (by unfold fixDist; rw [List.length_replicate]; exact hD) (fun i x hx => by
              unfold fixDist at hx
              have hi : i < 32 := by
                rcases Nat.lt_or_ge i 32 with h | h
                · exact h
                · rw [List.getElem?_eq_none (by simpa using h)] at hx; cases hx
              rw [List.getElem?_replicate, if_pos hi] at hx
              injection hx with hx
              rw [if_pos hi, hx])) (by omega))
            have HB := bx hB
            clear hL hD hB
            go_wp2
            go_ret2
            exact ⟨_, _, _, _, rfl, R1.out, R2.out, HB.out⟩
  · have hL0 : Rw (((w.alloc (.cells ds 3)).alloc (.cells cs 3)).drew) (w.heap.size + 1) 3 288 (fun _ => nV 0) := Rw.of (Bk.newAt (w.alloc _) 3 cs (by simp)) HCS.out (fun i hi => HCZ.out i hi)
    have hD0 : Rw (((w.alloc (.cells ds 3)).alloc (.cells cs 3)).drew) w.heap.size 3 32 (fun _ => nV 0) := Rw.of ((Bk.new w 3 ds).alloc _) HDS.out (fun i hi => HDZ.out i hi)
    have hB0 : Below w.heap.size w (((w.alloc (.cells ds 3)).alloc (.cells cs 3)).drew) := below_drewN (bl_alloc (bl_alloc (Below.refl w.heap.size w) (Nat.le_refl _) _) (Nat.le_refl _) _) 1
    obtain ⟨gl, hgl⟩ : ∃ gl, (w.heap.size + 1) = gl := ⟨_, rfl⟩
    obtain ⟨gd, hgd⟩ : ∃ gd, w.heap.size = gd := ⟨_, rfl⟩
    have hne : gl ≠ gd := by omega
    have hlo : w.heap.size ≤ gl ∧ w.heap.size ≤ gd := by omega
    have HGL := bx hgl
    have HGD := bx hgd
    have HL0 := bx hL0
    have HD0 := bx hD0
    have HB0 := bx hB0
    clear hgl hgd hL0 hD0 hB0
    go_wp2_with fail
    have hL0 := HL0.out
    have hD0 := HD0.out
    have hB0 := HB0.out
    rw [HGL.out] at hL0 ⊢
    rw [HGD.out] at hD0 ⊢
    clear HL0 HD0 HB0 HGL HGD
    generalize ((w.alloc (.cells ds 3)).alloc (.cells cs 3)).drew = w0 at hL0 hD0 hB0 ⊢
    go_loopg [8] 288 (fun κ jj wr => ∃ j : Nat, κ = 288 - j ∧ j ≤ 288 ∧ jj = .int .i64 (j : Int) ∧ Rw wr gl 3 288 (fun i => if i < j then nV (litV i) else nV 0) ∧ Rw wr gd 3 32 (fun _ => nV 0) ∧ Below w.heap.size w wr)
    case atStart => exact ⟨0, by omega, by omega, rfl, hL0.ext fun i _ => by rw [if_neg (by omega)], hD0, hB0⟩
    case round =>
      clear hL0 hD0 hB0
      obtain ⟨j, hgk, hj, rfl, hL, hD, hB⟩ := hrel
      by_cases hjn : j < 288
      · have hc0 : wr.cell? ⟨gl, j, none⟩ = some (.int .i64 0) := by rw [hL.cell hjn, if_neg (by omega)]; rfl
        have hf0 := hL.frz j
        have key : ∀ v : Nat, litV j = v → Rw (wr.setCell ⟨gl, j, none⟩ (.int .i64 (v : Int))) gl 3 288 (fun i => if i < j + 1 then nV (litV i) else nV 0) ∧ Rw (wr.setCell ⟨gl, j, none⟩ (.int .i64 (v : Int))) gd 3 32 (fun _ => nV 0) ∧ Below w.heap.size w (wr.setCell ⟨gl, j, none⟩ (.int .i64 (v : Int))) := fun v hv => by
          refine ⟨(hL.set j _).ext fun i _ => ?_, hD.far (by exact hne.symm) _, hB.setCell (by exact hlo.1) _⟩
          by_cases e : i = j
          · subst e; rw [if_pos (by omega), if_pos rfl, hv]; rfl
          · rw [if_neg e]
            by_cases e2 : i < j
            · rw [if_pos (by omega), if_pos e2]
            · rw [if_neg (by omega), if_neg e2]
        clear hL hD hB
        by_cases h1 : j < 144
        · have K := bx (key 8 (by unfold litV; rw [if_pos h1]))
          clear key
          go_wp2
          go_roundg (288 - (j + 1))
          case rel => exact ⟨j + 1, rfl, by omega, by go_num, K.out⟩
          case measure => omega
        · by_cases h2 : j < 256
          · have K := bx (key 9 (by unfold litV; rw [if_neg h1, if_pos h2]))
            clear key
            go_wp2
            go_roundg (288 - (j + 1))
            case rel => exact ⟨j + 1, rfl, by omega, by go_num, K.out⟩
            case measure => omega
          · by_cases h3 : j < 280
            · have K := bx (key 7 (by unfold litV; rw [if_neg h1, if_neg h2, if_pos h3]))
              clear key
              go_wp2
              go_roundg (288 - (j + 1))
              case rel => exact ⟨j + 1, rfl, by omega, by go_num, K.out⟩
              case measure => omega
            · have K := bx (key 8 (by unfold litV; rw [if_neg h1, if_neg h2, if_neg h3]))
              clear key
              go_wp2
              go_roundg (288 - (j + 1))
              case rel => exact ⟨j + 1, rfl, by omega, by go_num, K.out⟩
              case measure => omega
      · obtain rfl : j = 288 := by omega
        go_wp2_with fail
        obtain ⟨wo, rfl⟩ : ∃ wo : World, wo = wr := ⟨_, rfl⟩
        go_loopg [33] 32 (fun κ jj wr => ∃ j : Nat, κ = 32 - j ∧ j ≤ 32 ∧ jj = .int .i64 (j : Int) ∧ Rw wr gl 3 288 (fun i => if i < 288 then nV (litV i) else nV 0) ∧ Rw wr gd 3 32 (fun i => if i < j then nV 5 else nV 0) ∧ Below w.heap.size w wr)
        case atStart => exact ⟨0, by omega, by omega, rfl, hL, hD.ext fun i _ => by rw [if_neg (by omega)], hB⟩
        case round =>
          clear hL hD hB
          obtain ⟨k, hgk, hk, rfl, hL, hD, hB⟩ := hrel
          by_cases hkn : k < 32
          · have hc0 : wr.cell? ⟨gd, k, none⟩ = some (.int .i64 0) := by rw [hD.cell hkn, if_neg (by omega)]; rfl
            have hf0 := hD.frz k
            have K : Bx (Rw (wr.setCell ⟨gd, k, none⟩ (.int .i64 5)) gl 3 288 (fun i => if i < 288 then nV (litV i) else nV 0) ∧ Rw (wr.setCell ⟨gd, k, none⟩ (.int .i64 5)) gd 3 32 (fun i => if i < k + 1 then nV 5 else nV 0) ∧ Below w.heap.size w (wr.setCell ⟨gd, k, none⟩ (.int .i64 5))) := bx (by
              refine ⟨hL.far (by exact hne) _, (hD.set k _).ext fun i _ => ?_, hB.setCell (by exact hlo.2) _⟩
              by_cases e : i = k
              · subst e; rw [if_pos (by omega), if_pos rfl]; rfl
              · rw [if_neg e]
                by_cases e2 : i < k
                · rw [if_pos (by omega), if_pos e2]
                · rw [if_neg (by omega), if_neg e2])
            clear hL hD hB
            go_wp2
            go_roundg (32 - (k + 1))
            case rel => exact ⟨k + 1, rfl, by omega, by go_num, K.out⟩
            case measure => omega
          · obtain rfl : k = 32 := by omega
            have hgz1 := hL.lt
            have hgz2 := hD.lt
            have R1 : Bx (RN wr wr.heap.size (some ⟨gl, 0, none⟩) fixLit) := bx (RL.more (Rw.read (l := fixLit) (by rw [fixLit_len]; exact hL) (fun i x hx => by
              have hi : i < 288 := by
                rcases Nat.lt_or_ge i 288 with h | h
                · exact h
                · rw [List.getElem?_eq_none (by rw [fixLit_len]; exact h)] at hx; cases hx
              rw [fixLit_all i hi] at hx
              injection hx with hx
              rw [if_pos hi, hx])) (by omega))
            have R2 : Bx (RN wr wr.heap.size (some ⟨gd, 0, none⟩) fixDist) := bx (RL.more (Rw.read (l := fixDist) (by unfold fixDist; rw [List.length_replicate]; exact hD) (fun i x hx => by
              unfold fixDist at hx
              have hi : i < 32 := by
                rcases Nat.lt_or_ge i 32 with h | h
                · exact h
                · rw [List.getElem?_eq_none (by simpa using h)] at hx; cases hx
              rw [List.getElem?_replicate, if_pos hi] at hx
              injection hx with hx
              rw [if_pos hi, hx])) (by omega))
            have HB := bx hB
            clear hL hD hB
            go_wp2
            go_ret2
            exact ⟨_, _, _, _, rfl, R1.out, R2.out, HB.out⟩
end Go.Proofs.Ytbhljigppljjbaa
