/- Contract: (*inflate.state).take. -/
import Derived.Test.YtbhljigppljjbaaPfxC
import Derived.Test.YtbhljigppljjbaaBitC
import Derived.Outline
namespace Go.Proofs.Ytbhljigppljjbaa
open Go.RowKit

/-- Several numbers, one behind the other. -/
def tksF (b : List UInt8) : List Nat → List Nat → Nat → Rz (List Nat × Nat)
  | [], acc, p => .ok (acc, p)
  | n :: r, acc, p => (tk b p n).bind fun x => tksF b r (acc ++ [x.1]) x.2
theorem tksF_step {b : List UInt8} {ws acc : List Nat} {j n p : Nat} (hj : ws[j]? = some n) (hp : p + n ≤ 8 * b.length) : tksF b (ws.drop j) acc p = tksF b (ws.drop (j + 1)) (acc ++ [takeN b p n]) (p + n) := by
  have hjl : j < ws.length := by
    rcases Nat.lt_or_ge j ws.length with h | h
    · exact h
    · rw [List.getElem?_eq_none h] at hj; cases hj
  rw [List.getElem?_eq_getElem hjl] at hj
  injection hj with hj
  rw [List.drop_eq_getElem_cons hjl, tksF, hj, tk, if_pos hp]; rfl
theorem tksF_short {b : List UInt8} {ws acc : List Nat} {j n p : Nat} (hj : ws[j]? = some n) (hp : 8 * b.length < p + n) : tksF b (ws.drop j) acc p = .err 2 := by
  have hjl : j < ws.length := by
    rcases Nat.lt_or_ge j ws.length with h | h
    · exact h
    · rw [List.getElem?_eq_none h] at hj; cases hj
  rw [List.getElem?_eq_getElem hjl] at hj
  injection hj with hj
  rw [List.drop_eq_getElem_cons hjl, tksF, hj, tk, if_neg (by omega)]; rfl
def TksPost (R : Rz (List Nat × Nat)) (w : World) (gr : Nat) (b : List UInt8) (e : Ending) (w' : World) : Prop :=
  w.grownBy w' (some gr) ∧ match R with
    | .ok x => ∃ A c, e = .returned (.tuple #[.slice A x.1.length c, .int .i64 0]) ∧ RN w' w'.heap.size A x.1 ∧ BRd w' gr b x.2
    | .err k => e = .returned (.tuple #[.slice none 0 0, .int .i64 k])
theorem tksPost_ok {R : Rz (List Nat × Nat)} {w w' : World} {gr : Nat} {b : List UInt8} {l : List Nat} {p : Nat} {A : Option Addr} {n c : Nat} (h : R = .ok (l, p)) (hn : l.length = n) (hg : w.grownBy w' (some gr)) (hA : RN w' w'.heap.size A l) (hB : BRd w' gr b p) : TksPost R w gr b (.returned (.tuple #[.slice A n c, .int .i64 0])) w' := by
  subst h; subst hn; exact ⟨hg, A, c, rfl, hA, hB⟩
theorem tksPost_err {R : Rz (List Nat × Nat)} {w w' : World} {gr : Nat} {b : List UInt8} {k : Int} (h : R = .err k) (hg : w.grownBy w' (some gr)) : TksPost R w gr b (.returned (.tuple #[.slice none 0 0, .int .i64 k])) w' := by
  subst h; exact ⟨hg, rfl⟩
theorem nV_one (x : Nat) : (nV x).oneCell' = true := rfl
theorem intTy : ETy Try.prog 54 3 (.int .i64 0) 1 8 := ⟨Try.underlying54, info_parts (by kernel_rfl), rfl, by decide⟩
set_option maxRecDepth 100000 in
set_option maxHeartbeats 1000000 in
theorem itake_any (gs gr : Nat) (A : Option Addr) (n c : Nat) (ws : List Nat) (b : List UInt8) (p : Nat) (w : World) (hc0 : w.cell? ⟨gs, 0, none⟩ = some (.pointer (some ⟨gr, 0, none⟩))) (hgs : gr < gs) (hgz : gs < w.heap.size)
    (hR : BRd w gr b p) (hn : ws.length = n) (hz : n ≤ 1000) (hw : ∀ x ∈ ws, x ≤ 16) (hW : RN w w.heap.size A ws) (hA : ∀ ad, A = some ad → gs < ad.block) :
    Calls Try.prog 33 #[.pointer (some ⟨gs, 0, none⟩), .slice A n c] w (TksPost (tksF b ws [] p) w gr b) := by
  obtain ⟨R, hRR⟩ : ∃ R, tksF b ws [] p = R := ⟨_, rfl⟩
  rw [hRR]
  have HR0 : Bx (R = tksF b (ws.drop 0) [] p) := bx hRR.symm
  have HN := bx hn
  have HW := bx hw
  clear hRR hn hw
  have hG0 := World.grownBy.refl w (some gr)
  go_enter Try.func33, Try.ntmps33
  go_wp2_with fail
  go_loopg [6, 13] n (fun κ v jj wr => ∃ (j q : Nat) (acc : List Nat), κ = n - j ∧ j ≤ n ∧ jj = .int .i64 (j : Int) ∧ acc.length = j ∧ OwL nV wr w.heap.size 3 v acc ∧ BRd wr gr b q ∧ w.grownBy wr (some gr) ∧ Bx (R = tksF b (ws.drop j) acc q))
  case atStart => exact ⟨0, p, [], by omega, by omega, rfl, rfl, OwL.nil, hR, hG0, HR0⟩
  case round =>
    clear hR hG0
    obtain ⟨j, q, acc, hgk, hj, rfl, hal, hO, hR, hG, hgo⟩ := hrel
    have HAL := bx hal
    clear hal
    by_cases hjn : j < n
    · obtain ⟨ad, m, rfl, hadb, hm, hc⟩ := RL.atl hW (k := j) (by rw [HN.out]; exact hjn)
      have hadg := hA _ rfl
      have hc' : wr.cell? (ad.add j) = some (.int .i64 (m : Int)) := by
        rw [World.cell?_of_block (hG.block _ (by rw [blk_add]; exact hadb) (fun e => by rw [blk_add] at e; injection e; omega))]; exact hc
      have hm16 : m ≤ 16 := HW.out m (List.mem_of_getElem? hm.out)
      have hs0 : wr.cell? ⟨gs, 0, none⟩ = some (.pointer (some ⟨gr, 0, none⟩)) := by
        rw [World.cell?_of_block (hG.block gs hgz (fun e => by injection e; omega))]; exact hc0
      clear hc
      by_cases hq : q + m ≤ 8 * b.length
      · have HGO : Bx (R = tksF b (ws.drop (j + 1)) (acc ++ [takeN b q m]) (q + m)) := bx (hgo.out.trans (tksF_step hm.out hq))
        go_wp2_with fail
        refine (btake_ok gr b q m wr hR hm16 hq).mono ?_
        rintro e w3 ⟨rfl, hR3, hg3⟩
        have hG3 := gb_trans hG hg3
        have hO3 := hO.kept hg3 (by
          rcases hv : u6.ownBlock with _ | k
          · exact .inl rfl
          · refine .inr fun e => ?_
            injection e with e
            have := World.ownsRow.lt hO k hv
            omega)
        have hz3 := hG3.size
        have hal9 : (acc.length + 1) * 8 ≤ 140737488355328 := by rw [HAL.out]; omega
        have HL9 := bx hal9
        clear hO hR hG hg3 hal9
        go_wp2_with (at_builtin; refine wpList_appL _ nV_one rfl (.tmp 29) (.tmp 31) rfl intTy (by decide) w.heap.size _ acc rfl (hO3.alloc _) _ _ 1 1 [takeN b q m] rfl rfl (RL.freshe _ _ rfl _) HL9.out (le_alloc0 hz3 _) ?_; intro v4 w4 hO4 hg4 _ hb4)
        have hb4' : Below w.heap.size w3 w4 := (bl_alloc (Below.refl w.heap.size w3) hz3 _).trans hb4
        have hR4 := (hR3.keep (w' := w3.alloc (.cells #[.int .i64 (takeN b q m : Int)] 3)) (fun i hi => (Below.heap_alloc w3 _ i (by have := hR3.lt; omega)))).below hb4 (by omega)
        have hG4 := gb_past hG3 hb4' (Nat.le_refl _)
        go_wp2
        go_roundg (n - (j + 1))
        case rel => exact ⟨j + 1, q + m, acc ++ [takeN b q m], rfl, by omega, by go_num, by rw [List.length_append, HAL.out]; rfl, hO4, hR4, hG4, HGO⟩
        case measure => omega
      · have HF : Bx (R = .err 2) := bx (hgo.out.trans (tksF_short hm.out (by omega)))
        go_wp2_with fail
        refine (btake_short gr b q m wr hR hm16 (by omega)).mono ?_
        rintro e w3 ⟨rfl, hb3⟩
        have hG3 := gb_then hG hb3
        go_wp2
        go_ret2
        exact tksPost_err HF.out hG3
    · obtain rfl : j = n := by omega
      have HF : Bx (R = .ok (acc, q)) := bx (by rw [hgo.out, List.drop_of_length_le (by rw [HN.out]; exact Nat.le_refl _)]; rfl)
      obtain ⟨A1, c1, rfl, hr1, _⟩ := OwL.rd hO
      rw [HAL.out]
      go_wp2_with fail
      go_ret2
      exact tksPost_ok HF.out HAL.out hG hr1 hR
end Go.Proofs.Ytbhljigppljjbaa
