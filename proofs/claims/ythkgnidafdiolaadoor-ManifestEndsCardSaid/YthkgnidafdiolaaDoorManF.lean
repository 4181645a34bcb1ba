/- Contract: samovarref12.lines. -/
import Derived.Test.YthkgnidafdiolaaDoorManC
namespace Go.Proofs.YthkgnidafdiolaaDoor
open Go.RowKit

/-- The bytes from a to b. -/
def segL (l : List UInt8) (a b : Nat) : List UInt8 := (l.drop a).take (b - a)
theorem drop_seg {l : List UInt8} {a b : Nat} (h : a ≤ b) : l.drop a = segL l a b ++ l.drop b := by
  unfold segL
  conv => lhs; rw [← List.take_append_drop (b - a) (l.drop a)]
  rw [List.drop_drop, show a + (b - a) = b by omega]
theorem seg_ne {l : List UInt8} {a b : Nat} (h : a < b) (hb : b ≤ l.length) : segL l a b ≠ [] := by
  intro e
  have := congrArg List.length e
  simp [segL] at this
  omega
theorem drop_cons {l : List UInt8} {k : Nat} {x : UInt8} (h : l[k]? = some x) : l.drop k = x :: l.drop (k + 1) := by
  have hk := (List.getElem?_eq_some_iff.1 h).1
  rw [List.drop_eq_getElem_cons hk]
  rw [List.getElem?_eq_getElem hk] at h; injection h with h; rw [h]
theorem seg_mem {l : List UInt8} {a b : Nat} (h : ∀ (j : Nat) (x : UInt8), a ≤ j → j < b → l[j]? = some x → x ≠ 10 ∧ x ≠ 13) : ∀ c ∈ segL l a b, c ≠ 13 ∧ c ≠ 10 := by
  intro c hc
  obtain ⟨i, hi⟩ := List.getElem?_of_mem hc
  unfold segL at hi
  rw [List.getElem?_take] at hi
  split at hi
  · rename_i h1
    rw [List.getElem?_drop] at hi
    have := h (a + i) c (by omega) (by omega) hi
    exact ⟨this.2, this.1⟩
  · cases hi
section
variable {l : List UInt8} {a b : Nat} (h : ∀ (j : Nat) (x : UInt8), a ≤ j → j < b → l[j]? = some x → x ≠ 10 ∧ x ≠ 13) (hab : a < b)
include h hab
theorem lines_at_end (hb : b = l.length) : linesM (l.drop a) = segL l a b :: linesM (l.drop (b + 1)) := by
  rw [drop_seg (l := l) (show a ≤ b by omega), List.drop_eq_nil_of_le (show l.length ≤ b by omega), List.append_nil, linesM_end (seg_mem h) (seg_ne hab (by omega)), List.drop_eq_nil_of_le (show l.length ≤ b + 1 by omega)]; rfl
theorem lines_at_lf (hb : l[b]? = some 10) : linesM (l.drop a) = segL l a b :: linesM (l.drop (b + 1)) := by
  have hk := (List.getElem?_eq_some_iff.1 hb).1
  rw [drop_seg (l := l) (show a ≤ b by omega), drop_cons hb, linesM_lf (seg_mem h) (seg_ne hab (by omega))]
theorem lines_at_crlf (hb : l[b]? = some 13) (hc : l[b + 1]? = some 10) : linesM (l.drop a) = segL l a b :: linesM (l.drop (b + 2)) := by
  have hk := (List.getElem?_eq_some_iff.1 hb).1
  rw [drop_seg (l := l) (show a ≤ b by omega), drop_cons hb, drop_cons hc, linesM_crlf (seg_mem h) (seg_ne hab (by omega))]
theorem lines_at_cr (hb : l[b]? = some 13) (hc : l[b + 1]? ≠ some 10) : linesM (l.drop a) = segL l a b :: linesM (l.drop (b + 1)) := by
  have hk := (List.getElem?_eq_some_iff.1 hb).1
  rw [drop_seg (l := l) (show a ≤ b by omega), drop_cons hb, linesM_cr (seg_mem h) (seg_ne hab (by omega)) _ (by rw [List.head?_drop]; exact hc)]
end
theorem lines_at_empty {l : List UInt8} {a : Nat} {x : UInt8} (hx : l[a]? = some x) (h : x = 10 ∨ x = 13) : linesM (l.drop a) = [] := by
  rw [drop_cons hx]; exact linesM_empty h _
theorem ne10 {x : UInt8} (h : ¬ x = 10) : ¬ (x.toNat : Int) = 10 := fun e => h (UInt8.toNat_inj.1 (by show x.toNat = 10; omega))
theorem ne13 {x : UInt8} (h : ¬ x = 13) : ¬ (x.toNat : Int) = 13 := fun e => h (UInt8.toNat_inj.1 (by show x.toNat = 13; omega))
set_option maxHeartbeats 2000000 in
theorem lines_any (A : Option Addr) (n c : Nat) (l : List UInt8) (w : World) (hn : l.length = n) (hz : n ≤ 1000000) (hcap : n ≤ c) (hr : RB w w.heap.size A l) :
    Calls Tryd.prog 23 #[.slice A n c] w (SecPost l w) := by
  have HN := Lib.hid hn
  clear hn
  go_enter Tryd.func23, Tryd.ntmps23
  go_wp2
  go_loopw [3, 4, 5] (fun v i _ wr => ∃ (a : Nat) (q : List (List UInt8)), i = .int .i64 (a : Int) ∧ a ≤ n + 2 ∧ q.length ≤ a ∧ OwL sV wr w.heap.size 9 v q ∧ Below w.heap.size w wr ∧ Hid (linesM l = q ++ linesM (l.drop a))) (fun _ i _ _ => n + 2 - (intOf i).toNat)
  case atStart => exact ⟨0, [], rfl, by omega, by simp, OwL.nil, Below.refl _ _, Lib.hid rfl⟩
  case round =>
    obtain ⟨a, q, rfl, ha, hq, hown, hbel, hgo⟩ := hrel
    by_cases ha0 : a < n
    · go_wp2
      go_loop [5] (fun i => ∃ b : Nat, i = .int .i64 (b : Int) ∧ a ≤ b ∧ b ≤ n ∧ Hid (∀ (j : Nat) (x : UInt8), a ≤ j → j < b → l[j]? = some x → x ≠ 10 ∧ x ≠ 13)) (fun i => n - (intOf i).toNat)
      case atStart => exact ⟨a, rfl, by omega, by omega, Lib.hid (fun j x h1 h2 => by omega)⟩
      case round =>
        obtain ⟨b, rfl, hab, hbn, hno⟩ := hrel
        have hrw : RB wr w.heap.size A l := RL.below hr hbel (Nat.le_refl _)
        by_cases hb0 : b < n
        · obtain ⟨ad, x, had, hlt, hx, hc⟩ := hrw.byte (k := b) (by rw [HN.out]; exact hb0)
          subst had
          by_cases h10 : x = 10
          · have hc' : wr.cell? (ad.add b) = some (.int .u8 10) := by rw [hc, h10]; rfl
            rw [h10] at hx
            clear hc h10
            by_cases hba : b = a
            · subst hba
              have HE : Hid (linesM l = q) := Lib.hid (by rw [hgo.out, lines_at_empty hx.out (.inl rfl)]; simp)
              go_wp2
              go_ret
              exact secPost_of HE.out hown hbel (Nat.le_refl _)
            · have hfin := Lib.hid (lines_at_lf (l := l) hno.out (by omega) hx.out)
              have hcs := run_conv_str (P := Tryd.prog) (c := c - a) (n := b - a) Tryd.underlying22 Tryd.underlying5 Tryd.underlying9 (by simp [HN.out]; omega) (((hrw.cut (k := a) (cap := c) (by rw [HN.out]; exact hcap))).take (b - a))
              have hca : ¬ c = a := by omega
              rw [if_neg hca] at hcs
              simp only [Option.map_some] at hcs
              obtain ⟨sg, hsg⟩ : ∃ sg : ByteArray, (⟨((l.drop a).take (b - a)).toArray⟩ : ByteArray) = sg := ⟨_, rfl⟩
              rw [hsg] at hcs
              have HSG := Lib.hid hsg
              clear hsg
              by_cases k1 : (b : Int) + 1 < (n : Int)
              · go_wp2_with (at_builtin; refine wpList_appL _ sV_one rfl (.tmp 35) (.tmp 41) rfl strTy (by decide) w.heap.size _ q rfl (hown.alloc _) _ _ 1 1 [segL l a b] rfl rfl (RL.freshe _ _ ?c0 _) ?c1 ?c2 ?_)
                case c0 => rw [sV, ← HSG.out]; rfl
                case c1 => first | omega | (simp; omega)
                case c2 => have := hbel.size; first | omega | (simp; omega)
                intro v2 w4 own2 _ _ hb2
                have hb2' := (bl_alloc hbel (Nat.le_refl _) _).trans hb2
                have hc4 := (hb2'.cell (p := ad.add b) (by rw [blk_add]; exact hlt)).trans ((hbel.cell (p := ad.add b) (by rw [blk_add]; exact hlt)).symm.trans hc')
                go_wp2
                all_goals
                  go_roundw
                  case rel => exact ⟨b + 1, q ++ [segL l a b], by go_num, by omega, by simp; omega, own2, hb2', Lib.hid (by rw [hgo.out, hfin.out]; simp)⟩
                  case measure => simp [intOf]; omega
              · go_wp2_with (at_builtin; refine wpList_appL _ sV_one rfl (.tmp 35) (.tmp 41) rfl strTy (by decide) w.heap.size _ q rfl (hown.alloc _) _ _ 1 1 [segL l a b] rfl rfl (RL.freshe _ _ ?c0 _) ?c1 ?c2 ?_)
                case c0 => rw [sV, ← HSG.out]; rfl
                case c1 => first | omega | (simp; omega)
                case c2 => have := hbel.size; first | omega | (simp; omega)
                intro v2 w4 own2 _ _ hb2
                have hb2' := (bl_alloc hbel (Nat.le_refl _) _).trans hb2
                go_wp2
                all_goals
                  go_roundw
                  case rel => exact ⟨b + 1, q ++ [segL l a b], by go_num, by omega, by simp; omega, own2, hb2', Lib.hid (by rw [hgo.out, hfin.out]; simp)⟩
                  case measure => simp [intOf]; omega
          · by_cases h13 : x = 13
            · have hc' : wr.cell? (ad.add b) = some (.int .u8 13) := by rw [hc, h13]; rfl
              rw [h13] at hx
              clear hc h13
              by_cases hba : b = a
              · subst hba
                have HE : Hid (linesM l = q) := Lib.hid (by rw [hgo.out, lines_at_empty hx.out (.inr rfl)]; simp)
                go_wp2
                go_ret
                exact secPost_of HE.out hown hbel (Nat.le_refl _)
              · by_cases k1 : b + 1 < n
                · have k2 : (b : Int) + 1 < (n : Int) := by omega
                  have k3 : IntKind.i64.wrap ((b : Int) + 1) = (b : Int) + 1 := IntWalk.i64_in _ (by omega)
                  have k4 : ((b : Int) + 1).toNat = b + 1 := by omega
                  obtain ⟨ad2, x2, had2, _, hx2, hc2⟩ := hrw.byte (k := b + 1) (by rw [HN.out]; exact k1)
                  injection had2 with had2
                  subst had2
                  by_cases h2 : x2 = 10
                  · have hfin := Lib.hid (lines_at_crlf (l := l) hno.out (by omega) hx.out (h2 ▸ hx2.out))
                    have hc2' : wr.cell? (ad.add (b + 1)) = some (.int .u8 10) := by rw [hc2, h2]; rfl
                    clear hc2
                    have hcs := run_conv_str (P := Tryd.prog) (c := c - a) (n := b - a) Tryd.underlying22 Tryd.underlying5 Tryd.underlying9 (by simp [HN.out]; omega) (((hrw.cut (k := a) (cap := c) (by rw [HN.out]; exact hcap))).take (b - a))
                    have hca : ¬ c = a := by omega
                    rw [if_neg hca] at hcs
                    simp only [Option.map_some] at hcs
                    obtain ⟨sg, hsg⟩ : ∃ sg : ByteArray, (⟨((l.drop a).take (b - a)).toArray⟩ : ByteArray) = sg := ⟨_, rfl⟩
                    rw [hsg] at hcs
                    have HSG := Lib.hid hsg
                    clear hsg
                    go_wp2_with (at_builtin; refine wpList_appL _ sV_one rfl (.tmp 35) (.tmp 41) rfl strTy (by decide) w.heap.size _ q rfl (hown.alloc _) _ _ 1 1 [segL l a b] rfl rfl (RL.freshe _ _ ?c0 _) ?c1 ?c2 ?_)
                    case c0 => rw [sV, ← HSG.out]; rfl
                    case c1 => first | omega | (simp; omega)
                    case c2 => have := hbel.size; first | omega | (simp; omega)
                    intro v2 w4 own2 _ _ hb2
                    have hb2' := (bl_alloc hbel (Nat.le_refl _) _).trans hb2
                    have hc4 := (hb2'.cell (p := ad.add b) (by rw [blk_add]; exact hlt)).trans ((hbel.cell (p := ad.add b) (by rw [blk_add]; exact hlt)).symm.trans hc')
                    have hc5 := (hb2'.cell (p := ad.add (b + 1)) (by rw [blk_add]; exact hlt)).trans ((hbel.cell (p := ad.add (b + 1)) (by rw [blk_add]; exact hlt)).symm.trans hc2')
                    rw [add_pos] at hc5
                    go_wp2
                    all_goals
                      go_roundw
                      case rel => exact ⟨b + 2, q ++ [segL l a b], by go_num, by omega, by simp; omega, own2, hb2', Lib.hid (by rw [hgo.out, hfin.out]; simp)⟩
                      case measure => simp [intOf]; omega
                  · have hfin := Lib.hid (lines_at_cr (l := l) hno.out (by omega) hx.out (by rw [hx2.out]; intro e; injection e with e; exact h2 e))
                    have g2 := ne10 h2
                    have g3 : ((x2.toNat : Int) == 10) = false := by simpa using g2
                    have hcs := run_conv_str (P := Tryd.prog) (c := c - a) (n := b - a) Tryd.underlying22 Tryd.underlying5 Tryd.underlying9 (by simp [HN.out]; omega) (((hrw.cut (k := a) (cap := c) (by rw [HN.out]; exact hcap))).take (b - a))
                    have hca : ¬ c = a := by omega
                    rw [if_neg hca] at hcs
                    simp only [Option.map_some] at hcs
                    obtain ⟨sg, hsg⟩ : ∃ sg : ByteArray, (⟨((l.drop a).take (b - a)).toArray⟩ : ByteArray) = sg := ⟨_, rfl⟩
                    rw [hsg] at hcs
                    have HSG := Lib.hid hsg
                    clear hsg
                    go_wp2_with (at_builtin; refine wpList_appL _ sV_one rfl (.tmp 35) (.tmp 41) rfl strTy (by decide) w.heap.size _ q rfl (hown.alloc _) _ _ 1 1 [segL l a b] rfl rfl (RL.freshe _ _ ?c0 _) ?c1 ?c2 ?_)
                    case c0 => rw [sV, ← HSG.out]; rfl
                    case c1 => first | omega | (simp; omega)
                    case c2 => have := hbel.size; first | omega | (simp; omega)
                    intro v2 w4 own2 _ _ hb2
                    have hb2' := (bl_alloc hbel (Nat.le_refl _) _).trans hb2
                    have hc4 := (hb2'.cell (p := ad.add b) (by rw [blk_add]; exact hlt)).trans ((hbel.cell (p := ad.add b) (by rw [blk_add]; exact hlt)).symm.trans hc')
                    have hc5 := (hb2'.cell (p := ad.add (b + 1)) (by rw [blk_add]; exact hlt)).trans ((hbel.cell (p := ad.add (b + 1)) (by rw [blk_add]; exact hlt)).symm.trans hc2)
                    rw [add_pos] at hc5
                    go_wp2
                    all_goals
                      go_roundw
                      case rel => exact ⟨b + 1, q ++ [segL l a b], by go_num, by omega, by simp; omega, own2, hb2', Lib.hid (by rw [hgo.out, hfin.out]; simp)⟩
                      case measure => simp [intOf]; omega
                · have hfin := Lib.hid (lines_at_cr (l := l) hno.out (by omega) hx.out (by rw [List.getElem?_eq_none (by rw [HN.out]; omega)]; simp))
                  have k2 : ¬ (b : Int) + 1 < (n : Int) := by omega
                  have hcs := run_conv_str (P := Tryd.prog) (c := c - a) (n := b - a) Tryd.underlying22 Tryd.underlying5 Tryd.underlying9 (by simp [HN.out]; omega) (((hrw.cut (k := a) (cap := c) (by rw [HN.out]; exact hcap))).take (b - a))
                  have hca : ¬ c = a := by omega
                  rw [if_neg hca] at hcs
                  simp only [Option.map_some] at hcs
                  obtain ⟨sg, hsg⟩ : ∃ sg : ByteArray, (⟨((l.drop a).take (b - a)).toArray⟩ : ByteArray) = sg := ⟨_, rfl⟩
                  rw [hsg] at hcs
                  have HSG := Lib.hid hsg
                  clear hsg
                  go_wp2_with (at_builtin; refine wpList_appL _ sV_one rfl (.tmp 35) (.tmp 41) rfl strTy (by decide) w.heap.size _ q rfl (hown.alloc _) _ _ 1 1 [segL l a b] rfl rfl (RL.freshe _ _ ?c0 _) ?c1 ?c2 ?_)
                  case c0 => rw [sV, ← HSG.out]; rfl
                  case c1 => first | omega | (simp; omega)
                  case c2 => have := hbel.size; first | omega | (simp; omega)
                  intro v2 w4 own2 _ _ hb2
                  have hb2' := (bl_alloc hbel (Nat.le_refl _) _).trans hb2
                  go_wp2
                  all_goals
                    go_roundw
                    case rel => exact ⟨b + 1, q ++ [segL l a b], by go_num, by omega, by simp; omega, own2, hb2', Lib.hid (by rw [hgo.out, hfin.out]; simp)⟩
                    case measure => simp [intOf]; omega
            · have q10 := ne10 h10
              have q13 := ne13 h13
              have e10 : ((x.toNat : Int) != 10) = true := by simpa using q10
              have e13 : ((x.toNat : Int) != 13) = true := by simpa using q13
              have hnx : Hid (∀ (j : Nat) (y : UInt8), a ≤ j → j < b + 1 → l[j]? = some y → y ≠ 10 ∧ y ≠ 13) := Lib.hid (fun j y h1 h2 hy => by
                rcases Nat.lt_or_ge j b with h | h
                · exact hno.out j y h1 h hy
                · obtain rfl : j = b := by omega
                  rw [hx.out] at hy; injection hy with hy; subst hy; exact ⟨h10, h13⟩)
              clear h10 h13
              go_wp2
              go_round
              case rel => exact ⟨b + 1, by go_num, by omega, by omega, hnx⟩
              case measure => simp [intOf]; omega
        · obtain rfl : b = n := by omega
          obtain ⟨ad, _, had, _, _, _⟩ := hrw.byte (k := a) (by rw [HN.out]; exact ha0)
          subst had
          have hfin := Lib.hid (lines_at_end (l := l) hno.out (by omega) HN.out.symm)
          have hcs := run_conv_str (P := Tryd.prog) (c := c - a) (n := b - a) Tryd.underlying22 Tryd.underlying5 Tryd.underlying9 (by simp [HN.out]) (((hrw.cut (k := a) (cap := c) (by rw [HN.out]; exact hcap))).take (b - a))
          have hca : ¬ c = a := by omega
          rw [if_neg hca] at hcs
          simp only [Option.map_some] at hcs
          obtain ⟨sg, hsg⟩ : ∃ sg : ByteArray, (⟨((l.drop a).take (b - a)).toArray⟩ : ByteArray) = sg := ⟨_, rfl⟩
          rw [hsg] at hcs
          have HSG := Lib.hid hsg
          clear hsg
          go_wp2_with (at_builtin; refine wpList_appL _ sV_one rfl (.tmp 35) (.tmp 41) rfl strTy (by decide) w.heap.size _ q rfl (hown.alloc _) _ _ 1 1 [segL l a b] rfl rfl (RL.freshe _ _ ?c0 _) ?c1 ?c2 ?_)
          case c0 => rw [sV, ← HSG.out]; rfl
          case c1 => first | omega | (simp; omega)
          case c2 => have := hbel.size; first | omega | (simp; omega)
          intro v2 w4 own2 _ _ hb2
          have hb2' := (bl_alloc hbel (Nat.le_refl _) _).trans hb2
          have k1 : ¬ (b : Int) + 1 < (b : Int) := by omega
          go_wp2
          go_roundw
          case rel => exact ⟨b + 1, q ++ [segL l a b], by go_num, by omega, by simp; omega, own2, hb2', Lib.hid (by rw [hgo.out, hfin.out]; simp)⟩
          case measure => simp [intOf]; omega
    · have HF : Hid (linesM l = q) := Lib.hid (by rw [hgo.out, List.drop_eq_nil_of_le (by rw [HN.out]; omega)]; simp [linesM_nil])
      go_wp2
      go_ret
      exact secPost_of HF.out hown hbel (Nat.le_refl _)
end Go.Proofs.YthkgnidafdiolaaDoor
