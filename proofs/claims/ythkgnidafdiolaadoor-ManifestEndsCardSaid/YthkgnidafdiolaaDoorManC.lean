/- Contract: manifest.section. -/
import Derived.Test.YthkgnidafdiolaaDoorManB
namespace Go.Proofs.YthkgnidafdiolaaDoor
open Go.RowKit
open Go.Lib (replaceAll countB splitB splitK splitB_data splitB_all countB_le)

/-- A text's cell. -/
def sV (x : List UInt8) : Value := .string ⟨x.toArray⟩
theorem sV_one (x : List UInt8) : (sV x).oneCell' = true := rfl
theorem str_info : ∃ i, Tryd.prog.info? 9 = some i ∧ i.zero = some (.string .empty) ∧ i.size = 1 ∧ i.bytes = 16 := info_parts (by kernel_rfl)
theorem strTy : ETy Tryd.prog 46 9 (.string .empty) 1 16 := ⟨Tryd.underlying46, str_info, rfl, by decide⟩
theorem rep_len (s : List UInt8) : (replaceAll s [13, 10] [10]).length ≤ s.length := by
  have key : ∀ (n : Nat) (s : List UInt8), s.length ≤ n → (replaceAll s [13, 10] [10]).length ≤ s.length := by
    intro n
    induction n with
    | zero =>
      intro s hs
      obtain rfl := List.eq_nil_of_length_eq_zero (Nat.le_zero.1 hs)
      rw [rep_nil (by simp) (by decide)]; exact Nat.le_refl _
    | succ n ih =>
      intro s hs
      cases s with
      | nil => rw [rep_nil (by simp) (by decide)]; exact Nat.le_refl _
      | cons c r =>
        simp only [List.length_cons] at hs
        by_cases h : ([13, 10] : List UInt8).isPrefixOf (c :: r) = true
        · rw [rep_hit (by simp) (by decide) h]
          rw [show ([13, 10] : List UInt8).length = 2 from rfl]
          have := ih ((c :: r).drop 2) (by simp; omega)
          generalize replaceAll ((c :: r).drop 2) [13, 10] [10] = q at this ⊢
          simp only [List.length_append, List.length_cons, List.length_nil, List.length_drop] at this ⊢
          have hl := (List.isPrefixOf_iff_prefix.1 h).length_le
          simp only [List.length_cons, List.length_nil] at hl
          omega
        · rw [rep_miss (by simp) (by decide) (Bool.eq_false_iff.2 h)]
          have := ih r (by omega)
          simp only [List.length_cons]; omega
  exact key s.length s (Nat.le_refl _)
theorem takeWhile_at {p : List (List UInt8)} {k : Nat} (h : ∀ x ∈ p.take k, x ≠ []) (hx : p[k]? = some []) : (p.takeWhile fun l => !l.isEmpty) = p.take k := by
  induction p generalizing k with
  | nil => simp at hx
  | cons a r ih =>
    cases k with
    | zero => simp at hx; subst hx; simp
    | succ k =>
      have ha : a ≠ [] := h a (by simp)
      rw [List.takeWhile_cons, if_pos (by cases a with | nil => exact absurd rfl ha | cons => rfl), List.take_succ_cons, ih (k := k) (fun x hx => h x (by rw [List.take_succ_cons]; exact List.mem_cons_of_mem _ hx)) (by simpa using hx)]
theorem takeWhile_end {p : List (List UInt8)} (h : ∀ x ∈ p, x ≠ []) : (p.takeWhile fun l => !l.isEmpty) = p := by
  induction p with
  | nil => rfl
  | cons a r ih =>
    have ha : a ≠ [] := h a (by simp)
    rw [List.takeWhile_cons, if_pos (by cases a with | nil => exact absurd rfl ha | cons => rfl), ih (fun x hx => h x (by simp [hx]))]
/-- What Split lays. -/
theorem split_row (s : ByteArray) (a : UInt8) : countB s ⟨#[a]⟩ + 1 = (cutL a s.data.toList).length ∧ (splitB ⟨#[a]⟩ 0 (countB s ⟨#[a]⟩) s).map Value.string = (cutL a s.data.toList).map sV := by
  have h := splitB_data ⟨#[a]⟩ 0 (countB s ⟨#[a]⟩) s
  have e : splitK (⟨#[a]⟩ : ByteArray).data.toList 0 (countB s ⟨#[a]⟩) s.data.toList = cutL a s.data.toList := split_cut a s.data.toList
  rw [e] at h
  refine ⟨?_, ?_⟩
  · rw [← h, List.length_map, splitB_all ⟨#[a]⟩ (Nat.le_refl 1) 0 _ s rfl]
  · rw [← h, List.map_map]; rfl
def SecPost (l : List UInt8) (w : World) (e : Ending) (w' : World) : Prop :=
  ∃ A c, e = .returned (.slice A (linesM l).length c) ∧ RL sV w' w'.heap.size A (linesM l) ∧ Below w.heap.size w w' ∧ ∀ ad, A = some ad → w.heap.size ≤ ad.block
theorem secPost_of {l : List UInt8} {w w' : World} {base : Nat} {e : TypeId} {v : Value} {q : List (List UInt8)} (h : linesM l = q) (ho : OwL sV w' base e v q) (hb : Below w.heap.size w w') (hB : w.heap.size ≤ base) : SecPost l w (.returned v) w' := by
  obtain ⟨A, c, rfl, hr, _⟩ := ho.rd
  refine ⟨A, c, by rw [h], by rw [h]; exact hr, hb, fun ad had => ?_⟩
  subst had
  exact Nat.le_trans hB (World.ownsRow.lt ho ad.block rfl).1
set_option maxHeartbeats 2000000 in
theorem section_any (A : Option Addr) (n c : Nat) (l : List UInt8) (m : Int) (w : World) (hn : l.length = n) (hz : n ≤ 1000000) (hr : RB w w.heap.size A l) (hm : w.cell? ⟨0, 0, none⟩ = some (.int .i64 m)) :
    Calls Tryd.prog 18 #[.slice A n c] w (SecPost l w) := by
  obtain ⟨b, hb⟩ : ∃ b : ByteArray, (⟨l.toArray⟩ : ByteArray) = b := ⟨_, rfl⟩
  have hbl : b.data.toList = l := by rw [← hb]
  have hbs : b.size = n := by rw [← size_len, hbl, hn]
  have hcs := run_conv_str (P := Tryd.prog) (c := c) (n := n) Tryd.underlying22 Tryd.underlying5 Tryd.underlying9 hn hr
  rw [hb] at hcs
  have HBL := Lib.hid hbl
  clear hb hbl hn hr
  go_enter Tryd.func18, Tryd.ntmps18
  go_wp2_with fail
  refine (Tryd.strings_ReplaceAll b ⟨#[13, 10]⟩ ⟨#[10]⟩ m _ (by omega) hm (by decide) (by have := countB_le ⟨#[13, 10]⟩ (by decide) _ b (Nat.le_refl _); have h2 : (⟨#[10]⟩ : ByteArray).size = 1 := rfl; rw [h2]; omega)).mono ?_
  rintro e w1 ⟨rfl, hb1⟩
  have hm1 : w1.cell? ⟨0, 0, none⟩ = some (.int .i64 m) := (hb1.cell (World.block_lt_of_cell? _ _ hm)).trans hm
  obtain ⟨b1, hb1e⟩ : ∃ b1 : ByteArray, (⟨(replaceAll b.data.toList (⟨#[13, 10]⟩ : ByteArray).data.toList (⟨#[10]⟩ : ByteArray).data.toList).toArray⟩ : ByteArray) = b1 := ⟨_, rfl⟩
  have h1l : b1.data.toList = replaceAll b.data.toList [13, 10] [10] := by rw [← hb1e]
  have h1s : b1.size ≤ n := by rw [← size_len, h1l, ← hbs]; exact rep_len _
  rw [hb1e]
  clear hb1e
  go_wp2_with fail
  refine (Tryd.strings_ReplaceAll b1 ⟨#[13]⟩ ⟨#[10]⟩ m _ (by omega) hm1 (by decide) (by have := countB_le ⟨#[13]⟩ (by decide) _ b1 (Nat.le_refl _); have h2 : (⟨#[10]⟩ : ByteArray).size = 1 := rfl; rw [h2]; omega)).mono ?_
  rintro e w2 ⟨rfl, hb2⟩
  have hm2 : w2.cell? ⟨0, 0, none⟩ = some (.int .i64 m) := (hb2.cell (World.block_lt_of_cell? _ _ hm1)).trans hm1
  obtain ⟨b2, hb2e⟩ : ∃ b2 : ByteArray, (⟨(replaceAll b1.data.toList (⟨#[13]⟩ : ByteArray).data.toList (⟨#[10]⟩ : ByteArray).data.toList).toArray⟩ : ByteArray) = b2 := ⟨_, rfl⟩
  have h2l : b2.data.toList = normF false l := by
    rw [← hb2e, ← HBL.out]
    show replaceAll b1.data.toList [13] [10] = _
    rw [h1l, norm_rep]
  have h2s : b2.size ≤ n := by
    rw [← size_len, ← hb2e]
    show (replaceAll b1.data.toList [13] [10]).length ≤ n
    rw [rep_one 13 10 (by decide), List.length_map]; exact h1s
  rw [hb2e]
  have hbel2 : Below w.heap.size w w2 := hb1.trans (hb2.mono hb1.size)
  clear hb2e h1l h1s hm1 hb1 hb2
  go_wp2_with fail
  refine (Tryd.strings_Split b2 ⟨#[10]⟩ m _ (by omega) hm2 (by decide)).mono ?_
  rintro e w3 ⟨rfl, rfl⟩
  obtain ⟨hq1, hq2⟩ := split_row b2 10
  rw [h2l] at hq1 hq2
  obtain ⟨p, hp⟩ : ∃ p, cutL 10 (normF false l) = p := ⟨_, rfl⟩
  rw [hp] at hq1 hq2
  rw [hq1, hq2]
  have hpl : p.length ≤ n + 1 := by rw [← hq1]; have := countB_le ⟨#[10]⟩ (by decide) _ b2 (Nat.le_refl _); omega
  have HP := Lib.hid hp
  have hbel3 : Below w.heap.size w (w2.alloc (.cells (p.map sV).toArray 9)) := hbel2.alloc hbel2.size _
  have hrow : RL sV (w2.alloc (.cells (p.map sV).toArray 9)) (w2.heap.size + 1) (some ⟨w2.heap.size, 0, none⟩) p := fun _ => ⟨_, rfl, Nat.lt_succ_self _, fun i u hu => by
    have e : (⟨w2.heap.size, 0, none⟩ : Addr).add i = ⟨w2.heap.size, i, none⟩ := by unfold Addr.add; split <;> simp_all
    rw [e, World.cell?_alloc_mark, ← Array.getElem?_toList]; exact hu⟩
  clear hq1 hq2 hp h2l hm2 hbel2
  obtain ⟨w3, hw3⟩ : ∃ w3, w2.alloc (.cells (p.map sV).toArray 9) = w3 := ⟨_, rfl⟩
  obtain ⟨g, hg⟩ : ∃ g, w2.heap.size = g := ⟨_, rfl⟩
  have hg3 : w3.heap.size = g + 1 := by rw [← hw3, ← hg]; simp
  rw [hw3] at hbel3 hrow ⊢
  rw [hg] at hrow ⊢
  clear hw3 hg
  have hgg : w.heap.size ≤ g + 1 := by have := hbel3.size; omega
  go_wp2
  go_loopw [4, 6, 15] (fun v _ i wr => ∃ k : Nat, k ≤ p.length ∧ i = .int .i64 (k : Int) ∧ OwL sV wr (g + 1) 9 v (p.take k) ∧ Below (g + 1) w3 wr ∧ Hid (∀ x ∈ p.take k, x ≠ [])) (fun _ _ i _ => p.length - (intOf i).toNat)
  case atStart => exact ⟨0, by omega, rfl, OwL.nil, Below.refl _ _, Lib.hid (by simp)⟩
  case round =>
    obtain ⟨k, hk, rfl, hown, hbel, hall⟩ := hrel
    by_cases hk0 : k < p.length
    · obtain ⟨ad, x, had, hlt, hx, hc⟩ := (RL.below hrow hbel (by omega)).atl hk0
      injection had with had
      subst had
      obtain ⟨s, hs⟩ : ∃ s : ByteArray, (⟨x.toArray⟩ : ByteArray) = s := ⟨_, rfl⟩
      have hsx : s.data.toList = x := by rw [← hs]
      have hc' : wr.cell? ⟨g, k, none⟩ = some (.string s) := by
        have e : (⟨g, 0, none⟩ : Addr).add k = ⟨g, k, none⟩ := by unfold Addr.add; split <;> simp_all
        rw [← hs, ← e]; exact hc
      have HS := Lib.hid hsx
      clear hs hc
      by_cases he : s.data.toList = []
      · have h1 := tl_none he
        have h2 := size_zero he
        have hfin : linesM l = p.take k := by
          unfold linesM linesOf
          rw [HP.out]; exact takeWhile_at hall.out (by rw [hx.out, ← HS.out, he])
        have HF := Lib.hid hfin
        clear hfin he hsx
        go_wp2
        go_ret
        exact secPost_of HF.out hown (hbel3.trans (hbel.mono hgg)) hgg
      · have h1 := tl_some he
        have h2 := size_pos he
        have HE := Lib.hid he
        clear he hsx
        go_wp2_with (at_builtin; refine wpList_appL _ sV_one rfl (.tmp 21) (.tmp 23) rfl strTy (by decide) (g + 1) _ (p.take k) rfl (hown.alloc _) _ _ 1 1 [x] rfl rfl (RL.freshe _ _ ?c0 _) ?c1 ?c2 ?_)
        case c0 => rw [sV, ← HS.out]
        case c1 => first | omega | (simp; omega)
        case c2 => have := hbel.size; first | omega | (simp; omega)
        intro v2 w4 own2 _ _ hb2
        have hb2' := (bl_alloc hbel (by omega) _).trans hb2
        go_wp2
        go_roundw
        case rel =>
          refine ⟨k + 1, by omega, by go_num, ?_, hb2', Lib.hid ?_⟩
          · rw [List.take_add_one, hx.out]; exact own2
          · rw [List.take_add_one, hx.out]
            intro y hy
            rcases List.mem_append.1 hy with hy | hy
            · exact hall.out y hy
            · simp at hy; subst hy; rw [← HS.out]; exact HE.out
        case measure => simp [intOf]; omega
    · obtain rfl : k = p.length := by omega
      have hfin : linesM l = p.take p.length := by
        unfold linesM linesOf
        rw [HP.out, List.take_length]; exact takeWhile_end (by have := hall.out; rwa [List.take_length] at this)
      have HF := Lib.hid hfin
      clear hfin
      go_wp2
      go_ret
      exact secPost_of HF.out hown (hbel3.trans (hbel.mono hgg)) hgg
end Go.Proofs.YthkgnidafdiolaaDoor
