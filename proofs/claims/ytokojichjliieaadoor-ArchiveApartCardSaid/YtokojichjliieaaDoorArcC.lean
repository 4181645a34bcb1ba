/- Contract: archive.Name. -/
import Derived.Test.YtokojichjliieaaDoorArcB
import Derived.Test.YtokojichjliieaaDoorArcN
import Derived.Test.YtokojichjliieaaDoorTxt
import Derived.Test.YtokojichjliieaaDoorShelf
namespace Go.Proofs.YtokojichjliieaaDoor
open Go.RowKit

def partX (i n : Nat) (x : List UInt8) : Bool := partOk x && !(x.isEmpty && (decide (i = 0) || decide (i + 1 < n)))
theorem partsOk_fail : ∀ (l : List (List UInt8)) (k : Nat) (x : List UInt8), l[k]? = some x → (partOk x = false ∨ (x.isEmpty = true ∧ k + 1 < l.length)) → partsOk l = false := by
  intro l
  induction l with
  | nil => intro k x h _; simp at h
  | cons p r ih =>
    intro k x h hx
    cases r with
    | nil =>
      cases k with
      | zero =>
        simp at h; subst h
        rcases hx with hx | hx
        · exact hx
        · simp at hx
      | succ k => simp at h
    | cons q r =>
      rw [partsOk_cons]
      cases k with
      | zero =>
        simp at h; subst h
        rcases hx with hx | hx
        · rw [hx]; simp
        · rw [hx.1]; simp
      | succ k =>
        rw [ih k x (by simpa using h) (by rcases hx with hx | hx; exact .inl hx; exact .inr ⟨hx.1, by simp at hx ⊢; omega⟩)]
        simp
theorem partsOk_fine : ∀ (l : List (List UInt8)), l ≠ [] → (∀ k x, l[k]? = some x → partOk x = true ∧ (k + 1 < l.length → x.isEmpty = false)) → partsOk l = true := by
  intro l
  induction l with
  | nil => intro h _; exact absurd rfl h
  | cons p r ih =>
    intro _ h
    cases r with
    | nil => exact (h 0 p rfl).1
    | cons q r =>
      rw [partsOk_cons, (h 0 p rfl).1, (h 0 p rfl).2 (by simp), ih (by simp) (fun k x hk => by
        obtain ⟨h1, h2⟩ := h (k + 1) x (by simpa using hk)
        exact ⟨h1, fun hl => h2 (by simp at hl ⊢; omega)⟩)]
      rfl
/-- What of a name hangs on its parts. -/
def tailA (l : List (List UInt8)) : Bool := match l with
  | [] => false
  | p :: r => !p.isEmpty && partsOk (p :: r)
theorem tailA_fail {l : List (List UInt8)} {k : Nat} {x : List UInt8} (h : l[k]? = some x) (hx : partX k l.length x = false) : tailA l = false := by
  cases l with
  | nil => rfl
  | cons p r =>
    show (!p.isEmpty && partsOk (p :: r)) = false
    unfold partX at hx
    cases h1 : partOk x with
    | false => rw [partsOk_fail _ k x h (.inl h1), Bool.and_false]
    | true =>
      rw [h1] at hx
      simp only [Bool.true_and, Bool.not_eq_false', Bool.and_eq_true, Bool.or_eq_true, decide_eq_true_eq] at hx
      obtain ⟨he, hk | hk⟩ := hx
      · subst hk
        simp at h; subst h
        rw [he]; rfl
      · rw [partsOk_fail _ k x h (.inr ⟨he, hk⟩), Bool.and_false]
theorem tailA_fine {l : List (List UInt8)} (hne : l ≠ []) (h : ∀ k x, l[k]? = some x → partX k l.length x = true) : tailA l = true := by
  cases l with
  | nil => exact absurd rfl hne
  | cons p r =>
    show (!p.isEmpty && partsOk (p :: r)) = true
    rw [partsOk_fine _ hne (fun k x hk => by
      have := h k x hk
      unfold partX at this
      simp only [Bool.and_eq_true, Bool.not_eq_true', Bool.and_eq_false_iff, Bool.or_eq_false_iff, decide_eq_false_iff_not] at this
      exact ⟨this.1, fun hl => by
        rcases this.2 with e | e
        · exact e
        · exact absurd hl e.2⟩), Bool.and_true]
    have := h 0 p rfl
    unfold partX at this
    cases he : p.isEmpty with
    | false => rfl
    | true => rw [he] at this; simp at this
theorem nameA_form (s : List UInt8) : nameA s = (!s.isEmpty && decide (s.length ≤ 64) && !s.contains 0 && !s.contains 92 && tailA (cutL 47 s)) := rfl
set_option maxHeartbeats 2000000 in
theorem name_any (s : ByteArray) (m : Int) (w : World) (hs : s.size ≤ 140737488351232) (hm : w.cell? ⟨0, 0, none⟩ = some (.int .i64 m)) :
    Calls Tryd.prog 17 #[.string s] w fun e w' => e = .returned (.bool (nameA s.data.toList)) ∧ Below w.heap.size w w' := by
  rw [nameA_form]
  by_cases he : s.data.toList = []
  · have h1 := tl_none he
    have h2 := size_zero he
    rw [he]
    clear he hm
    go_enter Tryd.func17, Tryd.ntmps17
    go_wp2
    go_ret
    exact ⟨rfl, Below.refl _ _⟩
  have h1 := tl_some he
  have hem : s.data.toList.isEmpty = false := by rw [List.isEmpty_eq_false_iff]; exact he
  rw [hem]
  by_cases hl : 64 < s.size
  · have hd : decide (s.data.toList.length ≤ 64) = false := by rw [size_len]; simp; omega
    rw [hd]
    clear he hm hem hd
    go_enter Tryd.func17, Tryd.ntmps17
    go_wp2
    go_ret
    exact ⟨rfl, Below.refl _ _⟩
  have hd : decide (s.data.toList.length ≤ 64) = true := by rw [size_len]; simp; omega
  rw [hd]
  have hl' : ¬ (64 : Int) < (s.size : Int) := by omega
  cases hc0 : s.data.toList.contains 0
  case true =>
    have hge := idx_has hc0
    clear he hm hem hd hc0 hl
    go_enter Tryd.func17, Tryd.ntmps17
    go_wp2_with fail
    refine (Tryd.strings_IndexByte _ _ _).mono ?_
    rintro e w' ⟨rfl, rfl⟩
    rw [show (0 : Int).toNat.toUInt8 = 0 from rfl]
    go_wp2
    go_ret
    exact ⟨by simp, Below.refl _ _⟩
  case false =>
    have hlt := idx_lacks hc0
    have HLT := Lib.hid hlt
    cases hc9 : s.data.toList.contains 92
    case true =>
      have hge := idx_has hc9
      clear he hm hem hd hc0 hl hlt hc9
      go_enter Tryd.func17, Tryd.ntmps17
      go_wp2_with fail
      refine (Tryd.strings_IndexByte _ _ _).mono ?_
      rintro e w' ⟨rfl, rfl⟩
      rw [show (0 : Int).toNat.toUInt8 = 0 from rfl, HLT.out]
      go_wp2_with fail
      refine (Tryd.strings_IndexByte _ _ _).mono ?_
      rintro e w' ⟨rfl, rfl⟩
      rw [show (92 : Int).toNat.toUInt8 = 92 from rfl]
      go_wp2
      go_ret
      exact ⟨by simp, Below.refl _ _⟩
    case false =>
      have hlt9 := idx_lacks hc9
      have HLT9 := Lib.hid hlt9
      have hsz : s.size < 4294967281 := by omega
      obtain ⟨hq1, hq2⟩ := split_row s 47
      obtain ⟨p, hp⟩ : ∃ p, cutL 47 s.data.toList = p := ⟨_, rfl⟩
      have hpne : p ≠ [] := by rw [← hp]; exact cutL_ne 47 _
      rw [hp] at hq1 hq2 ⊢
      have hpl : p.length ≤ 65 := by rw [← hq1]; have := Lib.countB_le ⟨#[47]⟩ (by decide) _ s (Nat.le_refl _); omega
      have HNE := bx hpne
      have HP1 := bx hq1
      have HP2 := bx hq2
      obtain ⟨n, hn⟩ : ∃ n, p.length = n := ⟨_, rfl⟩
      have HN := bx hn
      have hn65 : n ≤ 65 := by omega
      clear he hem hd hc0 hl hlt hc9 hlt9 hp hpne hq1 hq2 hpl hn
      go_enter Tryd.func17, Tryd.ntmps17
      go_wp2_with fail
      refine (Tryd.strings_IndexByte _ _ _).mono ?_
      rintro e w' ⟨rfl, rfl⟩
      rw [show (0 : Int).toNat.toUInt8 = 0 from rfl, HLT.out]
      go_wp2_with fail
      refine (Tryd.strings_IndexByte _ _ _).mono ?_
      rintro e w' ⟨rfl, rfl⟩
      rw [show (92 : Int).toNat.toUInt8 = 92 from rfl, HLT9.out]
      go_wp2_with fail
      refine (Tryd.strings_Split s ⟨#[47]⟩ m _ hsz hm (by decide)).mono ?_
      rintro e w3 ⟨rfl, rfl⟩
      rw [HP1.out, HP2.out, HN.out]
      have hbel3 : Below w'.heap.size w' (w'.alloc (.cells (p.map sV).toArray 9)) := bl_alloc (Below.refl _ _) (Nat.le_refl _) _
      have hrow : RL sV (w'.alloc (.cells (p.map sV).toArray 9)) (w'.heap.size + 1) (some ⟨w'.heap.size, 0, none⟩) p := fun _ => ⟨_, rfl, Nat.lt_succ_self _, fun i u hu => by
        have e : (⟨w'.heap.size, 0, none⟩ : Addr).add i = ⟨w'.heap.size, i, none⟩ := by unfold Addr.add; split <;> simp_all
        rw [e, World.cell?_alloc_mark, ← Array.getElem?_toList]; exact hu⟩
      obtain ⟨w3, hw3⟩ : ∃ w3, w'.alloc (.cells (p.map sV).toArray 9) = w3 := ⟨_, rfl⟩
      obtain ⟨g, hg⟩ : ∃ g, w'.heap.size = g := ⟨_, rfl⟩
      rw [hw3] at hbel3 hrow ⊢
      rw [hg] at hrow ⊢
      have HGG : Bx (w'.heap.size ≤ g + 1) := bx (by omega)
      have HB3 := bx hbel3
      have HRW := bx hrow
      clear hw3 hbel3 hrow hg hm
      go_wp2
      go_loopw [27] (fun i wr => ∃ k : Nat, k ≤ n ∧ i = .int .i64 (k : Int) ∧ Below (g + 1) w3 wr ∧ Bx (∀ j x, j < k → p[j]? = some x → partX j n x = true)) (fun i _ => n - (intOf i).toNat)
      case atStart => exact ⟨0, by omega, rfl, Below.refl _ _, bx (fun j x h => absurd h (by omega))⟩
      case round =>
        obtain ⟨k, hk, rfl, hbel, hall⟩ := hrel
        by_cases hk0 : k < n
        · obtain ⟨ad, x, had, hlt, hx, hc⟩ := (RL.below HRW.out hbel (by omega)).atl (k := k) (by rw [HN.out]; exact hk0)
          injection had with had
          subst had
          obtain ⟨b, hb⟩ : ∃ b : ByteArray, (⟨x.toArray⟩ : ByteArray) = b := ⟨_, rfl⟩
          have hbx : b.data.toList = x := by rw [← hb]
          have hc' : wr.cell? ⟨g, k, none⟩ = some (.string b) := by
            have e : (⟨g, 0, none⟩ : Addr).add k = ⟨g, k, none⟩ := by unfold Addr.add; split <;> simp_all
            rw [← hb, ← e]; exact hc
          have HX : Bx (p[k]? = some x) := bx hx.out
          have fail : partX k n x = false → Bx (Ending.returned (.bool false) = Ending.returned (.bool (true && tailA p))) := fun h => bx (by rw [tailA_fail HX.out (by rw [HN.out]; exact h)]; rfl)
          have fine : partX k n x = true → Bx (∀ j y, j < k + 1 → p[j]? = some y → partX j n y = true) := fun h => bx (fun j y hj hy => by
            by_cases e : j = k
            · subst e; rw [HX.out] at hy; injection hy with hy; subst hy; exact h
            · exact hall.out j y (by omega) hy)
          have BE : Bx (Below w'.heap.size w' wr) := bx ((HB3.out).trans (hbel.mono HGG.out))
          clear hb hc hx hlt HRW
          have kn : (k : Int) < (n : Int) := by omega
          by_cases e1 : x = [46]
          · have HF := fail (by subst e1; rfl)
            have t1 := tl_eq (s := b) (l := [46]) (by rw [hbx, e1])
            clear fail fine hbx e1
            go_wp2
            go_ret
            exact ⟨HF.out, BE.out⟩
          have t1 := tl_ne (s := b) (l := [46]) (by rw [hbx]; exact e1)
          by_cases e2 : x = [46, 46]
          · have HF := fail (by subst e2; rfl)
            have t2 := tl_eq (s := b) (l := [46, 46]) (by rw [hbx, e2])
            clear fail fine hbx e1 e2
            go_wp2
            go_ret
            exact ⟨HF.out, BE.out⟩
          have t2 := tl_ne (s := b) (l := [46, 46]) (by rw [hbx]; exact e2)
          have hok : partOk x = true := by unfold partOk; simp [e1, e2]
          by_cases e3 : x = []
          · have t3 := tl_none (s := b) (by rw [hbx, e3])
            by_cases k0 : k = 0
            · have HF := fail (by unfold partX; rw [e3, k0]; simp)
              have k0' : ((k : Int) == 0) = true := by rw [beq_iff_eq]; omega
              clear fail fine hbx e1 e2 e3 hok k0
              go_wp2
              go_ret
              exact ⟨HF.out, BE.out⟩
            have k0' : ((k : Int) == 0) = false := by rw [beq_eq_false_iff_ne]; omega
            by_cases k1 : k + 1 < n
            · have HF := fail (by unfold partX; rw [e3, decide_eq_true k1]; simp)
              have k1' : (k : Int) < (n : Int) - 1 := by omega
              clear fail fine hbx e1 e2 e3 hok k0
              go_wp2
              go_ret
              exact ⟨HF.out, BE.out⟩
            · have HF := fine (by unfold partX; rw [hok, decide_eq_false k0, decide_eq_false k1]; simp)
              have k1' : ¬ (k : Int) < (n : Int) - 1 := by omega
              clear fail fine hbx e1 e2 e3 hok k0 k1
              go_wp2
              go_roundw
              case rel => exact ⟨k + 1, by omega, by go_num, hbel, HF⟩
              case measure => simp [intOf]; omega
          · have t3 := tl_some (s := b) (by rw [hbx]; exact e3)
            have HF := fine (by unfold partX; rw [hok, show x.isEmpty = false by rw [List.isEmpty_eq_false_iff]; exact e3]; simp)
            clear fail fine hbx e1 e2 e3 hok
            go_wp2
            go_roundw
            case rel => exact ⟨k + 1, by omega, by go_num, hbel, HF⟩
            case measure => simp [intOf]; omega
        · obtain rfl : k = n := by omega
          have HF : Bx (tailA p = true) := bx (tailA_fine HNE.out (fun j x hj => by rw [HN.out]; exact hall.out j x (by rw [← HN.out]; exact (List.getElem?_eq_some_iff.1 hj).1) hj))
          go_wp2
          go_ret
          exact ⟨ret_bool (by rw [HF.out]; rfl), (HB3.out).trans (hbel.mono HGG.out)⟩
end Go.Proofs.YtokojichjliieaaDoor
