/- Contracts of the document's files: Name, Find, Size. -/
import Derived.Test.YtlmcpkomjofcgaaGreatDoorQvDfM
import Derived.Test.YtlmcpkomjofcgaaGreatDoorPv7
namespace Go.Proofs.YtlmcpkomjofcgaaGreatDoor
open Go.RowKit
theorem fnOk_no {s : ByteArray} {k : Nat} (h : k < s.size) (hk : s[k] = 0) : fnOk s.data.toList = false := by
  have hm : (0 : UInt8) ∈ s.data.toList := by
    have : s.data.toList[k]'(by rw [size_len]; exact h) = 0 := hk
    rw [← this]; exact List.getElem_mem _
  have hc : s.data.toList.contains 0 = true := by rw [List.contains_iff_mem]; exact hm
  unfold fnOk
  rw [hc]
  simp
theorem fnOk_all {s : ByteArray} (h : ∀ j (hj : j < s.size), ¬ s[j] = 0) : fnOk s.data.toList = (decide (1 ≤ s.size) && decide (s.size ≤ 64)) := by
  have hc : s.data.toList.contains 0 = false := by
    cases hx : s.data.toList.contains 0 with
    | false => rfl
    | true =>
      rw [List.contains_iff_mem] at hx
      obtain ⟨j, hj, he⟩ := List.mem_iff_getElem.1 hx
      exact absurd he (h j (by rw [← size_len]; exact hj))
  have hl := size_len s
  unfold fnOk
  rw [hc, hl]
  cases he : s.data.toList with
  | nil =>
    rw [he] at hl
    have : s.size = 0 := hl.symm
    rw [this]
    rfl
  | cons x r =>
    rw [he] at hl
    have h1 : 1 ≤ s.size := by rw [← hl]; simp
    simp [h1]
set_option maxRecDepth 100000 in
set_option maxHeartbeats 2000000 in
theorem r8name_any (s : ByteArray) (w : World) (hs : s.size ≤ 140737488351232) :
    Calls Tryz.prog 29 #[.string s] w fun e w' => e = .returned (.bool (fnOk s.data.toList)) ∧ w' = w := by
  obtain ⟨R, hR⟩ : ∃ R, fnOk s.data.toList = R := ⟨_, rfl⟩
  rw [hR]
  have HR := bx hR
  have H0 : Bx (∀ j (hj : j < s.size), j < 0 → ¬ s[j] = 0) := bx (fun j hj h => by omega)
  clear hR
  go_enter Tryz.func29, Tryz.ntmps29
  go_wp2
  go_loop [3] (fun i => ∃ k : Nat, k ≤ s.size ∧ i = .int .i64 (k : Int) ∧ Bx (∀ j (hj : j < s.size), j < k → ¬ s[j] = 0)) (fun i => s.size - (intOf i).toNat)
  case atStart => exact ⟨0, by omega, rfl, H0⟩
  case round =>
    obtain ⟨k, hk, rfl, HG⟩ := hrel
    by_cases hks : k < s.size
    · have hkI : (k : Int) < (s.size : Int) := by omega
      have hk0 : (0 : Int) ≤ (k : Int) := by omega
      by_cases hz : s[k] = 0
      · have hb := beq_t (x := s[k]) (z := 0) (c := 0) rfl (by decide) hz
        have HF : Bx (R = false) := bx (by rw [← HR.out]; exact fnOk_no hks hz)
        clear hz
        go_wp2
        go_ret
        exact ⟨by rw [HF.out]; rfl, rfl⟩
      · have hb := beq_f (x := s[k]) (z := 0) (c := 0) rfl (by decide) hz
        have HN : Bx (∀ j (hj : j < s.size), j < k + 1 → ¬ s[j] = 0) := bx (fun j hj h => by
          by_cases e : j = k
          · subst e; exact hz
          · exact HG.out j hj (by omega))
        clear hz
        go_wp2
        go_round
        case rel => exact ⟨k + 1, by omega, by go_num, HN⟩
        case measure => simp [intOf]; omega
    · obtain rfl : k = s.size := by omega
      have HF : Bx (R = (decide (1 ≤ s.size) && decide (s.size ≤ 64))) := bx (by rw [← HR.out]; exact fnOk_all (fun j hj => HG.out j hj hj))
      have hkI : ¬ (s.size : Int) < (s.size : Int) := by omega
      by_cases h1 : 1 ≤ s.size
      · have h1I : (1 : Int) ≤ (s.size : Int) := by omega
        by_cases h2 : s.size ≤ 64
        · have h2I : (s.size : Int) ≤ 64 := by omega
          have HF2 : Bx (R = true) := bx (by rw [HF.out, decide_eq_true h1, decide_eq_true h2]; rfl)
          clear h1 h2
          go_wp2
          go_ret
          exact ⟨by rw [HF2.out]; rfl, rfl⟩
        · have h2I : ¬ (s.size : Int) ≤ 64 := by omega
          have HF2 : Bx (R = false) := bx (by rw [HF.out, decide_eq_false h2, Bool.and_false])
          clear h1 h2
          go_wp2
          go_ret
          exact ⟨by rw [HF2.out]; rfl, rfl⟩
      · have h1I : ¬ (1 : Int) ≤ (s.size : Int) := by omega
        have HF2 : Bx (R = false) := bx (by rw [HF.out, decide_eq_false h1, Bool.false_and])
        clear h1
        go_wp2
        go_ret
        exact ⟨by rw [HF2.out]; rfl, rfl⟩
/-- Where a name stands. -/
def fpos (L : List FEl) (nm : List UInt8) : Option Nat := L.findIdx? fun x => decide (x.1 = nm)
def posI : Option Nat → Int
  | none => -1
  | some k => (k : Int)
theorem fpos_none {L : List FEl} {nm : List UInt8} (h : ∀ (k : Nat) (x : FEl), L[k]? = some x → x.1 ≠ nm) : fpos L nm = none := by
  unfold fpos
  rw [List.findIdx?_eq_none_iff]
  intro x hx
  obtain ⟨k, hk⟩ := List.mem_iff_getElem?.1 hx
  exact decide_eq_false (h k x hk)
theorem fpos_some {L : List FEl} {nm : List UInt8} {k : Nat} {x : FEl} (hx : L[k]? = some x) (he : x.1 = nm) (h : ∀ (j : Nat) (y : FEl), j < k → L[j]? = some y → y.1 ≠ nm) : fpos L nm = some k := by
  unfold fpos
  obtain ⟨hk, hg⟩ := List.getElem?_eq_some_iff.1 hx
  rw [List.findIdx?_eq_some_iff_getElem]
  exact ⟨hk, by rw [hg]; exact decide_eq_true he, fun j hj => by
    have := h j L[j] hj (List.getElem?_eq_getElem (by omega))
    simpa using this⟩
theorem fpos_of {L : List FEl} {nm : List UInt8} {k : Nat} (h : fpos L nm = some k) : ∃ x, L[k]? = some x ∧ x.1 = nm ∧ L.find? (fun x => decide (x.1 = nm)) = some x := by
  unfold fpos at h
  rw [List.findIdx?_eq_some_iff_getElem] at h
  obtain ⟨hk, he, hj⟩ := h
  refine ⟨L[k], List.getElem?_eq_getElem hk, of_decide_eq_true he, ?_⟩
  rw [List.find?_eq_some_iff_getElem]
  exact ⟨he, k, hk, rfl, fun j hj2 => by simpa using hj j hj2⟩
theorem fpos_no {L : List FEl} {nm : List UInt8} (h : fpos L nm = none) : L.find? (fun x => decide (x.1 = nm)) = none := by
  unfold fpos at h
  rw [List.findIdx?_eq_none_iff] at h
  rw [List.find?_eq_none]
  intro x hx
  simpa using h x hx
section
variable {w : World} {M N : Nat → Prop} {bx : Nat} {F : FS} {vL vF : Value} {L : List FEl} {fl : List Nat}
theorem DfB.rows_none (h : DfB w M N bx F vL vF L fl) {nm : List UInt8} (hp : fpos L nm = none) : F.rows nm = none := by rw [← h.rows nm, fpos_no hp]; rfl
theorem DfB.rows_some (h : DfB w M N bx F vL vF L fl) {nm : List UInt8} {k : Nat} (hp : fpos L nm = some k) : ∃ x, L[k]? = some x ∧ x.1 = nm ∧ F.rows nm = some x.2.l := by
  obtain ⟨x, h1, h2, h3⟩ := fpos_of hp
  exact ⟨x, h1, h2, by rw [← h.rows nm, h3]; rfl⟩
theorem DfB.list (h : DfB w M N bx F vL vF L fl) : ∃ A c, vL = .slice A L.length c ∧ RS fiC w w.heap.size A L ∧ L.length ≤ c := h.lst.rd
end
set_option maxRecDepth 100000 in
set_option maxHeartbeats 2000000 in
theorem r8find_any (s : ByteArray) (w : World) (M N : Nat → Prop) (bx0 : Nat) (F : FS) (vL vF : Value) (L : List FEl) (fl : List Nat) (h : DfB w M N bx0 F vL vF L fl) :
    Calls Tryz.prog 30 #[.pointer (some ⟨bx0, 0, none⟩), .string s] w fun e w' => e = .returned (.int .i64 (posI (fpos L s.data.toList))) ∧ w' = w := by
  obtain ⟨A, c, rfl, hr, hc⟩ := h.list
  have hlt := h.lt
  have c0 : w.cell? ⟨bx0, 0, none⟩ = some (.slice A L.length c) := (h.box.cell 0).trans rfl
  have hn16 : L.length ≤ 16 := by rw [h.cnt]; exact h.small.1
  obtain ⟨n, hn⟩ : ∃ n, L.length = n := ⟨_, rfl⟩
  rw [hn] at c0 hn16
  have HN := bx hn
  have HR := bx hr
  obtain ⟨R, hR⟩ : ∃ R, fpos L s.data.toList = R := ⟨_, rfl⟩
  rw [hR]
  have HFR := bx hR
  have H0 : Bx (∀ j y, j < 0 → L[j]? = some y → y.1 ≠ s.data.toList) := bx (fun j y hj => by omega)
  clear h hr hc hn hR
  go_enter Tryz.func30, Tryz.ntmps30
  go_wp2
  go_loop [5] (fun i => ∃ k : Nat, k ≤ n ∧ i = .int .i64 (k : Int) ∧ Bx (∀ j y, j < k → L[j]? = some y → y.1 ≠ s.data.toList)) (fun i => n - (intOf i).toNat)
  case atStart => exact ⟨0, by omega, rfl, H0⟩
  case round =>
    obtain ⟨k, hk, rfl, HG⟩ := hrel
    by_cases hkn : k < n
    · have hkI : (k : Int) < (n : Int) := by omega
      have hk0 : (0 : Int) ≤ (k : Int) := by omega
      obtain ⟨ad, x, rfl, _, hx, hc0, _⟩ := HR.out.at_ fiCels (k := k) (by rw [HN.out]; exact hkn)
      rename_i hq1 hq2
      clear hq1 hq2
      obtain ⟨sn, hsn⟩ : ∃ s : ByteArray, (⟨x.1.toArray⟩ : ByteArray) = s := ⟨_, rfl⟩
      have k0 := hc0 (.string sn) (by rw [← hsn]; rfl)
      have HSL : Bx (sn.data.toList = x.1) := bx (by rw [← hsn])
      have HX := bx hx.out
      clear hc0 hsn hx
      by_cases hnm : x.1 = s.data.toList
      · have hst : (sn.toList == s.toList) = true := tl_same (by rw [HSL.out]; exact hnm)
        have HF : Bx (R = some k) := bx (by rw [← HFR.out]; exact fpos_some HX.out hnm HG.out)
        clear hnm
        go_wp2
        go_ret
        exact ⟨by rw [HF.out]; rfl, rfl⟩
      · have hst : (sn.toList == s.toList) = false := tl_diff (fun e => hnm (by rw [← HSL.out]; exact e))
        have HN2 : Bx (∀ j y, j < k + 1 → L[j]? = some y → y.1 ≠ s.data.toList) := bx (fun j y hj hy => by
          by_cases e : j = k
          · subst e
            rw [HX.out] at hy
            injection hy with hy
            rw [← hy]; exact hnm
          · exact HG.out j y (by omega) hy)
        clear hnm
        go_wp2
        go_round
        case rel => exact ⟨k + 1, by omega, by go_num, HN2⟩
        case measure => simp [intOf]; omega
    · obtain rfl : k = n := by omega
      have hkI : ¬ (k : Int) < (k : Int) := by omega
      have HF : Bx (R = none) := bx (by rw [← HFR.out]; exact fpos_none (fun j y hy => HG.out j y (by
        have := (List.getElem?_eq_some_iff.1 hy).1
        rw [HN.out] at this; exact this) hy))
      go_wp2
      go_ret
      exact ⟨by rw [HF.out]; rfl, rfl⟩
set_option maxRecDepth 100000 in
set_option maxHeartbeats 2000000 in
theorem r8size_any (s : ByteArray) (w : World) (M N : Nat → Prop) (bx0 : Nat) (F : FS) (h : DfM w M N bx0 F) :
    Calls Tryz.prog 43 #[.pointer (some ⟨bx0, 0, none⟩), .string s] w fun e w' => e = .returned (match F.rows s.data.toList with
      | none => .tuple #[.int .i64 0, .int .i64 21]
      | some b => .tuple #[.int .i64 (b.length : Int), .int .i64 0]) ∧ w' = w := by
  obtain ⟨vL, vF, L, fl, h⟩ := h
  have HFD := bx (r8find_any s w M N bx0 F vL vF L fl h)
  obtain ⟨A, c, rfl, hr, hc⟩ := h.list
  have hlt := h.lt
  have c0 : w.cell? ⟨bx0, 0, none⟩ = some (.slice A L.length c) := (h.box.cell 0).trans rfl
  cases hp : fpos L s.data.toList with
  | none =>
    rw [h.rows_none hp]
    rw [hp] at HFD
    clear h hr hc hp
    go_enter Tryz.func43, Tryz.ntmps43
    go_wp2_with fail
    refine HFD.out.mono ?_
    rintro e w1 ⟨rfl, hw⟩
    obtain rfl : w = w1 := hw.symm
    have hm1 : posI none = -1 := rfl
    rw [hm1]
    go_wp2
    go_ret2
    exact ⟨rfl, rfl⟩
  | some k =>
    obtain ⟨x, hx, he, hrw⟩ := h.rows_some hp
    rw [hrw]
    dsimp only
    rw [hp] at HFD
    have hkl : k < L.length := (List.getElem?_eq_some_iff.1 hx).1
    obtain ⟨ad, y, rfl, _, hy, _, hcs⟩ := hr.at_ fiCels hkl
    have hxy : y = x := by have := hy.out; rw [hx] at this; injection this with this; exact this.symm
    subst hxy
    have k1 := hcs 0 (.slice y.2.A y.2.n y.2.c) rfl
    rw [Nat.zero_add] at k1
    have hln : y.2.l.length = y.2.n := (h.std y (List.mem_of_getElem? hx)).1.1
    rw [hln]
    obtain ⟨n, hn⟩ : ∃ n, L.length = n := ⟨_, rfl⟩
    rw [hn] at c0 hkl
    have hn16 : n ≤ 16 := by rw [← hn, h.cnt]; exact h.small.1
    have hkI : (k : Int) < (n : Int) := by omega
    have hk0 : (0 : Int) ≤ (k : Int) := by omega
    obtain ⟨yA, yn, yc, hyy⟩ : ∃ yA yn yc, y.2.A = yA ∧ y.2.n = yn ∧ y.2.c = yc := ⟨_, _, _, rfl, rfl, rfl⟩
    rw [hyy.1, hyy.2.1, hyy.2.2] at k1
    rw [hyy.2.1]
    clear h hr hc hp hcs hy hx he hrw hln hn hyy
    go_enter Tryz.func43, Tryz.ntmps43
    go_wp2_with fail
    refine HFD.out.mono ?_
    rintro e w1 ⟨rfl, hw⟩
    obtain rfl : w = w1 := hw.symm
    have hm1 : posI (some k) = (k : Int) := rfl
    rw [hm1]
    go_wp2
    go_ret2
    exact ⟨rfl, rfl⟩
end Go.Proofs.YtlmcpkomjofcgaaGreatDoor
