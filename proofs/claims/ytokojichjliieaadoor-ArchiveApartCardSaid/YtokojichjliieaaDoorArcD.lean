/- Contract: samovarref09.Name. -/
import Derived.Test.YtokojichjliieaaDoorArcC
namespace Go.Proofs.YtokojichjliieaaDoor
open Go.RowKit

theorem ext_one (q s : ByteArray) (k : Nat) (h : k < s.size) : (q ++ s.extract k (k + 1)).data.toList = q.data.toList ++ [s[k]] := by
  rw [ByteArray.data_append, Array.toList_append, ByteArray.data_extract, Array.toList_extract, List.extract_eq_take_drop, List.drop_eq_getElem_cons (by exact h)]
  simp; rfl
theorem neq_t {x : UInt8} {z : Int} {c : Nat} (hz : z = (c : Int)) (hc : c < 256) (h : ¬ x = UInt8.ofNat c) : ((x.toNat : Int) != z) = true := by
  rw [bne_iff_ne]
  intro e
  apply h
  apply UInt8.toNat_inj.1
  have : (UInt8.ofNat c).toNat = c := by simp [UInt8.toNat_ofNat']; omega
  omega
theorem neq_f {x : UInt8} {z : Int} {c : Nat} (hz : z = (c : Int)) (hc : c < 256) (h : x = UInt8.ofNat c) : ((x.toNat : Int) != z) = false := by
  have : (UInt8.ofNat c).toNat = c := by simp [UInt8.toNat_ofNat']; omega
  rw [bne_eq_false_iff_eq, h, this, hz]
theorem beq_t {x : UInt8} {z : Int} {c : Nat} (hz : z = (c : Int)) (hc : c < 256) (h : x = UInt8.ofNat c) : ((x.toNat : Int) == z) = true := by
  have : (UInt8.ofNat c).toNat = c := by simp [UInt8.toNat_ofNat']; omega
  rw [beq_iff_eq, h, this, hz]
theorem beq_f {x : UInt8} {z : Int} {c : Nat} (hz : z = (c : Int)) (hc : c < 256) (h : ¬ x = UInt8.ofNat c) : ((x.toNat : Int) == z) = false := by
  have := neq_t hz hc h
  rw [bne_iff_ne] at this
  rw [beq_eq_false_iff_ne]; exact this
/-- What is still to be answered at sign k, the part being q. -/
def NmR (R : Bool) (l q : List UInt8) (k : Nat) : Prop := (k ≤ l.length ∧ R = nmF q (l.drop k)) ∨ (k = l.length + 1 ∧ R = true)
set_option maxHeartbeats 2000000 in
theorem rname_any (s : ByteArray) (w : World) (hs : s.size ≤ 140737488351232) :
    Calls Tryd.prog 18 #[.string s] w fun e w' => e = .returned (.bool (nameA s.data.toList)) ∧ Below w.heap.size w w' := by
  rw [nameA_nmF]
  by_cases he : s.data.toList = []
  · have h2 := size_zero he
    rw [he]
    clear he
    go_enter Tryd.func18, Tryd.ntmps18
    go_wp2
    go_ret
    exact ⟨rfl, Below.refl _ _⟩
  have hem : s.data.toList.isEmpty = false := by rw [List.isEmpty_eq_false_iff]; exact he
  have h0 := size_pos he
  rw [hem]
  by_cases hl : 64 < s.size
  · have hd : decide (s.data.toList.length ≤ 64) = false := by rw [size_len]; simp; omega
    rw [hd]
    clear he hem hd
    go_enter Tryd.func18, Tryd.ntmps18
    go_wp2
    go_ret
    exact ⟨rfl, Below.refl _ _⟩
  have hd : decide (s.data.toList.length ≤ 64) = true := by rw [size_len]; simp; omega
  rw [hd]
  obtain ⟨R, hR⟩ : ∃ R, nmF [] s.data.toList = R := ⟨_, rfl⟩
  rw [hR]
  have HF : Bx (R = true → ¬ s[0] = 47) := bx (fun h => by
    rw [← hR, show s.data.toList = s[0] :: s.data.toList.drop 1 by
      exact List.drop_eq_getElem_cons (l := s.data.toList) (i := 0) h0] at h
    exact nmF_first h)
  have HR0 : Bx (NmR R s.data.toList [] 0) := bx (.inl ⟨by omega, by rw [← hR]; rfl⟩)
  have hl1 : ¬ (s.size : Int) < 1 := by omega
  have hl2 : ¬ (64 : Int) < (s.size : Int) := by omega
  clear he hem hd hR
  go_enter Tryd.func18, Tryd.ntmps18
  go_wp2
  go_loop [3, 4] (fun v i => ∃ (k : Nat) (q : ByteArray), k ≤ s.size + 1 ∧ q.size ≤ k ∧ i = .int .i64 (k : Int) ∧ v = .string q ∧ Bx (NmR R s.data.toList q.data.toList k)) (fun _ i => s.size + 1 - (intOf i).toNat)
  case atStart => exact ⟨0, ⟨#[]⟩, by omega, by decide, rfl, rfl, HR0⟩
  case round =>
    obtain ⟨k, q, hk, hqk, rfl, rfl, HN⟩ := hrel
    by_cases hk1 : k = s.size + 1
    · have HRT : Bx (R = true) := bx (by
        rcases HN.out with ⟨h, _⟩ | ⟨_, h⟩
        · rw [size_len] at h; omega
        · exact h)
      have hb := neq_t (x := s[0]) (z := 47) (c := 47) rfl (by decide) (HF.out HRT.out)
      have hkk : ¬ (k : Int) ≤ (s.size : Int) := by omega
      clear hk1 HN HF
      go_wp2
      go_ret
      exact ⟨ret_bool (by rw [HRT.out]), Below.refl _ _⟩
    have hkk : (k : Int) ≤ (s.size : Int) := by omega
    have HRE : Bx (R = nmF q.data.toList (s.data.toList.drop k)) := bx (by
      rcases HN.out with ⟨_, h⟩ | ⟨h, _⟩
      · exact h
      · rw [size_len] at h; omega)
    have fail : R = false → Bx (Ending.returned (.bool false) = Ending.returned (.bool (!false && true && R))) := fun h => bx (by rw [h]; rfl)
    clear HN
    by_cases hks : k < s.size
    · have hdr : s.data.toList.drop k = s[k] :: s.data.toList.drop (k + 1) := List.drop_eq_getElem_cons (l := s.data.toList) (i := k) hks
      have hre := HRE.out
      rw [hdr, nmF] at hre
      have hks' : (k : Int) < (s.size : Int) := by omega
      by_cases hc : s[k] = 47
      · have d1 := neq_f (x := s[k]) (z := 47) (c := 47) rfl (by decide) hc
        rw [if_pos hc] at hre
        by_cases e1 : q.data.toList = [46]
        · have HX := fail (by rw [hre, e1]; rfl)
          have t1 := tl_eq e1
          clear fail hre hc hdr e1
          go_wp2
          go_ret
          exact ⟨HX.out, Below.refl _ _⟩
        have t1 := tl_ne e1
        by_cases e2 : q.data.toList = [46, 46]
        · have HX := fail (by rw [hre, e2]; rfl)
          have t2 := tl_eq e2
          clear fail hre hc hdr e1 e2
          go_wp2
          go_ret
          exact ⟨HX.out, Below.refl _ _⟩
        have t2 := tl_ne e2
        by_cases e3 : q.data.toList = []
        · have HX := fail (by rw [hre, e3]; simp)
          have t3 := tl_none e3
          clear fail hre hc hdr e1 e2 e3
          go_wp2
          go_ret
          exact ⟨HX.out, Below.refl _ _⟩
        · have t3 := tl_some e3
          have HX : Bx (NmR R s.data.toList [] (k + 1)) := bx (.inl ⟨by rw [size_len]; omega, by
            rw [hre]; unfold partOk
            rw [show (q.data.toList == [46]) = false by simpa using e1, show (q.data.toList == [46, 46]) = false by simpa using e2, show q.data.toList.isEmpty = false by rw [List.isEmpty_eq_false_iff]; exact e3]; rfl⟩)
          clear fail hre hc hdr e1 e2 e3
          go_wp2
          go_round
          case rel => exact ⟨k + 1, ⟨#[]⟩, by omega, Nat.zero_le _, by go_num, rfl, HX⟩
          case measure => simp [intOf]; omega
      · have d1 := neq_t (x := s[k]) (z := 47) (c := 47) rfl (by decide) hc
        rw [if_neg hc] at hre
        by_cases e0 : s[k] = 0
        · have d2 := beq_t (x := s[k]) (z := 0) (c := 0) rfl (by decide) e0
          have HX := fail (by rw [hre, if_pos (.inl e0)])
          clear fail hre hc hdr e0
          go_wp2
          go_ret
          exact ⟨HX.out, Below.refl _ _⟩
        have d2 := beq_f (x := s[k]) (z := 0) (c := 0) rfl (by decide) e0
        by_cases e9 : s[k] = 92
        · have d3 := beq_t (x := s[k]) (z := 92) (c := 92) rfl (by decide) e9
          have HX := fail (by rw [hre, if_pos (.inr e9)])
          clear fail hre hc hdr e0 e9
          go_wp2
          go_ret
          exact ⟨HX.out, Below.refl _ _⟩
        have d3 := beq_f (x := s[k]) (z := 92) (c := 92) rfl (by decide) e9
        rw [if_neg (by rintro (h | h); exact e0 h; exact e9 h)] at hre
        have HX : Bx (NmR R s.data.toList (q ++ s.extract k (k + 1)).data.toList (k + 1)) := bx (.inl ⟨by rw [size_len]; omega, by rw [hre, ext_one q s k hks]⟩)
        have HSZ : Bx ((q ++ s.extract k (k + 1)).size ≤ k + 1) := bx (by rw [ByteArray.size_append, ByteArray.size_extract]; omega)
        clear fail hre hc hdr e0 e9
        go_wp2
        go_round
        case rel => exact ⟨k + 1, _, by omega, HSZ.out, by go_num, rfl, HX⟩
        case measure => simp [intOf]; omega
    · have hkn : k = s.size := by omega
      have hre := HRE.out
      rw [List.drop_eq_nil_of_le (by rw [size_len]; omega), nmF] at hre
      have hks' : ¬ (k : Int) < (s.size : Int) := by omega
      have hk0 : ((k : Int) == 0) = false := by rw [beq_eq_false_iff_ne]; omega
      by_cases e1 : q.data.toList = [46]
      · have HX := fail (by rw [hre, e1]; rfl)
        have t1 := tl_eq e1
        clear fail hre e1 hkn
        go_wp2
        go_ret
        exact ⟨HX.out, Below.refl _ _⟩
      have t1 := tl_ne e1
      by_cases e2 : q.data.toList = [46, 46]
      · have HX := fail (by rw [hre, e2]; rfl)
        have t2 := tl_eq e2
        clear fail hre e1 e2 hkn
        go_wp2
        go_ret
        exact ⟨HX.out, Below.refl _ _⟩
      have t2 := tl_ne e2
      have HX : Bx (NmR R s.data.toList [] (k + 1)) := bx (.inr ⟨by rw [size_len, hkn], by
        rw [hre]; unfold partOk
        rw [show (q.data.toList == [46]) = false by simpa using e1, show (q.data.toList == [46, 46]) = false by simpa using e2]; rfl⟩)
      by_cases e3 : q.data.toList = []
      · have t3 := tl_none e3
        clear fail hre e1 e2 e3 hkn
        go_wp2
        go_round
        case rel => exact ⟨k + 1, ⟨#[]⟩, by omega, Nat.zero_le _, by go_num, rfl, HX⟩
        case measure => simp [intOf]; omega
      · have t3 := tl_some e3
        clear fail hre e1 e2 e3 hkn
        go_wp2
        go_round
        case rel => exact ⟨k + 1, ⟨#[]⟩, by omega, Nat.zero_le _, by go_num, rfl, HX⟩
        case measure => simp [intOf]; omega
end Go.Proofs.YtokojichjliieaaDoor
