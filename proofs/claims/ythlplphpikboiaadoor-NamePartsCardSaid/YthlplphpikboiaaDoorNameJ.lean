/- name.Text, samovarref13.Text: what they answer. -/
import Derived.Test.YthlplphpikboiaaDoorNameI
import Derived.Test.YthlplphpikboiaaDoorNameU
import Derived.Test.YthlplphpikboiaaDoorBytes
namespace Go.Proofs.YthlplphpikboiaaDoor
open Go.RowKit
theorem u8_info : (Tryd.prog.info? 5).map (fun i => (i.zero, i.size, i.bytes)) = some (some (.int .u8 0), 1, 1) := by kernel_rfl
theorem byteTy : ETy Tryd.prog 47 5 (.int .u8 0) 1 1 := ⟨Tryd.underlying47, info_parts u8_info, rfl, by decide⟩
theorem take_units {l : List UInt16} {k : Nat} {x : UInt16} (h : l[k]? = some x) : textB (l.take (k + 1)) = textB (l.take k) ++ unitB x := by
  rw [List.take_add_one, h]; exact textB_snoc _ _
set_option maxRecDepth 100000 in
set_option maxHeartbeats 2000000 in
theorem text_any (A0 : Option Addr) (n0 c0 : Nat) (l0 : List UInt16) (w : World) (e0 : l0.length = n0) (b0 : n0 ≤ 1000000) (r0 : RL uV w w.heap.size A0 l0)  :
    Calls Tryd.prog 23 #[.slice A0 n0 c0] w fun e w' => e = .returned (.string ⟨(textB l0).toArray⟩) ∧ Below w.heap.size w w' := by
  have E0 := Lib.hid e0
  clear e0
  go_enter Tryd.func23, Tryd.ntmps23
  go_wp2
  go_loopw [3, 8] (fun v i wr => ∃ (k : Nat) (bs : List UInt8), k ≤ n0 ∧ i = .int .i64 (k : Int) ∧ Hid (bs = textB (l0.take k)) ∧ bs.length ≤ 3 * k ∧ OwB wr w.heap.size 5 v bs ∧ Below w.heap.size w wr) (fun _ i _ => n0 - (intOf i).toNat)
  case atStart => exact ⟨0, [], by omega, rfl, Lib.hid (by simp [textB]), by simp, OwL.nil, Below.refl _ _⟩
  case round =>
    obtain ⟨k, bs, hk, rfl, hgo, hbs, hown, hbel⟩ := hrel
    have hbz := hbel.size
    by_cases hk0 : k < n0
    · obtain ⟨ad0, x0, rfl, hl0, hx0, hc0⟩ := (r0.below hbel (Nat.le_refl _)).atl (k := k) (by rw [E0.out]; exact hk0)
      unfold uV at hc0
      have b1 : (x0.toNat : Int) < 65536 := by have := x0.toNat_lt; omega
      have b0 : (0 : Int) ≤ (x0.toNat : Int) := by omega
      obtain ⟨v, hv⟩ : ∃ v, (x0.toNat : Int) = v := ⟨_, rfl⟩
      rw [hv] at hc0 b0 b1
      have HV := Lib.hid hv
      clear hv
      by_cases h1 : 0 < v ∧ v < 128
      · obtain ⟨h1, h2⟩ := h1
        go_wp2_with (at_builtin; refine wpList_appL _ bV_one rfl (.tmp 35) (.tmp 38) rfl byteTy (by decide) w.heap.size _ bs rfl (hown.alloc _) _ _ 1 1 [UInt8.ofNat v.toNat] rfl rfl (RL.freshe _ _ ?c0 _) ?c1 ?c2 ?_)
        case c0 => exact bV_of b0 (by omega)
        case c1 => simp; omega
        case c2 => simp; omega
        intro v2 w2 own2 _ _ hb2
        have hb2' := (bl_alloc hbel (Nat.le_refl _) (.cells #[.int .u8 v] 5)).trans hb2
        go_wp2
        go_roundw
        case rel => exact ⟨k + 1, _, by omega, by go_num, Lib.hid (by rw [hgo.out, take_units hx0.out, unitB_one HV.out h1 h2]), by simp; omega, own2, hb2'⟩
        case measure => simp [intOf]; omega
      · by_cases h2 : v < 2048
        · rcases (show v = 0 ∨ 128 ≤ v by omega) with h3 | h3
          · subst h3
            clear h1 h2 b0 b1
            go_wp2_with (at_builtin; refine wpList_appL _ bV_one rfl (.tmp 43) (.tmp 52) rfl byteTy (by decide) w.heap.size _ bs rfl (hown.alloc _) _ _ 2 2 [192, 128] rfl rfl (RL.news _ _ _ rfl _ _) ?c1 ?c2 ?_)
            case c1 => simp; omega
            case c2 => simp; omega
            intro v2 w2 own2 _ _ hb2
            have hb2' := (bl_alloc hbel (Nat.le_refl _) _).trans hb2
            go_wp2
            go_roundw
            case rel => exact ⟨k + 1, _, by omega, by go_num, Lib.hid (by rw [hgo.out, take_units hx0.out, unitB_two HV.out (.inl rfl) (by decide)]; rfl), by simp; omega, own2, hb2'⟩
            case measure => simp [intOf]; omega
          · clear h1
            have hlow := Lib.hid (low_byte b0 b1)
            go_wp2_with (at_builtin; refine wpList_appL _ bV_one rfl (.tmp 43) (.tmp 52) rfl byteTy (by decide) w.heap.size _ bs rfl (hown.alloc _) _ _ 2 2 [UInt8.ofNat (192 + v / 64).toNat, UInt8.ofNat (128 + v % 64).toNat] rfl rfl (RL.news _ _ _ ?c0 _ _) ?c1 ?c2 ?_)
            case c0 => rw [hlow.out, bV_of (v := 192 + v / 64) (by omega) (by omega), bV_of (v := 128 + v % 64) (by omega) (by omega)]; exact ⟨rfl, rfl⟩
            case c1 => simp; omega
            case c2 => simp; omega
            intro v2 w2 own2 _ _ hb2
            have hb2' := (bl_alloc hbel (Nat.le_refl _) _).trans hb2
            go_wp2
            go_roundw
            case rel => exact ⟨k + 1, _, by omega, by go_num, Lib.hid (by rw [hgo.out, take_units hx0.out, unitB_two HV.out (.inr h3) h2]), by simp; omega, own2, hb2'⟩
            case measure => simp [intOf]; omega
        · have h3 : 2048 ≤ v := by omega
          clear h1
          have hlow := Lib.hid (low_byte b0 b1)
          have hmid := Lib.hid (low_byte (v := v / 64) (by omega) (by omega))
          go_wp2_with (at_builtin; refine wpList_appL _ bV_one rfl (.tmp 12) (.tmp 26) rfl byteTy (by decide) w.heap.size _ bs rfl (hown.alloc _) _ _ 3 3 [UInt8.ofNat (224 + v / 4096).toNat, UInt8.ofNat (128 + v / 64 % 64).toNat, UInt8.ofNat (128 + v % 64).toNat] rfl rfl (RL.news _ _ _ ?c0 _ _) ?c1 ?c2 ?_)
          case c0 => rw [hlow.out, hmid.out, bV_of (v := 224 + v / 4096) (by omega) (by omega), bV_of (v := 128 + v / 64 % 64) (by omega) (by omega), bV_of (v := 128 + v % 64) (by omega) (by omega)]; exact ⟨rfl, rfl, rfl⟩
          case c1 => omega
          case c2 => omega
          intro v2 w2 own2 _ _ hb2
          have hb2' := (bl_alloc hbel (Nat.le_refl _) _).trans hb2
          go_wp2
          go_roundw
          case rel => exact ⟨k + 1, _, by omega, by go_num, Lib.hid (by rw [hgo.out, take_units hx0.out, unitB_three HV.out h3]), by simp; omega, own2, hb2'⟩
          case measure => simp [intOf]; omega
    · obtain rfl : k = n0 := by omega
      obtain ⟨A, c, rfl, hr, hc1, hc2⟩ := hown.rd
      have kc := run_conv_str (P := Tryd.prog) (n := bs.length) (c := c) Tryd.underlying47 Tryd.underlying5 Tryd.underlying9 rfl hr
      have hfin := Lib.hid (show bs = textB l0 by rw [hgo.out, ← E0.out, List.take_length])
      go_wp2
      go_ret
      exact ⟨ret_v (by rw [hfin.out]; rfl), hbel⟩
set_option maxRecDepth 100000 in
set_option maxHeartbeats 2000000 in
theorem refText_any (A0 : Option Addr) (n0 c0 : Nat) (l0 : List UInt16) (w : World) (e0 : l0.length = n0) (b0 : n0 ≤ 1000000) (r0 : RL uV w w.heap.size A0 l0)  :
    Calls Tryd.prog 24 #[.slice A0 n0 c0] w fun e w' => e = .returned (.string ⟨(textB l0).toArray⟩) ∧ Below w.heap.size w w' := by
  have E0 := Lib.hid e0
  clear e0
  go_enter Tryd.func24, Tryd.ntmps24
  go_wp2
  go_loopw [3, 4] (fun v i wr => ∃ (k : Nat) (bs : List UInt8), k ≤ n0 ∧ i = .int .i64 (k : Int) ∧ Hid (bs = textB (l0.take k)) ∧ bs.length ≤ 3 * k ∧ OwB wr w.heap.size 5 v bs ∧ Below w.heap.size w wr) (fun _ i _ => n0 - (intOf i).toNat)
  case atStart => exact ⟨0, [], by omega, rfl, Lib.hid (by simp [textB]), by simp, OwL.nil, Below.refl _ _⟩
  case round =>
    obtain ⟨k, bs, hk, rfl, hgo, hbs, hown, hbel⟩ := hrel
    have hbz := hbel.size
    by_cases hk0 : k < n0
    · obtain ⟨ad0, x0, rfl, hl0, hx0, hc0⟩ := (r0.below hbel (Nat.le_refl _)).atl (k := k) (by rw [E0.out]; exact hk0)
      unfold uV at hc0
      have b1 : (x0.toNat : Int) < 65536 := by have := x0.toNat_lt; omega
      have b0 : (0 : Int) ≤ (x0.toNat : Int) := by omega
      obtain ⟨v, hv⟩ : ∃ v, (x0.toNat : Int) = v := ⟨_, rfl⟩
      rw [hv] at hc0 b0 b1
      have HV := Lib.hid hv
      clear hv
      by_cases h1 : 0 < v ∧ v < 128
      · obtain ⟨h1, h2⟩ := h1
        go_wp2_with (at_builtin; refine wpList_appL _ bV_one rfl (.tmp 23) (.tmp 26) rfl byteTy (by decide) w.heap.size _ bs rfl (hown.alloc _) _ _ 1 1 [UInt8.ofNat v.toNat] rfl rfl (RL.freshe _ _ ?c0 _) ?c1 ?c2 ?_)
        case c0 => exact bV_of b0 (by omega)
        case c1 => simp; omega
        case c2 => simp; omega
        intro v2 w2 own2 _ _ hb2
        have hb2' := (bl_alloc hbel (Nat.le_refl _) (.cells #[.int .u8 v] 5)).trans hb2
        go_wp2
        go_roundw
        case rel => exact ⟨k + 1, _, by omega, by go_num, Lib.hid (by rw [hgo.out, take_units hx0.out, unitB_one HV.out h1 h2]), by simp; omega, own2, hb2'⟩
        case measure => simp [intOf]; omega
      · by_cases h2 : v < 2048
        · rcases (show v = 0 ∨ 128 ≤ v by omega) with h3 | h3
          · subst h3
            clear h1 h2 b0 b1
            go_wp2_with (at_builtin; refine wpList_appL _ bV_one rfl (.tmp 30) (.tmp 39) rfl byteTy (by decide) w.heap.size _ bs rfl (hown.alloc _) _ _ 2 2 [192, 128] rfl rfl (RL.news _ _ _ rfl _ _) ?c1 ?c2 ?_)
            case c1 => simp; omega
            case c2 => simp; omega
            intro v2 w2 own2 _ _ hb2
            have hb2' := (bl_alloc hbel (Nat.le_refl _) _).trans hb2
            go_wp2
            go_roundw
            case rel => exact ⟨k + 1, _, by omega, by go_num, Lib.hid (by rw [hgo.out, take_units hx0.out, unitB_two HV.out (.inl rfl) (by decide)]; rfl), by simp; omega, own2, hb2'⟩
            case measure => simp [intOf]; omega
          · clear h1
            have hlow := Lib.hid (low_byte b0 b1)
            go_wp2_with (at_builtin; refine wpList_appL _ bV_one rfl (.tmp 30) (.tmp 39) rfl byteTy (by decide) w.heap.size _ bs rfl (hown.alloc _) _ _ 2 2 [UInt8.ofNat (192 + v / 64).toNat, UInt8.ofNat (128 + v % 64).toNat] rfl rfl (RL.news _ _ _ ?c0 _ _) ?c1 ?c2 ?_)
            case c0 => rw [ bV_of (v := 192 + v / 64) (by omega) (by omega), bV_of (v := 128 + v % 64) (by omega) (by omega)]; exact ⟨rfl, rfl⟩
            case c1 => simp; omega
            case c2 => simp; omega
            intro v2 w2 own2 _ _ hb2
            have hb2' := (bl_alloc hbel (Nat.le_refl _) _).trans hb2
            go_wp2
            go_roundw
            case rel => exact ⟨k + 1, _, by omega, by go_num, Lib.hid (by rw [hgo.out, take_units hx0.out, unitB_two HV.out (.inr h3) h2]), by simp; omega, own2, hb2'⟩
            case measure => simp [intOf]; omega
        · have h3 : 2048 ≤ v := by omega
          clear h1
          have hlow := Lib.hid (low_byte b0 b1)
          have hmid := Lib.hid (low_byte (v := v / 64) (by omega) (by omega))
          go_wp2_with (at_builtin; refine wpList_appL _ bV_one rfl (.tmp 41) (.tmp 55) rfl byteTy (by decide) w.heap.size _ bs rfl (hown.alloc _) _ _ 3 3 [UInt8.ofNat (224 + v / 4096).toNat, UInt8.ofNat (128 + v / 64 % 64).toNat, UInt8.ofNat (128 + v % 64).toNat] rfl rfl (RL.news _ _ _ ?c0 _ _) ?c1 ?c2 ?_)
          case c0 => rw [ bV_of (v := 224 + v / 4096) (by omega) (by omega), bV_of (v := 128 + v / 64 % 64) (by omega) (by omega), bV_of (v := 128 + v % 64) (by omega) (by omega)]; exact ⟨rfl, rfl, rfl⟩
          case c1 => omega
          case c2 => omega
          intro v2 w2 own2 _ _ hb2
          have hb2' := (bl_alloc hbel (Nat.le_refl _) _).trans hb2
          go_wp2
          go_roundw
          case rel => exact ⟨k + 1, _, by omega, by go_num, Lib.hid (by rw [hgo.out, take_units hx0.out, unitB_three HV.out h3]), by simp; omega, own2, hb2'⟩
          case measure => simp [intOf]; omega
    · obtain rfl : k = n0 := by omega
      obtain ⟨A, c, rfl, hr, hc1, hc2⟩ := hown.rd
      have kc := run_conv_str (P := Tryd.prog) (n := bs.length) (c := c) Tryd.underlying47 Tryd.underlying5 Tryd.underlying9 rfl hr
      have hfin := Lib.hid (show bs = textB l0 by rw [hgo.out, ← E0.out, List.take_length])
      go_wp2
      go_ret
      exact ⟨ret_v (by rw [hfin.out]; rfl), hbel⟩
end Go.Proofs.YthlplphpikboiaaDoor
