/- name.Units: what it answers. Contract: samovarref13.Text. Plain facts: a unit's bytes are the bytes that it is read from. samovarref13.Units: what it answers. -/
import Derived.Test.YtdioijhmmmnbgaaPi1
import Derived.Test.YtdioijhmmmnbgaaPi2
import Derived.Test.YtdioijhmmmnbgaaPi3
import Derived.Deep.RegionHeld3
namespace Go.Proofs.Ytdioijhmmmnbgaa
open Go.RowKit
theorem u16_info : (Try.prog.info? 39).map (fun i => (i.zero, i.size, i.bytes)) = some (some (.int .u16 0), 1, 2) := by kernel_rfl
theorem unitTy : ETy Try.prog 95 39 (.int .u16 0) 1 2 := ⟨Try.underlying95, info_parts u16_info, rfl, by decide⟩
/-- What Units answers: the units, the error's number; new memory alone. -/
def UnitsPost (l : List UInt8) (w : World) (e : Ending) (w' : World) : Prop :=
  ∃ A n c, e = .returned (.tuple #[.slice A n c, .int .i64 (unitsV l).2]) ∧ (unitsV l).1.length = n ∧ RL uV w' w'.heap.size A (unitsV l).1 ∧ Below w.heap.size w w'
theorem unitsPost_no {l : List UInt8} {w w' : World} (h : unitsB l = none) (hb : Below w.heap.size w w') : UnitsPost l w (.returned (.tuple #[.slice none 0 0, .int .i64 23])) w' := by
  unfold UnitsPost; rw [unitsV_no h]
  exact ⟨none, 0, 0, rfl, rfl, RL.nil, hb⟩
theorem unitsPost_yes {l : List UInt8} {w w' : World} {us : List UInt16} {A : Option Addr} {n c : Nat} (h : unitsB l = some us) (hn : us.length = n) (hr : RL uV w' w'.heap.size A us) (hb : Below w.heap.size w w') :
    UnitsPost l w (.returned (.tuple #[.slice A n c, .int .i64 0])) w' := by
  unfold UnitsPost; rw [unitsV_yes h]
  exact ⟨A, n, c, rfl, hn, hr, hb⟩
theorem byteNone {s : ByteArray} {k : Nat} (h : ¬ k < s.size) : s.data.toList[k]? = none := List.getElem?_eq_none (by rw [size_len]; omega)
theorem uV_of {v : Nat} {x : Int} (h : (v : Int) = x) (h1 : v < 65536) : Value.int .u16 x = uV (UInt16.ofNat v) := by unfold uV; rw [uVnat h1, h]

set_option maxRecDepth 100000 in
set_option maxHeartbeats 4000000 in
theorem units_post (s : ByteArray) (w : World) (hs : s.size ≤ 2000000) :
    Calls Try.prog 61 #[.string s] w (UnitsPost s.data.toList w) := by
  go_enter Try.func61, Try.ntmps61
  go_wp2
  go_loopw [4, 5] (fun v i wr => ∃ (k f : Nat) (us : List UInt16), k ≤ s.size ∧ s.size ≤ f + k ∧ i = .int .i64 (k : Int) ∧ us.length ≤ k ∧ OwL uV wr w.heap.size 39 v us ∧ Below w.heap.size w wr ∧ Hid (unitsB s.data.toList = unitsGo f us (s.data.toList.drop k))) (fun _ i _ => s.size - (intOf i).toNat)
  case atStart => exact ⟨0, s.size, [], by omega, by omega, rfl, by simp, OwL.nil, Below.refl _ _, Lib.hid rfl⟩
  case round =>
    obtain ⟨k, f, us, hk, hf, rfl, hus, hown, hbel, hgo⟩ := hrel
    have hbz := hbel.size
    by_cases hk0 : k < s.size
    · have hat := Lib.hid (byteAt hk0)
      have ha := s[k].toNat_lt
      obtain ⟨a, haa⟩ : ∃ a, s[k].toNat = a := ⟨_, rfl⟩
      have HA := Lib.hid haa
      by_cases c1 : 0 < a ∧ a < 128
      · obtain ⟨c1, c2⟩ := c1
        have h3 := Lib.hid (unitsGo_yes (f := f) (us := us) (v := a) (n := 1) hat.out (by omega) (by rw [haa]; unfold unit3; rw [if_pos ⟨c1, c2⟩]))
        have p1 : (1 : Int) ≤ (s[k].toNat : Int) := by omega
        have p2 : (s[k].toNat : Int) < 128 := by omega
        clear haa
        go_wp2_with (at_builtin; refine wpList_appL _ uV_one rfl (.tmp 107) (.tmp 109) rfl unitTy (by decide) w.heap.size _ us rfl (hown.alloc _) _ _ 1 1 [UInt16.ofNat a] rfl rfl (RL.freshe _ _ ?c0 _) ?c1 ?c2 ?_)
        case c0 => exact uV_of (by rw [HA.out]) (by omega)
        case c1 => first | omega | (simp only [List.length_cons, List.length_nil]; omega)
        case c2 => first | omega | (simp; omega)
        intro v2 w2 own2 _ _ hb2
        have hb2' := (bl_alloc hbel (Nat.le_refl _) _).trans hb2
        go_wp2
        go_roundw
        case rel => exact ⟨k + 1, f - 1, _, by omega, by omega, by go_num, by simp; omega, own2, hb2', Lib.hid (by rw [hgo.out, h3.out])⟩
        case measure => simp [intOf]; omega
      · by_cases c3 : a / 32 = 6
        · have e3 : ((s[k].toNat : Int) / 32 == 6) = true := by simp; omega
          have p1 : 128 ≤ (s[k].toNat : Int) := by omega
          have e9 : ((s[k].toNat : Int) / 16 == 14) = false := by simp; omega
          by_cases hk1 : k + 1 < s.size
          · have hk1' : (k : Int) + 1 < (s.size : Int) := by omega
            have hbt := Lib.hid (byteAt hk1)
            have hb8 := s[k + 1].toNat_lt
            by_cases c4 : s[k + 1].toNat / 64 = 2
            · have e4 : ((s[k + 1].toNat : Int) / 64 == 2) = true := by simp; omega
              have s1 : IntKind.i64.wrap ((k : Int) + 1) = (k : Int) + 1 := IntWalk.i64_in _ (by omega)
              have s2 : (0 : Int) ≤ (k : Int) + 1 := by omega
              have s4 : ((k : Int) + 1).toNat = k + 1 := by omega
              obtain ⟨v, hv⟩ : ∃ v : Int, (two s[k].toNat s[k + 1].toNat : Int) = v := ⟨_, rfl⟩
              have hbv := two_bits (a := s[k].toNat) (b := s[k + 1].toNat) ha
              rw [hv] at hbv
              have HLT : two s[k].toNat s[k + 1].toNat < 65536 := by have := two_lt s[k].toNat s[k + 1].toNat; omega
              have hvv := Lib.hid hv
              have q0 : 0 ≤ v := by omega
              have q1 : v < 65536 := by omega
              have HA2 := Lib.hid (show s[k].toNat / 32 = 6 by omega)
              have HC4 := Lib.hid c4
              by_cases c7 : 0 < v ∧ v < 128
              · have hno := Lib.hid (show unitsB s.data.toList = none by
                  rw [hgo.out]; refine unitsGo_no hat.out (unit3_two_no HA2.out ?_)
                  intro x hx
                  rw [hbt.out] at hx; injection hx with hx; subst hx
                  rintro ⟨_, h⟩; exact h (by omega))
                obtain ⟨c7, c8⟩ := c7
                clear haa hv c1
                go_wp2
                go_quiet (fail)
                go_wp2
                go_ret2
                exact unitsPost_no hno.out (below_drewN hbel _)
              · have h3 := Lib.hid (unitsGo_yes (f := f) (us := us) hat.out (by omega) (unit3_two HA2.out hbt.out c4 (by omega)))
                have c8 : v ≤ 0 ∨ 128 ≤ v := by omega
                clear haa hv c1 c7
                rcases c8 with c8 | c8
                · have c9 : v < 128 := by omega
                  go_wp2
                  go_quiet (fail)
                  have hq := Lib.hid (uV_of hvv.out HLT)
                  go_wp2_with (at_builtin; refine wpList_appL _ uV_one rfl (.tmp 107) (.tmp 109) rfl unitTy (by decide) w.heap.size _ us rfl ((hown.drewN _).alloc _) _ _ 1 1 [UInt16.ofNat (two s[k].toNat s[k + 1].toNat)] rfl rfl (RL.freshe _ _ ?c0 _) ?c1 ?c2 ?_)
                  case c0 => exact hq.out
                  case c1 => first | omega | (simp only [List.length_cons, List.length_nil]; omega)
                  case c2 => first | omega | (simp; omega)
                  intro v2 w2 own2 _ _ hb2
                  have hb2' := (bl_alloc (below_drewN hbel _) (Nat.le_refl _) _).trans hb2
                  go_wp2
                  go_roundw
                  case rel => exact ⟨k + 2, f - 1, _, by omega, by omega, by go_num, by simp; omega, own2, hb2', Lib.hid (by rw [hgo.out, h3.out])⟩
                  case measure => simp [intOf]; omega
                · have c9 : 0 < v := by omega
                  go_wp2
                  go_quiet (fail)
                  have hq := Lib.hid (uV_of hvv.out HLT)
                  go_wp2_with (at_builtin; refine wpList_appL _ uV_one rfl (.tmp 107) (.tmp 109) rfl unitTy (by decide) w.heap.size _ us rfl ((hown.drewN _).alloc _) _ _ 1 1 [UInt16.ofNat (two s[k].toNat s[k + 1].toNat)] rfl rfl (RL.freshe _ _ ?c0 _) ?c1 ?c2 ?_)
                  case c0 => exact hq.out
                  case c1 => first | omega | (simp only [List.length_cons, List.length_nil]; omega)
                  case c2 => first | omega | (simp; omega)
                  intro v2 w2 own2 _ _ hb2
                  have hb2' := (bl_alloc (below_drewN hbel _) (Nat.le_refl _) _).trans hb2
                  go_wp2
                  go_roundw
                  case rel => exact ⟨k + 2, f - 1, _, by omega, by omega, by go_num, by simp; omega, own2, hb2', Lib.hid (by rw [hgo.out, h3.out])⟩
                  case measure => simp [intOf]; omega
            · have hno := Lib.hid (show unitsB s.data.toList = none by
                rw [hgo.out]; refine unitsGo_no hat.out (unit3_two_no (by omega) ?_)
                intro x hx
                rw [hbt.out] at hx; injection hx with hx; subst hx
                rintro ⟨h, _⟩; exact c4 h)
              have e4 : ((s[k + 1].toNat : Int) / 64 == 2) = false := by simp; omega
              clear haa c1 c4
              go_wp2
              go_ret2
              exact unitsPost_no hno.out hbel
          · have hno := Lib.hid (show unitsB s.data.toList = none by
              rw [hgo.out]; refine unitsGo_no hat.out (unit3_two_no (by omega) ?_)
              intro x hx
              rw [byteNone hk1] at hx; cases hx)
            have hk1' : (s.size : Int) ≤ (k : Int) + 1 := by omega
            clear haa c1
            go_wp2
            go_ret2
            exact unitsPost_no hno.out hbel
        · have e3 : ((s[k].toNat : Int) / 32 == 6) = false := by simp; omega
          by_cases c4 : a / 16 = 14
          · have e4 : ((s[k].toNat : Int) / 16 == 14) = true := by simp; omega
            have p1 : 128 ≤ (s[k].toNat : Int) := by omega
            by_cases hk2 : k + 2 < s.size
            · have hk2' : (k : Int) + 2 < (s.size : Int) := by omega
              have hk1' : (k : Int) + 1 < (s.size : Int) := by omega
              have hk1 : k + 1 < s.size := by omega
              have hbt := Lib.hid (byteAt hk1)
              have hb8 := s[k + 1].toNat_lt
              have hct := Lib.hid (byteAt hk2)
              have hc8 := s[k + 2].toNat_lt
              by_cases c5 : s[k + 1].toNat / 64 = 2
              · have e5 : ((s[k + 1].toNat : Int) / 64 == 2) = true := by simp; omega
                by_cases c6 : s[k + 2].toNat / 64 = 2
                · have e6 : ((s[k + 2].toNat : Int) / 64 == 2) = true := by simp; omega
                  have s1 : IntKind.i64.wrap ((k : Int) + 1) = (k : Int) + 1 := IntWalk.i64_in _ (by omega)
                  have s2 : (0 : Int) ≤ (k : Int) + 1 := by omega
                  have s4 : ((k : Int) + 1).toNat = k + 1 := by omega
                  have s5 : IntKind.i64.wrap ((k : Int) + 2) = (k : Int) + 2 := IntWalk.i64_in _ (by omega)
                  have s6 : (0 : Int) ≤ (k : Int) + 2 := by omega
                  have s7 : ((k : Int) + 2).toNat = k + 2 := by omega
                  obtain ⟨v, hv⟩ : ∃ v : Int, (three s[k].toNat s[k + 1].toNat s[k + 2].toNat : Int) = v := ⟨_, rfl⟩
                  have hbv := three_bits (a := s[k].toNat) (b := s[k + 1].toNat) (c := s[k + 2].toNat) ha
                  rw [hv] at hbv
                  have HLT : three s[k].toNat s[k + 1].toNat s[k + 2].toNat < 65536 := three_lt _ _ _
                  have hvv := Lib.hid hv
                  have q0 : 0 ≤ v := by omega
                  have q1 : v < 65536 := by omega
                  have HA2 := Lib.hid (show s[k].toNat / 16 = 14 by omega)
                  by_cases c7 : v < 2048
                  · have hno := Lib.hid (show unitsB s.data.toList = none by
                      rw [hgo.out]; refine unitsGo_no hat.out (unit3_three_no HA2.out ?_)
                      intro x y hx hy
                      rw [hbt.out] at hx; injection hx with hx; subst hx
                      rw [hct.out] at hy; injection hy with hy; subst hy
                      rintro ⟨_, _, h⟩; omega)
                    clear haa hv c1
                    go_wp2
                    go_quiet (fail)
                    go_wp2
                    go_ret2
                    exact unitsPost_no hno.out (below_drewN hbel _)
                  · have h3 := Lib.hid (unitsGo_yes (f := f) (us := us) hat.out (by omega) (unit3_three HA2.out hbt.out hct.out c5 c6 (by omega)))
                    have c8 : 2048 ≤ v := by omega
                    clear haa hv c1 c7
                    go_wp2
                    go_quiet (fail)
                    have hq := Lib.hid (uV_of hvv.out HLT)
                    go_wp2_with (at_builtin; refine wpList_appL _ uV_one rfl (.tmp 107) (.tmp 109) rfl unitTy (by decide) w.heap.size _ us rfl ((hown.drewN _).alloc _) _ _ 1 1 [UInt16.ofNat (three s[k].toNat s[k + 1].toNat s[k + 2].toNat)] rfl rfl (RL.freshe _ _ ?c0 _) ?c1 ?c2 ?_)
                    case c0 => exact hq.out
                    case c1 => first | omega | (simp only [List.length_cons, List.length_nil]; omega)
                    case c2 => first | omega | (simp; omega)
                    intro v2 w2 own2 _ _ hb2
                    have hb2' := (bl_alloc (below_drewN hbel _) (Nat.le_refl _) _).trans hb2
                    go_wp2
                    go_roundw
                    case rel => exact ⟨k + 3, f - 1, _, by omega, by omega, by go_num, by simp; omega, own2, hb2', Lib.hid (by rw [hgo.out, h3.out])⟩
                    case measure => simp [intOf]; omega
                · have hno := Lib.hid (show unitsB s.data.toList = none by
                    rw [hgo.out]; refine unitsGo_no hat.out (unit3_three_no (by omega) ?_)
                    intro x y hx hy
                    rw [hct.out] at hy; injection hy with hy; subst hy
                    rintro ⟨_, h, _⟩; exact c6 h)
                  have e6 : ((s[k + 2].toNat : Int) / 64 == 2) = false := by simp; omega
                  clear haa c1 c5 c6
                  go_wp2
                  go_ret2
                  exact unitsPost_no hno.out hbel
              · have hno := Lib.hid (show unitsB s.data.toList = none by
                  rw [hgo.out]; refine unitsGo_no hat.out (unit3_three_no (by omega) ?_)
                  intro x y hx hy
                  rw [hbt.out] at hx; injection hx with hx; subst hx
                  rintro ⟨h, _, _⟩; exact c5 h)
                have e5 : ((s[k + 1].toNat : Int) / 64 == 2) = false := by simp; omega
                clear haa c1 c5
                go_wp2
                go_ret2
                exact unitsPost_no hno.out hbel
            · have hno := Lib.hid (show unitsB s.data.toList = none by
                rw [hgo.out]; refine unitsGo_no hat.out (unit3_three_no (by omega) ?_)
                intro x y hx hy
                rw [byteNone hk2] at hy; cases hy)
              have hk2' : (s.size : Int) ≤ (k : Int) + 2 := by omega
              clear haa c1
              go_wp2
              go_ret2
              exact unitsPost_no hno.out hbel
          · have e4 : ((s[k].toNat : Int) / 16 == 14) = false := by simp; omega
            have hno := Lib.hid (show unitsB s.data.toList = none by
              rw [hgo.out]; exact unitsGo_no hat.out (unit3_other (by omega) (by omega) (by omega)))
            rcases (show (s[k].toNat : Int) < 1 ∨ 128 ≤ (s[k].toNat : Int) by omega) with p1 | p1
            · clear haa c1
              go_wp2
              go_ret2
              exact unitsPost_no hno.out hbel
            · clear haa c1
              go_wp2
              go_ret2
              exact unitsPost_no hno.out hbel
    · obtain rfl : k = s.size := by omega
      obtain ⟨A, c, rfl, hr, hc1, hc2⟩ := hown.rd
      have hfin := Lib.hid (show unitsB s.data.toList = some us by rw [hgo.out, drop_end]; exact unitsGo_nil _ _)
      go_wp2
      go_ret2
      exact unitsPost_yes hfin.out rfl hr hbel
end Go.Proofs.Ytdioijhmmmnbgaa
namespace Go.Proofs.Ytdioijhmmmnbgaa
open Go.RowKit
theorem take_units {l : List UInt16} {k : Nat} {x : UInt16} (h : l[k]? = some x) : textB (l.take (k + 1)) = textB (l.take k) ++ unitB x := by
  rw [List.take_add_one, h]; exact textB_snoc _ _
set_option maxRecDepth 100000 in
set_option maxHeartbeats 2000000 in
theorem refText_any (A0 : Option Addr) (n0 c0 : Nat) (l0 : List UInt16) (w : World) (e0 : l0.length = n0) (b0 : n0 ≤ 1000000) (r0 : RL uV w w.heap.size A0 l0)  :
    Calls Try.prog 74 #[.slice A0 n0 c0] w fun e w' => e = .returned (.string ⟨(textB l0).toArray⟩) ∧ Below w.heap.size w w' := by
  have E0 := Lib.hid e0
  clear e0
  go_enter Try.func74, Try.ntmps74
  go_wp2
  go_loopw [3, 4] (fun v i wr => ∃ (k : Nat) (bs : List UInt8), k ≤ n0 ∧ i = .int .i64 (k : Int) ∧ Hid (bs = textB (l0.take k)) ∧ bs.length ≤ 3 * k ∧ OwB wr w.heap.size 5 v bs ∧ Below w.heap.size w wr) (fun _ i _ => n0 - (intOf i).toNat)
  case atStart => exact ⟨0, [], by omega, rfl, Lib.hid (by simp [textB]), by simp, OwL.nil, Below.refl _ _⟩
  case round =>
    obtain ⟨k, bs, hk, rfl, hgo, hbs, hown, hbel⟩ := hrel
    have hbz := hbel.size
    by_cases hk0 : k < n0
    · obtain ⟨ad0, x0, rfl, hl0, hx0, hc0⟩ := (r0.below hbel (Nat.le_refl _)).atl (k := k) (by rw [E0.out]; exact hk0)
      unfold uV at hc0
      have b1 : (x0.toNat : Int) < 65536 := by have := x0.toNat_lt; omega
      have b0 : (0 : Int) ≤ (x0.toNat : Int) := by omega
      obtain ⟨v, hv⟩ : ∃ v, (x0.toNat : Int) = v := ⟨_, rfl⟩
      rw [hv] at hc0 b0 b1
      have HV := Lib.hid hv
      clear hv
      by_cases h1 : 0 < v ∧ v < 128
      · obtain ⟨h1, h2⟩ := h1
        go_wp2_with (at_builtin; refine wpList_appL _ bV_one rfl (.tmp 23) (.tmp 26) rfl byteTy (by decide) w.heap.size _ bs rfl (hown.alloc _) _ _ 1 1 [UInt8.ofNat v.toNat] rfl rfl (RL.freshe _ _ ?c0 _) ?c1 ?c2 ?_)
        case c0 => exact bV_of b0 (by omega)
        case c1 => simp; omega
        case c2 => simp; omega
        intro v2 w2 own2 _ _ hb2
        have hb2' := (bl_alloc hbel (Nat.le_refl _) (.cells #[.int .u8 v] 5)).trans hb2
        go_wp2
        go_roundw
        case rel => exact ⟨k + 1, _, by omega, by go_num, Lib.hid (by rw [hgo.out, take_units hx0.out, unitB_one HV.out h1 h2]), by simp; omega, own2, hb2'⟩
        case measure => simp [intOf]; omega
      · by_cases h2 : v < 2048
        · rcases (show v = 0 ∨ 128 ≤ v by omega) with h3 | h3
          · subst h3
            clear h1 h2 b0 b1
            go_wp2_with (at_builtin; refine wpList_appL _ bV_one rfl (.tmp 30) (.tmp 39) rfl byteTy (by decide) w.heap.size _ bs rfl (hown.alloc _) _ _ 2 2 [192, 128] rfl rfl (RL.news _ _ _ rfl _ _) ?c1 ?c2 ?_)
            case c1 => simp; omega
            case c2 => simp; omega
            intro v2 w2 own2 _ _ hb2
            have hb2' := (bl_alloc hbel (Nat.le_refl _) _).trans hb2
            go_wp2
            go_roundw
            case rel => exact ⟨k + 1, _, by omega, by go_num, Lib.hid (by rw [hgo.out, take_units hx0.out, unitB_two HV.out (.inl rfl) (by decide)]; rfl), by simp; omega, own2, hb2'⟩
            case measure => simp [intOf]; omega
          · clear h1
            have hlow := Lib.hid (low_byte b0 b1)
            go_wp2_with (at_builtin; refine wpList_appL _ bV_one rfl (.tmp 30) (.tmp 39) rfl byteTy (by decide) w.heap.size _ bs rfl (hown.alloc _) _ _ 2 2 [UInt8.ofNat (192 + v / 64).toNat, UInt8.ofNat (128 + v % 64).toNat] rfl rfl (RL.news _ _ _ ?c0 _ _) ?c1 ?c2 ?_)
            case c0 => rw [ bV_of (v := 192 + v / 64) (by omega) (by omega), bV_of (v := 128 + v % 64) (by omega) (by omega)]; exact ⟨rfl, rfl⟩
            case c1 => simp; omega
            case c2 => simp; omega
            intro v2 w2 own2 _ _ hb2
            have hb2' := (bl_alloc hbel (Nat.le_refl _) _).trans hb2
            go_wp2
            go_roundw
            case rel => exact ⟨k + 1, _, by omega, by go_num, Lib.hid (by rw [hgo.out, take_units hx0.out, unitB_two HV.out (.inr h3) h2]), by simp; omega, own2, hb2'⟩
            case measure => simp [intOf]; omega
        · have h3 : 2048 ≤ v := by omega
          clear h1
          have hlow := Lib.hid (low_byte b0 b1)
          have hmid := Lib.hid (low_byte (v := v / 64) (by omega) (by omega))
          go_wp2_with (at_builtin; refine wpList_appL _ bV_one rfl (.tmp 41) (.tmp 55) rfl byteTy (by decide) w.heap.size _ bs rfl (hown.alloc _) _ _ 3 3 [UInt8.ofNat (224 + v / 4096).toNat, UInt8.ofNat (128 + v / 64 % 64).toNat, UInt8.ofNat (128 + v % 64).toNat] rfl rfl (RL.news _ _ _ ?c0 _ _) ?c1 ?c2 ?_)
          case c0 => rw [ bV_of (v := 224 + v / 4096) (by omega) (by omega), bV_of (v := 128 + v / 64 % 64) (by omega) (by omega), bV_of (v := 128 + v % 64) (by omega) (by omega)]; exact ⟨rfl, rfl, rfl⟩
          case c1 => omega
          case c2 => omega
          intro v2 w2 own2 _ _ hb2
          have hb2' := (bl_alloc hbel (Nat.le_refl _) _).trans hb2
          go_wp2
          go_roundw
          case rel => exact ⟨k + 1, _, by omega, by go_num, Lib.hid (by rw [hgo.out, take_units hx0.out, unitB_three HV.out h3]), by simp; omega, own2, hb2'⟩
          case measure => simp [intOf]; omega
    · obtain rfl : k = n0 := by omega
      obtain ⟨A, c, rfl, hr, hc1, hc2⟩ := hown.rd
      have kc := run_conv_str (P := Try.prog) (n := bs.length) (c := c) Try.underlying22 Try.underlying5 Try.underlying9 rfl hr
      have hfin := Lib.hid (show bs = textB l0 by rw [hgo.out, ← E0.out, List.take_length])
      go_wp2
      go_ret
      exact ⟨ret_v (by rw [hfin.out]; rfl), hbel⟩
end Go.Proofs.Ytdioijhmmmnbgaa
namespace Go.Proofs.Ytdioijhmmmnbgaa

theorem unit3_inv {a : Nat} {b c : Option UInt8} {v m : Nat} (h : unit3 a b c = some (v, m)) :
    (m = 1 ∧ v = a ∧ 0 < a ∧ a < 128) ∨ (m = 2 ∧ ∃ x, b = some x ∧ v = two a x.toNat ∧ a / 32 = 6 ∧ x.toNat / 64 = 2 ∧ ¬ (0 < v ∧ v < 128)) ∨ (m = 3 ∧ ∃ x y, b = some x ∧ c = some y ∧ v = three a x.toNat y.toNat ∧ a / 16 = 14 ∧ x.toNat / 64 = 2 ∧ y.toNat / 64 = 2 ∧ 2048 ≤ v) := by
  unfold unit3 at h
  split at h
  · simp at h; obtain ⟨rfl, rfl⟩ := h; exact .inl ⟨rfl, rfl, by omega, by omega⟩
  · split at h
    · split at h
      · split at h
        · simp at h; obtain ⟨rfl, rfl⟩ := h; exact .inr (.inl ⟨rfl, _, rfl, rfl, by omega, by omega, by omega⟩)
        · cases h
      · cases h
    · split at h
      · split at h
        · split at h
          · simp at h; obtain ⟨rfl, rfl⟩ := h; exact .inr (.inr ⟨rfl, _, _, rfl, rfl, rfl, by omega, by omega, by omega, by omega⟩)
          · cases h
        · cases h
      · cases h
theorem u8_of_eq {n : Nat} {a : UInt8} (hn : n < 256) : UInt8.ofNat n = a ↔ n = a.toNat := by
  rw [← UInt8.toNat_inj, UInt8.toNat_ofNat']; omega
theorem hit1 (a : UInt8) (b c : Option UInt8) : unitB (UInt16.ofNat a.toNat) = [a] ↔ unit3 a.toNat b c = some (a.toNat, 1) := by
  have ha := a.toNat_lt
  have hx : (UInt16.ofNat a.toNat).toNat = a.toNat := uVnat (by omega)
  constructor
  · intro h
    unfold unitB at h
    rw [hx] at h
    split at h
    · exact unit3_one (by omega) (by omega)
    · split at h <;> simp at h
  · intro h
    rcases unit3_inv h with ⟨_, _, h1, h2⟩ | ⟨h1, _⟩ | ⟨h1, _⟩
    · unfold unitB; rw [hx, if_pos ⟨h1, h2⟩]; simp
    · omega
    · omega
theorem hit2 (a b : UInt8) (c : Option UInt8) : unitB (UInt16.ofNat (two a.toNat b.toNat)) = [a, b] ↔ unit3 a.toNat (some b) c = some (two a.toNat b.toNat, 2) := by
  have ha := a.toNat_lt
  have hb := b.toNat_lt
  have hv := two_lt a.toNat b.toNat
  have hx : (UInt16.ofNat (two a.toNat b.toNat)).toNat = two a.toNat b.toNat := uVnat (by omega)
  constructor
  · intro h
    unfold unitB at h
    rw [hx] at h
    split at h
    · simp at h
    · simp only [List.cons.injEq, and_true] at h
      rw [u8_of_eq (by omega), u8_of_eq (by omega)] at h
      refine unit3_two ?_ rfl ?_ (by omega) <;> unfold two at h <;> omega
  · intro h
    rcases unit3_inv h with ⟨h1, _⟩ | ⟨_, x, hx1, _, h2, h3, h4⟩ | ⟨h1, _⟩
    · omega
    · injection hx1 with hx1; subst hx1
      unfold unitB; rw [hx, if_neg h4, if_pos hv]
      simp only [List.cons.injEq, and_true]
      rw [u8_of_eq (by omega), u8_of_eq (by omega)]
      unfold two; omega
    · omega
theorem hit3 (a b c : UInt8) : unitB (UInt16.ofNat (three a.toNat b.toNat c.toNat)) = [a, b, c] ↔ unit3 a.toNat (some b) (some c) = some (three a.toNat b.toNat c.toNat, 3) := by
  have ha := a.toNat_lt
  have hb := b.toNat_lt
  have hc := c.toNat_lt
  have hv := three_lt a.toNat b.toNat c.toNat
  have hx : (UInt16.ofNat (three a.toNat b.toNat c.toNat)).toNat = three a.toNat b.toNat c.toNat := uVnat (by omega)
  constructor
  · intro h
    unfold unitB at h
    rw [hx] at h
    split at h
    · simp at h
    · split at h
      · simp at h
      · simp only [List.cons.injEq, and_true] at h
        rw [u8_of_eq (by omega), u8_of_eq (by omega), u8_of_eq (by omega)] at h
        refine unit3_three ?_ rfl rfl ?_ ?_ (by omega) <;> unfold three at h <;> omega
  · intro h
    rcases unit3_inv h with ⟨h1, _⟩ | ⟨h1, _⟩ | ⟨_, x, y, hx1, hy1, _, h2, h3, h4, h5⟩
    · omega
    · omega
    · injection hx1 with hx1; subst hx1
      injection hy1 with hy1; subst hy1
      unfold unitB; rw [hx, if_neg (by omega), if_neg (by omega)]
      simp only [List.cons.injEq, and_true]
      rw [u8_of_eq (by omega), u8_of_eq (by omega), u8_of_eq (by omega)]
      unfold three; omega

/-- How far the search at one place has come: what is found, the units then. -/
def Found (l : List UInt8) (k : Nat) (us : List UInt16) (n fo : Nat) (us' : List UInt16) : Prop :=
  (fo = 0 ∧ us' = us ∧ ∀ a v m, l[k]? = some a → unit3 a.toNat l[k + 1]? l[k + 2]? = some (v, m) → n ≤ m) ∨
  (0 < fo ∧ fo < n ∧ ∃ a v, l[k]? = some a ∧ us' = us ++ [UInt16.ofNat v] ∧ unit3 a.toNat l[k + 1]? l[k + 2]? = some (v, fo))
theorem found_start (l : List UInt8) (k : Nat) (us : List UInt16) : Found l k us 1 0 us := .inl ⟨rfl, rfl, fun a v m _ h => by rcases unit3_inv h with ⟨h1, _⟩ | ⟨h1, _⟩ | ⟨h1, _⟩ <;> omega⟩
theorem Found.stay {l : List UInt8} {k n fo : Nat} {us us' : List UInt16} (h : Found l k us n fo us') (h0 : 0 < fo) : Found l k us (n + 1) fo us' := by
  rcases h with ⟨h1, _⟩ | ⟨h1, h2, h3⟩
  · omega
  · exact .inr ⟨h1, by omega, h3⟩
theorem Found.same {l : List UInt8} {k n : Nat} {us us' : List UInt16} (h : Found l k us n 0 us') : us' = us := by
  rcases h with ⟨_, h1, _⟩ | ⟨h1, _⟩
  · exact h1
  · omega
theorem Found.hit {l : List UInt8} {k n v : Nat} {us us' : List UInt16} {a : UInt8} (h : Found l k us n 0 us') (h0 : 0 < n) (ha : l[k]? = some a) (h3 : unit3 a.toNat l[k + 1]? l[k + 2]? = some (v, n)) : Found l k us (n + 1) n (us' ++ [UInt16.ofNat v]) :=
  .inr ⟨h0, by omega, a, v, ha, by rw [h.same], h3⟩
theorem Found.miss {l : List UInt8} {k n : Nat} {us us' : List UInt16} {a : UInt8} (h : Found l k us n 0 us') (ha : l[k]? = some a) (h3 : ∀ v, ¬ unit3 a.toNat l[k + 1]? l[k + 2]? = some (v, n)) : Found l k us (n + 1) 0 us' := by
  rcases h with ⟨_, h1, h2⟩ | ⟨h1, _⟩
  · refine .inl ⟨rfl, h1, fun b v m hb hv => ?_⟩
    have := h2 b v m hb hv
    rw [ha] at hb; injection hb with hb; subst hb
    rcases Nat.lt_or_ge n m with h4 | h4
    · omega
    · obtain rfl : n = m := by omega
      exact absurd hv (h3 v)
  · omega
/-- Nothing found: there is no unit there. -/
theorem Found.none {l : List UInt8} {k n : Nat} {us us' : List UInt16} {a : UInt8} (h : Found l k us n 0 us') (ha : l[k]? = some a) (hn : 3 < n ∨ l.length < k + n) : unit3 a.toNat l[k + 1]? l[k + 2]? = Option.none := by
  rcases h with ⟨_, _, h2⟩ | ⟨h1, _⟩
  · cases h3 : unit3 a.toNat l[k + 1]? l[k + 2]? with
    | none => rfl
    | some p =>
      obtain ⟨v, m⟩ := p
      have h4 := h2 a v m ha h3
      have hk := (List.getElem?_eq_some_iff.1 ha).1
      rcases unit3_inv h3 with ⟨h5, _⟩ | ⟨h5, x, hx, _⟩ | ⟨h5, x, y, hx, hy, _⟩
      · omega
      · have := (List.getElem?_eq_some_iff.1 hx).1; omega
      · have := (List.getElem?_eq_some_iff.1 hy).1; omega
  · omega
theorem Found.yes {l : List UInt8} {k n fo f : Nat} {us us' : List UInt16} (h : Found l k us n fo us') (h0 : 0 < fo) (hf : 0 < f) : unitsGo f us (l.drop k) = unitsGo (f - 1) us' (l.drop (k + fo)) := by
  rcases h with ⟨h1, _⟩ | ⟨_, _, a, v, ha, hu, h3⟩
  · omega
  · rw [unitsGo_yes ha hf h3, hu]
theorem textB_one (x : UInt16) : textB [x] = unitB x := by simp [textB]
end Go.Proofs.Ytdioijhmmmnbgaa
namespace Go.Proofs.Ytdioijhmmmnbgaa
open Go.RowKit

theorem extract_data (s : ByteArray) (a b : Nat) : (s.extract a b).data.toList = (s.data.toList.drop a).take (b - a) := by
  rw [ByteArray.data_extract, Array.toList_extract, List.extract_eq_take_drop]

set_option maxHeartbeats 1000000 in
theorem drop_at {s : ByteArray} {k : Nat} (h : k < s.size) : s.data.toList.drop k = s[k] :: s.data.toList.drop (k + 1) := by
  have h' : k < s.data.toList.length := h
  rw [List.drop_eq_getElem_cons h']; rfl
set_option maxHeartbeats 800000 in
theorem uV_wrap {v : Nat} {x : Int} (h : (v : Int) = x) (h1 : v < 65536) : Value.int .u16 (IntKind.u16.wrap x) = uV (UInt16.ofNat v) := by rw [wrap_u16, show x % 65536 = x by omega]; exact uV_of h h1
set_option maxRecDepth 100000 in
set_option maxHeartbeats 4000000 in
theorem refUnits_post (s : ByteArray) (w : World) (hs : s.size ≤ 2000000) :
    Calls Try.prog 64 #[.string s] w (UnitsPost s.data.toList w) := by
  go_enter Try.func64, Try.ntmps64
  go_wp2
  go_loopw [4, 5] (fun v i wr => ∃ (k f : Nat) (us : List UInt16), k ≤ s.size ∧ s.size ≤ f + k ∧ i = .int .i64 (k : Int) ∧ us.length ≤ k ∧ OwL uV wr w.heap.size 39 v us ∧ Below w.heap.size w wr ∧ Hid (unitsB s.data.toList = unitsGo f us (s.data.toList.drop k))) (fun _ i _ => s.size - (intOf i).toNat)
  case atStart => exact ⟨0, s.size, [], by omega, by omega, rfl, by simp, OwL.nil, Below.refl _ _, Lib.hid rfl⟩
  case round =>
    obtain ⟨k, f, us, hk, hf, rfl, hus, hown, hbel, hgo⟩ := hrel
    have hbz := hbel.size
    by_cases hk0 : k < s.size
    · have hat := Lib.hid (byteAt hk0)
      have ha := s[k].toNat_lt
      obtain ⟨wo, hwo⟩ : ∃ wo : World, wo = wr := ⟨_, rfl⟩
      rw [← hwo] at hown hbel hbz ⊢
      clear hwo
      go_wp2
      go_loopw [4, 6, 7] (fun v fo n wr => ∃ (j fn : Int) (us' : List UInt16), 1 ≤ j ∧ j ≤ 4 ∧ n = .int .i64 j ∧ fo = .int .i64 fn ∧ 0 ≤ fn ∧ fn ≤ 3 ∧ k + fn ≤ s.size ∧ us'.length ≤ k + 1 ∧ OwL uV wr w.heap.size 39 v us' ∧ Below w.heap.size w wr ∧ Hid (Found s.data.toList k us j.toNat fn.toNat us')) (fun _ _ n _ => (4 - intOf n).toNat)
      case atStart => exact ⟨1, 0, us, by omega, by omega, rfl, rfl, by omega, by omega, by omega, by omega, hown, hbel, Lib.hid (found_start _ _ _)⟩
      case round =>
        clear hown hbel hbz
        obtain ⟨j, fn, us', hj1, hj4, rfl, rfl, hfn0, hfn, hkf, hus', hown, hbel, hfo⟩ := hrel
        have hbz := hbel.size
        by_cases hj : j ≤ 3 ∧ k + j ≤ s.size
        · obtain ⟨hj3, hjz⟩ := hj
          have t0 : (0 : Int) ≤ (k : Int) := by omega
          by_cases hf0 : fn = 0
          · subst hf0
            rcases (show j = 1 ∨ j = 2 ∨ j = 3 by omega) with rfl | rfl | rfl
            · have t1 : (k : Int) ≤ (k : Int) + 1 := by omega
              have t2 : IntKind.i64.wrap ((k : Int) + 1) = (k : Int) + 1 := IntWalk.i64_in _ (by omega)
              have t3 : ((k : Int) + 1).toNat = k + 1 := by omega
              obtain ⟨x, hx⟩ : ∃ x : UInt16, UInt16.ofNat (s[k].toNat) = x := ⟨_, rfl⟩
              have hx0 : Hid (Value.int .u16 (IntKind.u16.wrap ((s[k].toNat : Int))) = uV x) := by rw [← hx]; exact uV_wrap (v := s[k].toNat) (by first | rfl | (unfold two; omega) | (unfold three; omega)) (by first | omega | (have := two_lt s[k].toNat s[k + 1].toNat; omega) | exact three_lt _ _ _)
              have hx1 : Hid (Value.int .u16 ((s[k].toNat : Int)) = uV x) := by rw [← hx]; exact uV_of (v := s[k].toNat) (by first | rfl | (unfold two; omega) | (unfold three; omega)) (by first | omega | (have := two_lt s[k].toNat s[k + 1].toNat; omega) | exact three_lt _ _ _)
              have htl : (s.extract k (k + 1)).data.toList = [s[k]] := by rw [extract_data, drop_at hk0, show k + 1 - k = 1 by omega]; rfl
              have HTL := Lib.hid htl
              have hh : textB [x] = [s[k]] ↔ unit3 s[k].toNat s.data.toList[k + 1]? s.data.toList[k + 2]? = some (s[k].toNat, 1) := by rw [textB_one, ← hx]; exact hit1 _ _ _
              have HH := Lib.hid hh
              have HX := Lib.hid hx
              by_cases hit : textB [x] = [s[k]]
              · have g : (textB [x] == (s.extract k (k + 1)).toList) = true := by rw [Lib.toList_data, htl, hit]; simp
                have HF := Lib.hid (hfo.out.hit (by decide) hat.out (hh.1 hit))
                clear hit hh hx htl
                go_wp2
                go_region_held3 (fun _ => True) (go_keep) ((go_at_call 74; refine (refText_any (some ⟨wr.heap.size, 0, none⟩) 1 1 [x] _ rfl (by omega) (RL.top (RL.drew (RL.freshe _ _ hx0.out _)))).mono ?_; rintro e w1 ⟨rfl, hb⟩))
                have hb1 : Below w.heap.size w w1 := ((bl_alloc hbel (Nat.le_refl _) _).drew).trans (hb.mono (by simp; omega))
                have own1 : OwL uV w1 w.heap.size 39 u4 us' := (OwL.drew (hown.alloc _)).below hb
                have hbz1 := hb1.size
                go_wp2_with (at_builtin; refine wpList_appL _ uV_one rfl (.tmp 82) (.tmp 85) rfl unitTy (by decide) w.heap.size _ us' rfl (own1.alloc _) _ _ 1 1 [x] rfl rfl (RL.freshe _ _ ?c0 _) ?c1 ?c2 ?_)
                case c0 => first | exact hx0.out | exact hx1.out
                case c1 => first | omega | (simp only [List.length_cons, List.length_nil]; omega)
                case c2 => first | omega | (simp; omega)
                intro v2 w2 own2 _ _ hb2
                have hb2' := (bl_alloc hb1 (Nat.le_refl _) _).trans hb2
                clear hown hbel hb own1 hb1 hb2
                go_wp2
                go_roundw
                case rel => exact ⟨1 + 1, 1, us' ++ [x], by omega, by omega, rfl, rfl, by omega, by omega, by omega, by have := hfo.out.same; simp; rw [this]; omega, own2, hb2', Lib.hid (by have := HF.out; rw [HX.out] at this; exact this)⟩
                case measure => simp [intOf]
              · have g : (textB [x] == (s.extract k (k + 1)).toList) = false := by rw [Lib.toList_data, htl]; simpa using hit
                have HF := Lib.hid (hfo.out.miss hat.out (n := 1) (fun v hv => hit (hh.2 (by have hv' := hv; rcases unit3_inv hv with ⟨h5, h6, _⟩ | ⟨h5, y, hy, h6, _⟩ | ⟨h5, y, z, hy, hz, h6, _⟩ <;> first | omega | (subst h6; exact hv') | (rw [hy1.out] at hy; injection hy with hy; subst hy; subst h6; exact hv') | (rw [hy1.out] at hy; injection hy with hy; subst hy; rw [hy2.out] at hz; injection hz with hz; subst hz; subst h6; exact hv')))))
                clear hit hh hx htl
                go_wp2
                go_region_held3 (fun _ => True) (go_keep) ((go_at_call 74; refine (refText_any (some ⟨wr.heap.size, 0, none⟩) 1 1 [x] _ rfl (by omega) (RL.top (RL.drew (RL.freshe _ _ hx0.out _)))).mono ?_; rintro e w1 ⟨rfl, hb⟩))
                have hb1 : Below w.heap.size w w1 := ((bl_alloc hbel (Nat.le_refl _) _).drew).trans (hb.mono (by simp; omega))
                have own1 : OwL uV w1 w.heap.size 39 u4 us' := (OwL.drew (hown.alloc _)).below hb
                clear hown hbel hb
                go_wp2
                go_roundw
                case rel => exact ⟨1 + 1, 0, us', by omega, by omega, rfl, rfl, by omega, by omega, by omega, by omega, own1, hb1, Lib.hid (by have := HF.out; exact this)⟩
                case measure => simp [intOf]
            · have t1 : (k : Int) ≤ (k : Int) + 2 := by omega
              have t2 : IntKind.i64.wrap ((k : Int) + 2) = (k : Int) + 2 := IntWalk.i64_in _ (by omega)
              have t3 : ((k : Int) + 2).toNat = k + 2 := by omega
              have t4 : IntKind.i64.wrap ((k : Int) + 1) = (k : Int) + 1 := IntWalk.i64_in _ (by omega)
              have t5 : ((k : Int) + 1).toNat = k + 1 := by omega
              have t6 : (k : Int) + 1 < (s.size : Int) := by omega
              have t7 : (0 : Int) ≤ (k : Int) + 1 := by omega
              have hk1 : k + 1 < s.size := by omega
              have hb8 := s[k + 1].toNat_lt
              have hy1 := Lib.hid (byteAt hk1)
              obtain ⟨x, hx⟩ : ∃ x : UInt16, UInt16.ofNat (two s[k].toNat s[k + 1].toNat) = x := ⟨_, rfl⟩
              have hx0 : Hid (Value.int .u16 (IntKind.u16.wrap ((s[k].toNat : Int) % 32 * 64 + (s[k + 1].toNat : Int) % 64)) = uV x) := by rw [← hx]; exact uV_wrap (v := two s[k].toNat s[k + 1].toNat) (by first | rfl | (unfold two; omega) | (unfold three; omega)) (by first | omega | (have := two_lt s[k].toNat s[k + 1].toNat; omega) | exact three_lt _ _ _)
              have hx1 : Hid (Value.int .u16 ((s[k].toNat : Int) % 32 * 64 + (s[k + 1].toNat : Int) % 64) = uV x) := by rw [← hx]; exact uV_of (v := two s[k].toNat s[k + 1].toNat) (by first | rfl | (unfold two; omega) | (unfold three; omega)) (by first | omega | (have := two_lt s[k].toNat s[k + 1].toNat; omega) | exact three_lt _ _ _)
              have htl : (s.extract k (k + 2)).data.toList = [s[k], s[k + 1]] := by rw [extract_data, drop_at hk0, drop_at hk1, show k + 2 - k = 2 by omega]; rfl
              have HTL := Lib.hid htl
              have hh : textB [x] = [s[k], s[k + 1]] ↔ unit3 s[k].toNat s.data.toList[k + 1]? s.data.toList[k + 2]? = some (two s[k].toNat s[k + 1].toNat, 2) := by rw [textB_one, ← hx]; rw [hy1.out]; exact hit2 _ _ _
              have HH := Lib.hid hh
              have HX := Lib.hid hx
              by_cases hit : textB [x] = [s[k], s[k + 1]]
              · have g : (textB [x] == (s.extract k (k + 2)).toList) = true := by rw [Lib.toList_data, htl, hit]; simp
                have HF := Lib.hid (hfo.out.hit (by decide) hat.out (hh.1 hit))
                clear hit hh hx htl
                go_wp2
                go_quiet (fail)
                go_wp2
                have hownq := hown.drewN nq
                have hbelq := below_drewN hbel nq
                clear hown hbel
                generalize wr.drewN nq = wq at hownq hbelq ⊢
                have hbzq := hbelq.size
                go_region_held3 (fun _ => True) (go_keep) ((go_at_call 74; refine (refText_any (some ⟨wq.heap.size, 0, none⟩) 1 1 [x] _ rfl (by omega) (RL.top (RL.drew (RL.freshe _ _ hx0.out _)))).mono ?_; rintro e w1 ⟨rfl, hb⟩))
                have hb1 : Below w.heap.size w w1 := ((bl_alloc hbelq (Nat.le_refl _) _).drew).trans (hb.mono (by simp; omega))
                have own1 : OwL uV w1 w.heap.size 39 u4 us' := (OwL.drew (hownq.alloc _)).below hb
                have hbz1 := hb1.size
                go_wp2_with (at_builtin; refine wpList_appL _ uV_one rfl (.tmp 82) (.tmp 85) rfl unitTy (by decide) w.heap.size _ us' rfl (own1.alloc _) _ _ 1 1 [x] rfl rfl (RL.freshe _ _ ?c0 _) ?c1 ?c2 ?_)
                case c0 => first | exact hx0.out | exact hx1.out
                case c1 => first | omega | (simp only [List.length_cons, List.length_nil]; omega)
                case c2 => first | omega | (simp; omega)
                intro v2 w2 own2 _ _ hb2
                have hb2' := (bl_alloc hb1 (Nat.le_refl _) _).trans hb2
                clear hownq hbelq hb own1 hb1 hb2
                go_wp2
                go_roundw
                case rel => exact ⟨2 + 1, 2, us' ++ [x], by omega, by omega, rfl, rfl, by omega, by omega, by omega, by have := hfo.out.same; simp; rw [this]; omega, own2, hb2', Lib.hid (by have := HF.out; rw [HX.out] at this; exact this)⟩
                case measure => simp [intOf]
              · have g : (textB [x] == (s.extract k (k + 2)).toList) = false := by rw [Lib.toList_data, htl]; simpa using hit
                have HF := Lib.hid (hfo.out.miss hat.out (n := 2) (fun v hv => hit (hh.2 (by have hv' := hv; rcases unit3_inv hv with ⟨h5, h6, _⟩ | ⟨h5, y, hy, h6, _⟩ | ⟨h5, y, z, hy, hz, h6, _⟩ <;> first | omega | (subst h6; exact hv') | (rw [hy1.out] at hy; injection hy with hy; subst hy; subst h6; exact hv') | (rw [hy1.out] at hy; injection hy with hy; subst hy; rw [hy2.out] at hz; injection hz with hz; subst hz; subst h6; exact hv')))))
                clear hit hh hx htl
                go_wp2
                go_quiet (fail)
                go_wp2
                have hownq := hown.drewN nq
                have hbelq := below_drewN hbel nq
                clear hown hbel
                generalize wr.drewN nq = wq at hownq hbelq ⊢
                have hbzq := hbelq.size
                go_region_held3 (fun _ => True) (go_keep) ((go_at_call 74; refine (refText_any (some ⟨wq.heap.size, 0, none⟩) 1 1 [x] _ rfl (by omega) (RL.top (RL.drew (RL.freshe _ _ hx0.out _)))).mono ?_; rintro e w1 ⟨rfl, hb⟩))
                have hb1 : Below w.heap.size w w1 := ((bl_alloc hbelq (Nat.le_refl _) _).drew).trans (hb.mono (by simp; omega))
                have own1 : OwL uV w1 w.heap.size 39 u4 us' := (OwL.drew (hownq.alloc _)).below hb
                clear hownq hbelq hb
                go_wp2
                go_roundw
                case rel => exact ⟨2 + 1, 0, us', by omega, by omega, rfl, rfl, by omega, by omega, by omega, by omega, own1, hb1, Lib.hid (by have := HF.out; exact this)⟩
                case measure => simp [intOf]
            · have t1 : (k : Int) ≤ (k : Int) + 3 := by omega
              have t2 : IntKind.i64.wrap ((k : Int) + 3) = (k : Int) + 3 := IntWalk.i64_in _ (by omega)
              have t3 : ((k : Int) + 3).toNat = k + 3 := by omega
              have t8 : IntKind.i64.wrap ((k : Int) + 2) = (k : Int) + 2 := IntWalk.i64_in _ (by omega)
              have t9 : ((k : Int) + 2).toNat = k + 2 := by omega
              have t10 : (k : Int) + 2 < (s.size : Int) := by omega
              have t11 : (0 : Int) ≤ (k : Int) + 2 := by omega
              have hk2 : k + 2 < s.size := by omega
              have hc8 := s[k + 2].toNat_lt
              have hy2 := Lib.hid (byteAt hk2)
              have t4 : IntKind.i64.wrap ((k : Int) + 1) = (k : Int) + 1 := IntWalk.i64_in _ (by omega)
              have t5 : ((k : Int) + 1).toNat = k + 1 := by omega
              have t6 : (k : Int) + 1 < (s.size : Int) := by omega
              have t7 : (0 : Int) ≤ (k : Int) + 1 := by omega
              have hk1 : k + 1 < s.size := by omega
              have hb8 := s[k + 1].toNat_lt
              have hy1 := Lib.hid (byteAt hk1)
              obtain ⟨x, hx⟩ : ∃ x : UInt16, UInt16.ofNat (three s[k].toNat s[k + 1].toNat s[k + 2].toNat) = x := ⟨_, rfl⟩
              have hx0 : Hid (Value.int .u16 (IntKind.u16.wrap ((s[k].toNat : Int) % 16 * 4096 + (s[k + 1].toNat : Int) % 64 * 64 + (s[k + 2].toNat : Int) % 64)) = uV x) := by rw [← hx]; exact uV_wrap (v := three s[k].toNat s[k + 1].toNat s[k + 2].toNat) (by first | rfl | (unfold two; omega) | (unfold three; omega)) (by first | omega | (have := two_lt s[k].toNat s[k + 1].toNat; omega) | exact three_lt _ _ _)
              have hx1 : Hid (Value.int .u16 ((s[k].toNat : Int) % 16 * 4096 + (s[k + 1].toNat : Int) % 64 * 64 + (s[k + 2].toNat : Int) % 64) = uV x) := by rw [← hx]; exact uV_of (v := three s[k].toNat s[k + 1].toNat s[k + 2].toNat) (by first | rfl | (unfold two; omega) | (unfold three; omega)) (by first | omega | (have := two_lt s[k].toNat s[k + 1].toNat; omega) | exact three_lt _ _ _)
              have htl : (s.extract k (k + 3)).data.toList = [s[k], s[k + 1], s[k + 2]] := by rw [extract_data, drop_at hk0, drop_at hk1, drop_at hk2, show k + 3 - k = 3 by omega]; rfl
              have HTL := Lib.hid htl
              have hh : textB [x] = [s[k], s[k + 1], s[k + 2]] ↔ unit3 s[k].toNat s.data.toList[k + 1]? s.data.toList[k + 2]? = some (three s[k].toNat s[k + 1].toNat s[k + 2].toNat, 3) := by rw [textB_one, ← hx]; rw [hy1.out, hy2.out]; exact hit3 _ _ _
              have HH := Lib.hid hh
              have HX := Lib.hid hx
              by_cases hit : textB [x] = [s[k], s[k + 1], s[k + 2]]
              · have g : (textB [x] == (s.extract k (k + 3)).toList) = true := by rw [Lib.toList_data, htl, hit]; simp
                have HF := Lib.hid (hfo.out.hit (by decide) hat.out (hh.1 hit))
                clear hit hh hx htl
                go_wp2
                go_quiet (fail)
                go_wp2
                have hownq := hown.drewN nq
                have hbelq := below_drewN hbel nq
                clear hown hbel
                generalize wr.drewN nq = wq at hownq hbelq ⊢
                have hbzq := hbelq.size
                go_region_held3 (fun _ => True) (go_keep) ((go_at_call 74; refine (refText_any (some ⟨wq.heap.size, 0, none⟩) 1 1 [x] _ rfl (by omega) (RL.top (RL.drew (RL.freshe _ _ hx0.out _)))).mono ?_; rintro e w1 ⟨rfl, hb⟩))
                have hb1 : Below w.heap.size w w1 := ((bl_alloc hbelq (Nat.le_refl _) _).drew).trans (hb.mono (by simp; omega))
                have own1 : OwL uV w1 w.heap.size 39 u4 us' := (OwL.drew (hownq.alloc _)).below hb
                have hbz1 := hb1.size
                go_wp2_with (at_builtin; refine wpList_appL _ uV_one rfl (.tmp 82) (.tmp 85) rfl unitTy (by decide) w.heap.size _ us' rfl (own1.alloc _) _ _ 1 1 [x] rfl rfl (RL.freshe _ _ ?c0 _) ?c1 ?c2 ?_)
                case c0 => first | exact hx0.out | exact hx1.out
                case c1 => first | omega | (simp only [List.length_cons, List.length_nil]; omega)
                case c2 => first | omega | (simp; omega)
                intro v2 w2 own2 _ _ hb2
                have hb2' := (bl_alloc hb1 (Nat.le_refl _) _).trans hb2
                clear hownq hbelq hb own1 hb1 hb2
                go_wp2
                go_roundw
                case rel => exact ⟨3 + 1, 3, us' ++ [x], by omega, by omega, rfl, rfl, by omega, by omega, by omega, by have := hfo.out.same; simp; rw [this]; omega, own2, hb2', Lib.hid (by have := HF.out; rw [HX.out] at this; exact this)⟩
                case measure => simp [intOf]
              · have g : (textB [x] == (s.extract k (k + 3)).toList) = false := by rw [Lib.toList_data, htl]; simpa using hit
                have HF := Lib.hid (hfo.out.miss hat.out (n := 3) (fun v hv => hit (hh.2 (by have hv' := hv; rcases unit3_inv hv with ⟨h5, h6, _⟩ | ⟨h5, y, hy, h6, _⟩ | ⟨h5, y, z, hy, hz, h6, _⟩ <;> first | omega | (subst h6; exact hv') | (rw [hy1.out] at hy; injection hy with hy; subst hy; subst h6; exact hv') | (rw [hy1.out] at hy; injection hy with hy; subst hy; rw [hy2.out] at hz; injection hz with hz; subst hz; subst h6; exact hv')))))
                clear hit hh hx htl
                go_wp2
                go_quiet (fail)
                go_wp2
                have hownq := hown.drewN nq
                have hbelq := below_drewN hbel nq
                clear hown hbel
                generalize wr.drewN nq = wq at hownq hbelq ⊢
                have hbzq := hbelq.size
                go_region_held3 (fun _ => True) (go_keep) ((go_at_call 74; refine (refText_any (some ⟨wq.heap.size, 0, none⟩) 1 1 [x] _ rfl (by omega) (RL.top (RL.drew (RL.freshe _ _ hx0.out _)))).mono ?_; rintro e w1 ⟨rfl, hb⟩))
                have hb1 : Below w.heap.size w w1 := ((bl_alloc hbelq (Nat.le_refl _) _).drew).trans (hb.mono (by simp; omega))
                have own1 : OwL uV w1 w.heap.size 39 u4 us' := (OwL.drew (hownq.alloc _)).below hb
                clear hownq hbelq hb
                go_wp2
                go_roundw
                case rel => exact ⟨3 + 1, 0, us', by omega, by omega, rfl, rfl, by omega, by omega, by omega, by omega, own1, hb1, Lib.hid (by have := HF.out; exact this)⟩
                case measure => simp [intOf]
          · have hf1 : (fn == 0) = false := by simp; exact hf0
            have hfp : 0 < fn := by omega
            clear hf0
            rcases (show j = 1 ∨ j = 2 ∨ j = 3 by omega) with rfl | rfl | rfl
            · go_wp2
              go_quiet (fail)
              go_wp2
              go_roundw
              case rel => exact ⟨1 + 1, fn, us', by omega, by omega, rfl, rfl, by omega, by omega, by omega, by omega, hown.drewN _, below_drewN hbel _, Lib.hid (by have := hfo.out.stay (by omega); exact this)⟩
              case measure => simp [intOf]
            · have t1 : (k : Int) ≤ (k : Int) + 2 := by omega
              have t2 : IntKind.i64.wrap ((k : Int) + 2) = (k : Int) + 2 := IntWalk.i64_in _ (by omega)
              have t3 : ((k : Int) + 2).toNat = k + 2 := by omega
              have t4 : IntKind.i64.wrap ((k : Int) + 1) = (k : Int) + 1 := IntWalk.i64_in _ (by omega)
              have t5 : ((k : Int) + 1).toNat = k + 1 := by omega
              have t6 : (k : Int) + 1 < (s.size : Int) := by omega
              have t7 : (0 : Int) ≤ (k : Int) + 1 := by omega
              have hk1 : k + 1 < s.size := by omega
              have hb8 := s[k + 1].toNat_lt
              have hy1 := Lib.hid (byteAt hk1)
              go_wp2
              go_quiet (fail)
              go_wp2
              go_quiet (fail)
              go_wp2
              go_roundw
              case rel => exact ⟨2 + 1, fn, us', by omega, by omega, rfl, rfl, by omega, by omega, by omega, by omega, hown.drewN _, below_drewN hbel _, Lib.hid (by have := hfo.out.stay (by omega); exact this)⟩
              case measure => simp [intOf]
            · have t1 : (k : Int) ≤ (k : Int) + 3 := by omega
              have t2 : IntKind.i64.wrap ((k : Int) + 3) = (k : Int) + 3 := IntWalk.i64_in _ (by omega)
              have t3 : ((k : Int) + 3).toNat = k + 3 := by omega
              have t8 : IntKind.i64.wrap ((k : Int) + 2) = (k : Int) + 2 := IntWalk.i64_in _ (by omega)
              have t9 : ((k : Int) + 2).toNat = k + 2 := by omega
              have t10 : (k : Int) + 2 < (s.size : Int) := by omega
              have t11 : (0 : Int) ≤ (k : Int) + 2 := by omega
              have hk2 : k + 2 < s.size := by omega
              have hc8 := s[k + 2].toNat_lt
              have hy2 := Lib.hid (byteAt hk2)
              have t4 : IntKind.i64.wrap ((k : Int) + 1) = (k : Int) + 1 := IntWalk.i64_in _ (by omega)
              have t5 : ((k : Int) + 1).toNat = k + 1 := by omega
              have t6 : (k : Int) + 1 < (s.size : Int) := by omega
              have t7 : (0 : Int) ≤ (k : Int) + 1 := by omega
              have hk1 : k + 1 < s.size := by omega
              have hb8 := s[k + 1].toNat_lt
              have hy1 := Lib.hid (byteAt hk1)
              go_wp2
              go_quiet (fail)
              go_wp2
              go_quiet (fail)
              go_wp2
              go_roundw
              case rel => exact ⟨3 + 1, fn, us', by omega, by omega, rfl, rfl, by omega, by omega, by omega, by omega, hown.drewN _, below_drewN hbel _, Lib.hid (by have := hfo.out.stay (by omega); exact this)⟩
              case measure => simp [intOf]
        · by_cases hf0 : fn = 0
          · subst hf0
            have hno := Lib.hid (show unitsB s.data.toList = none by
              rw [hgo.out]; exact unitsGo_no hat.out (hfo.out.none hat.out (by rw [size_len]; omega)))
            rcases (show 3 < j ∨ (j ≤ 3 ∧ (s.size : Int) < k + j) by omega) with h9 | ⟨h9, h10⟩
            · clear hj
              go_wp2
              go_ret2
              exact unitsPost_no hno.out hbel
            · clear hj
              go_wp2
              go_ret2
              exact unitsPost_no hno.out hbel
          · have hf1 : (fn == 0) = false := by simp; exact hf0
            obtain ⟨fo, rfl⟩ := Int.eq_ofNat_of_zero_le hfn0
            have hfp : 0 < fo := by omega
            have hgo2 := Lib.hid (show unitsB s.data.toList = unitsGo (f - 1) us' (s.data.toList.drop (k + fo)) by
              rw [hgo.out]; exact hfo.out.yes (by simp; omega) (by omega))
            have hle : us'.length ≤ us.length + 1 := by
              rcases hfo.out with ⟨_, h, _⟩ | ⟨_, _, _, _, _, h, _⟩ <;> rw [h] <;> simp
            rcases (show 3 < j ∨ (j ≤ 3 ∧ (s.size : Int) < k + j) by omega) with h9 | ⟨h9, h10⟩
            · clear hj hf0
              go_wp2
              go_roundw
              case rel => exact ⟨k + fo, f - 1, us', by omega, by omega, by go_num, by omega, hown, hbel, hgo2⟩
              case measure => simp [intOf]; omega
            · clear hj hf0
              go_wp2
              go_roundw
              case rel => exact ⟨k + fo, f - 1, us', by omega, by omega, by go_num, by omega, hown, hbel, hgo2⟩
              case measure => simp [intOf]; omega
    · obtain rfl : k = s.size := by omega
      obtain ⟨A, c, rfl, hr, hc1, hc2⟩ := hown.rd
      have hfin := Lib.hid (show unitsB s.data.toList = some us by rw [hgo.out, drop_end]; exact unitsGo_nil _ _)
      go_wp2
      go_ret2
      exact unitsPost_yes hfin.out rfl hr hbel
end Go.Proofs.Ytdioijhmmmnbgaa
