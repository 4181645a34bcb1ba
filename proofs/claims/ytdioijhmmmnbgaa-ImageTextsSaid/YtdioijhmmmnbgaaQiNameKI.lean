/- name.Units: what it answers. -/
import Derived.Test.YtdioijhmmmnbgaaPi1
import Derived.Test.YtdioijhmmmnbgaaPi2
import Derived.Test.YtdioijhmmmnbgaaQiOctNu
namespace Go.Proofs.Ytdioijhmmmnbgaa
open Go.RowKit
theorem u16_info : (Try.prog.info? 39).map (fun i => (i.zero, i.size, i.bytes)) = some (some (.int .u16 0), 1, 2) := by kernel_rfl
theorem unitTy : ETy Try.prog 95 39 (.int .u16 0) 1 2 := ⟨Try.underlying95, info_parts u16_info, rfl, by decide⟩
/-- What Units answers: the units, the error's number; new memory alone. -/
def UnitsPost (l : List UInt8) (w : World) (e : Ending) (w' : World) : Prop :=
  ∃ A n c, e = .returned (.tuple #[.slice A n c, .int .i64 (unitsV l).2]) ∧ (unitsV l).1.length = n ∧ RL uV w' w'.heap.size A (unitsV l).1 ∧ Below w.heap.size w w'
theorem unitsPost_no {l : List UInt8} {w w' : World} (h : unitsB l = none) (hb : Below w.heap.size w w') : UnitsPost l w (.returned (.tuple #[.slice none 0 0, .int .i64 23])) w' := by
  unfold UnitsPost; rw [unitsV_no h]
  exact ⟨none, 0, 0, rfl, rfl, RL.nil, hb⟩
theorem unitsPost_yes {l : List UInt8} {w w' : World} {us : List UInt16} {A : Option Addr} {n c : Nat} (h : unitsB l = some us) (hn : us.length = n) (hr : RL uV w' w'.heap.size A us) (hb : Below w.heap.size w w') :
    UnitsPost l w (.returned (.tuple #[.slice A n c, .int .i64 0])) w' := by
  unfold UnitsPost; rw [unitsV_yes h]
  exact ⟨A, n, c, rfl, hn, hr, hb⟩
theorem byteNone {s : ByteArray} {k : Nat} (h : ¬ k < s.size) : s.data.toList[k]? = none := List.getElem?_eq_none (by rw [size_len]; omega)
theorem uV_of {v : Nat} {x : Int} (h : (v : Int) = x) (h1 : v < 65536) : Value.int .u16 x = uV (UInt16.ofNat v) := by unfold uV; rw [uVnat h1, h]

set_option maxRecDepth 100000 in
set_option maxHeartbeats 4000000 in
theorem units_post (s : ByteArray) (w : World) (hs : s.size ≤ 2000000) :
    Calls Try.prog 61 #[.string s] w (UnitsPost s.data.toList w) := by
  go_enter Try.func61, Try.ntmps61
  go_wp2
  go_loopw [4, 5] (fun v i wr => ∃ (k f : Nat) (us : List UInt16), k ≤ s.size ∧ s.size ≤ f + k ∧ i = .int .i64 (k : Int) ∧ us.length ≤ k ∧ OwL uV wr w.heap.size 39 v us ∧ Below w.heap.size w wr ∧ Hid (unitsB s.data.toList = unitsGo f us (s.data.toList.drop k))) (fun _ i _ => s.size - (intOf i).toNat)
  case atStart => exact ⟨0, s.size, [], by omega, by omega, rfl, by simp, OwL.nil, Below.refl _ _, Lib.hid rfl⟩
  case round =>
    obtain ⟨k, f, us, hk, hf, rfl, hus, hown, hbel, hgo⟩ := hrel
    have hbz := hbel.size
    by_cases hk0 : k < s.size
    · have hat := Lib.hid (byteAt hk0)
      have ha := s[k].toNat_lt
      obtain ⟨a, haa⟩ : ∃ a, s[k].toNat = a := ⟨_, rfl⟩
      have HA := Lib.hid haa
      by_cases c1 : 0 < a ∧ a < 128
      · obtain ⟨c1, c2⟩ := c1
        have h3 := Lib.hid (unitsGo_yes (f := f) (us := us) (v := a) (n := 1) hat.out (by omega) (by rw [haa]; unfold unit3; rw [if_pos ⟨c1, c2⟩]))
        have p1 : (1 : Int) ≤ (s[k].toNat : Int) := by omega
        have p2 : (s[k].toNat : Int) < 128 := by omega
        clear haa
        go_wp2_with (at_builtin; refine wpList_appL _ uV_one rfl (.tmp 107) (.tmp 109) rfl unitTy (by decide) w.heap.size _ us rfl (hown.alloc _) _ _ 1 1 [UInt16.ofNat a] rfl rfl (RL.freshe _ _ ?c0 _) ?c1 ?c2 ?_)
        case c0 => exact uV_of (by rw [HA.out]) (by omega)
        case c1 => first | omega | (simp only [List.length_cons, List.length_nil]; omega)
        case c2 => first | omega | (simp; omega)
        intro v2 w2 own2 _ _ hb2
        have hb2' := (bl_alloc hbel (Nat.le_refl _) _).trans hb2
        go_wp2
        go_roundw
        case rel => exact ⟨k + 1, f - 1, _, by omega, by omega, by go_num, by simp; omega, own2, hb2', Lib.hid (by rw [hgo.out, h3.out])⟩
        case measure => simp [intOf]; omega
      · by_cases c3 : a / 32 = 6
        · have e3 : ((s[k].toNat : Int) / 32 == 6) = true := by simp; omega
          have p1 : 128 ≤ (s[k].toNat : Int) := by omega
          have e9 : ((s[k].toNat : Int) / 16 == 14) = false := by simp; omega
          by_cases hk1 : k + 1 < s.size
          · have hk1' : (k : Int) + 1 < (s.size : Int) := by omega
            have hbt := Lib.hid (byteAt hk1)
            have hb8 := s[k + 1].toNat_lt
            by_cases c4 : s[k + 1].toNat / 64 = 2
            · have e4 : ((s[k + 1].toNat : Int) / 64 == 2) = true := by simp; omega
              have s1 : IntKind.i64.wrap ((k : Int) + 1) = (k : Int) + 1 := IntWalk.i64_in _ (by omega)
              have s2 : (0 : Int) ≤ (k : Int) + 1 := by omega
              have s4 : ((k : Int) + 1).toNat = k + 1 := by omega
              obtain ⟨v, hv⟩ : ∃ v : Int, (two s[k].toNat s[k + 1].toNat : Int) = v := ⟨_, rfl⟩
              have hbv := two_bits (a := s[k].toNat) (b := s[k + 1].toNat) ha
              rw [hv] at hbv
              have HLT : two s[k].toNat s[k + 1].toNat < 65536 := by have := two_lt s[k].toNat s[k + 1].toNat; omega
              have hvv := Lib.hid hv
              have q0 : 0 ≤ v := by omega
              have q1 : v < 65536 := by omega
              have HA2 := Lib.hid (show s[k].toNat / 32 = 6 by omega)
              have HC4 := Lib.hid c4
              by_cases c7 : 0 < v ∧ v < 128
              · have hno := Lib.hid (show unitsB s.data.toList = none by
                  rw [hgo.out]; refine unitsGo_no hat.out (unit3_two_no HA2.out ?_)
                  intro x hx
                  rw [hbt.out] at hx; injection hx with hx; subst hx
                  rintro ⟨_, h⟩; exact h (by omega))
                obtain ⟨c7, c8⟩ := c7
                clear haa hv c1
                go_wp2
                go_quiet (fail)
                go_wp2
                go_ret2
                exact unitsPost_no hno.out (below_drewN hbel _)
              · have h3 := Lib.hid (unitsGo_yes (f := f) (us := us) hat.out (by omega) (unit3_two HA2.out hbt.out c4 (by omega)))
                have c8 : v ≤ 0 ∨ 128 ≤ v := by omega
                clear haa hv c1 c7
                rcases c8 with c8 | c8
                · have c9 : v < 128 := by omega
                  go_wp2
                  go_quiet (fail)
                  have hq := Lib.hid (uV_of hvv.out HLT)
                  go_wp2_with (at_builtin; refine wpList_appL _ uV_one rfl (.tmp 107) (.tmp 109) rfl unitTy (by decide) w.heap.size _ us rfl ((hown.drewN _).alloc _) _ _ 1 1 [UInt16.ofNat (two s[k].toNat s[k + 1].toNat)] rfl rfl (RL.freshe _ _ ?c0 _) ?c1 ?c2 ?_)
                  case c0 => exact hq.out
                  case c1 => first | omega | (simp only [List.length_cons, List.length_nil]; omega)
                  case c2 => first | omega | (simp; omega)
                  intro v2 w2 own2 _ _ hb2
                  have hb2' := (bl_alloc (below_drewN hbel _) (Nat.le_refl _) _).trans hb2
                  go_wp2
                  go_roundw
                  case rel => exact ⟨k + 2, f - 1, _, by omega, by omega, by go_num, by simp; omega, own2, hb2', Lib.hid (by rw [hgo.out, h3.out])⟩
                  case measure => simp [intOf]; omega
                · have c9 : 0 < v := by omega
                  go_wp2
                  go_quiet (fail)
                  have hq := Lib.hid (uV_of hvv.out HLT)
                  go_wp2_with (at_builtin; refine wpList_appL _ uV_one rfl (.tmp 107) (.tmp 109) rfl unitTy (by decide) w.heap.size _ us rfl ((hown.drewN _).alloc _) _ _ 1 1 [UInt16.ofNat (two s[k].toNat s[k + 1].toNat)] rfl rfl (RL.freshe _ _ ?c0 _) ?c1 ?c2 ?_)
                  case c0 => exact hq.out
                  case c1 => first | omega | (simp only [List.length_cons, List.length_nil]; omega)
                  case c2 => first | omega | (simp; omega)
                  intro v2 w2 own2 _ _ hb2
                  have hb2' := (bl_alloc (below_drewN hbel _) (Nat.le_refl _) _).trans hb2
                  go_wp2
                  go_roundw
                  case rel => exact ⟨k + 2, f - 1, _, by omega, by omega, by go_num, by simp; omega, own2, hb2', Lib.hid (by rw [hgo.out, h3.out])⟩
                  case measure => simp [intOf]; omega
            · have hno := Lib.hid (show unitsB s.data.toList = none by
                rw [hgo.out]; refine unitsGo_no hat.out (unit3_two_no (by omega) ?_)
                intro x hx
                rw [hbt.out] at hx; injection hx with hx; subst hx
                rintro ⟨h, _⟩; exact c4 h)
              have e4 : ((s[k + 1].toNat : Int) / 64 == 2) = false := by simp; omega
              clear haa c1 c4
              go_wp2
              go_ret2
              exact unitsPost_no hno.out hbel
          · have hno := Lib.hid (show unitsB s.data.toList = none by
              rw [hgo.out]; refine unitsGo_no hat.out (unit3_two_no (by omega) ?_)
              intro x hx
              rw [byteNone hk1] at hx; cases hx)
            have hk1' : (s.size : Int) ≤ (k : Int) + 1 := by omega
            clear haa c1
            go_wp2
            go_ret2
            exact unitsPost_no hno.out hbel
        · have e3 : ((s[k].toNat : Int) / 32 == 6) = false := by simp; omega
          by_cases c4 : a / 16 = 14
          · have e4 : ((s[k].toNat : Int) / 16 == 14) = true := by simp; omega
            have p1 : 128 ≤ (s[k].toNat : Int) := by omega
            by_cases hk2 : k + 2 < s.size
            · have hk2' : (k : Int) + 2 < (s.size : Int) := by omega
              have hk1' : (k : Int) + 1 < (s.size : Int) := by omega
              have hk1 : k + 1 < s.size := by omega
              have hbt := Lib.hid (byteAt hk1)
              have hb8 := s[k + 1].toNat_lt
              have hct := Lib.hid (byteAt hk2)
              have hc8 := s[k + 2].toNat_lt
              by_cases c5 : s[k + 1].toNat / 64 = 2
              · have e5 : ((s[k + 1].toNat : Int) / 64 == 2) = true := by simp; omega
                by_cases c6 : s[k + 2].toNat / 64 = 2
                · have e6 : ((s[k + 2].toNat : Int) / 64 == 2) = true := by simp; omega
                  have s1 : IntKind.i64.wrap ((k : Int) + 1) = (k : Int) + 1 := IntWalk.i64_in _ (by omega)
                  have s2 : (0 : Int) ≤ (k : Int) + 1 := by omega
                  have s4 : ((k : Int) + 1).toNat = k + 1 := by omega
                  have s5 : IntKind.i64.wrap ((k : Int) + 2) = (k : Int) + 2 := IntWalk.i64_in _ (by omega)
                  have s6 : (0 : Int) ≤ (k : Int) + 2 := by omega
                  have s7 : ((k : Int) + 2).toNat = k + 2 := by omega
                  obtain ⟨v, hv⟩ : ∃ v : Int, (three s[k].toNat s[k + 1].toNat s[k + 2].toNat : Int) = v := ⟨_, rfl⟩
                  have hbv := three_bits (a := s[k].toNat) (b := s[k + 1].toNat) (c := s[k + 2].toNat) ha
                  rw [hv] at hbv
                  have HLT : three s[k].toNat s[k + 1].toNat s[k + 2].toNat < 65536 := three_lt _ _ _
                  have hvv := Lib.hid hv
                  have q0 : 0 ≤ v := by omega
                  have q1 : v < 65536 := by omega
                  have HA2 := Lib.hid (show s[k].toNat / 16 = 14 by omega)
                  by_cases c7 : v < 2048
                  · have hno := Lib.hid (show unitsB s.data.toList = none by
                      rw [hgo.out]; refine unitsGo_no hat.out (unit3_three_no HA2.out ?_)
                      intro x y hx hy
                      rw [hbt.out] at hx; injection hx with hx; subst hx
                      rw [hct.out] at hy; injection hy with hy; subst hy
                      rintro ⟨_, _, h⟩; omega)
                    clear haa hv c1
                    go_wp2
                    go_quiet (fail)
                    go_wp2
                    go_ret2
                    exact unitsPost_no hno.out (below_drewN hbel _)
                  · have h3 := Lib.hid (unitsGo_yes (f := f) (us := us) hat.out (by omega) (unit3_three HA2.out hbt.out hct.out c5 c6 (by omega)))
                    have c8 : 2048 ≤ v := by omega
                    clear haa hv c1 c7
                    go_wp2
                    go_quiet (fail)
                    have hq := Lib.hid (uV_of hvv.out HLT)
                    go_wp2_with (at_builtin; refine wpList_appL _ uV_one rfl (.tmp 107) (.tmp 109) rfl unitTy (by decide) w.heap.size _ us rfl ((hown.drewN _).alloc _) _ _ 1 1 [UInt16.ofNat (three s[k].toNat s[k + 1].toNat s[k + 2].toNat)] rfl rfl (RL.freshe _ _ ?c0 _) ?c1 ?c2 ?_)
                    case c0 => exact hq.out
                    case c1 => first | omega | (simp only [List.length_cons, List.length_nil]; omega)
                    case c2 => first | omega | (simp; omega)
                    intro v2 w2 own2 _ _ hb2
                    have hb2' := (bl_alloc (below_drewN hbel _) (Nat.le_refl _) _).trans hb2
                    go_wp2
                    go_roundw
                    case rel => exact ⟨k + 3, f - 1, _, by omega, by omega, by go_num, by simp; omega, own2, hb2', Lib.hid (by rw [hgo.out, h3.out])⟩
                    case measure => simp [intOf]; omega
                · have hno := Lib.hid (show unitsB s.data.toList = none by
                    rw [hgo.out]; refine unitsGo_no hat.out (unit3_three_no (by omega) ?_)
                    intro x y hx hy
                    rw [hct.out] at hy; injection hy with hy; subst hy
                    rintro ⟨_, h, _⟩; exact c6 h)
                  have e6 : ((s[k + 2].toNat : Int) / 64 == 2) = false := by simp; omega
                  clear haa c1 c5 c6
                  go_wp2
                  go_ret2
                  exact unitsPost_no hno.out hbel
              · have hno := Lib.hid (show unitsB s.data.toList = none by
                  rw [hgo.out]; refine unitsGo_no hat.out (unit3_three_no (by omega) ?_)
                  intro x y hx hy
                  rw [hbt.out] at hx; injection hx with hx; subst hx
                  rintro ⟨h, _, _⟩; exact c5 h)
                have e5 : ((s[k + 1].toNat : Int) / 64 == 2) = false := by simp; omega
                clear haa c1 c5
                go_wp2
                go_ret2
                exact unitsPost_no hno.out hbel
            · have hno := Lib.hid (show unitsB s.data.toList = none by
                rw [hgo.out]; refine unitsGo_no hat.out (unit3_three_no (by omega) ?_)
                intro x y hx hy
                rw [byteNone hk2] at hy; cases hy)
              have hk2' : (s.size : Int) ≤ (k : Int) + 2 := by omega
              clear haa c1
              go_wp2
              go_ret2
              exact unitsPost_no hno.out hbel
          · have e4 : ((s[k].toNat : Int) / 16 == 14) = false := by simp; omega
            have hno := Lib.hid (show unitsB s.data.toList = none by
              rw [hgo.out]; exact unitsGo_no hat.out (unit3_other (by omega) (by omega) (by omega)))
            rcases (show (s[k].toNat : Int) < 1 ∨ 128 ≤ (s[k].toNat : Int) by omega) with p1 | p1
            · clear haa c1
              go_wp2
              go_ret2
              exact unitsPost_no hno.out hbel
            · clear haa c1
              go_wp2
              go_ret2
              exact unitsPost_no hno.out hbel
    · obtain rfl : k = s.size := by omega
      obtain ⟨A, c, rfl, hr, hc1, hc2⟩ := hown.rd
      have hfin := Lib.hid (show unitsB s.data.toList = some us by rw [hgo.out, drop_end]; exact unitsGo_nil _ _)
      go_wp2
      go_ret2
      exact unitsPost_yes hfin.out rfl hr hbel
end Go.Proofs.Ytdioijhmmmnbgaa
