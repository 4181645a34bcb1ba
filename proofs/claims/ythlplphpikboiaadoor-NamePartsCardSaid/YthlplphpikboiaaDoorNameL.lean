/- samovarref13.Units: what it answers. -/
import Derived.Test.YthlplphpikboiaaDoorNameK
import Derived.Deep.RegionHeld3
import Derived.Test.YthlplphpikboiaaDoorNameW
namespace Go.Proofs.YthlplphpikboiaaDoor
open Go.RowKit

theorem uV_wrap {v : Nat} {x : Int} (h : (v : Int) = x) (h1 : v < 65536) : Value.int .u16 (IntKind.u16.wrap x) = uV (UInt16.ofNat v) := by rw [wrap_u16, show x % 65536 = x by omega]; exact uV_of h h1
set_option maxRecDepth 100000 in
set_option maxHeartbeats 4000000 in
theorem refUnits_post (s : ByteArray) (w : World) (hs : s.size ≤ 1000000) :
    Calls Tryd.prog 21 #[.string s] w (UnitsPost s.data.toList w) := by
  go_enter Tryd.func21, Tryd.ntmps21
  go_wp2
  go_loopw [4, 5] (fun v i wr => ∃ (k f : Nat) (us : List UInt16), k ≤ s.size ∧ s.size ≤ f + k ∧ i = .int .i64 (k : Int) ∧ us.length ≤ k ∧ OwL uV wr w.heap.size 38 v us ∧ Below w.heap.size w wr ∧ Hid (unitsB s.data.toList = unitsGo f us (s.data.toList.drop k))) (fun _ i _ => s.size - (intOf i).toNat)
  case atStart => exact ⟨0, s.size, [], by omega, by omega, rfl, by simp, OwL.nil, Below.refl _ _, Lib.hid rfl⟩
  case round =>
    obtain ⟨k, f, us, hk, hf, rfl, hus, hown, hbel, hgo⟩ := hrel
    have hbz := hbel.size
    by_cases hk0 : k < s.size
    · have hat := Lib.hid (byteAt hk0)
      have ha := s[k].toNat_lt
      obtain ⟨wo, hwo⟩ : ∃ wo : World, wo = wr := ⟨_, rfl⟩
      rw [← hwo] at hown hbel hbz ⊢
      clear hwo
      go_wp2
      go_loopw [4, 6, 7] (fun v fo n wr => ∃ (j fn : Int) (us' : List UInt16), 1 ≤ j ∧ j ≤ 4 ∧ n = .int .i64 j ∧ fo = .int .i64 fn ∧ 0 ≤ fn ∧ fn ≤ 3 ∧ k + fn ≤ s.size ∧ us'.length ≤ k + 1 ∧ OwL uV wr w.heap.size 38 v us' ∧ Below w.heap.size w wr ∧ Hid (Found s.data.toList k us j.toNat fn.toNat us')) (fun _ _ n _ => (4 - intOf n).toNat)
      case atStart => exact ⟨1, 0, us, by omega, by omega, rfl, rfl, by omega, by omega, by omega, by omega, hown, hbel, Lib.hid (found_start _ _ _)⟩
      case round =>
        clear hown hbel hbz
        obtain ⟨j, fn, us', hj1, hj4, rfl, rfl, hfn0, hfn, hkf, hus', hown, hbel, hfo⟩ := hrel
        have hbz := hbel.size
        by_cases hj : j ≤ 3 ∧ k + j ≤ s.size
        · obtain ⟨hj3, hjz⟩ := hj
          have t0 : (0 : Int) ≤ (k : Int) := by omega
          by_cases hf0 : fn = 0
          · subst hf0
            rcases (show j = 1 ∨ j = 2 ∨ j = 3 by omega) with rfl | rfl | rfl
            · have t1 : (k : Int) ≤ (k : Int) + 1 := by omega
              have t2 : IntKind.i64.wrap ((k : Int) + 1) = (k : Int) + 1 := IntWalk.i64_in _ (by omega)
              have t3 : ((k : Int) + 1).toNat = k + 1 := by omega
              obtain ⟨x, hx⟩ : ∃ x : UInt16, UInt16.ofNat (s[k].toNat) = x := ⟨_, rfl⟩
              have hx0 : Hid (Value.int .u16 (IntKind.u16.wrap ((s[k].toNat : Int))) = uV x) := by rw [← hx]; exact uV_wrap (v := s[k].toNat) (by first | rfl | (unfold two; omega) | (unfold three; omega)) (by first | omega | (have := two_lt s[k].toNat s[k + 1].toNat; omega) | exact three_lt _ _ _)
              have hx1 : Hid (Value.int .u16 ((s[k].toNat : Int)) = uV x) := by rw [← hx]; exact uV_of (v := s[k].toNat) (by first | rfl | (unfold two; omega) | (unfold three; omega)) (by first | omega | (have := two_lt s[k].toNat s[k + 1].toNat; omega) | exact three_lt _ _ _)
              have htl : (s.extract k (k + 1)).data.toList = [s[k]] := by rw [extract_data, drop_at hk0, show k + 1 - k = 1 by omega]; rfl
              have HTL := Lib.hid htl
              have hh : textB [x] = [s[k]] ↔ unit3 s[k].toNat s.data.toList[k + 1]? s.data.toList[k + 2]? = some (s[k].toNat, 1) := by rw [textB_one, ← hx]; exact hit1 _ _ _
              have HH := Lib.hid hh
              have HX := Lib.hid hx
              by_cases hit : textB [x] = [s[k]]
              · have g : (textB [x] == (s.extract k (k + 1)).toList) = true := by rw [Lib.toList_data, htl, hit]; simp
                have HF := Lib.hid (hfo.out.hit (by decide) hat.out (hh.1 hit))
                clear hit hh hx htl
                go_wp2
                go_region_held3 (fun _ => True) (go_keep) ((go_at_call 24; refine (refText_any (some ⟨wr.heap.size, 0, none⟩) 1 1 [x] _ rfl (by omega) (RL.top (RL.drew (RL.freshe _ _ hx0.out _)))).mono ?_; rintro e w1 ⟨rfl, hb⟩))
                have hb1 : Below w.heap.size w w1 := ((bl_alloc hbel (Nat.le_refl _) _).drew).trans (hb.mono (by simp; omega))
                have own1 : OwL uV w1 w.heap.size 38 u4 us' := (OwL.drew (hown.alloc _)).below hb
                have hbz1 := hb1.size
                go_wp2_with (at_builtin; refine wpList_appL _ uV_one rfl (.tmp 82) (.tmp 85) rfl unitTy (by decide) w.heap.size _ us' rfl (own1.alloc _) _ _ 1 1 [x] rfl rfl (RL.freshe _ _ ?c0 _) ?c1 ?c2 ?_)
                case c0 => first | exact hx0.out | exact hx1.out
                case c1 => first | omega | (simp only [List.length_cons, List.length_nil]; omega)
                case c2 => first | omega | (simp; omega)
                intro v2 w2 own2 _ _ hb2
                have hb2' := (bl_alloc hb1 (Nat.le_refl _) _).trans hb2
                clear hown hbel hb own1 hb1 hb2
                go_wp2
                go_roundw
                case rel => exact ⟨1 + 1, 1, us' ++ [x], by omega, by omega, rfl, rfl, by omega, by omega, by omega, by have := hfo.out.same; simp; rw [this]; omega, own2, hb2', Lib.hid (by have := HF.out; rw [HX.out] at this; exact this)⟩
                case measure => simp [intOf]
              · have g : (textB [x] == (s.extract k (k + 1)).toList) = false := by rw [Lib.toList_data, htl]; simpa using hit
                have HF := Lib.hid (hfo.out.miss hat.out (n := 1) (fun v hv => hit (hh.2 (by have hv' := hv; rcases unit3_inv hv with ⟨h5, h6, _⟩ | ⟨h5, y, hy, h6, _⟩ | ⟨h5, y, z, hy, hz, h6, _⟩ <;> first | omega | (subst h6; exact hv') | (rw [hy1.out] at hy; injection hy with hy; subst hy; subst h6; exact hv') | (rw [hy1.out] at hy; injection hy with hy; subst hy; rw [hy2.out] at hz; injection hz with hz; subst hz; subst h6; exact hv')))))
                clear hit hh hx htl
                go_wp2
                go_region_held3 (fun _ => True) (go_keep) ((go_at_call 24; refine (refText_any (some ⟨wr.heap.size, 0, none⟩) 1 1 [x] _ rfl (by omega) (RL.top (RL.drew (RL.freshe _ _ hx0.out _)))).mono ?_; rintro e w1 ⟨rfl, hb⟩))
                have hb1 : Below w.heap.size w w1 := ((bl_alloc hbel (Nat.le_refl _) _).drew).trans (hb.mono (by simp; omega))
                have own1 : OwL uV w1 w.heap.size 38 u4 us' := (OwL.drew (hown.alloc _)).below hb
                clear hown hbel hb
                go_wp2
                go_roundw
                case rel => exact ⟨1 + 1, 0, us', by omega, by omega, rfl, rfl, by omega, by omega, by omega, by omega, own1, hb1, Lib.hid (by have := HF.out; exact this)⟩
                case measure => simp [intOf]
            · have t1 : (k : Int) ≤ (k : Int) + 2 := by omega
              have t2 : IntKind.i64.wrap ((k : Int) + 2) = (k : Int) + 2 := IntWalk.i64_in _ (by omega)
              have t3 : ((k : Int) + 2).toNat = k + 2 := by omega
              have t4 : IntKind.i64.wrap ((k : Int) + 1) = (k : Int) + 1 := IntWalk.i64_in _ (by omega)
              have t5 : ((k : Int) + 1).toNat = k + 1 := by omega
              have t6 : (k : Int) + 1 < (s.size : Int) := by omega
              have t7 : (0 : Int) ≤ (k : Int) + 1 := by omega
              have hk1 : k + 1 < s.size := by omega
              have hb8 := s[k + 1].toNat_lt
              have hy1 := Lib.hid (byteAt hk1)
              obtain ⟨x, hx⟩ : ∃ x : UInt16, UInt16.ofNat (two s[k].toNat s[k + 1].toNat) = x := ⟨_, rfl⟩
              have hx0 : Hid (Value.int .u16 (IntKind.u16.wrap ((s[k].toNat : Int) % 32 * 64 + (s[k + 1].toNat : Int) % 64)) = uV x) := by rw [← hx]; exact uV_wrap (v := two s[k].toNat s[k + 1].toNat) (by first | rfl | (unfold two; omega) | (unfold three; omega)) (by first | omega | (have := two_lt s[k].toNat s[k + 1].toNat; omega) | exact three_lt _ _ _)
              have hx1 : Hid (Value.int .u16 ((s[k].toNat : Int) % 32 * 64 + (s[k + 1].toNat : Int) % 64) = uV x) := by rw [← hx]; exact uV_of (v := two s[k].toNat s[k + 1].toNat) (by first | rfl | (unfold two; omega) | (unfold three; omega)) (by first | omega | (have := two_lt s[k].toNat s[k + 1].toNat; omega) | exact three_lt _ _ _)
              have htl : (s.extract k (k + 2)).data.toList = [s[k], s[k + 1]] := by rw [extract_data, drop_at hk0, drop_at hk1, show k + 2 - k = 2 by omega]; rfl
              have HTL := Lib.hid htl
              have hh : textB [x] = [s[k], s[k + 1]] ↔ unit3 s[k].toNat s.data.toList[k + 1]? s.data.toList[k + 2]? = some (two s[k].toNat s[k + 1].toNat, 2) := by rw [textB_one, ← hx]; rw [hy1.out]; exact hit2 _ _ _
              have HH := Lib.hid hh
              have HX := Lib.hid hx
              by_cases hit : textB [x] = [s[k], s[k + 1]]
              · have g : (textB [x] == (s.extract k (k + 2)).toList) = true := by rw [Lib.toList_data, htl, hit]; simp
                have HF := Lib.hid (hfo.out.hit (by decide) hat.out (hh.1 hit))
                clear hit hh hx htl
                go_wp2
                go_quiet (fail)
                go_wp2
                have hownq := hown.drewN nq
                have hbelq := below_drewN hbel nq
                clear hown hbel
                generalize wr.drewN nq = wq at hownq hbelq ⊢
                have hbzq := hbelq.size
                go_region_held3 (fun _ => True) (go_keep) ((go_at_call 24; refine (refText_any (some ⟨wq.heap.size, 0, none⟩) 1 1 [x] _ rfl (by omega) (RL.top (RL.drew (RL.freshe _ _ hx0.out _)))).mono ?_; rintro e w1 ⟨rfl, hb⟩))
                have hb1 : Below w.heap.size w w1 := ((bl_alloc hbelq (Nat.le_refl _) _).drew).trans (hb.mono (by simp; omega))
                have own1 : OwL uV w1 w.heap.size 38 u4 us' := (OwL.drew (hownq.alloc _)).below hb
                have hbz1 := hb1.size
                go_wp2_with (at_builtin; refine wpList_appL _ uV_one rfl (.tmp 82) (.tmp 85) rfl unitTy (by decide) w.heap.size _ us' rfl (own1.alloc _) _ _ 1 1 [x] rfl rfl (RL.freshe _ _ ?c0 _) ?c1 ?c2 ?_)
                case c0 => first | exact hx0.out | exact hx1.out
                case c1 => first | omega | (simp only [List.length_cons, List.length_nil]; omega)
                case c2 => first | omega | (simp; omega)
                intro v2 w2 own2 _ _ hb2
                have hb2' := (bl_alloc hb1 (Nat.le_refl _) _).trans hb2
                clear hownq hbelq hb own1 hb1 hb2
                go_wp2
                go_roundw
                case rel => exact ⟨2 + 1, 2, us' ++ [x], by omega, by omega, rfl, rfl, by omega, by omega, by omega, by have := hfo.out.same; simp; rw [this]; omega, own2, hb2', Lib.hid (by have := HF.out; rw [HX.out] at this; exact this)⟩
                case measure => simp [intOf]
              · have g : (textB [x] == (s.extract k (k + 2)).toList) = false := by rw [Lib.toList_data, htl]; simpa using hit
                have HF := Lib.hid (hfo.out.miss hat.out (n := 2) (fun v hv => hit (hh.2 (by have hv' := hv; rcases unit3_inv hv with ⟨h5, h6, _⟩ | ⟨h5, y, hy, h6, _⟩ | ⟨h5, y, z, hy, hz, h6, _⟩ <;> first | omega | (subst h6; exact hv') | (rw [hy1.out] at hy; injection hy with hy; subst hy; subst h6; exact hv') | (rw [hy1.out] at hy; injection hy with hy; subst hy; rw [hy2.out] at hz; injection hz with hz; subst hz; subst h6; exact hv')))))
                clear hit hh hx htl
                go_wp2
                go_quiet (fail)
                go_wp2
                have hownq := hown.drewN nq
                have hbelq := below_drewN hbel nq
                clear hown hbel
                generalize wr.drewN nq = wq at hownq hbelq ⊢
                have hbzq := hbelq.size
                go_region_held3 (fun _ => True) (go_keep) ((go_at_call 24; refine (refText_any (some ⟨wq.heap.size, 0, none⟩) 1 1 [x] _ rfl (by omega) (RL.top (RL.drew (RL.freshe _ _ hx0.out _)))).mono ?_; rintro e w1 ⟨rfl, hb⟩))
                have hb1 : Below w.heap.size w w1 := ((bl_alloc hbelq (Nat.le_refl _) _).drew).trans (hb.mono (by simp; omega))
                have own1 : OwL uV w1 w.heap.size 38 u4 us' := (OwL.drew (hownq.alloc _)).below hb
                clear hownq hbelq hb
                go_wp2
                go_roundw
                case rel => exact ⟨2 + 1, 0, us', by omega, by omega, rfl, rfl, by omega, by omega, by omega, by omega, own1, hb1, Lib.hid (by have := HF.out; exact this)⟩
                case measure => simp [intOf]
            · have t1 : (k : Int) ≤ (k : Int) + 3 := by omega
              have t2 : IntKind.i64.wrap ((k : Int) + 3) = (k : Int) + 3 := IntWalk.i64_in _ (by omega)
              have t3 : ((k : Int) + 3).toNat = k + 3 := by omega
              have t8 : IntKind.i64.wrap ((k : Int) + 2) = (k : Int) + 2 := IntWalk.i64_in _ (by omega)
              have t9 : ((k : Int) + 2).toNat = k + 2 := by omega
              have t10 : (k : Int) + 2 < (s.size : Int) := by omega
              have t11 : (0 : Int) ≤ (k : Int) + 2 := by omega
              have hk2 : k + 2 < s.size := by omega
              have hc8 := s[k + 2].toNat_lt
              have hy2 := Lib.hid (byteAt hk2)
              have t4 : IntKind.i64.wrap ((k : Int) + 1) = (k : Int) + 1 := IntWalk.i64_in _ (by omega)
              have t5 : ((k : Int) + 1).toNat = k + 1 := by omega
              have t6 : (k : Int) + 1 < (s.size : Int) := by omega
              have t7 : (0 : Int) ≤ (k : Int) + 1 := by omega
              have hk1 : k + 1 < s.size := by omega
              have hb8 := s[k + 1].toNat_lt
              have hy1 := Lib.hid (byteAt hk1)
              obtain ⟨x, hx⟩ : ∃ x : UInt16, UInt16.ofNat (three s[k].toNat s[k + 1].toNat s[k + 2].toNat) = x := ⟨_, rfl⟩
              have hx0 : Hid (Value.int .u16 (IntKind.u16.wrap ((s[k].toNat : Int) % 16 * 4096 + (s[k + 1].toNat : Int) % 64 * 64 + (s[k + 2].toNat : Int) % 64)) = uV x) := by rw [← hx]; exact uV_wrap (v := three s[k].toNat s[k + 1].toNat s[k + 2].toNat) (by first | rfl | (unfold two; omega) | (unfold three; omega)) (by first | omega | (have := two_lt s[k].toNat s[k + 1].toNat; omega) | exact three_lt _ _ _)
              have hx1 : Hid (Value.int .u16 ((s[k].toNat : Int) % 16 * 4096 + (s[k + 1].toNat : Int) % 64 * 64 + (s[k + 2].toNat : Int) % 64) = uV x) := by rw [← hx]; exact uV_of (v := three s[k].toNat s[k + 1].toNat s[k + 2].toNat) (by first | rfl | (unfold two; omega) | (unfold three; omega)) (by first | omega | (have := two_lt s[k].toNat s[k + 1].toNat; omega) | exact three_lt _ _ _)
              have htl : (s.extract k (k + 3)).data.toList = [s[k], s[k + 1], s[k + 2]] := by rw [extract_data, drop_at hk0, drop_at hk1, drop_at hk2, show k + 3 - k = 3 by omega]; rfl
              have HTL := Lib.hid htl
              have hh : textB [x] = [s[k], s[k + 1], s[k + 2]] ↔ unit3 s[k].toNat s.data.toList[k + 1]? s.data.toList[k + 2]? = some (three s[k].toNat s[k + 1].toNat s[k + 2].toNat, 3) := by rw [textB_one, ← hx]; rw [hy1.out, hy2.out]; exact hit3 _ _ _
              have HH := Lib.hid hh
              have HX := Lib.hid hx
              by_cases hit : textB [x] = [s[k], s[k + 1], s[k + 2]]
              · have g : (textB [x] == (s.extract k (k + 3)).toList) = true := by rw [Lib.toList_data, htl, hit]; simp
                have HF := Lib.hid (hfo.out.hit (by decide) hat.out (hh.1 hit))
                clear hit hh hx htl
                go_wp2
                go_quiet (fail)
                go_wp2
                have hownq := hown.drewN nq
                have hbelq := below_drewN hbel nq
                clear hown hbel
                generalize wr.drewN nq = wq at hownq hbelq ⊢
                have hbzq := hbelq.size
                go_region_held3 (fun _ => True) (go_keep) ((go_at_call 24; refine (refText_any (some ⟨wq.heap.size, 0, none⟩) 1 1 [x] _ rfl (by omega) (RL.top (RL.drew (RL.freshe _ _ hx0.out _)))).mono ?_; rintro e w1 ⟨rfl, hb⟩))
                have hb1 : Below w.heap.size w w1 := ((bl_alloc hbelq (Nat.le_refl _) _).drew).trans (hb.mono (by simp; omega))
                have own1 : OwL uV w1 w.heap.size 38 u4 us' := (OwL.drew (hownq.alloc _)).below hb
                have hbz1 := hb1.size
                go_wp2_with (at_builtin; refine wpList_appL _ uV_one rfl (.tmp 82) (.tmp 85) rfl unitTy (by decide) w.heap.size _ us' rfl (own1.alloc _) _ _ 1 1 [x] rfl rfl (RL.freshe _ _ ?c0 _) ?c1 ?c2 ?_)
                case c0 => first | exact hx0.out | exact hx1.out
                case c1 => first | omega | (simp only [List.length_cons, List.length_nil]; omega)
                case c2 => first | omega | (simp; omega)
                intro v2 w2 own2 _ _ hb2
                have hb2' := (bl_alloc hb1 (Nat.le_refl _) _).trans hb2
                clear hownq hbelq hb own1 hb1 hb2
                go_wp2
                go_roundw
                case rel => exact ⟨3 + 1, 3, us' ++ [x], by omega, by omega, rfl, rfl, by omega, by omega, by omega, by have := hfo.out.same; simp; rw [this]; omega, own2, hb2', Lib.hid (by have := HF.out; rw [HX.out] at this; exact this)⟩
                case measure => simp [intOf]
              · have g : (textB [x] == (s.extract k (k + 3)).toList) = false := by rw [Lib.toList_data, htl]; simpa using hit
                have HF := Lib.hid (hfo.out.miss hat.out (n := 3) (fun v hv => hit (hh.2 (by have hv' := hv; rcases unit3_inv hv with ⟨h5, h6, _⟩ | ⟨h5, y, hy, h6, _⟩ | ⟨h5, y, z, hy, hz, h6, _⟩ <;> first | omega | (subst h6; exact hv') | (rw [hy1.out] at hy; injection hy with hy; subst hy; subst h6; exact hv') | (rw [hy1.out] at hy; injection hy with hy; subst hy; rw [hy2.out] at hz; injection hz with hz; subst hz; subst h6; exact hv')))))
                clear hit hh hx htl
                go_wp2
                go_quiet (fail)
                go_wp2
                have hownq := hown.drewN nq
                have hbelq := below_drewN hbel nq
                clear hown hbel
                generalize wr.drewN nq = wq at hownq hbelq ⊢
                have hbzq := hbelq.size
                go_region_held3 (fun _ => True) (go_keep) ((go_at_call 24; refine (refText_any (some ⟨wq.heap.size, 0, none⟩) 1 1 [x] _ rfl (by omega) (RL.top (RL.drew (RL.freshe _ _ hx0.out _)))).mono ?_; rintro e w1 ⟨rfl, hb⟩))
                have hb1 : Below w.heap.size w w1 := ((bl_alloc hbelq (Nat.le_refl _) _).drew).trans (hb.mono (by simp; omega))
                have own1 : OwL uV w1 w.heap.size 38 u4 us' := (OwL.drew (hownq.alloc _)).below hb
                clear hownq hbelq hb
                go_wp2
                go_roundw
                case rel => exact ⟨3 + 1, 0, us', by omega, by omega, rfl, rfl, by omega, by omega, by omega, by omega, own1, hb1, Lib.hid (by have := HF.out; exact this)⟩
                case measure => simp [intOf]
          · have hf1 : (fn == 0) = false := by simp; exact hf0
            have hfp : 0 < fn := by omega
            clear hf0
            rcases (show j = 1 ∨ j = 2 ∨ j = 3 by omega) with rfl | rfl | rfl
            · go_wp2
              go_quiet (fail)
              go_wp2
              go_roundw
              case rel => exact ⟨1 + 1, fn, us', by omega, by omega, rfl, rfl, by omega, by omega, by omega, by omega, hown.drewN _, below_drewN hbel _, Lib.hid (by have := hfo.out.stay (by omega); exact this)⟩
              case measure => simp [intOf]
            · have t1 : (k : Int) ≤ (k : Int) + 2 := by omega
              have t2 : IntKind.i64.wrap ((k : Int) + 2) = (k : Int) + 2 := IntWalk.i64_in _ (by omega)
              have t3 : ((k : Int) + 2).toNat = k + 2 := by omega
              have t4 : IntKind.i64.wrap ((k : Int) + 1) = (k : Int) + 1 := IntWalk.i64_in _ (by omega)
              have t5 : ((k : Int) + 1).toNat = k + 1 := by omega
              have t6 : (k : Int) + 1 < (s.size : Int) := by omega
              have t7 : (0 : Int) ≤ (k : Int) + 1 := by omega
              have hk1 : k + 1 < s.size := by omega
              have hb8 := s[k + 1].toNat_lt
              have hy1 := Lib.hid (byteAt hk1)
              go_wp2
              go_quiet (fail)
              go_wp2
              go_quiet (fail)
              go_wp2
              go_roundw
              case rel => exact ⟨2 + 1, fn, us', by omega, by omega, rfl, rfl, by omega, by omega, by omega, by omega, hown.drewN _, below_drewN hbel _, Lib.hid (by have := hfo.out.stay (by omega); exact this)⟩
              case measure => simp [intOf]
            · have t1 : (k : Int) ≤ (k : Int) + 3 := by omega
              have t2 : IntKind.i64.wrap ((k : Int) + 3) = (k : Int) + 3 := IntWalk.i64_in _ (by omega)
              have t3 : ((k : Int) + 3).toNat = k + 3 := by omega
              have t8 : IntKind.i64.wrap ((k : Int) + 2) = (k : Int) + 2 := IntWalk.i64_in _ (by omega)
              have t9 : ((k : Int) + 2).toNat = k + 2 := by omega
              have t10 : (k : Int) + 2 < (s.size : Int) := by omega
              have t11 : (0 : Int) ≤ (k : Int) + 2 := by omega
              have hk2 : k + 2 < s.size := by omega
              have hc8 := s[k + 2].toNat_lt
              have hy2 := Lib.hid (byteAt hk2)
              have t4 : IntKind.i64.wrap ((k : Int) + 1) = (k : Int) + 1 := IntWalk.i64_in _ (by omega)
              have t5 : ((k : Int) + 1).toNat = k + 1 := by omega
              have t6 : (k : Int) + 1 < (s.size : Int) := by omega
              have t7 : (0 : Int) ≤ (k : Int) + 1 := by omega
              have hk1 : k + 1 < s.size := by omega
              have hb8 := s[k + 1].toNat_lt
              have hy1 := Lib.hid (byteAt hk1)
              go_wp2
              go_quiet (fail)
              go_wp2
              go_quiet (fail)
              go_wp2
              go_roundw
              case rel => exact ⟨3 + 1, fn, us', by omega, by omega, rfl, rfl, by omega, by omega, by omega, by omega, hown.drewN _, below_drewN hbel _, Lib.hid (by have := hfo.out.stay (by omega); exact this)⟩
              case measure => simp [intOf]
        · by_cases hf0 : fn = 0
          · subst hf0
            have hno := Lib.hid (show unitsB s.data.toList = none by
              rw [hgo.out]; exact unitsGo_no hat.out (hfo.out.none hat.out (by rw [size_len]; omega)))
            rcases (show 3 < j ∨ (j ≤ 3 ∧ (s.size : Int) < k + j) by omega) with h9 | ⟨h9, h10⟩
            · clear hj
              go_wp2
              go_ret2
              exact unitsPost_no hno.out hbel
            · clear hj
              go_wp2
              go_ret2
              exact unitsPost_no hno.out hbel
          · have hf1 : (fn == 0) = false := by simp; exact hf0
            obtain ⟨fo, rfl⟩ := Int.eq_ofNat_of_zero_le hfn0
            have hfp : 0 < fo := by omega
            have hgo2 := Lib.hid (show unitsB s.data.toList = unitsGo (f - 1) us' (s.data.toList.drop (k + fo)) by
              rw [hgo.out]; exact hfo.out.yes (by simp; omega) (by omega))
            have hle : us'.length ≤ us.length + 1 := by
              rcases hfo.out with ⟨_, h, _⟩ | ⟨_, _, _, _, _, h, _⟩ <;> rw [h] <;> simp
            rcases (show 3 < j ∨ (j ≤ 3 ∧ (s.size : Int) < k + j) by omega) with h9 | ⟨h9, h10⟩
            · clear hj hf0
              go_wp2
              go_roundw
              case rel => exact ⟨k + fo, f - 1, us', by omega, by omega, by go_num, by omega, hown, hbel, hgo2⟩
              case measure => simp [intOf]; omega
            · clear hj hf0
              go_wp2
              go_roundw
              case rel => exact ⟨k + fo, f - 1, us', by omega, by omega, by go_num, by omega, hown, hbel, hgo2⟩
              case measure => simp [intOf]; omega
    · obtain rfl : k = s.size := by omega
      obtain ⟨A, c, rfl, hr, hc1, hc2⟩ := hown.rd
      have hfin := Lib.hid (show unitsB s.data.toList = some us by rw [hgo.out, drop_end]; exact unitsGo_nil _ _)
      go_wp2
      go_ret2
      exact unitsPost_yes hfin.out rfl hr hbel
end Go.Proofs.YthlplphpikboiaaDoor
