/- samovarref13.Method, SameTexts: what they answer. -/
import Derived.Test.YthlplphpikboiaaDoorNameG
import Derived.Outline
namespace Go.Proofs.YthlplphpikboiaaDoor
open Go.RowKit

theorem u8nb {c : UInt8} {n : Nat} (h : ¬ c = UInt8.ofNat n) (hn : n < 256) : ((c.toNat : Int) != (n : Int)) = true := by
  have := u8ne h hn
  simpa using this
set_option maxRecDepth 100000 in
set_option maxHeartbeats 2000000 in
theorem refMethod_post (s : ByteArray) (w : World) (hs : s.size ≤ 1000000) :
    Calls Tryd.prog 18 #[.string s] w (MethPost s.data.toList w) := by
  by_cases hz3 : s.size < 3
  · have hno := Lib.hid (methB_short (show s.data.toList.length < 3 from hz3))
    go_enter Tryd.func18, Tryd.ntmps18
    go_wp2
    go_ret3
    exact methPost_no hno.out (Below.refl _ _)
  · have h3 : 3 ≤ s.size := by omega
    by_cases h0 : s[0] = 40
    · have hmb := Lib.hid (show methB s.data.toList = methGo ((s.data.toList.drop 1).length + 1) [] 0 (s.data.toList.drop 1) by
        conv => lhs; rw [← List.drop_zero (l := s.data.toList), drop_at (show 0 < s.size by omega), h0]
        rfl)
      have hd1 : (s.data.toList.drop 1).length + 1 = s.size := by rw [List.length_drop, size_len]; omega
      have HD1 := Lib.hid hd1
      clear hd1
      have h0' : (s[0].toNat : Int) = 40 := by rw [h0]; rfl
      clear h0
      go_enter Tryd.func18, Tryd.ntmps18
      go_wp2
      go_loopw [5, 6, 7] (fun v i sl wr => ∃ (a : Nat) (ps : List (List UInt8)) (k : Int) (f : Nat), i = .int .i64 (a : Int) ∧ 1 ≤ a ∧ a ≤ s.size ∧ ps.length ≤ a ∧ s.size < f + a ∧ sl = .int .i64 k ∧ 0 ≤ k ∧ k ≤ 2 * ps.length ∧
          OwL strV wr w.heap.size 9 v ps ∧ Below w.heap.size w wr ∧ Hid (methB s.data.toList = methGo f ps k (s.data.toList.drop a))) (fun _ i _ _ => s.size - (intOf i).toNat)
      case atStart => exact ⟨1, [], 0, s.size, rfl, by omega, by omega, by simp, by omega, rfl, by omega, by simp, OwL.nil, Below.refl _ _, Lib.hid (by rw [hmb.out, HD1.out])⟩
      case round =>
        obtain ⟨a, ps, k, f, rfl, ha1, ha2, hpa, hf, rfl, hk0, hk1, hown, hbel, hgo⟩ := hrel
        by_cases ha : a < s.size
        · have hcons := Lib.hid (drop_at ha)
          have hxd := Lib.hid (ext_drop s a)
          by_cases h41 : s[a] = 41
          · have h41' : (s[a].toNat : Int) = 41 := by rw [h41]; rfl
            have hgo2 := Lib.hid (show methB s.data.toList = methGo f ps k (41 :: (s.extract (a + 1) s.size).data.toList) by rw [hgo.out, hcons.out, h41, ext_drop])
            have s1 : IntKind.i64.wrap ((a : Int) + 1) = (a : Int) + 1 := IntWalk.i64_in _ (by omega)
            have s2 : (0 : Int) ≤ (a : Int) + 1 := by omega
            have s3 : (a : Int) + 1 ≤ (s.size : Int) := by omega
            have s4 : ((a : Int) + 1).toNat = a + 1 := by omega
            clear h41
            by_cases hk : k < 64
            · have hk' : k ≤ 63 := by omega
              by_cases hv : (s.extract (a + 1) s.size).data.toList = [86]
              · have hg := tl_eq hv
                have hfin := Lib.hid (show methB s.data.toList = some (ps, (s.extract (a + 1) s.size).data.toList) by rw [hgo2.out]; exact methGo_close_yes (by omega) hk (resB_v hv))
                obtain ⟨A, c, rfl, hr, hc1, hc2⟩ := hown.rd
                clear hv
                go_wp2
                go_quiet (fail)
                go_wp2
                go_ret3
                exact methPost_yes hfin.out rfl (hr.drewN _) (below_drewN hbel _)
              · have hg := tl_ne hv
                have hres := Lib.hid (resB_d hv)
                clear hv
                cases hd : descB (s.extract (a + 1) s.size).data.toList
                · have hno := Lib.hid (show methB s.data.toList = none by rw [hgo2.out]; exact methGo_close_no (by rw [hres.out, hd]; simp))
                  have HD := Lib.hid hd
                  clear hd
                  go_wp2_with (go_at_call 14; refine (refDesc_any _ _ (by rw [ByteArray.size_extract]; omega)).mono ?_; rintro e w1 ⟨rfl, hb⟩; rw [HD.out])
                  go_ret3
                  exact methPost_no hno.out (hbel.trans (hb.mono hbel.size))
                · have hfin := Lib.hid (show methB s.data.toList = some (ps, (s.extract (a + 1) s.size).data.toList) by rw [hgo2.out]; exact methGo_close_yes (by omega) hk (by rw [hres.out]; exact hd))
                  have HD := Lib.hid hd
                  clear hd
                  obtain ⟨A, c, rfl, hr, hc1, hc2⟩ := hown.rd
                  go_wp2_with (go_at_call 14; refine (refDesc_any _ _ (by rw [ByteArray.size_extract]; omega)).mono ?_; rintro e w1 ⟨rfl, hb⟩; rw [HD.out])
                  go_quiet (fail)
                  go_wp2
                  go_ret3
                  exact methPost_yes hfin.out rfl ((hr.step hb).drewN _) (below_drewN (hbel.trans (hb.mono hbel.size)) _)
            · have hk' : 63 < k := by omega
              have hno := Lib.hid (show methB s.data.toList = none by rw [hgo2.out]; exact methGo_close_no (fun h => hk h.1))
              go_wp2
              go_ret3
              exact methPost_no hno.out hbel
          · have h41' : ((s[a].toNat : Int) != 41) = true := u8nb (n := 41) h41 (by omega)
            have hle : headN (s.data.toList.drop a) ≤ s.size - a := by have := headN_le (s.data.toList.drop a); rwa [List.length_drop] at this
            have HP := Lib.hid (first_any (s.extract a s.size) wr (by rw [ByteArray.size_extract]; omega))
            cases hh : headN (s.data.toList.drop a) with
            | zero =>
              have hno := Lib.hid (show methB s.data.toList = none by rw [hgo.out, hcons.out]; exact methGo_bad h41 (by rw [← hcons.out]; exact hh))
              have HH := Lib.hid (show headN (s.extract a s.size).data.toList = 0 by rw [hxd.out]; exact hh)
              clear hh h41
              go_wp2_with fail
              refine (HP.out).mono ?_
              rintro e w1 ⟨rfl, hb⟩
              rw [HH.out]
              go_wp2
              go_ret3
              exact methPost_no hno.out (hbel.trans (hb.mono hbel.size))
            | succ h =>
              rw [hh] at hle
              have HH := Lib.hid (show headN (s.extract a s.size).data.toList = h + 1 by rw [hxd.out]; exact hh)
              have hstep := Lib.hid (methGo_step (f := f - 1) (ps := ps) (k := k) hcons.out h41 hh)
              have hf1 := Lib.hid (show f - 1 + 1 = f by omega)
              obtain ⟨d, hd⟩ : ∃ d : ByteArray, s.extract a (a + (h + 1)) = d := ⟨_, rfl⟩
              have hdd : d.data.toList = (s.data.toList.drop a).take (h + 1) := by rw [← hd, extract_data]; congr 1; omega
              have HDD := Lib.hid hdd
              have HDX := Lib.hid hd
              obtain ⟨sr1, sr2⟩ := slotsN_range d.data.toList
              clear hh h41 hdd hd
              go_wp2_with fail
              refine (HP.out).mono ?_
              rintro e w1 ⟨rfl, hb⟩
              rw [HH.out]
              have own1 := hown.below hb
              have hb1 := hbel.trans (hb.mono hbel.size)
              have hz1 := hb1.size
              go_wp2_with (at_builtin; refine wpList_appL _ strV_one rfl (.tmp 33) (.tmp 40) rfl strTy (by decide) w.heap.size _ ps rfl (own1.alloc _) _ _ 1 1 [d.data.toList] rfl rfl (RL.freshe _ _ ?c0 _) ?c1 ?c2 ?_)
              case c0 => rw [← HDX.out]
              case c1 => simp; omega
              case c2 => simp; omega
              intro v2 w2 own2 _ _ hb2
              have hb2' := (bl_alloc hb1 (Nat.le_refl _) (.cells #[.string (s.extract a (a + (h + 1)))] 9)).trans hb2
              clear own1 hb1 hb hbel hown hb2
              go_wp2_with fail
              refine (refSlots_any _ _).mono ?_
              rintro e w3 ⟨rfl, rfl⟩
              rw [show s.extract a (a + (h + 1)) = d from HDX.out]
              go_wp2
              go_roundw
              case rel =>
                refine ⟨a + (h + 1), _, _, f - 1, by go_num, by omega, by omega, ?_, by omega, rfl, by omega, ?_, own2, hb2', Lib.hid ?_⟩
                · simp; omega
                · simp; omega
                · rw [hgo.out, ← hf1.out, hstep.out, HDD.out, List.drop_drop]
                  simp
              case measure => simp [intOf]; omega
        · obtain rfl : a = s.size := by omega
          have hno := Lib.hid (show methB s.data.toList = none by rw [hgo.out, drop_end]; exact methGo_nil)
          go_wp2
          go_ret3
          exact methPost_no hno.out hbel
    · have h0' : ((s[0].toNat : Int) != 40) = true := u8nb (n := 40) h0 (by omega)
      have hno := Lib.hid (methB_other (l := s.data.toList) (fun e => h0 (by rw [byteAt (show 0 < s.size by omega)] at e; injection e)))
      clear h0
      go_enter Tryd.func18, Tryd.ntmps18
      go_wp2
      go_ret3
      exact methPost_no hno.out (Below.refl _ _)
end Go.Proofs.YthlplphpikboiaaDoor
