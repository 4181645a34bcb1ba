/- name.Method: what it answers. -/
import Derived.Test.YthlplphpikboiaaDoorNameF
namespace Go.Proofs.YthlplphpikboiaaDoor
open Go.RowKit

abbrev strV (l : List UInt8) : Value := .string ⟨l.toArray⟩
theorem strV_one (x : List UInt8) : (strV x).oneCell' = true := rfl
theorem strV_of (s : ByteArray) : Value.string s = strV s.data.toList := rfl
theorem str_info : (Tryd.prog.info? 9).map (fun i => (i.zero, i.size, i.bytes)) = some (some (.string .empty), 1, 16) := by kernel_rfl
theorem strTy : ETy Tryd.prog 26 9 (.string .empty) 1 16 := ⟨Tryd.underlying26, info_parts str_info, rfl, by decide⟩
/-- What Method answers: the parameters, the result, the error's number; new memory alone. -/
def MethPost (l : List UInt8) (w : World) (e : Ending) (w' : World) : Prop :=
  ∃ A n c, e = .returned (.tuple #[.slice A n c, .string ⟨(methV l).2.1.toArray⟩, .int .i64 (methV l).2.2]) ∧ (methV l).1.length = n ∧ RL strV w' w'.heap.size A (methV l).1 ∧ Below w.heap.size w w'
theorem methPost_no {l : List UInt8} {w w' : World} (h : methB l = none) (hb : Below w.heap.size w w') : MethPost l w (.returned (.tuple #[.slice none 0 0, .string .empty, .int .i64 24])) w' := by
  unfold MethPost; rw [methV_no h]
  exact ⟨none, 0, 0, rfl, rfl, RL.nil, hb⟩
theorem methPost_yes {l : List UInt8} {w w' : World} {ps : List (List UInt8)} {r : ByteArray} {A : Option Addr} {n c : Nat} (h : methB l = some (ps, r.data.toList)) (hn : ps.length = n) (hr : RL strV w' w'.heap.size A ps) (hb : Below w.heap.size w w') :
    MethPost l w (.returned (.tuple #[.slice A n c, .string r, .int .i64 0])) w' := by
  unfold MethPost; rw [methV_yes h]
  exact ⟨A, n, c, rfl, hn, hr, hb⟩
theorem cell_old {w w' : World} {p : Addr} {u : Value} (hb : Below w.heap.size w w') (h : w.cell? p = some u) : w'.cell? p = some u :=
  (hb.cell (World.block_lt_of_cell? _ _ h)).trans h
theorem ext_drop (s : ByteArray) (k : Nat) : (s.extract k s.size).data.toList = s.data.toList.drop k := by
  rw [extract_data]; exact List.take_of_length_le (by simp)
theorem ext_take (s : ByteArray) (k : Nat) : (s.extract 0 k).data.toList = s.data.toList.take k := by
  rw [extract_data]; simp
theorem cons_at {s : ByteArray} (h : 0 < s.size) : s.data.toList = s[0] :: (s.extract 1 s.size).data.toList := by
  rw [ext_drop]; exact drop_at h
theorem resB_v {s : ByteArray} (h : s.data.toList = [86]) : resB s.data.toList = true := by rw [h]; rfl
theorem resB_d {s : ByteArray} (h : ¬ s.data.toList = [86]) : resB s.data.toList = descB s.data.toList := by unfold resB; simp [h]

set_option maxRecDepth 100000 in
set_option maxHeartbeats 2000000 in
theorem method_post (s : ByteArray) (m : Int) (w : World) (hs : s.size ≤ 1000000) (hm : w.cell? ⟨0, 0, none⟩ = some (.int .i64 m)) :
    Calls Tryd.prog 17 #[.string s] w (MethPost s.data.toList w) := by
  by_cases h0 : s.data.toList[0]? = some 40
  · have h00 : 0 < s.size := (List.getElem?_eq_some_iff.1 h0).1
    obtain ⟨rs0, hrs0⟩ : ∃ rs0 : ByteArray, rs0 = s.extract 1 s.size := ⟨_, rfl⟩
    have hrd : rs0.data.toList = s.data.toList.drop 1 := by rw [hrs0]; exact ext_drop s 1
    have hrz : rs0.size + 1 = s.size := by rw [hrs0, ByteArray.size_extract]; omega
    have hsl : s.data.toList = 40 :: rs0.data.toList := by
      rw [hrd]
      have h1 := drop_at h00
      have h2 : s[0] = 40 := by have := byteAt h00; rw [h0] at this; injection this with e; exact e.symm
      rw [h2] at h1; simpa using h1
    have hmb := Lib.hid (show methB s.data.toList = methGo (rs0.size + 1) [] 0 rs0.data.toList by rw [hsl, methB_open]; rfl)
    have hp1 : Lib.hasPrefix s.data.toList [40] = true := by rw [hsl]; rfl
    have hp2 : (⟨(Lib.trimPrefix s.data.toList [40]).toArray⟩ : ByteArray) = rs0 := by
      apply ba_eq; unfold Lib.trimPrefix; rw [hp1]; rw [hrd]; rfl
    have HP1 := Lib.hid hp1
    have HP2 := Lib.hid hp2
    clear hp1 hp2 hrd hsl h0 hrs0
    go_enter Tryd.func17, Tryd.ntmps17
    go_wp2_with fail
    refine (Tryd.strings_CutPrefix _ _ _).mono ?_
    rintro e w' ⟨rfl, rfl⟩
    rw [show Lib.hasPrefix s.data.toList (⟨#[40]⟩ : ByteArray).data.toList = true from HP1.out, show (⟨(Lib.trimPrefix s.data.toList (⟨#[40]⟩ : ByteArray).data.toList).toArray⟩ : ByteArray) = rs0 from HP2.out]
    go_wp2
    go_loopw [5, 7, 8] (fun r v sl wr => ∃ (rs : ByteArray) (ps : List (List UInt8)) (k : Int) (f : Nat), r = .string rs ∧ rs.size + ps.length ≤ s.size ∧ rs.size < f ∧ sl = .int .i64 k ∧ 0 ≤ k ∧ k ≤ 2 * ps.length ∧
        OwL strV wr w'.heap.size 9 v ps ∧ Below w'.heap.size w' wr ∧ Hid (methB s.data.toList = methGo f ps k rs.data.toList)) (fun r _ _ _ => match r with | .string b => b.size | _ => 0)
    case atStart => exact ⟨rs0, [], 0, _, rfl, by simp; omega, Nat.lt_succ_self _, rfl, by omega, by simp, OwL.nil, Below.refl _ _, hmb⟩
    case round =>
      obtain ⟨rs, ps, k, f, rfl, hz, hf, rfl, hk0, hk1, hown, hbel, hgo⟩ := hrel
      rcases Nat.eq_zero_or_pos rs.size with h0 | h0
      · have hl : rs.data.toList = [] := List.eq_nil_of_length_eq_zero h0
        have hem : rs.toList.isEmpty = true := tl_none hl
        have hno := Lib.hid (show methB s.data.toList = none by rw [hgo.out, hl]; exact methGo_nil)
        clear hl h0
        go_wp2
        go_ret3
        exact methPost_no hno.out hbel
      · have hem : rs.toList.isEmpty = false := tl_some (fun e => by have : rs.data.toList.length = 0 := by rw [e]; rfl
                                                                     rw [size_len] at this; omega)
        have hcons := Lib.hid (cons_at h0)
        by_cases h41 : rs[0] = 41
        · have h41' : (rs[0].toNat : Int) = 41 := by rw [h41]; rfl
          have hgo2 := Lib.hid (show methB s.data.toList = methGo f ps k (41 :: (rs.extract 1 rs.size).data.toList) by rw [hgo.out, hcons.out, h41])
          have s3 : (1 : Int) ≤ (rs.size : Int) := by omega
          clear h41
          by_cases hk : k < 64
          · by_cases hv : (rs.extract 1 rs.size).data.toList = [86]
            · have hg := tl_eq hv
              have hfin := Lib.hid (show methB s.data.toList = some (ps, (rs.extract 1 rs.size).data.toList) by rw [hgo2.out]; exact methGo_close_yes (by omega) hk (resB_v hv))
              obtain ⟨A, c, rfl, hr, hc1, hc2⟩ := hown.rd
              clear hv
              go_wp2
              go_quiet (fail)
              go_wp2
              go_ret3
              exact methPost_yes hfin.out rfl (hr.drewN _) (below_drewN hbel _)
            · have hg := tl_ne hv
              have hres := Lib.hid (resB_d hv)
              have hfm := cell_old hbel hm
              clear hv
              cases hd : descB (rs.extract 1 rs.size).data.toList
              · have hno := Lib.hid (show methB s.data.toList = none by rw [hgo2.out]; exact methGo_close_no (by rw [hres.out, hd]; simp))
                have HD := Lib.hid hd
                clear hd
                go_wp2_with (go_at_call 13; refine (desc_any _ m _ (by rw [ByteArray.size_extract]; omega) hfm).mono ?_; rintro e w1 ⟨rfl, hb⟩; rw [HD.out])
                go_ret3
                exact methPost_no hno.out (hbel.trans (hb.mono hbel.size))
              · have hfin := Lib.hid (show methB s.data.toList = some (ps, (rs.extract 1 rs.size).data.toList) by rw [hgo2.out]; exact methGo_close_yes (by omega) hk (by rw [hres.out]; exact hd))
                have HD := Lib.hid hd
                clear hd
                obtain ⟨A, c, rfl, hr, hc1, hc2⟩ := hown.rd
                go_wp2_with (go_at_call 13; refine (desc_any _ m _ (by rw [ByteArray.size_extract]; omega) hfm).mono ?_; rintro e w1 ⟨rfl, hb⟩; rw [HD.out])
                go_quiet (fail)
                go_wp2
                go_ret3
                exact methPost_yes hfin.out rfl ((hr.step hb).drewN _) (below_drewN (hbel.trans (hb.mono hbel.size)) _)
          · have hno := Lib.hid (show methB s.data.toList = none by rw [hgo2.out]; exact methGo_close_no (fun h => hk h.1))
            go_wp2
            go_ret3
            exact methPost_no hno.out hbel
        · have h41' := u8ne (n := 41) h41 (by omega)
          have hle : headN rs.data.toList ≤ rs.size := headN_le _
          have HP := Lib.hid (head_post rs m wr (by omega) (cell_old hbel hm))
          cases hh : headN rs.data.toList with
          | zero =>
            have hno := Lib.hid (show methB s.data.toList = none by rw [hgo.out, hcons.out]; exact methGo_bad h41 (by rw [← hcons.out]; exact hh))
            have HH := Lib.hid hh
            clear hh h41
            go_wp2_with (go_at_call 29; refine (HP.out).mono ?_; rintro e w' ⟨h1, _, hb⟩; have h2 := h1 HH.out; clear h1; subst h2)
            go_ret3
            exact methPost_no hno.out (hbel.trans (hb.mono hbel.size))
          | succ h =>
            rw [hh] at hle
            have HH := Lib.hid hh
            have hstep := Lib.hid (methGo_step (f := f - 1) (ps := ps) (k := k) hcons.out h41 hh)
            have hf1 := Lib.hid (show f - 1 + 1 = f by omega)
            have hdt := Lib.hid (ext_take rs (h + 1))
            have hdd := Lib.hid (ext_drop rs (h + 1))
            obtain ⟨sr1, sr2⟩ := slotsN_range (List.take (h + 1) rs.data.toList)
            have hdz : (rs.extract (h + 1) rs.size).size = rs.size - (h + 1) := by rw [ByteArray.size_extract]; omega
            have HDZ := Lib.hid hdz
            clear hh h41 hdz
            go_wp2_with fail
            refine (HP.out).mono ?_
            rintro e w1 ⟨_, h1, hb⟩
            have h2 := h1 _ HH.out
            clear h1
            subst h2
            have own1 := hown.below hb
            have hb1 := hbel.trans (hb.mono hbel.size)
            have hz1 := hb1.size
            go_wp2_with (at_builtin; refine wpList_appL _ strV_one rfl (.tmp 32) (.tmp 34) rfl strTy (by decide) w'.heap.size _ ps rfl (own1.alloc _) _ _ 1 1 [(rs.extract 0 (h + 1)).data.toList] rfl rfl (RL.freshe _ _ ?c0 _) ?c1 ?c2 ?_)
            case c0 => rfl
            case c1 => simp; omega
            case c2 => simp; omega
            intro v2 w2 own2 _ _ hb2
            have hb2' := (bl_alloc hb1 (Nat.le_refl _) (.cells #[.string (rs.extract 0 (h + 1))] 9)).trans hb2
            clear own1 hb1 hb hbel hown hb2
            go_wp2_with (go_at_call 15; refine (slots_any _ _).mono ?_; rintro e w3 ⟨rfl, rfl⟩)
            go_roundw
            case rel =>
              refine ⟨_, _, _, f - 1, rfl, ?_, ?_, rfl, by omega, ?_, own2, hb2', Lib.hid ?_⟩
              · rw [HDZ.out]; simp; omega
              · rw [HDZ.out]; omega
              · simp; omega
              · rw [hgo.out, hdd.out, ← hstep.out, hf1.out]
            case measure =>
              show (rs.extract (h + 1) rs.size).size < rs.size
              rw [HDZ.out]; omega
  · have hmb := Lib.hid (methB_other h0)
    have hp1 : Lib.hasPrefix s.data.toList [40] = false := by
      unfold Lib.hasPrefix
      cases hl : s.data.toList with
      | nil => rfl
      | cons c r =>
        rw [hl] at h0
        have : ¬ 40 = c := fun e => h0 (by rw [← e]; rfl)
        simp [List.isPrefixOf, this]
    have HP1 := Lib.hid hp1
    clear hp1 h0
    go_enter Tryd.func17, Tryd.ntmps17
    go_wp2_with fail
    refine (Tryd.strings_CutPrefix _ _ _).mono ?_
    rintro e w' ⟨rfl, rfl⟩
    rw [show Lib.hasPrefix s.data.toList (⟨#[40]⟩ : ByteArray).data.toList = false from HP1.out]
    go_wp2
    go_ret3
    exact methPost_no hmb.out (Below.refl _ _)
end Go.Proofs.YthlplphpikboiaaDoor
