/- The walk of InflateStored. -/
import Derived.Test.YtbhljigppljjbaaInfW
import Derived.Test.YtbhljigppljjbaaInfS
import Derived.Test.YtbhljigppljjbaaSame
import Derived.Test.YtbhljigppljjbaaSl
import Derived.Test.YtbhljigppljjbaaTri
import Derived.Deep.DeepCutAuto
import Derived.Outline
namespace Go.Proofs.Ytbhljigppljjbaa
open Go.RowKit

theorem u8_not (m : Nat) (hm : m < 256) : bits .xor .u8 (if IntKind.u8.signed = true then -1 else IntKind.u8.max) (m : Int) = ((255 - m : Nat) : Int) := by
  have h : ∀ m : Nat, m < 256 → bits .xor .u8 (if IntKind.u8.signed = true then -1 else IntKind.u8.max) (m : Int) = ((255 - m : Nat) : Int) := by decide +kernel
  exact h m hm
def head5 (hd : UInt8) (k : Nat) : List UInt8 := [hd, UInt8.ofNat k, UInt8.ofNat (k / 256), UInt8.ofNat (255 - k % 256), UInt8.ofNat (255 - k / 256 % 256)]
theorem storeB_head (hd : UInt8) (p : List UInt8) : storeB hd p = head5 hd p.length ++ p := rfl
theorem bV_of (k : Nat) : bV (UInt8.ofNat k) = .int .u8 ((k % 256 : Nat) : Int) := by unfold bV; rw [UInt8.toNat_ofNat']
set_option maxRecDepth 100000 in
set_option maxHeartbeats 1000000 in
theorem inflateStored_walk (w : World) (A0 : Option Addr) (n0 c0 : Nat) (l0 : List Sl) (e0 : l0.length = n0) (r0 : RL slV w w.heap.size A0 l0) (q0 : ∀ x ∈ l0, SlOk w x) (b0 : n0 ≤ 140737488351232) :
    Calls Try.prog 6 #[.slice A0 n0 c0] w fun e w' => e = .returned (.bool true) ∧ Below w.heap.size w w' := by
  have HL := bx e0
  have HQ := bx q0
  clear e0 q0
  obtain ⟨N, hN, hNn, hN20⟩ : ∃ N : Nat, (if (20 : Int) < (n0 : Int) then (20 : Int) else (n0 : Int)) = (N : Int) ∧ N ≤ n0 ∧ N ≤ 20 := by
    by_cases h : (20 : Int) < (n0 : Int)
    · exact ⟨20, by rw [if_pos h]; rfl, by omega, by omega⟩
    · exact ⟨n0, by rw [if_neg h], by omega, by omega⟩
  have HN := bx hN
  clear hN
  go_enter Try.func6, Try.ntmps6
  go_wp2_with fail
  refine (ifixed_any w).mono ?_
  rintro e w1 ⟨rfl, hb1⟩
  go_upto_region 5 with (fail)
  rw [HN.out]
  go_wp2_with fail
  go_loopg [3, 4, 6] N (fun κ v3 v4 jj wr => ∃ (j : Nat) (bl wl : List UInt8), κ = N - j ∧ j ≤ N ∧ jj = .int .i64 (j : Int) ∧ OwB wr w.heap.size 5 v3 bl ∧ OwB wr w.heap.size 5 v4 wl ∧ Apt v3 v4 ∧ Below w.heap.size w wr ∧
    Bx (bl = ((l0.take j).map Sl.l).flatMap (storeB 0)) ∧ Bx (wl = ((l0.take j).map Sl.l).flatten) ∧ Bx (bl.length ≤ 1005 * j) ∧ Bx (wl.length ≤ 1000 * j) ∧ Bx (∀ p ∈ (l0.take j).map Sl.l, p.length ≤ 1000))
  case atStart => exact ⟨0, [], [], by omega, by omega, rfl, OwL.nil, OwL.nil, .inl rfl, hb1, bx rfl, bx rfl, bx (by simp), bx (by simp), bx (by simp)⟩
  case round =>
    clear hb1
    obtain ⟨j, bl, wl, hgk, hj, rfl, hO3, hO4, hAp, hB, hbl, hwl, hbn, hwn, hps⟩ := hrel
    have hBz := hB.size
    by_cases hjN : j < N
    · obtain ⟨ad, x, rfl, hadb, hx, hc⟩ := RL.atl r0 (k := j) (by rw [HL.out]; omega)
      have hok := HQ.out x (List.mem_of_getElem? hx.out)
      obtain ⟨xA, xn, xc, xl⟩ := x
      obtain ⟨hxl, hxc, hxm, hxr⟩ := hok
      simp only at hxl hxc hxm hxr
      have hc' : wr.cell? (ad.add j) = some (.slice xA xn xc) := (hB.cell (p := ad.add j) (by rw [blk_add]; exact hadb)).trans hc
      have HXL := bx hxl
      clear hc hxl
      by_cases hlong : 1000 < xn
      · go_wp2
        go_ret
        exact ⟨rfl, hB⟩
      · have hxn : xn ≤ 1000 := by omega
        have rp : RB wr w.heap.size xA xl := RL.below hxr hB (Nat.le_refl _)
        obtain ⟨y1, hy1⟩ : ∃ y1, 255 - xn % 256 = y1 := ⟨_, rfl⟩
        obtain ⟨y2, hy2⟩ : ∃ y2, 255 - xn / 256 = y2 := ⟨_, rfl⟩
        have hx1 : bits .xor .u8 (if IntKind.u8.signed = true then -1 else IntKind.u8.max) ((xn : Int) % 256) = (y1 : Int) := by
          rw [show ((xn : Int) % 256) = ((xn % 256 : Nat) : Int) by omega, ← hy1]; exact u8_not _ (by omega)
        have hx2 : bits .xor .u8 (if IntKind.u8.signed = true then -1 else IntKind.u8.max) ((xn : Int) / 256) = (y2 : Int) := by
          rw [show ((xn : Int) / 256) = ((xn / 256 : Nat) : Int) by omega, ← hy2]; exact u8_not _ (by omega)
        have hcs : ([.int .u8 0, .int .u8 ((xn : Int) % 256), .int .u8 ((xn : Int) / 256), .int .u8 (y1 : Int), .int .u8 (y2 : Int)] : List Value) = (head5 0 xn).map bV := by
          have e1 : ((xn % 256 : Nat) : Int) = (xn : Int) % 256 := by omega
          have e2 : ((xn / 256 % 256 : Nat) : Int) = (xn : Int) / 256 := by omega
          have e3 : (((255 - xn % 256) % 256 : Nat) : Int) = (y1 : Int) := by omega
          have e4 : (((255 - xn / 256 % 256) % 256 : Nat) : Int) = (y2 : Int) := by omega
          simp only [head5, List.map_cons, List.map_nil, bV_of, e1, e2, e3, e4]
          rfl
        have HCS := bx hcs
        have HN1 : Bx ((bl.length + (head5 0 xn).length) * 1 ≤ 140737488355328) := bx (by have := hbn.out; simp [head5]; omega)
        have HN2 : Bx (((bl ++ head5 0 xn).length + xl.length) * 1 ≤ 140737488355328) := bx (by have := hbn.out; rw [HXL.out]; simp [head5]; omega)
        have HN3 : Bx ((wl.length + xl.length) * 1 ≤ 140737488355328) := bx (by have := hwn.out; rw [HXL.out]; omega)
        have HT := bx (take_snocS hx.out)
        clear hcs hy1 hy2
        go_wp2_with (first
          | (at_builtin; refine wpList_appL _ bV_one rfl (.tmp 31) (.tmp 48) rfl byteTy (by decide) w.heap.size _ bl rfl (hO3.alloc _) _ _ 5 5 (head5 0 xn) rfl rfl (RL.news wr (head5 0 xn) _ HCS.out _ _) HN1.out (le_alloc0 hBz _) ?_; intro v5 w5 hO5 hg5 hk5 hb5)
          | (at_builtin; refine wpList_appL _ bV_one rfl (.tmp 50) (.tmp 51) rfl byteTy (by decide) w.heap.size _ _ rfl hO5 w.heap.size xA xn xc xl rfl HXL.out (RL.below (rp.alloc hBz _) hb5 (Nat.le_refl _)) HN2.out (Nat.le_trans (le_alloc0 hBz _) hb5.size) ?_; intro v6 w6 hO6 hg6 hk6 hb6)
          | (at_builtin; refine wpList_appL _ bV_one rfl (.tmp 53) (.tmp 54) rfl byteTy (by decide) w.heap.size _ _ rfl (apt_kept (apt_kept (hO4.alloc _) hAp hg5) (apt_new (hO4.alloc _) hAp hk5) hg6) w.heap.size xA xn xc xl rfl HXL.out (RL.below (RL.below (rp.alloc hBz _) hb5 (Nat.le_refl _)) hb6 (Nat.le_refl _)) HN3.out (Nat.le_trans (Nat.le_trans (le_alloc0 hBz _) hb5.size) hb6.size) ?_; intro v7 w7 hO7 hg7 hk7 hb7))
        have hA5 := apt_new (hO4.alloc _) hAp hk5
        have hO45 := apt_kept (hO4.alloc _) hAp hg5
        have hA6 := apt_new hO45 hA5 hk6
        have hO46 := apt_kept hO45 hA5 hg6
        have hO67 := apt_kept hO6 hA6.symm hg7
        have hA7 := (apt_new hO6 hA6.symm hk7).symm
        have hB7 : Below w.heap.size w w7 := (((bl_alloc hB (Nat.le_refl _) _).trans hb5).trans hb6).trans hb7
        have f1 : Bx (bl ++ head5 0 xn ++ xl = ((l0.take (j + 1)).map Sl.l).flatMap (storeB 0)) := bx (by
          rw [HT.out, List.map_append, List.flatMap_append, hbl.out, List.append_assoc]
          congr 1
          simp [storeB_head, HXL.out])
        have f2 : Bx (wl ++ xl = ((l0.take (j + 1)).map Sl.l).flatten) := bx (by rw [HT.out, List.map_append, List.flatten_append, hwl.out]; simp)
        have f3 : Bx ((bl ++ head5 0 xn ++ xl).length ≤ 1005 * (j + 1)) := bx (by have := hbn.out; have := HXL.out; simp [head5]; omega)
        have f4 : Bx ((wl ++ xl).length ≤ 1000 * (j + 1)) := bx (by have := hwn.out; have := HXL.out; rw [List.length_append]; omega)
        have f5 : Bx (∀ p ∈ (l0.take (j + 1)).map Sl.l, p.length ≤ 1000) := bx (fun p hp => by
          rw [HT.out, List.map_append, List.mem_append] at hp
          rcases hp with h | h
          · exact hps.out p h
          · simp at h; subst h; rw [HXL.out]; exact hxn)
        go_roundg (N - (j + 1))
        case rel => exact ⟨j + 1, _, _, rfl, by omega, by go_num, hO67, hO7, hA7, hB7, f1, f2, f3, f4, f5⟩
        case measure => omega
    · obtain rfl : j = N := by omega
      have HT1 : Bx ((bl.length + ([1, 0, 0, 255, 255] : List UInt8).length) * 1 ≤ 140737488355328) := bx (by have := hbn.out; simp; omega)
      have hall := infl_stored ((l0.take j).map Sl.l) (fun p hp => by have := hps.out p hp; omega) (lim := wl.length) (by have := hwn.out; omega)
      have hall2 := infl_stored ((l0.take j).map Sl.l) (fun p hp => by have := hps.out p hp; omega) (lim := wl.length - 1) (by have := hwn.out; omega)
      have htot : totalS ((l0.take j).map Sl.l) = wl.length := by unfold totalS; rw [hwl.out, List.length_flatten]
      have hs1 : storeB 1 [] = [1, 0, 0, 255, 255] := by decide
      rw [← hbl.out, hs1, htot, ← hwl.out] at hall hall2
      rw [if_neg (Nat.lt_irrefl _)] at hall
      have HA := bx hall
      have HA2 := bx hall2
      have hwl20 : wl.length ≤ 20000 := by have := hwn.out; omega
      have hbl20 : (bl ++ [1, 0, 0, 255, 255]).length ≤ 20105 := by have := hbn.out; simp; omega
      clear hall hall2 htot hs1
      go_wp2_with (at_builtin; refine wpList_appL _ bV_one rfl (.tmp 56) (.tmp 57) rfl byteTy (by decide) w.heap.size _ bl rfl (hO3.alloc _) _ _ 5 5 [1, 0, 0, 255, 255] rfl rfl (RL.news wr [1, 0, 0, 255, 255] _ rfl _ _) HT1.out (le_alloc0 hBz _) ?_; intro v5 w5 hO5 hg5 hk5 hb5; obtain ⟨A5, n5, c5, rfl, hn5, hr5⟩ := OwL.sl hO5; have hO45 := apt_kept (hO4.alloc _) hAp hg5; obtain ⟨A4, n4, c4, rfl, hn4, hr4⟩ := OwL.sl hO45)
      have hB5 := (bl_alloc hB (Nat.le_refl _) _).trans hb5
      have hn4l : n4 ≤ 20000 := by rw [hn4.out]; exact hwl20
      have hn5l : n5 ≤ 20105 := by rw [hn5.out]; exact hbl20
      clear hb5 hg5 hk5 hO5 hO45 hO3 hO4 hAp hB
      refine (iall_any A5 n5 c5 (bl ++ [1, 0, 0, 255, 255]) (n4 : Int) w5 hn5.out.symm (by omega) hr5 (by omega) (by omega)).mono ?_
      rintro e w6 hp6
      obtain ⟨A6, k6, c6, rfl, hk6, hr6, _, hb6, _, _, _⟩ := allOk hp6 (by rw [hn4.out]; exact HA.out)
      have hr56 := hr5.step hb6
      have hr46 := hr4.step hb6
      have hB6 := hB5.trans (hb6.mono hB5.size)
      clear hp6 hb6 hr5 hr4 hB5
      rw [← hn5.out]
      by_cases h0 : n4 = 0
      · subst h0
        have hw0 : wl = [] := List.eq_nil_of_length_eq_zero hn4.out.symm
        have HA3 : Bx (inflP (bl ++ [1, 0, 0, 255, 255]) 0 = .ok (wl, (bl ++ [1, 0, 0, 255, 255]).length)) := bx (by have := HA.out; rw [← hn4.out] at this; exact this)
        clear hw0
        go_wp2_with fail
        have hk := iall_any A5 n5 c5 (bl ++ [1, 0, 0, 255, 255]) 0 w6 hn5.out.symm (by omega) hr56 (by omega) (by omega)
        refine hk.mono ?_
        clear hk
        rintro e w7 hp7
        obtain ⟨A7, k7, c7, rfl, hk7, hr7, _, hb7, _, _, _⟩ := allOk hp7 HA3.out
        have hr67 := hr6.step hb7
        have hr47 := hr46.step hb7
        have hB7 := hB6.trans (hb7.mono hB6.size)
        clear hp7 hb7 hr6 hr46 hB6
        go_wp2_with fail
        refine (same_any A6 A4 k6 c6 0 c4 w7 wl wl hk6.out.symm hn4.out.symm (by have := hk6.out; omega) (by omega) hr67 hr47).mono ?_
        rintro e w8 ⟨rfl, hb8⟩
        have HB := bx (hB7.trans (hb8.mono hB7.size))
        clear hb8 hB7
        go_wp2_with fail
        go_ret
        exact ⟨rfl, HB.out⟩
      · obtain ⟨m, rfl⟩ : ∃ m, n4 = m + 1 := ⟨n4 - 1, by omega⟩
        have HA3 : Bx (inflP (bl ++ [1, 0, 0, 255, 255]) (m : Int) = .err 8) := bx (by
          have := HA2.out
          have hm := hn4.out
          rw [show wl.length - 1 = m by omega, if_pos (by omega)] at this
          exact this)
        have hk6l : k6 ≤ 20000 := by have := hk6.out; have := hn4.out; omega
        by_cases hm0 : m = 0
        · subst hm0
          go_wp2_with fail
          have hk := iall_any A5 n5 c5 (bl ++ [1, 0, 0, 255, 255]) 0 w6 hn5.out.symm (by omega) hr56 (by omega) (by omega)
          refine hk.mono ?_
          clear hk
          rintro e w7 hp7
          obtain ⟨rfl, hb7, _⟩ := allErr hp7 HA3.out
          have hr67 := hr6.step hb7
          have hr47 := hr46.step hb7
          have hB7 := hB6.trans (hb7.mono hB6.size)
          clear hp7 hb7 hr6 hr46 hB6
          go_wp2_with fail
          refine (same_any A6 A4 k6 c6 _ c4 w7 wl wl hk6.out.symm hn4.out.symm (by have := hk6.out; omega) (by omega) hr67 hr47).mono ?_
          rintro e w8 ⟨rfl, hb8⟩
          have HB := bx (hB7.trans (hb8.mono hB7.size))
          clear hb8 hB7
          go_wp2_with fail
          go_ret
          exact ⟨rfl, HB.out⟩
        · have hmp : 0 < m := by omega
          go_wp2_with fail
          have hk := iall_any A5 n5 c5 (bl ++ [1, 0, 0, 255, 255]) (m : Int) w6 hn5.out.symm (by omega) hr56 (by omega) (by omega)
          refine hk.mono ?_
          clear hk
          rintro e w7 hp7
          obtain ⟨rfl, hb7, _⟩ := allErr hp7 HA3.out
          have hr67 := hr6.step hb7
          have hr47 := hr46.step hb7
          have hB7 := hB6.trans (hb7.mono hB6.size)
          clear hp7 hb7 hr6 hr46 hB6
          go_wp2_with fail
          refine (same_any A6 A4 k6 c6 _ c4 w7 wl wl hk6.out.symm hn4.out.symm (by have := hk6.out; omega) (by omega) hr67 hr47).mono ?_
          rintro e w8 ⟨rfl, hb8⟩
          have HB := bx (hB7.trans (hb8.mono hB7.size))
          clear hb8 hB7
          go_wp2_with fail
          go_ret
          exact ⟨rfl, HB.out⟩
end Go.Proofs.Ytbhljigppljjbaa
