/- Contract: samovarref12.Write. -/
import Derived.Test.YthkgnidafdiolaaDoorManK
import Derived.Test.YthkgnidafdiolaaDoorManN
namespace Go.Proofs.YthkgnidafdiolaaDoor
open Go.RowKit

theorem byteTyR : ETy Tryd.prog 22 5 (.int .u8 0) 1 1 := ⟨Tryd.underlying22, info_parts (by kernel_rfl), rfl, by decide⟩
theorem rcat3 (s v : ByteArray) : s ++ (⟨#[58, 32]⟩ : ByteArray) ++ v = ⟨(attrS (s.data.toList, v.data.toList)).toArray⟩ := ba_eq (by
  rw [ByteArray.data_append, ByteArray.data_append, Array.toList_append, Array.toList_append]; rfl)
def BigR (L : List Attr) : Prop := L.length ≤ 1000000 ∧ ∀ a ∈ L, a.1.length ≤ 1000000 ∧ a.2.length ≤ 1000000
/-- Is any value too long? -/
def SizeR (L : List Attr) (k : Nat) (z : Int) : Prop := (z = 0 ∧ ∀ a ∈ L.take k, ¬ 32768 < a.2.length) ∨ (z = 65536 ∧ ∃ a ∈ L.take k, 32768 < a.2.length)
theorem sizeR_yes {L : List Attr} {k : Nat} {a : Attr} (hx : L[k]? = some a) (h : 32768 < a.2.length) : SizeR L (k + 1) 65536 := by
  right; exact ⟨rfl, a, by rw [List.take_add_one, hx]; simp, h⟩
theorem sizeR_no {L : List Attr} {k : Nat} {z : Int} {a : Attr} (hx : L[k]? = some a) (h : ¬ 32768 < a.2.length) (hs : SizeR L k z) : SizeR L (k + 1) z := by
  rcases hs with ⟨h1, h2⟩ | ⟨h1, b, hb, h2⟩
  · left
    refine ⟨h1, fun b hb => ?_⟩
    rw [List.take_add_one, hx] at hb
    rcases List.mem_append.1 hb with hb | hb
    · exact h2 b hb
    · simp at hb; subst hb; exact h
  · right; exact ⟨h1, b, by rw [List.take_add_one, hx]; simp [hb], h2⟩
theorem wm_chk {L : List Attr} {x : Int} (h : checkW L [] = x) (hx : ¬ x = 0) : writeM L = (x, []) := by unfold writeM; rw [h, if_pos hx]
set_option maxRecDepth 100000 in
set_option maxHeartbeats 8000000 in
theorem refWrite_any (A : Option Addr) (n c : Nat) (L : List Attr) (w : World) (hn : L.length = n) (hbig : BigR L) (hr : RS pairC w w.heap.size A L) :
    Calls Tryd.prog 16 #[.slice A n c] w (WrPost (writeM L) w) := by
  have HL := Lib.hid hn
  have HBIG := Lib.hid hbig
  have hz : n ≤ 1000000 := by rw [← hn]; exact hbig.1
  obtain ⟨R, hR⟩ : ∃ R, writeM L = R := ⟨_, rfl⟩
  rw [hR]
  have HR := Lib.hid hR
  have HR1 : Hid (∀ x : Int, checkW L [] = x → ¬ x = 0 → R = (x, [])) := Lib.hid (fun x h hx => by rw [← hR]; exact wm_chk h hx)
  by_cases h0 : n = 0
  · have hki : ((n : Int) == 0) = true := by simpa using h0
    have HF : Hid (R = (22, [])) := Lib.hid (by
      have hL0 : L = [] := List.eq_nil_of_length_eq_zero (by rw [hn]; exact h0)
      rw [← hR, hL0]; rfl)
    clear h0 hn hR hbig
    go_enter Tryd.func16, Tryd.ntmps16
    go_wp2
    go_ret2
    exact wrPost_err HF.out (Below.refl _ _)
  · have hki : ((n : Int) == 0) = false := by simpa using h0
    have hLne : Hid (¬ L = []) := Lib.hid (fun e => h0 (by rw [← hn, e]; rfl))
    clear h0 hn hR hbig
    go_enter Tryd.func16, Tryd.ntmps16
    go_wp2
    go_loopw [4, 5, 6, 7, 8] (fun z i _ _ _ wr => ∃ (k : Nat) (sz : Int), k ≤ n ∧ z = .int .i64 sz ∧ i = .int .i64 (k : Int) ∧ Below w.heap.size w wr ∧ Hid (SizeR L k sz) ∧
      Hid (checkW L [] = checkW (L.drop k) (namesL (L.take k)))) (fun _ i _ _ _ _ => n - (intOf i).toNat)
    case atStart => exact ⟨0, 0, by omega, rfl, rfl, Below.refl _ _, Lib.hid (.inl ⟨rfl, by simp⟩), Lib.hid rfl⟩
    case round =>
      obtain ⟨k, sz, hk, rfl, rfl, hbel, hsz, hgo⟩ := hrel
      by_cases hk0 : k < n
      · obtain ⟨ad, a, rfl, hlt, hx, hc0, hc1⟩ := (hr.below hbel (Nat.le_refl _)).at_ pairK (by rw [HL.out]; exact hk0)
        have ha := HBIG.out.2 a (List.mem_of_getElem? hx.out)
        have hd0 := hc0 _ rfl
        have hd1 := hc1 0 _ rfl
        obtain ⟨nb, hnb⟩ : ∃ nb : ByteArray, (⟨a.1.toArray⟩ : ByteArray) = nb := ⟨_, rfl⟩
        obtain ⟨vb, hvb⟩ : ∃ vb : ByteArray, (⟨a.2.toArray⟩ : ByteArray) = vb := ⟨_, rfl⟩
        unfold sV at hd0 hd1
        rw [hnb] at hd0
        rw [hvb, Nat.zero_add] at hd1
        have hnd : nb.data.toList = a.1 := by rw [← hnb]
        have hvd : vb.data.toList = a.2 := by rw [← hvb]
        have hns : nb.size ≤ 1000000 := by rw [← size_len, hnd]; exact ha.1
        have hvs : vb.size ≤ 1000000 := by rw [← size_len, hvd]; exact ha.2
        have HND := Lib.hid hnd
        have HVD := Lib.hid hvd
        have hblk : (ad.add (k * 2)).block < w.heap.size := by rw [blk_add]; exact hlt
        clear hc0 hc1 hnb hvb hnd hvd ha
        go_wp2_with fail
        refine (refName_any nb wr (by omega)).mono ?_
        rintro e w' ⟨rfl, rfl⟩
        rw [HND.out]
        cases hnm : nameB a.1
        · have HF := Lib.hid (HR1.out 22 (hgo.out.trans (cw_name hx.out hnm)) (by decide))
          go_wp2
          go_ret2
          exact wrPost_err HF.out hbel
        · have HNM := Lib.hid hnm
          clear hnm
          by_cases hk00 : k = 0
          · have hki : ((k : Int) == 0) = true := by simpa using hk00
            have HK := Lib.hid hk00
            clear hk00
            go_wp2_with fail
            refine (one_any nb _ _ (by omega) (by decide)).mono ?_
            rintro e w5 ⟨rfl, hb5⟩
            rw [HND.out, show smallL (⟨#[77, 97, 110, 105, 102, 101, 115, 116, 45, 86, 101, 114, 115, 105, 111, 110]⟩ : ByteArray).data.toList = mvL by decide]
            have hbel5 := hbel.trans (hb5.mono hbel.size)
            have he0 : w5.cell? (ad.add (k * 2)) = some (.string nb) := (hb5.cell (World.block_lt_of_cell? _ _ hd0)).trans hd0
            have he1 : w5.cell? ⟨(ad.add (k * 2)).block, (ad.add (k * 2)).off + 1, none⟩ = some (.string vb) := (hb5.cell (World.block_lt_of_cell? _ _ hd1)).trans hd1
            clear hbel hd0 hd1 hb5
            by_cases hmv : smallL a.1 = mvL
            · rw [decide_eq_true hmv]
              have HMV : Hid (k = 0 → smallL a.1 = mvL) := Lib.hid (fun _ => hmv)
              clear hmv
              obtain ⟨wo, rfl⟩ : ∃ wo : World, wo = w5 := ⟨_, rfl⟩
              go_wp2
              go_loop [6, 7] (fun i _ => ∃ j : Nat, j ≤ vb.size ∧ i = .int .i64 (j : Int) ∧ Hid (∀ (q : Nat) (y : UInt8), q < j → a.2[q]? = some y → ¬ y = 0 ∧ ¬ y = 13 ∧ ¬ y = 10)) (fun i _ => vb.size - (intOf i).toNat)
              case atStart => exact ⟨0, by omega, rfl, Lib.hid (fun q y h => by omega)⟩
              case round =>
                obtain ⟨j, hj, rfl, hno⟩ := hrel
                by_cases hj0 : j < vb.size
                · have HX2 : Hid (a.2[j]? = some vb[j]) := Lib.hid (by rw [← HVD.out]; exact byte_at hj0)
                  by_cases hbad : vb[j] = 0 ∨ vb[j] = 13 ∨ vb[j] = 10
                  · have HF := Lib.hid (HR1.out 22 (hgo.out.trans (cw_val hx.out HNM.out HMV.out (badV_yes HX2.out hbad))) (by decide))
                    rcases hbad with h | h | h
                    · have f1 : (vb[j].toNat : Int) = 0 := by rw [h]; rfl
                      clear h
                      go_wp2
                      go_ret2
                      exact wrPost_err HF.out hbel5
                    · have f1 : (vb[j].toNat : Int) = 13 := by rw [h]; rfl
                      clear h
                      go_wp2
                      go_ret2
                      exact wrPost_err HF.out hbel5
                    · have f1 : (vb[j].toNat : Int) = 10 := by rw [h]; rfl
                      clear h
                      go_wp2
                      go_ret2
                      exact wrPost_err HF.out hbel5
                  · have q0 : ¬ vb[j] = 0 := fun e => hbad (.inl e)
                    have q1 : ¬ vb[j] = 13 := fun e => hbad (.inr (.inl e))
                    have q2 : ¬ vb[j] = 10 := fun e => hbad (.inr (.inr e))
                    have f0 : ((vb[j].toNat : Int) == 0) = false := by have := u8_ne (y := 0) q0; simpa using this
                    have f1 : ((vb[j].toNat : Int) == 13) = false := by have := u8_ne (y := 13) q1; simpa using this
                    have f2 : ((vb[j].toNat : Int) == 10) = false := by have := u8_ne (y := 10) q2; simpa using this
                    have g0 : ¬ (vb[j].toNat : Int) = 0 := u8_ne (y := 0) q0
                    have g1 : ¬ (vb[j].toNat : Int) = 13 := u8_ne (y := 13) q1
                    have g2 : ¬ (vb[j].toNat : Int) = 10 := u8_ne (y := 10) q2
                    have hnx : Hid (∀ (q : Nat) (y : UInt8), q < j + 1 → a.2[q]? = some y → ¬ y = 0 ∧ ¬ y = 13 ∧ ¬ y = 10) := Lib.hid (fun q y hq hy => by
                      rcases Nat.lt_or_ge q j with h | h
                      · exact hno.out q y h hy
                      · obtain rfl : q = j := by omega
                        rw [HX2.out] at hy; injection hy with hy; subst hy; exact ⟨q0, q1, q2⟩)
                    clear hbad q0 q1 q2
                    go_wp2
                    go_round
                    case rel => exact ⟨j + 1, by omega, by go_num, hnx⟩
                    case measure => simp [intOf]; omega
                · obtain rfl : j = vb.size := by omega
                  have HBV : Hid (badV a.2 = false) := Lib.hid (badV_no (fun q y hq hy => hno.out q y (by rw [← HVD.out] at hq; exact hq) hy))
                  clear hno hj0 hj
                  go_wp2
                  go_loopw [8] (fun i wr => ∃ t : Nat, t ≤ k ∧ i = .int .i64 (t : Int) ∧ Below wo.heap.size wo wr ∧ Hid (∀ (q : Nat) (b : Attr), q < t → L[q]? = some b → ¬ smallL b.1 = smallL a.1)) (fun i _ => k - (intOf i).toNat)
                  case atStart => exact ⟨0, by omega, rfl, Below.refl _ _, Lib.hid (fun q b h => by omega)⟩
                  case round =>
                    obtain ⟨t, ht, rfl, hb6, hnone⟩ := hrel
                    have hf0 : wr.cell? (ad.add (k * 2)) = some (.string nb) := (hb6.cell (World.block_lt_of_cell? _ _ he0)).trans he0
                    have hf1 : wr.cell? ⟨(ad.add (k * 2)).block, (ad.add (k * 2)).off + 1, none⟩ = some (.string vb) := (hb6.cell (World.block_lt_of_cell? _ _ he1)).trans he1
                    have hbel6 := hbel5.trans (hb6.mono hbel5.size)
                    by_cases ht0 : t < k
                    · obtain ⟨ad2, b, had2, hlt2, hbx, hcb0, _⟩ := (hr.below hbel6 (Nat.le_refl _)).at_ pairK (k := t) (by rw [HL.out]; omega)
                      injection had2 with had2
                      subst had2
                      have hcb := hcb0 _ rfl
                      have hb1l := (HBIG.out.2 b (List.mem_of_getElem? hbx.out)).1
                      obtain ⟨ob, hob⟩ : ∃ ob : ByteArray, (⟨b.1.toArray⟩ : ByteArray) = ob := ⟨_, rfl⟩
                      unfold sV at hcb
                      rw [hob] at hcb
                      have hod : ob.data.toList = b.1 := by rw [← hob]
                      have hos : ob.size ≤ 1000000 := by rw [← size_len, hod]; exact hb1l
                      have HOD := Lib.hid hod
                      have i1 : (0 : Int) ≤ (t : Int) := by omega
                      have i2 : (t : Int) < (n : Int) := by omega
                      have i3 : (t : Int).toNat = t := by omega
                      have i4 : (0 : Int) ≤ (k : Int) := by omega
                      have i5 : (k : Int) < (n : Int) := by omega
                      have i6 : (k : Int).toNat = k := by omega
                      clear hcb0 hob hod hb1l
                      go_wp2
                      go_still_tail 10, (by kernel_rfl)
                      change wpList _ _ _ _ _ wr.drew
                      have hb7 := hb6.drew
                      generalize wr.drew = w6 at hb7 ⊢
                      clear i1 i2 i3 i4 i5 i6
                      go_wp2_with fail
                      refine (one_any ob nb _ (by omega) (by omega)).mono ?_
                      rintro e w7 ⟨rfl, hb8⟩
                      rw [HOD.out, HND.out]
                      have hb9 := hb7.trans (hb8.mono hb7.size)
                      by_cases hsm : smallL b.1 = smallL a.1
                      · rw [decide_eq_true hsm]
                        have HF := Lib.hid (HR1.out 14 (hgo.out.trans (cw_dup hx.out HNM.out HMV.out HBV.out (by
                          rw [← hsm]
                          unfold namesL
                          refine List.mem_map_of_mem (f := fun a : Attr => smallL a.1) (List.mem_of_getElem? (i := t) ?_)
                          rw [List.getElem?_take, if_pos ht0]; exact hbx.out))) (by decide))
                        clear hsm
                        go_wp2
                        go_ret2
                        exact wrPost_err HF.out (hbel5.trans (hb9.mono hbel5.size))
                      · rw [decide_eq_false hsm]
                        have hnx : Hid (∀ (q : Nat) (b : Attr), q < t + 1 → L[q]? = some b → ¬ smallL b.1 = smallL a.1) := Lib.hid (fun q b' hq hy => by
                          rcases Nat.lt_or_ge q t with h | h
                          · exact hnone.out q b' h hy
                          · obtain rfl : q = t := by omega
                            rw [hbx.out] at hy; injection hy with hy; subst hy; exact hsm)
                        clear hsm
                        go_wp2
                        go_roundw
                        case rel => exact ⟨t + 1, by omega, by go_num, hb9, hnx⟩
                        case measure => simp [intOf]; omega
                    · obtain rfl : t = k := by omega
                      have HNO : Hid (¬ smallL a.1 ∈ namesL (L.take t)) := Lib.hid (fun hm => by
                        unfold namesL at hm
                        obtain ⟨b, hb, he⟩ := List.mem_map.1 hm
                        obtain ⟨q, hq⟩ := List.getElem?_of_mem hb
                        rw [List.getElem?_take] at hq
                        split at hq
                        · rename_i hqt; exact hnone.out q b hqt hq he
                        · cases hq)
                      have HC := Lib.hid (hgo.out.trans (cw_on hx.out HNM.out HMV.out HBV.out HNO.out))
                      have hvl : a.2.length = vb.size := by rw [← HVD.out]; rfl
                      by_cases hv9 : 32768 < vb.size
                      · have HZ := Lib.hid (sizeR_yes hx.out (by rw [hvl]; exact hv9))
                        clear hvl
                        go_wp2
                        go_roundw
                        case rel => exact ⟨t + 1, 65536, by omega, rfl, by go_num, hbel6, HZ, HC⟩
                        case measure => simp [intOf]; omega
                      · have HZ := Lib.hid (sizeR_no hx.out (by rw [hvl]; exact hv9) hsz.out)
                        clear hvl
                        go_wp2
                        go_roundw
                        case rel => exact ⟨t + 1, sz, by omega, rfl, by go_num, hbel6, HZ, HC⟩
                        case measure => simp [intOf]; omega
            · rw [decide_eq_false hmv]
              have HF := Lib.hid (HR1.out 22 (hgo.out.trans (cw_first hx.out HK.out hmv)) (by decide))
              clear hmv
              go_wp2
              go_ret2
              exact wrPost_err HF.out hbel5
          · have hki : ((k : Int) == 0) = false := by simpa using hk00
            have HMV : Hid (k = 0 → smallL a.1 = mvL) := Lib.hid (fun h => absurd h hk00)
            have hbel5 := hbel
            have he0 := hd0
            have he1 := hd1
            clear hk00 hbel hd0 hd1
            obtain ⟨wo, rfl⟩ : ∃ wo : World, wo = wr := ⟨_, rfl⟩
            go_wp2
            go_loop [6, 7] (fun i _ => ∃ j : Nat, j ≤ vb.size ∧ i = .int .i64 (j : Int) ∧ Hid (∀ (q : Nat) (y : UInt8), q < j → a.2[q]? = some y → ¬ y = 0 ∧ ¬ y = 13 ∧ ¬ y = 10)) (fun i _ => vb.size - (intOf i).toNat)
            case atStart => exact ⟨0, by omega, rfl, Lib.hid (fun q y h => by omega)⟩
            case round =>
              obtain ⟨j, hj, rfl, hno⟩ := hrel
              by_cases hj0 : j < vb.size
              · have HX2 : Hid (a.2[j]? = some vb[j]) := Lib.hid (by rw [← HVD.out]; exact byte_at hj0)
                by_cases hbad : vb[j] = 0 ∨ vb[j] = 13 ∨ vb[j] = 10
                · have HF := Lib.hid (HR1.out 22 (hgo.out.trans (cw_val hx.out HNM.out HMV.out (badV_yes HX2.out hbad))) (by decide))
                  rcases hbad with h | h | h
                  · have f1 : (vb[j].toNat : Int) = 0 := by rw [h]; rfl
                    clear h
                    go_wp2
                    go_ret2
                    exact wrPost_err HF.out hbel5
                  · have f1 : (vb[j].toNat : Int) = 13 := by rw [h]; rfl
                    clear h
                    go_wp2
                    go_ret2
                    exact wrPost_err HF.out hbel5
                  · have f1 : (vb[j].toNat : Int) = 10 := by rw [h]; rfl
                    clear h
                    go_wp2
                    go_ret2
                    exact wrPost_err HF.out hbel5
                · have q0 : ¬ vb[j] = 0 := fun e => hbad (.inl e)
                  have q1 : ¬ vb[j] = 13 := fun e => hbad (.inr (.inl e))
                  have q2 : ¬ vb[j] = 10 := fun e => hbad (.inr (.inr e))
                  have f0 : ((vb[j].toNat : Int) == 0) = false := by have := u8_ne (y := 0) q0; simpa using this
                  have f1 : ((vb[j].toNat : Int) == 13) = false := by have := u8_ne (y := 13) q1; simpa using this
                  have f2 : ((vb[j].toNat : Int) == 10) = false := by have := u8_ne (y := 10) q2; simpa using this
                  have g0 : ¬ (vb[j].toNat : Int) = 0 := u8_ne (y := 0) q0
                  have g1 : ¬ (vb[j].toNat : Int) = 13 := u8_ne (y := 13) q1
                  have g2 : ¬ (vb[j].toNat : Int) = 10 := u8_ne (y := 10) q2
                  have hnx : Hid (∀ (q : Nat) (y : UInt8), q < j + 1 → a.2[q]? = some y → ¬ y = 0 ∧ ¬ y = 13 ∧ ¬ y = 10) := Lib.hid (fun q y hq hy => by
                    rcases Nat.lt_or_ge q j with h | h
                    · exact hno.out q y h hy
                    · obtain rfl : q = j := by omega
                      rw [HX2.out] at hy; injection hy with hy; subst hy; exact ⟨q0, q1, q2⟩)
                  clear hbad q0 q1 q2
                  go_wp2
                  go_round
                  case rel => exact ⟨j + 1, by omega, by go_num, hnx⟩
                  case measure => simp [intOf]; omega
              · obtain rfl : j = vb.size := by omega
                have HBV : Hid (badV a.2 = false) := Lib.hid (badV_no (fun q y hq hy => hno.out q y (by rw [← HVD.out] at hq; exact hq) hy))
                clear hno hj0 hj
                go_wp2
                go_loopw [8] (fun i wr => ∃ t : Nat, t ≤ k ∧ i = .int .i64 (t : Int) ∧ Below wo.heap.size wo wr ∧ Hid (∀ (q : Nat) (b : Attr), q < t → L[q]? = some b → ¬ smallL b.1 = smallL a.1)) (fun i _ => k - (intOf i).toNat)
                case atStart => exact ⟨0, by omega, rfl, Below.refl _ _, Lib.hid (fun q b h => by omega)⟩
                case round =>
                  obtain ⟨t, ht, rfl, hb6, hnone⟩ := hrel
                  have hf0 : wr.cell? (ad.add (k * 2)) = some (.string nb) := (hb6.cell (World.block_lt_of_cell? _ _ he0)).trans he0
                  have hf1 : wr.cell? ⟨(ad.add (k * 2)).block, (ad.add (k * 2)).off + 1, none⟩ = some (.string vb) := (hb6.cell (World.block_lt_of_cell? _ _ he1)).trans he1
                  have hbel6 := hbel5.trans (hb6.mono hbel5.size)
                  by_cases ht0 : t < k
                  · obtain ⟨ad2, b, had2, hlt2, hbx, hcb0, _⟩ := (hr.below hbel6 (Nat.le_refl _)).at_ pairK (k := t) (by rw [HL.out]; omega)
                    injection had2 with had2
                    subst had2
                    have hcb := hcb0 _ rfl
                    have hb1l := (HBIG.out.2 b (List.mem_of_getElem? hbx.out)).1
                    obtain ⟨ob, hob⟩ : ∃ ob : ByteArray, (⟨b.1.toArray⟩ : ByteArray) = ob := ⟨_, rfl⟩
                    unfold sV at hcb
                    rw [hob] at hcb
                    have hod : ob.data.toList = b.1 := by rw [← hob]
                    have hos : ob.size ≤ 1000000 := by rw [← size_len, hod]; exact hb1l
                    have HOD := Lib.hid hod
                    have i1 : (0 : Int) ≤ (t : Int) := by omega
                    have i2 : (t : Int) < (n : Int) := by omega
                    have i3 : (t : Int).toNat = t := by omega
                    have i4 : (0 : Int) ≤ (k : Int) := by omega
                    have i5 : (k : Int) < (n : Int) := by omega
                    have i6 : (k : Int).toNat = k := by omega
                    clear hcb0 hob hod hb1l
                    go_wp2
                    go_still_tail 10, (by kernel_rfl)
                    change wpList _ _ _ _ _ wr.drew
                    have hb7 := hb6.drew
                    generalize wr.drew = w6 at hb7 ⊢
                    clear i1 i2 i3 i4 i5 i6
                    go_wp2_with fail
                    refine (one_any ob nb _ (by omega) (by omega)).mono ?_
                    rintro e w7 ⟨rfl, hb8⟩
                    rw [HOD.out, HND.out]
                    have hb9 := hb7.trans (hb8.mono hb7.size)
                    by_cases hsm : smallL b.1 = smallL a.1
                    · rw [decide_eq_true hsm]
                      have HF := Lib.hid (HR1.out 14 (hgo.out.trans (cw_dup hx.out HNM.out HMV.out HBV.out (by
                        rw [← hsm]
                        unfold namesL
                        refine List.mem_map_of_mem (f := fun a : Attr => smallL a.1) (List.mem_of_getElem? (i := t) ?_)
                        rw [List.getElem?_take, if_pos ht0]; exact hbx.out))) (by decide))
                      clear hsm
                      go_wp2
                      go_ret2
                      exact wrPost_err HF.out (hbel5.trans (hb9.mono hbel5.size))
                    · rw [decide_eq_false hsm]
                      have hnx : Hid (∀ (q : Nat) (b : Attr), q < t + 1 → L[q]? = some b → ¬ smallL b.1 = smallL a.1) := Lib.hid (fun q b' hq hy => by
                        rcases Nat.lt_or_ge q t with h | h
                        · exact hnone.out q b' h hy
                        · obtain rfl : q = t := by omega
                          rw [hbx.out] at hy; injection hy with hy; subst hy; exact hsm)
                      clear hsm
                      go_wp2
                      go_roundw
                      case rel => exact ⟨t + 1, by omega, by go_num, hb9, hnx⟩
                      case measure => simp [intOf]; omega
                  · obtain rfl : t = k := by omega
                    have HNO : Hid (¬ smallL a.1 ∈ namesL (L.take t)) := Lib.hid (fun hm => by
                      unfold namesL at hm
                      obtain ⟨b, hb, he⟩ := List.mem_map.1 hm
                      obtain ⟨q, hq⟩ := List.getElem?_of_mem hb
                      rw [List.getElem?_take] at hq
                      split at hq
                      · rename_i hqt; exact hnone.out q b hqt hq he
                      · cases hq)
                    have HC := Lib.hid (hgo.out.trans (cw_on hx.out HNM.out HMV.out HBV.out HNO.out))
                    have hvl : a.2.length = vb.size := by rw [← HVD.out]; rfl
                    by_cases hv9 : 32768 < vb.size
                    · have HZ := Lib.hid (sizeR_yes hx.out (by rw [hvl]; exact hv9))
                      clear hvl
                      go_wp2
                      go_roundw
                      case rel => exact ⟨t + 1, 65536, by omega, rfl, by go_num, hbel6, HZ, HC⟩
                      case measure => simp [intOf]; omega
                    · have HZ := Lib.hid (sizeR_no hx.out (by rw [hvl]; exact hv9) hsz.out)
                      clear hvl
                      go_wp2
                      go_roundw
                      case rel => exact ⟨t + 1, sz, by omega, rfl, by go_num, hbel6, HZ, HC⟩
                      case measure => simp [intOf]; omega
      · obtain rfl : n = k := by omega
        have HC0 : Hid (checkW L [] = 0) := Lib.hid (by rw [hgo.out, ← HL.out]; exact cw_end)
        have HRT : Hid (R = writeT L []) := Lib.hid (by rw [← HR.out]; unfold writeM; rw [HC0.out, if_neg (by decide), if_neg hLne.out])
        have hzz := hsz.out
        unfold SizeR at hzz
        rw [← HL.out, List.take_length] at hzz
        rcases hzz with ⟨rfl, hno⟩ | ⟨rfl, hyes⟩
        · have HNO := Lib.hid hno
          clear hno hgo hsz
          obtain ⟨wo, rfl⟩ : ∃ wo : World, wo = wr := ⟨_, rfl⟩
          obtain ⟨B1, hB1⟩ : ∃ B1, wo.heap.size = B1 := ⟨_, rfl⟩
          have hBb : w.heap.size ≤ B1 := by have := hbel.size; omega
          have hz1 : B1 ≤ wo.heap.size := by omega
          clear hB1
          go_wp2
          go_loopw [9, 10, 11, 12, 13] (fun v i _ _ _ wr => ∃ (k : Nat) (out : List UInt8), k ≤ n ∧ i = .int .i64 (k : Int) ∧ OwB wr B1 5 v out ∧ Below B1 wo wr ∧ Hid (out.length ≤ 32768) ∧ Hid (R = writeT (L.drop k) out)) (fun _ i _ _ _ _ => n - (intOf i).toNat)
          case atStart => exact ⟨0, [], by omega, rfl, OwL.nil, Below.refl _ _, Lib.hid (by simp), HRT⟩
          case round =>
            obtain ⟨k, out, hk, rfl, hown, hb2, hol, hgo⟩ := hrel
            have hf2 : Below w.heap.size w wr := hbel.trans (hb2.mono hBb)
            have hzw : B1 ≤ wr.heap.size := Nat.le_trans hz1 hb2.size
            by_cases hk0 : k < n
            · obtain ⟨ad, a, rfl, hlt, hx, hc0, hc1⟩ := (hr.below hf2 (Nat.le_refl _)).at_ pairK (by rw [HL.out]; exact hk0)
              have ha := HBIG.out.2 a (List.mem_of_getElem? hx.out)
              have hd0 := hc0 _ rfl
              have hd1 := hc1 0 _ rfl
              obtain ⟨nb, hnb⟩ : ∃ nb : ByteArray, (⟨a.1.toArray⟩ : ByteArray) = nb := ⟨_, rfl⟩
              obtain ⟨vb, hvb⟩ : ∃ vb : ByteArray, (⟨a.2.toArray⟩ : ByteArray) = vb := ⟨_, rfl⟩
              unfold sV at hd0 hd1
              rw [hnb] at hd0
              rw [hvb, Nat.zero_add] at hd1
              have hnd : nb.data.toList = a.1 := by rw [← hnb]
              have hvd : vb.data.toList = a.2 := by rw [← hvb]
              have hns : nb.size ≤ 1000000 := by rw [← size_len, hnd]; exact ha.1
              have hvs : vb.size ≤ 1000000 := by rw [← size_len, hvd]; exact ha.2
              have HV9 : Hid (¬ 32768 < a.2.length) := Lib.hid (HNO.out a (List.mem_of_getElem? hx.out))
              obtain ⟨sb, hsb⟩ : ∃ sb : ByteArray, nb ++ (⟨#[58, 32]⟩ : ByteArray) ++ vb = sb := ⟨_, rfl⟩
              have hsd : sb.data.toList = attrS a := by rw [← hsb, rcat3, hnd, hvd]
              have hss : sb.size = nb.size + vb.size + 2 := by rw [← size_len, hsd, attrS_len, ← hnd, ← hvd, size_len, size_len]
              have HTL : Hid ((textL (attrL a)).length ≤ 8000100) := Lib.hid (by
                have h1 := attrT_len a
                have h2 : (attrS a).length = sb.size := by rw [← hsd]; rfl
                omega)
              have hsz2 : sb.size ≤ 2000002 := by omega
              have HSB := Lib.hid hsb
              have HSD := Lib.hid hsd
              have i4 : (0 : Int) ≤ (k : Int) := by omega
              have i5 : (k : Int) < (n : Int) := by omega
              have i6 : (k : Int).toNat = k := by omega
              clear hc0 hc1 hnb hvb hnd hvd ha hsb hsd hss
              go_wp2
              go_quiet (fail)
              rename_i nq
              clear i4 i5 i6
              rw [HSB.out]
              have hownA := hown.drewN nq
              have hbA := below_drewN hb2 nq
              clear hd0 hd1 hown hf2 hb2 hzw
              generalize wr.drewN nq = w3 at hbA hownA ⊢
              go_wp2_with fail
              go_loopw [9, 12, 13] (fun v i _ wr => ∃ (o2 : List UInt8) (p r : Nat) (ah : List UInt8), i = .int .i64 (p : Int) ∧ p ≤ sb.size ∧ ((p = 0 ∧ r = 72 ∧ ah = []) ∨ (0 < p ∧ r = 71 ∧ ah = [32])) ∧
                OwB wr B1 5 v o2 ∧ Below B1 wo wr ∧ Hid (o2 ++ tailT r ah (sb.data.toList.drop p) = out ++ textL (attrL a))) (fun _ i _ _ => sb.size - (intOf i).toNat)
              case atStart => exact ⟨out, 0, 72, [], rfl, by omega, .inl ⟨rfl, rfl, rfl⟩, hownA, hbA, Lib.hid (by rw [List.drop_zero, HSD.out, ← tailT_start])⟩
              case round =>
                obtain ⟨o2, p, r, ah, rfl, hp, hph, hown, hb3, heq⟩ := hrel
                have hzw3 : B1 ≤ wr.heap.size := Nat.le_trans hz1 hb3.size
                have HO2 : Hid (o2.length ≤ 9000000) := Lib.hid (by
                  have h1 := congrArg List.length heq.out
                  simp only [List.length_append] at h1
                  have h2 := HTL.out
                  have h3 := hol.out
                  omega)
                by_cases hp0 : p < sb.size
                · have hne : ¬ sb.data.toList.drop p = [] := fun e => by
                    have := congrArg List.length e
                    rw [List.length_drop, size_len] at this
                    simp at this; omega
                  have hst := Lib.hid (heq.out.symm.trans (congrArg (o2 ++ ·) (tailT_step hne (show 0 < r by omega))))
                  have hpp := hp0
                  clear hne hpp
                  obtain ⟨d, hd⟩ : ∃ d : Nat, sb.size - p = d := ⟨_, rfl⟩
                  have hsub : (sb.size : Int) - (p : Int) = (d : Int) := by omega
                  have hdl : p + d ≤ sb.size := by omega
                  have hdg : sb.size ≤ p + d := by omega
                  clear hd
                  rcases hph with ⟨hpos, rfl, rfl⟩ | ⟨hpos, rfl, rfl⟩
                  · have hpg : ¬ (0 : Int) < (p : Int) := by omega
                    clear hpos
                    by_cases hm : d < 72
                    · have HN2 : Hid ((o2).length + (sb.extract p (p + d)).size ≤ 140737488355328) := Lib.hid (by
                        have := HO2.out; simp only [List.length_append, List.length_cons, List.length_nil, ByteArray.size_extract]; omega)
                      have HN3 : Hid (((o2 ++ (sb.extract p (p + d)).data.toList).length + ([13, 10] : List UInt8).length) * 1 ≤ 140737488355328) := Lib.hid (by
                        have := HO2.out; simp only [List.length_append, List.length_cons, List.length_nil, size_len, ByteArray.size_extract]; omega)
                      have HTD : Hid ((sb.extract p (p + d)).data.toList = (sb.data.toList.drop p).take 72 ∧ (sb.data.toList.drop p).drop 72 = sb.data.toList.drop (p + d)) := Lib.hid (by
                        rw [Lib.extract_data, Nat.add_sub_cancel_left, List.drop_drop]
                        refine ⟨?_, ?_⟩
                        · rw [List.take_of_length_le (by rw [List.length_drop, size_len]; omega), List.take_of_length_le (by rw [List.length_drop, size_len]; omega)]
                        · rw [List.drop_eq_nil_of_le (by rw [size_len]; omega), List.drop_eq_nil_of_le (by rw [size_len]; omega)])
                      have i1 : (0 : Int) ≤ (p : Int) := by omega
                      have i2 : (d : Int) < 72 := by omega
                      have i3 : (p : Int) + (d : Int) ≤ (sb.size : Int) := by omega
                      go_wp2_with (first | (at_builtin; refine wpList_appStr _ rfl (.tmp 132) (.tmp 138) rfl byteTyR Tryd.underlying9 B1 _ o2 rfl hown (sb.extract p (p + d)) rfl HN2.out hzw3 ?_; intro v2 w2 own2 hbx2; have hz5 := Nat.le_trans hzw3 hbx2.size) | (at_builtin; refine wpList_appL _ bV_one rfl (.tmp 139) (.tmp 140) rfl byteTyR (by decide) B1 _ (o2 ++ (sb.extract p (p + d)).data.toList) rfl (own2.alloc _) _ _ 2 2 [13, 10] rfl rfl (RL.news _ _ _ rfl _ _) HN3.out (le_alloc0 hz5 _) ?_; intro v3 w3 own3 _ _ hbx3))
                      have hb4 := hb3.trans hbx2
                      have hb5 := (bl_alloc hb4 hz1 _).trans hbx3
                      go_roundw
                      case rel =>
                        refine ⟨_, p + d, 71, [32], by go_num, by omega, .inr ⟨by omega, rfl, rfl⟩, own3, hb5, Lib.hid ?_⟩
                        rw [hst.out, HTD.out.1, HTD.out.2]
                        simp only [List.append_assoc, List.nil_append, List.cons_append]
                      case measure => simp [intOf]; omega
                    · have HN2 : Hid ((o2).length + (sb.extract p (p + 72)).size ≤ 140737488355328) := Lib.hid (by
                        have := HO2.out; simp only [List.length_append, List.length_cons, List.length_nil, ByteArray.size_extract]; omega)
                      have HN3 : Hid (((o2 ++ (sb.extract p (p + 72)).data.toList).length + ([13, 10] : List UInt8).length) * 1 ≤ 140737488355328) := Lib.hid (by
                        have := HO2.out; simp only [List.length_append, List.length_cons, List.length_nil, size_len, ByteArray.size_extract]; omega)
                      have HTD : Hid ((sb.extract p (p + 72)).data.toList = (sb.data.toList.drop p).take 72 ∧ (sb.data.toList.drop p).drop 72 = sb.data.toList.drop (p + 72)) := Lib.hid (by
                        rw [Lib.extract_data, Nat.add_sub_cancel_left, List.drop_drop]
                        exact ⟨rfl, rfl⟩)
                      have i1 : (0 : Int) ≤ (p : Int) := by omega
                      have i2 : ¬ (d : Int) < 72 := by omega
                      have i3 : (p : Int) + 72 ≤ (sb.size : Int) := by omega
                      go_wp2_with (first | (at_builtin; refine wpList_appStr _ rfl (.tmp 132) (.tmp 138) rfl byteTyR Tryd.underlying9 B1 _ o2 rfl hown (sb.extract p (p + 72)) rfl HN2.out hzw3 ?_; intro v2 w2 own2 hbx2; have hz5 := Nat.le_trans hzw3 hbx2.size) | (at_builtin; refine wpList_appL _ bV_one rfl (.tmp 139) (.tmp 140) rfl byteTyR (by decide) B1 _ (o2 ++ (sb.extract p (p + 72)).data.toList) rfl (own2.alloc _) _ _ 2 2 [13, 10] rfl rfl (RL.news _ _ _ rfl _ _) HN3.out (le_alloc0 hz5 _) ?_; intro v3 w3 own3 _ _ hbx3))
                      have hb4 := hb3.trans hbx2
                      have hb5 := (bl_alloc hb4 hz1 _).trans hbx3
                      go_roundw
                      case rel =>
                        refine ⟨_, p + 72, 71, [32], by go_num, by omega, .inr ⟨by omega, rfl, rfl⟩, own3, hb5, Lib.hid ?_⟩
                        rw [hst.out, HTD.out.1, HTD.out.2]
                        simp only [List.append_assoc, List.nil_append, List.cons_append]
                      case measure => simp [intOf]; omega
                  · have hpg : (0 : Int) < (p : Int) := by omega
                    by_cases hm : d < 71
                    · have HN2 : Hid ((o2 ++ [32]).length + (sb.extract p (p + d)).size ≤ 140737488355328) := Lib.hid (by
                        have := HO2.out; simp only [List.length_append, List.length_cons, List.length_nil, ByteArray.size_extract]; omega)
                      have HN3 : Hid (((o2 ++ [32] ++ (sb.extract p (p + d)).data.toList).length + ([13, 10] : List UInt8).length) * 1 ≤ 140737488355328) := Lib.hid (by
                        have := HO2.out; simp only [List.length_append, List.length_cons, List.length_nil, size_len, ByteArray.size_extract]; omega)
                      have HN1 : Hid ((o2.length + ([32] : List UInt8).length) * 1 ≤ 140737488355328) := Lib.hid (by have := HO2.out; simp only [List.length_cons, List.length_nil]; omega)
                      have HTD : Hid ((sb.extract p (p + d)).data.toList = (sb.data.toList.drop p).take 71 ∧ (sb.data.toList.drop p).drop 71 = sb.data.toList.drop (p + d)) := Lib.hid (by
                        rw [Lib.extract_data, Nat.add_sub_cancel_left, List.drop_drop]
                        refine ⟨?_, ?_⟩
                        · rw [List.take_of_length_le (by rw [List.length_drop, size_len]; omega), List.take_of_length_le (by rw [List.length_drop, size_len]; omega)]
                        · rw [List.drop_eq_nil_of_le (by rw [size_len]; omega), List.drop_eq_nil_of_le (by rw [size_len]; omega)])
                      have i1 : (0 : Int) ≤ (p : Int) := by omega
                      have i2 : (d : Int) < 71 := by omega
                      have i3 : (p : Int) + (d : Int) ≤ (sb.size : Int) := by omega
                      go_wp2_with (first | (at_builtin; refine wpList_appL _ bV_one rfl (.tmp 119) (.tmp 120) rfl byteTyR (by decide) B1 _ o2 rfl (hown.alloc _) _ _ 1 1 [32] rfl rfl (RL.freshe _ _ rfl _) HN1.out (le_alloc0 hzw3 _) ?_; intro v1 w1 own1 _ _ hbx1; have hz4 := Nat.le_trans (le_alloc0 hzw3 _) hbx1.size) | (at_builtin; refine wpList_appStr _ rfl (.tmp 132) (.tmp 138) rfl byteTyR Tryd.underlying9 B1 _ (o2 ++ [32]) rfl own1 (sb.extract p (p + d)) rfl HN2.out hz4 ?_; intro v2 w2 own2 hbx2; have hz5 := Nat.le_trans hz4 hbx2.size) | (at_builtin; refine wpList_appL _ bV_one rfl (.tmp 139) (.tmp 140) rfl byteTyR (by decide) B1 _ ((o2 ++ [32]) ++ (sb.extract p (p + d)).data.toList) rfl (own2.alloc _) _ _ 2 2 [13, 10] rfl rfl (RL.news _ _ _ rfl _ _) HN3.out (le_alloc0 hz5 _) ?_; intro v3 w3 own3 _ _ hbx3))
                      have hb4 := (((bl_alloc hb3 hz1 _).trans hbx1).trans hbx2)
                      have hb5 := (bl_alloc hb4 hz1 _).trans hbx3
                      go_roundw
                      case rel =>
                        refine ⟨_, p + d, 71, [32], by go_num, by omega, .inr ⟨by omega, rfl, rfl⟩, own3, hb5, Lib.hid ?_⟩
                        rw [hst.out, HTD.out.1, HTD.out.2]
                        simp only [List.append_assoc, List.nil_append, List.cons_append]
                      case measure => simp [intOf]; omega
                    · have HN2 : Hid ((o2 ++ [32]).length + (sb.extract p (p + 71)).size ≤ 140737488355328) := Lib.hid (by
                        have := HO2.out; simp only [List.length_append, List.length_cons, List.length_nil, ByteArray.size_extract]; omega)
                      have HN3 : Hid (((o2 ++ [32] ++ (sb.extract p (p + 71)).data.toList).length + ([13, 10] : List UInt8).length) * 1 ≤ 140737488355328) := Lib.hid (by
                        have := HO2.out; simp only [List.length_append, List.length_cons, List.length_nil, size_len, ByteArray.size_extract]; omega)
                      have HN1 : Hid ((o2.length + ([32] : List UInt8).length) * 1 ≤ 140737488355328) := Lib.hid (by have := HO2.out; simp only [List.length_cons, List.length_nil]; omega)
                      have HTD : Hid ((sb.extract p (p + 71)).data.toList = (sb.data.toList.drop p).take 71 ∧ (sb.data.toList.drop p).drop 71 = sb.data.toList.drop (p + 71)) := Lib.hid (by
                        rw [Lib.extract_data, Nat.add_sub_cancel_left, List.drop_drop]
                        exact ⟨rfl, rfl⟩)
                      have i1 : (0 : Int) ≤ (p : Int) := by omega
                      have i2 : ¬ (d : Int) < 71 := by omega
                      have i3 : (p : Int) + 71 ≤ (sb.size : Int) := by omega
                      go_wp2_with (first | (at_builtin; refine wpList_appL _ bV_one rfl (.tmp 119) (.tmp 120) rfl byteTyR (by decide) B1 _ o2 rfl (hown.alloc _) _ _ 1 1 [32] rfl rfl (RL.freshe _ _ rfl _) HN1.out (le_alloc0 hzw3 _) ?_; intro v1 w1 own1 _ _ hbx1; have hz4 := Nat.le_trans (le_alloc0 hzw3 _) hbx1.size) | (at_builtin; refine wpList_appStr _ rfl (.tmp 132) (.tmp 138) rfl byteTyR Tryd.underlying9 B1 _ (o2 ++ [32]) rfl own1 (sb.extract p (p + 71)) rfl HN2.out hz4 ?_; intro v2 w2 own2 hbx2; have hz5 := Nat.le_trans hz4 hbx2.size) | (at_builtin; refine wpList_appL _ bV_one rfl (.tmp 139) (.tmp 140) rfl byteTyR (by decide) B1 _ ((o2 ++ [32]) ++ (sb.extract p (p + 71)).data.toList) rfl (own2.alloc _) _ _ 2 2 [13, 10] rfl rfl (RL.news _ _ _ rfl _ _) HN3.out (le_alloc0 hz5 _) ?_; intro v3 w3 own3 _ _ hbx3))
                      have hb4 := (((bl_alloc hb3 hz1 _).trans hbx1).trans hbx2)
                      have hb5 := (bl_alloc hb4 hz1 _).trans hbx3
                      go_roundw
                      case rel =>
                        refine ⟨_, p + 71, 71, [32], by go_num, by omega, .inr ⟨by omega, rfl, rfl⟩, own3, hb5, Lib.hid ?_⟩
                        rw [hst.out, HTD.out.1, HTD.out.2]
                        simp only [List.append_assoc, List.nil_append, List.cons_append]
                      case measure => simp [intOf]; omega
                · obtain rfl : p = sb.size := by omega
                  have HO : Hid (o2 = out ++ textL (attrL a)) := Lib.hid (by rw [← heq.out, List.drop_eq_nil_of_le (by rw [size_len]; exact Nat.le_refl _), tailT_nil, List.append_nil])
                  obtain ⟨A3, c3, rfl, _⟩ := hown.rd
                  by_cases h9 : 32768 < o2.length
                  · have h9' : (32768 : Int) < (o2.length : Int) := by omega
                    have HF := Lib.hid (hgo.out.trans (wt_long hx.out HV9.out (by rw [← HO.out]; exact h9)))
                    go_wp2
                    go_ret2
                    exact wrPost_err HF.out (hbel.trans (hb3.mono hBb))
                  · have h9' : ¬ (32768 : Int) < (o2.length : Int) := by omega
                    have HF := Lib.hid (hgo.out.trans (wt_on hx.out HV9.out (by rw [← HO.out]; exact h9)))
                    go_wp2
                    go_roundw
                    case rel => exact ⟨k + 1, o2, by omega, by go_num, hown, hb3, Lib.hid (by omega), by rw [HO.out]; exact HF⟩
                    case measure => simp [intOf]; omega
            · obtain rfl : k = n := by omega
              have HE : Hid (R = if 32768 < (out ++ [13, 10]).length then (8, []) else (0, out ++ [13, 10])) := Lib.hid (hgo.out.trans (by rw [← HL.out]; exact wt_end))
              have hol' := hol.out
              obtain ⟨o3, ho3⟩ : ∃ o3, out ++ [13, 10] = o3 := ⟨_, rfl⟩
              have HE2 : Hid (R = if 32768 < o3.length then (8, []) else (0, o3)) := Lib.hid (by rw [HE.out, ho3])
              have ho3l : o3.length ≤ 32770 := by rw [← ho3, List.length_append]; simp; omega
              have HO3 := Lib.hid ho3
              clear ho3
              go_wp2_with (at_builtin; refine wpList_appL _ bV_one rfl (.tmp 148) (.tmp 149) rfl byteTyR (by decide) B1 _ out rfl (hown.alloc _) _ _ 2 2 [13, 10] rfl rfl (RL.news _ _ _ ?c0 _ _) ?c1 ?c2 ?_)
              case c0 => exact ⟨rfl, rfl⟩
              case c1 => simp; omega
              case c2 => simp; omega
              intro v3 w3 own3 _ _ hb3
              rw [HO3.out] at own3
              have hb4 := (bl_alloc hf2 (Nat.le_refl _) _).trans (hb3.mono hBb)
              have own4 := own3
              obtain ⟨A3, c3, rfl, _⟩ := own3.rd
              by_cases h9 : 32768 < o3.length
              · have h9' : (32768 : Int) < (o3.length : Int) := by omega
                have HF : Hid (R = (8, [])) := Lib.hid (by rw [HE2.out, if_pos h9])
                go_wp2
                go_ret2
                exact wrPost_err HF.out hb4
              · have h9' : ¬ (32768 : Int) < (o3.length : Int) := by omega
                have HF : Hid (R = (0, o3)) := Lib.hid (by rw [HE2.out, if_neg h9])
                go_wp2
                go_ret2
                exact wrPost_ok HF.out own4 hb4
        · have HF : Hid (R = (8, [])) := Lib.hid (HRT.out.trans (writeT_long L [] hyes))
          clear hyes hgo hsz
          go_wp2
          go_ret2
          exact wrPost_err HF.out hbel
end Go.Proofs.YthkgnidafdiolaaDoor
