/- Contract: manifest.Write. -/
import Derived.Test.YthkgnidafdiolaaDoorManJ
import Derived.Test.YthkgnidafdiolaaDoorManN
import Derived.Outline
namespace Go.Proofs.YthkgnidafdiolaaDoor
open Go.RowKit

theorem byteTyW : ETy Tryd.prog 22 5 (.int .u8 0) 1 1 := ⟨Tryd.underlying22, info_parts (by kernel_rfl), rfl, by decide⟩
theorem seenG_take {L : List Attr} {k : Nat} {a : Attr} (hx : L[k]? = some a) {s : ByteArray} (hs : s.data.toList = smallL a.1) (q : ByteArray) : seenG (L.take (k + 1)) q = if q = s then some (.bool true) else seenG (L.take k) q := by
  rw [List.take_add_one, hx]; exact seenG_new hs q
theorem cat3 (s v : ByteArray) : s ++ (⟨#[58, 32]⟩ : ByteArray) ++ v = ⟨(attrS (s.data.toList, v.data.toList)).toArray⟩ := ba_eq (by
  rw [ByteArray.data_append, ByteArray.data_append, Array.toList_append, Array.toList_append]; rfl)
def strLen : Value → Nat
  | .string b => b.size
  | _ => 0
def BigA (L : List Attr) : Prop := L.length ≤ 1000000 ∧ ∀ a ∈ L, a.1.length ≤ 1000000 ∧ a.2.length ≤ 1000000
set_option maxRecDepth 100000 in
set_option maxHeartbeats 8000000 in
theorem write_any (A : Option Addr) (n c : Nat) (L : List Attr) (w : World) (hn : L.length = n) (hbig : BigA L) (hr : RS pairC w w.heap.size A L) :
    Calls Tryd.prog 14 #[.slice A n c] w (WrPost (writeM L) w) := by
  have HL := Lib.hid hn
  have HBIG := Lib.hid hbig
  have hz : n ≤ 1000000 := by rw [← hn]; exact hbig.1
  obtain ⟨R, hR⟩ : ∃ R, writeM L = R := ⟨_, rfl⟩
  rw [hR]
  have HR : Hid (R = if ¬ checkW L [] = 0 then (checkW L [], []) else if L = [] then (22, []) else writeT L []) := Lib.hid (by rw [← hR]; rfl)
  clear hn hR hbig
  have hmm := @run_makeMap Tryd.prog
  have hcv := fun (w0 : World) (b : ByteArray) => run_bytes_of_string (P := Tryd.prog) w0 9 22 5 b Tryd.underlying9 Tryd.underlying22 Tryd.underlying5
  go_enter Tryd.func14, Tryd.ntmps14
  go_wp2_with fail
  obtain ⟨b0, hb0⟩ : ∃ b0, w.heap.size = b0 := ⟨_, rfl⟩
  have hM0 : MapT Value.string (w.alloc (.map #[] 0)) Tryd.prog 9 b0 0 (seenG (L.take 0)) := (MapT.madeAt w _ _ hb0).ext (fun x => by unfold seenG; rfl)
  have hbl0 : Below b0 w (w.alloc (.map #[] 0)) := hb0 ▸ bl_alloc (Below.refl _ _) (Nat.le_refl _) _
  have HB0 := Lib.hid hb0
  have hr0 : RS pairC w b0 A L := hb0 ▸ hr
  rw [hb0]
  clear hmm hb0 hr
  generalize w.alloc (.map #[] 0) = w1 at hM0 hbl0 ⊢
  go_loopw [5, 6, 8, 19] (fun _ _ _ i wr => ∃ k : Nat, k ≤ n ∧ i = .int .i64 (k : Int) ∧ MapT Value.string wr Tryd.prog 9 b0 k (seenG (L.take k)) ∧ Below b0 w wr ∧
    Hid (checkW L [] = checkW (L.drop k) (namesL (L.take k)))) (fun _ _ _ i _ => n - (intOf i).toNat)
  case atStart => exact ⟨0, by omega, rfl, hM0, hbl0, Lib.hid rfl⟩
  case round =>
    clear hM0 hbl0
    obtain ⟨k, hk, rfl, hM, hbel, hgo⟩ := hrel
    have hfb : Below w.heap.size w wr := HB0.out ▸ hbel
    by_cases hk0 : k < n
    · obtain ⟨ad, a, rfl, hlt, hx, hc0, hc1⟩ := (hr0.below hbel (Nat.le_refl _)).at_ pairK (by rw [HL.out]; exact hk0)
      have ha := HBIG.out.2 a (List.mem_of_getElem? hx.out)
      have hd0 := hc0 _ rfl
      have hd1 := hc1 0 _ rfl
      obtain ⟨nb, hnb⟩ : ∃ nb : ByteArray, (⟨a.1.toArray⟩ : ByteArray) = nb := ⟨_, rfl⟩
      obtain ⟨vb, hvb⟩ : ∃ vb : ByteArray, (⟨a.2.toArray⟩ : ByteArray) = vb := ⟨_, rfl⟩
      unfold sV at hd0 hd1
      rw [hnb] at hd0
      rw [hvb] at hd1
      have hnd : nb.data.toList = a.1 := by rw [← hnb]
      have hvd : vb.data.toList = a.2 := by rw [← hvb]
      have hns : nb.size ≤ 1000000 := by rw [← size_len, hnd]; exact ha.1
      have hvs : vb.size ≤ 1000000 := by rw [← size_len, hvd]; exact ha.2
      have HND := Lib.hid hnd
      have HVD := Lib.hid hvd
      obtain ⟨tb, htb⟩ : ∃ tb : ByteArray, (⟨(smallL nb.data.toList).toArray⟩ : ByteArray) = tb := ⟨_, rfl⟩
      have htd : tb.data.toList = smallL a.1 := by rw [← htb, ← hnd]
      have hts : tb.size ≤ maxLen := by rw [← size_len, htd]; unfold smallL maxLen; rw [List.length_map, ← hnd, size_len]; omega
      have HTB := Lib.hid htb
      have HTD := Lib.hid htd
      have HKY := Lib.hid (keyS tb hts)
      clear hc0 hc1 hnb hvb hnd hvd ha htb htd hts
      have hB : Bk (wr.alloc (.cells #[.string nb, .string vb] 44)) wr.heap.size 44 #[.string nb, .string vb] := Bk.new _ _ _
      have hbA := bl_alloc hbel (by rw [HB0.out]; exact Nat.le_refl _) (.cells #[.string nb, .string vb] 44)
      have hMA := hM.alloc (.cells #[.string nb, .string vb] 44)
      have hbg := hM.lt
      obtain ⟨g, hg⟩ : ∃ g, wr.heap.size = g := ⟨_, rfl⟩
      rw [hg] at hB hbg
      go_wp2_with fail
      clear hd0 hd1 hg hM hbel hfb
      generalize wr.alloc (.cells #[.string nb, .string vb] 44) = w3 at hB hbA hMA ⊢
      refine (named_any nb w3 (by omega)).mono ?_
      rintro e w4 ⟨rfl, hb4⟩
      rw [HND.out]
      have hB4 := hB.below hb4 hB.lt
      have hbA4 := hbA.trans (hb4.mono (by have := hMA.lt; omega))
      have hM4 := hMA.below hb4 hMA.lt
      have hf4 : Below w.heap.size w w4 := HB0.out ▸ hbA4
      clear hB hbA hMA hb4
      cases hnm : nameB a.1
      · have HC := Lib.hid (hgo.out.trans (cw_name hx.out hnm))
        have HF : Hid (R = (22, [])) := Lib.hid (by rw [HR.out, HC.out]; rfl)
        go_wp2
        go_ret2
        exact wrPost_err HF.out hf4
      · have HNM := Lib.hid hnm
        clear hnm
        have hcn : w4.cell? ⟨g, 0, none⟩ = some (.string nb) := (hB4.cell 0).trans rfl
        have hcw : w4.cell? ⟨g, 1, none⟩ = some (.string vb) := (hB4.cell 1).trans rfl
        by_cases hk00 : k = 0
        · have hki : ((k : Int) == 0) = true := by simpa using hk00
          have HK := Lib.hid hk00
          clear hk00
          go_wp2_with fail
          refine (small_any nb w4 (by omega)).mono ?_
          rintro e w5 ⟨rfl, hb5⟩
          rw [HTB.out]
          have hB5 := hB4.below hb5 hB4.lt
          have hbA5 := hbA4.trans (hb5.mono (by have := hM4.lt; omega))
          have hM5 := hM4.below hb5 hM4.lt
          have hf5 : Below w.heap.size w w5 := HB0.out ▸ hbA5
          clear hB4 hbA4 hM4 hb5 hf4 hcn hcw
          by_cases hmv : tb.data.toList = mvL
          · have e1 := mv_eq hmv
            have e2 : (tb.toList == mvL) = true := tl_eq hmv
            have HMV : Hid (k = 0 → smallL a.1 = mvL) := Lib.hid (fun _ => by rw [← HTD.out]; exact hmv)
            unfold mvL at e1 e2
            have hcn : w5.cell? ⟨g, 0, none⟩ = some (.string nb) := (hB5.cell 0).trans rfl
            have hcw : w5.cell? ⟨g, 1, none⟩ = some (.string vb) := (hB5.cell 1).trans rfl
            clear hmv hki
            obtain ⟨wo, rfl⟩ : ∃ wo : World, wo = w5 := ⟨_, rfl⟩
            go_wp2
            go_loopw [8, 42] (fun _ i wr => ∃ j : Nat, j ≤ vb.size ∧ i = .int .i64 (j : Int) ∧ Mb wr wo.heap.size 5 vb.data.toList ∧ Below wo.heap.size wo wr ∧ Hid (∀ (q : Nat) (y : UInt8), q < j → a.2[q]? = some y → ¬ y = 0 ∧ ¬ y = 13 ∧ ¬ y = 10)) (fun _ i _ => vb.size - (intOf i).toNat)
            case atStart => exact ⟨0, by omega, rfl, Mb.new wo.drew vb _ _, bl_alloc (Below.refl _ _).drew (Nat.le_refl _) _, Lib.hid (fun q y h => by omega)⟩
            case round =>
              obtain ⟨j, hj, rfl, hmb, hb6, hno⟩ := hrel
              have hbA6 := hbA5.trans (hb6.mono (by have := hM5.lt; omega))
              have hf6 : Below w.heap.size w wr := HB0.out ▸ hbA6
              by_cases hj0 : j < vb.size
              · have hx2 := byte_at hj0
                have hcc : wr.cell? ⟨wo.heap.size, j, none⟩ = some (.int .u8 (vb[j].toNat : Int)) := hmb.cell hx2
                have HX2 : Hid (a.2[j]? = some vb[j]) := Lib.hid (by rw [← HVD.out]; exact hx2)
                clear hx2
                by_cases hbad : vb[j] = 0 ∨ vb[j] = 13 ∨ vb[j] = 10
                · have HC := Lib.hid (hgo.out.trans (cw_val hx.out HNM.out HMV.out (badV_yes HX2.out hbad)))
                  have HF : Hid (R = (22, [])) := Lib.hid (by rw [HR.out, HC.out]; rfl)
                  rcases hbad with h | h | h
                  · have f1 : (vb[j].toNat : Int) = 0 := by rw [h]; rfl
                    clear h
                    go_wp2
                    go_ret2
                    exact wrPost_err HF.out hf6
                  · have f1 : (vb[j].toNat : Int) = 13 := by rw [h]; rfl
                    clear h
                    go_wp2
                    go_ret2
                    exact wrPost_err HF.out hf6
                  · have f1 : (vb[j].toNat : Int) = 10 := by rw [h]; rfl
                    clear h
                    go_wp2
                    go_ret2
                    exact wrPost_err HF.out hf6
                · have q0 : ¬ vb[j] = 0 := fun e => hbad (.inl e)
                  have q1 : ¬ vb[j] = 13 := fun e => hbad (.inr (.inl e))
                  have q2 : ¬ vb[j] = 10 := fun e => hbad (.inr (.inr e))
                  have f0 : ((vb[j].toNat : Int) == 0) = false := by have := u8_ne (y := 0) q0; simpa using this
                  have f1 : ((vb[j].toNat : Int) == 13) = false := by have := u8_ne (y := 13) q1; simpa using this
                  have f2 : ((vb[j].toNat : Int) == 10) = false := by have := u8_ne (y := 10) q2; simpa using this
                  have g0 : ¬ (vb[j].toNat : Int) = 0 := u8_ne (y := 0) q0
                  have g1 : ¬ (vb[j].toNat : Int) = 13 := u8_ne (y := 13) q1
                  have g2 : ¬ (vb[j].toNat : Int) = 10 := u8_ne (y := 10) q2
                  have hnx : Hid (∀ (q : Nat) (y : UInt8), q < j + 1 → a.2[q]? = some y → ¬ y = 0 ∧ ¬ y = 13 ∧ ¬ y = 10) := Lib.hid (fun q y hq hy => by
                    rcases Nat.lt_or_ge q j with h | h
                    · exact hno.out q y h hy
                    · obtain rfl : q = j := by omega
                      rw [HX2.out] at hy; injection hy with hy; subst hy; exact ⟨q0, q1, q2⟩)
                  clear hbad q0 q1 q2
                  go_wp2
                  go_roundw
                  case rel => exact ⟨j + 1, by omega, by go_num, hmb, hb6, hnx⟩
                  case measure => simp [intOf]; omega
              · obtain rfl : j = vb.size := by omega
                have HBV : Hid (badV a.2 = false) := Lib.hid (badV_no (fun q y hq hy => hno.out q y (by rw [← HVD.out] at hq; exact hq) hy))
                have hB6 := hB5.below hb6 hB5.lt
                have hM6 := hM5.below hb6 hM5.lt
                have hcn : wr.cell? ⟨g, 0, none⟩ = some (.string nb) := (hB6.cell 0).trans rfl
                clear hmb hb6 hB5 hM5 hbA5 hf5 hno hj0 hj
                go_wp2_with fail
                refine (small_any nb wr (by omega)).mono ?_
                rintro e w7 ⟨rfl, hb7⟩
                rw [HTB.out]
                have hB7 := hB6.below hb7 hB6.lt
                have hM7 := hM6.below hb7 hM6.lt
                have hbA7 := hbA6.trans (hb7.mono (by have := hM6.lt; omega))
                have hf7 : Below w.heap.size w w7 := HB0.out ▸ hbA7
                have hcn7 : w7.cell? ⟨g, 0, none⟩ = some (.string nb) := (hB7.cell 0).trans rfl
                clear hB6 hM6 hbA6 hb7 hf6 hcn
                by_cases hdup : tb.data.toList ∈ (L.take k).map (fun a => smallL a.1)
                · have HC := Lib.hid (hgo.out.trans (cw_dup hx.out HNM.out HMV.out HBV.out (by rw [← HTD.out]; exact hdup)))
                  have HF : Hid (R = (14, [])) := Lib.hid (by rw [HR.out, HC.out]; rfl)
                  have HG1 := Lib.hid (seenG_yes hdup)
                  clear hdup
                  go_wp2_with (at_lookup; refine wpList_lookT rfl (.tmp 57) (.tmp 60) _ rfl 4 strK Tryd.underlying45 (.bool false) (zeroB_run _) rfl hM7 tb _ rfl HKY.out ?_; rw [HG1.out])
                  go_ret2
                  exact wrPost_err HF.out hf7
                · have HC := Lib.hid (hgo.out.trans (cw_on hx.out HNM.out HMV.out HBV.out (by rw [← HTD.out]; exact hdup)))
                  have HG1 := Lib.hid (seenG_no hdup)
                  clear hdup
                  go_wp2_with (at_lookup; refine wpList_lookT rfl (.tmp 57) (.tmp 60) _ rfl 4 strK Tryd.underlying45 (.bool false) (zeroB_run _) rfl hM7 tb _ rfl HKY.out ?_; rw [HG1.out])
                  refine (small_any nb w7 (by omega)).mono ?_
                  rintro e w8 ⟨rfl, hb8⟩
                  rw [HTB.out]
                  have hM8 := hM7.below hb8 hM7.lt
                  have hbA8 := hbA7.trans (hb8.mono (by have := hM7.lt; omega))
                  clear hB7 hM7 hbA7 hb8 hf7 hcn7
                  go_wp2_with (at_mapUpdate; refine wpList_storeT rfl (.tmp 62) (.tmp 65) _ _ rfl 4 strK Tryd.underlying45 rfl hM8 str_inj (by unfold maxLen; omega) tb (.bool true) _ rfl rfl HKY.out ?_; intro w9 hM9 hg9)
                  have hM9' := hM9.ext (seenG_take hx.out HTD.out)
                  have hbA9 := hbA8.trans (gb_low hg9 (Nat.le_refl _) hM8.lt)
                  go_roundw
                  case rel => exact ⟨k + 1, by omega, by go_num, hM9', hbA9, HC⟩
                  case measure => simp [intOf]; omega
          · have e1 := mv_ne hmv
            have e2 : (tb.toList == mvL) = false := tl_ne hmv
            have HC := Lib.hid (hgo.out.trans (cw_first hx.out HK.out (by rw [← HTD.out]; exact hmv)))
            have HF : Hid (R = (22, [])) := Lib.hid (by rw [HR.out, HC.out]; rfl)
            unfold mvL at e1 e2
            clear hmv
            go_wp2
            go_ret2
            exact wrPost_err HF.out hf5
        · have hki : ((k : Int) == 0) = false := by simpa using hk00
          have HMV : Hid (k = 0 → smallL a.1 = mvL) := Lib.hid (fun h => absurd h hk00)
          have hB5 := hB4
          have hbA5 := hbA4
          have hM5 := hM4
          have hf5 := hf4
          clear hk00 hB4 hbA4 hM4 hf4
          obtain ⟨wo, rfl⟩ : ∃ wo : World, wo = w4 := ⟨_, rfl⟩
          go_wp2
          go_loopw [8, 42] (fun _ i wr => ∃ j : Nat, j ≤ vb.size ∧ i = .int .i64 (j : Int) ∧ Mb wr wo.heap.size 5 vb.data.toList ∧ Below wo.heap.size wo wr ∧ Hid (∀ (q : Nat) (y : UInt8), q < j → a.2[q]? = some y → ¬ y = 0 ∧ ¬ y = 13 ∧ ¬ y = 10)) (fun _ i _ => vb.size - (intOf i).toNat)
          case atStart => exact ⟨0, by omega, rfl, Mb.new wo.drew vb _ _, bl_alloc (Below.refl _ _).drew (Nat.le_refl _) _, Lib.hid (fun q y h => by omega)⟩
          case round =>
            obtain ⟨j, hj, rfl, hmb, hb6, hno⟩ := hrel
            have hbA6 := hbA5.trans (hb6.mono (by have := hM5.lt; omega))
            have hf6 : Below w.heap.size w wr := HB0.out ▸ hbA6
            by_cases hj0 : j < vb.size
            · have hx2 := byte_at hj0
              have hcc : wr.cell? ⟨wo.heap.size, j, none⟩ = some (.int .u8 (vb[j].toNat : Int)) := hmb.cell hx2
              have HX2 : Hid (a.2[j]? = some vb[j]) := Lib.hid (by rw [← HVD.out]; exact hx2)
              clear hx2
              by_cases hbad : vb[j] = 0 ∨ vb[j] = 13 ∨ vb[j] = 10
              · have HC := Lib.hid (hgo.out.trans (cw_val hx.out HNM.out HMV.out (badV_yes HX2.out hbad)))
                have HF : Hid (R = (22, [])) := Lib.hid (by rw [HR.out, HC.out]; rfl)
                rcases hbad with h | h | h
                · have f1 : (vb[j].toNat : Int) = 0 := by rw [h]; rfl
                  clear h
                  go_wp2
                  go_ret2
                  exact wrPost_err HF.out hf6
                · have f1 : (vb[j].toNat : Int) = 13 := by rw [h]; rfl
                  clear h
                  go_wp2
                  go_ret2
                  exact wrPost_err HF.out hf6
                · have f1 : (vb[j].toNat : Int) = 10 := by rw [h]; rfl
                  clear h
                  go_wp2
                  go_ret2
                  exact wrPost_err HF.out hf6
              · have q0 : ¬ vb[j] = 0 := fun e => hbad (.inl e)
                have q1 : ¬ vb[j] = 13 := fun e => hbad (.inr (.inl e))
                have q2 : ¬ vb[j] = 10 := fun e => hbad (.inr (.inr e))
                have f0 : ((vb[j].toNat : Int) == 0) = false := by have := u8_ne (y := 0) q0; simpa using this
                have f1 : ((vb[j].toNat : Int) == 13) = false := by have := u8_ne (y := 13) q1; simpa using this
                have f2 : ((vb[j].toNat : Int) == 10) = false := by have := u8_ne (y := 10) q2; simpa using this
                have g0 : ¬ (vb[j].toNat : Int) = 0 := u8_ne (y := 0) q0
                have g1 : ¬ (vb[j].toNat : Int) = 13 := u8_ne (y := 13) q1
                have g2 : ¬ (vb[j].toNat : Int) = 10 := u8_ne (y := 10) q2
                have hnx : Hid (∀ (q : Nat) (y : UInt8), q < j + 1 → a.2[q]? = some y → ¬ y = 0 ∧ ¬ y = 13 ∧ ¬ y = 10) := Lib.hid (fun q y hq hy => by
                  rcases Nat.lt_or_ge q j with h | h
                  · exact hno.out q y h hy
                  · obtain rfl : q = j := by omega
                    rw [HX2.out] at hy; injection hy with hy; subst hy; exact ⟨q0, q1, q2⟩)
                clear hbad q0 q1 q2
                go_wp2
                go_roundw
                case rel => exact ⟨j + 1, by omega, by go_num, hmb, hb6, hnx⟩
                case measure => simp [intOf]; omega
            · obtain rfl : j = vb.size := by omega
              have HBV : Hid (badV a.2 = false) := Lib.hid (badV_no (fun q y hq hy => hno.out q y (by rw [← HVD.out] at hq; exact hq) hy))
              have hB6 := hB5.below hb6 hB5.lt
              have hM6 := hM5.below hb6 hM5.lt
              have hcn : wr.cell? ⟨g, 0, none⟩ = some (.string nb) := (hB6.cell 0).trans rfl
              clear hmb hb6 hB5 hM5 hbA5 hf5 hno hj0 hj
              go_wp2_with fail
              refine (small_any nb wr (by omega)).mono ?_
              rintro e w7 ⟨rfl, hb7⟩
              rw [HTB.out]
              have hB7 := hB6.below hb7 hB6.lt
              have hM7 := hM6.below hb7 hM6.lt
              have hbA7 := hbA6.trans (hb7.mono (by have := hM6.lt; omega))
              have hf7 : Below w.heap.size w w7 := HB0.out ▸ hbA7
              have hcn7 : w7.cell? ⟨g, 0, none⟩ = some (.string nb) := (hB7.cell 0).trans rfl
              clear hB6 hM6 hbA6 hb7 hf6 hcn
              by_cases hdup : tb.data.toList ∈ (L.take k).map (fun a => smallL a.1)
              · have HC := Lib.hid (hgo.out.trans (cw_dup hx.out HNM.out HMV.out HBV.out (by rw [← HTD.out]; exact hdup)))
                have HF : Hid (R = (14, [])) := Lib.hid (by rw [HR.out, HC.out]; rfl)
                have HG1 := Lib.hid (seenG_yes hdup)
                clear hdup
                go_wp2_with (at_lookup; refine wpList_lookT rfl (.tmp 57) (.tmp 60) _ rfl 4 strK Tryd.underlying45 (.bool false) (zeroB_run _) rfl hM7 tb _ rfl HKY.out ?_; rw [HG1.out])
                go_ret2
                exact wrPost_err HF.out hf7
              · have HC := Lib.hid (hgo.out.trans (cw_on hx.out HNM.out HMV.out HBV.out (by rw [← HTD.out]; exact hdup)))
                have HG1 := Lib.hid (seenG_no hdup)
                clear hdup
                go_wp2_with (at_lookup; refine wpList_lookT rfl (.tmp 57) (.tmp 60) _ rfl 4 strK Tryd.underlying45 (.bool false) (zeroB_run _) rfl hM7 tb _ rfl HKY.out ?_; rw [HG1.out])
                refine (small_any nb w7 (by omega)).mono ?_
                rintro e w8 ⟨rfl, hb8⟩
                rw [HTB.out]
                have hM8 := hM7.below hb8 hM7.lt
                have hbA8 := hbA7.trans (hb8.mono (by have := hM7.lt; omega))
                clear hB7 hM7 hbA7 hb8 hf7 hcn7
                go_wp2_with (at_mapUpdate; refine wpList_storeT rfl (.tmp 62) (.tmp 65) _ _ rfl 4 strK Tryd.underlying45 rfl hM8 str_inj (by unfold maxLen; omega) tb (.bool true) _ rfl rfl HKY.out ?_; intro w9 hM9 hg9)
                have hM9' := hM9.ext (seenG_take hx.out HTD.out)
                have hbA9 := hbA8.trans (gb_low hg9 (Nat.le_refl _) hM8.lt)
                go_roundw
                case rel => exact ⟨k + 1, by omega, by go_num, hM9', hbA9, HC⟩
                case measure => simp [intOf]; omega
    · obtain rfl : k = n := by omega
      have HC : Hid (checkW L [] = 0) := Lib.hid (by rw [hgo.out, ← HL.out]; exact cw_end)
      have HR2 : Hid (R = if L = [] then (22, []) else writeT L []) := Lib.hid (by rw [HR.out, HC.out]; rfl)
      by_cases h0 : k = 0
      · have hki : ((k : Int) == 0) = true := by simpa using h0
        have HF : Hid (R = (22, [])) := Lib.hid (by rw [HR2.out, if_pos (List.eq_nil_of_length_eq_zero (by rw [HL.out]; exact h0))])
        clear h0
        go_wp2
        go_ret2
        exact wrPost_err HF.out hfb
      · have hki : ((k : Int) == 0) = false := by simpa using h0
        have HF : Hid (R = writeT L []) := Lib.hid (by rw [HR2.out, if_neg (fun e => h0 (by rw [← HL.out, e]; rfl))])
        clear h0 hgo hM
        obtain ⟨n, hkn⟩ : ∃ n, k = n := ⟨_, rfl⟩
        subst hkn
        rename Nat => n
        obtain ⟨B1, hB1⟩ : ∃ B1, wr.heap.size = B1 := ⟨_, rfl⟩
        have hBb : b0 ≤ B1 := by have := hfb.size; have := HB0.out; omega
        have hz1 : B1 ≤ wr.heap.size := by omega
        clear hB1
        obtain ⟨wo, rfl⟩ : ∃ wo : World, wo = wr := ⟨_, rfl⟩
        go_wp2
        go_loopw [9, 11, 12, 13, 14, 15, 72] (fun v _ _ _ _ _ i wr => ∃ (k : Nat) (out : List UInt8), k ≤ n ∧ i = .int .i64 (k : Int) ∧ OwB wr B1 5 v out ∧ Below B1 wo wr ∧ Hid (out.length ≤ 32768) ∧ Hid (R = writeT (L.drop k) out)) (fun _ _ _ _ _ _ i _ => n - (intOf i).toNat)
        case atStart => exact ⟨0, [], by omega, rfl, OwL.nil, Below.refl _ _, Lib.hid (by simp), HF⟩
        case round =>
          obtain ⟨k, out, hk, rfl, hown, hb2, hol, hgo⟩ := hrel
          have hf2 : Below w.heap.size w wr := hfb.trans (hb2.mono (by rw [HB0.out]; exact hBb))
          have hzw : B1 ≤ wr.heap.size := Nat.le_trans hz1 hb2.size
          by_cases hk0 : k < n
          · obtain ⟨ad, a, rfl, hlt, hx, hc0, hc1⟩ := (hr0.below hf2 (by rw [HB0.out]; exact Nat.le_refl _)).at_ pairK (by rw [HL.out]; exact hk0)
            have ha := HBIG.out.2 a (List.mem_of_getElem? hx.out)
            have hd0 := hc0 _ rfl
            have hd1 := hc1 0 _ rfl
            obtain ⟨nb, hnb⟩ : ∃ nb : ByteArray, (⟨a.1.toArray⟩ : ByteArray) = nb := ⟨_, rfl⟩
            obtain ⟨vb, hvb⟩ : ∃ vb : ByteArray, (⟨a.2.toArray⟩ : ByteArray) = vb := ⟨_, rfl⟩
            unfold sV at hd0 hd1
            rw [hnb] at hd0
            rw [hvb] at hd1
            have hnd : nb.data.toList = a.1 := by rw [← hnb]
            have hvd : vb.data.toList = a.2 := by rw [← hvb]
            have hns : nb.size ≤ 1000000 := by rw [← size_len, hnd]; exact ha.1
            have hvs : vb.size ≤ 1000000 := by rw [← size_len, hvd]; exact ha.2
            have HVL : Hid (a.2.length = vb.size) := Lib.hid (by rw [← hvd]; rfl)
            obtain ⟨sb, hsb⟩ : ∃ sb : ByteArray, nb ++ (⟨#[58, 32]⟩ : ByteArray) ++ vb = sb := ⟨_, rfl⟩
            have hsd : sb.data.toList = attrS a := by
              rw [← hsb, cat3, hnd, hvd]
            have hss : sb.size = nb.size + vb.size + 2 := by rw [← size_len, hsd, attrS_len, ← hnd, ← hvd, size_len, size_len]
            have HSB := Lib.hid hsb
            have HSD := Lib.hid hsd
            clear hc0 hc1 hnb hvb hnd hvd ha hsb hsd
            by_cases hv9 : 32768 < vb.size
            · have HF := Lib.hid (hgo.out.trans (wt_value hx.out (by rw [HVL.out]; exact hv9)))
              go_wp2
              go_ret2
              exact wrPost_err HF.out (bl_alloc hf2 (Nat.le_refl _) _)
            · have hB : Bk (wr.alloc (.cells #[.string nb, .string vb] 44)) wr.heap.size 44 #[.string nb, .string vb] := Bk.new _ _ _
              have hbA := bl_alloc hb2 hz1 (.cells #[.string nb, .string vb] 44)
              have hownA := hown.alloc (.cells #[.string nb, .string vb] 44)
              have HTL : Hid ((textL (attrL a)).length ≤ 8000100) := Lib.hid (by
                have h1 := attrT_len a
                have h2 : (attrS a).length = sb.size := by rw [← HSD.out]; rfl
                omega)
              have hsz2 : sb.size ≤ 2000002 := by omega
              obtain ⟨g, hg⟩ : ∃ g, wr.heap.size = g := ⟨_, rfl⟩
              rw [hg] at hB
              clear hss
              go_wp2_with fail
              rw [HSB.out]
              clear hd0 hd1 hg hown hf2
              generalize wr.alloc (.cells #[.string nb, .string vb] 44) = w3 at hB hbA hownA ⊢
              go_loopw [9, 12, 13, 14, 15] (fun v sv rv av _ wr => ∃ (o2 : List UInt8) (rb ah : ByteArray) (r : Nat), sv = .string rb ∧ rv = .int .i64 (r : Int) ∧ av = .string ah ∧ 71 ≤ r ∧ r ≤ 72 ∧ ah.size ≤ 1 ∧ rb.size ≤ 2000002 ∧
                OwB wr B1 5 v o2 ∧ Below B1 wo wr ∧ Hid (o2 ++ tailT r ah.data.toList rb.data.toList = out ++ textL (attrL a))) (fun _ sv _ _ _ _ => strLen sv)
              case atStart => exact ⟨out, sb, ⟨#[]⟩, 72, rfl, rfl, rfl, by omega, by omega, by decide, hsz2, hownA, hbA, Lib.hid (by rw [HSD.out, ← tailT_start])⟩
              case round =>
                obtain ⟨o2, rb, ah, r, rfl, rfl, rfl, hr1, hr2, has, hrs, hown, hb3, heq⟩ := hrel
                have hzw3 : B1 ≤ wr.heap.size := Nat.le_trans hz1 hb3.size
                have HO2 : Hid (o2.length ≤ 9000000) := Lib.hid (by
                  have h1 := congrArg List.length heq.out
                  simp only [List.length_append] at h1
                  have h2 := HTL.out
                  have h3 := hol.out
                  omega)
                by_cases he : rb.data.toList = []
                · have e1 := tl_none he
                  have e2 : (rb.toList != []) = false := by rw [Lib.toList_data]; simpa using he
                  have HO : Hid (o2 = out ++ textL (attrL a)) := Lib.hid (by rw [← heq.out, he, tailT_nil, List.append_nil])
                  clear he
                  obtain ⟨A3, c3, rfl, _⟩ := hown.rd
                  by_cases h9 : 32768 < o2.length
                  · have h9' : (32768 : Int) < (o2.length : Int) := by omega
                    have HF := Lib.hid (hgo.out.trans (wt_long hx.out (by rw [HVL.out]; exact hv9) (by rw [← HO.out]; exact h9)))
                    go_wp2
                    go_ret2
                    exact wrPost_err HF.out (hfb.trans (hb3.mono (by rw [HB0.out]; exact hBb)))
                  · have h9' : ¬ (32768 : Int) < (o2.length : Int) := by omega
                    have HF := Lib.hid (hgo.out.trans (wt_on hx.out (by rw [HVL.out]; exact hv9) (by rw [← HO.out]; exact h9)))
                    go_wp2
                    go_roundw
                    case rel => exact ⟨k + 1, o2, by omega, by go_num, hown, hb3, Lib.hid (by omega), by rw [HO.out]; exact HF⟩
                    case measure => simp [intOf]; omega
                · have e1 := tl_some he
                  have e2 : (rb.toList != []) = true := by rw [Lib.toList_data]; simpa using he
                  have hrp := size_pos he
                  have hst := Lib.hid (heq.out.symm.trans (congrArg (o2 ++ ·) (tailT_step he (show 0 < r by omega))))
                  clear he
                  obtain ⟨mm, hmn, hm1, hm2, hmt, hmd⟩ : ∃ mm : Nat, min (r : Int) (rb.size : Int) = (mm : Int) ∧ mm ≤ rb.size ∧ 1 ≤ mm ∧ rb.data.toList.take r = rb.data.toList.take mm ∧ rb.data.toList.drop r = rb.data.toList.drop mm := by
                    by_cases hmr : r ≤ rb.size
                    · exact ⟨r, by omega, hmr, by omega, rfl, rfl⟩
                    · refine ⟨rb.size, by omega, Nat.le_refl _, hrp, ?_, ?_⟩
                      · rw [List.take_of_length_le (by rw [size_len]; omega), List.take_of_length_le (by rw [size_len]; exact Nat.le_refl _)]
                      · rw [List.drop_eq_nil_of_le (by rw [size_len]; omega), List.drop_eq_nil_of_le (by rw [size_len]; exact Nat.le_refl _)]
                  rw [hmt, hmd] at hst
                  clear hmt hmd
                  have i1 : (0 : Int) ≤ (mm : Int) := by omega
                  have i2 : (mm : Int) ≤ (rb.size : Int) := by omega
                  have i3 : (mm : Int).toNat = mm := by omega
                  obtain ⟨pb, hpb⟩ : ∃ pb : ByteArray, rb.extract 0 mm = pb := ⟨_, rfl⟩
                  obtain ⟨qb, hqb⟩ : ∃ qb : ByteArray, rb.extract mm rb.size = qb := ⟨_, rfl⟩
                  have hpd : pb.data.toList = rb.data.toList.take mm := by rw [← hpb, Lib.extract_data]; simp
                  have hqd : qb.data.toList = rb.data.toList.drop mm := by rw [← hqb, Lib.extract_to_end]
                  have hps : pb.size = mm := by rw [← hpb, ByteArray.size_extract]; omega
                  have hqs : qb.size = rb.size - mm := by rw [← hqb, ByteArray.size_extract]; omega
                  have HPB := Lib.hid hpb
                  have HQB := Lib.hid hqb
                  have HPD := Lib.hid hpd
                  have HQD := Lib.hid hqd
                  have HN1 : Hid (o2.length + ah.size ≤ 140737488355328) := Lib.hid (by have := HO2.out; omega)
                  have HN2 : Hid ((o2 ++ ah.data.toList).length + (rb.extract 0 mm).size ≤ 140737488355328) := Lib.hid (by
                    have := HO2.out; rw [List.length_append, size_len, hpb, hps]; omega)
                  have HN3 : Hid ((o2 ++ ah.data.toList ++ (rb.extract 0 mm).data.toList).length + (⟨#[13, 10]⟩ : ByteArray).size ≤ 140737488355328) := Lib.hid (by
                    have := HO2.out
                    have h2 : (⟨#[13, 10]⟩ : ByteArray).size = 2 := rfl
                    rw [List.length_append, List.length_append, size_len, size_len, hpb, hps, h2]; omega)
                  have HLT : Hid (qb.size < rb.size ∧ qb.size ≤ 2000002) := Lib.hid (by omega)
                  clear hpb hqb hpd hqd hps hqs
                  go_wp2
                  go_region_held3 (fun _ => True) (go_keep) (first
                    | (refine step_appStr _ rfl (.tmp 92) (.tmp 93) rfl byteTyW Tryd.underlying9 B1 u9 o2 rfl (OwL.drew hown) ah rfl HN1.out hzw3 ?_; intro v1 w1 own1 hbx1; have hz4 := Nat.le_trans (Nat.le_refl B1) (Nat.le_trans hzw3 hbx1.size))
                    | (refine step_appStr _ rfl (.tmp 94) (.tmp 97) rfl byteTyW Tryd.underlying9 B1 v1 (o2 ++ ah.data.toList) rfl own1 (rb.extract 0 mm) rfl HN2.out hz4 ?_; intro v2 w2 own2 hbx2; have hz5 := Nat.le_trans hz4 hbx2.size)
                    | (refine step_appStr _ rfl (.tmp 98) _ rfl byteTyW Tryd.underlying9 B1 v2 (o2 ++ ah.data.toList ++ (rb.extract 0 mm).data.toList) rfl own2 ⟨#[13, 10]⟩ rfl HN3.out hz5 ?_; intro v3 w3 own3 hbx3))
                  rw [HPB.out] at own3
                  have hb4 := ((hb3.drew.trans hbx1).trans hbx2).trans hbx3
                  clear hbx1 hbx2 hbx3 own1 own2
                  go_wp2
                  go_roundw
                  case rel =>
                    refine ⟨_, qb, ⟨#[32]⟩, 71, by rw [HQB.out], rfl, rfl, by omega, by omega, by decide, HLT.out.2, own3, hb4, Lib.hid ?_⟩
                    rw [hst.out, HPD.out, HQD.out]
                    show _ ++ [13, 10] ++ tailT 71 [32] (rb.data.toList.drop mm) = _
                    simp only [List.append_assoc]
                  case measure => rw [HQB.out]; exact HLT.out.1
          · obtain rfl : k = n := by omega
            have HE : Hid (R = if 32768 < (out ++ [13, 10]).length then (8, []) else (0, out ++ [13, 10])) := Lib.hid (hgo.out.trans (by rw [← HL.out]; exact wt_end))
            have hol' := hol.out
            have HOL2 : Hid (out.length + (⟨#[13, 10]⟩ : ByteArray).size ≤ 140737488355328) := Lib.hid (by
              have h2 : (⟨#[13, 10]⟩ : ByteArray).size = 2 := rfl
              rw [h2]; omega)
            go_wp2_with (at_builtin; refine wpList_appStr _ rfl (.tmp 107) _ rfl byteTyW Tryd.underlying9 B1 _ out rfl hown ⟨#[13, 10]⟩ rfl HOL2.out hzw ?_)
            intro v3 w3 own3 hb3
            have hb4 := hf2.trans (hb3.mono (by rw [HB0.out]; exact hBb))
            obtain ⟨o3, ho3⟩ : ∃ o3, out ++ (⟨#[13, 10]⟩ : ByteArray).data.toList = o3 := ⟨_, rfl⟩
            rw [ho3] at own3
            have HE2 : Hid (R = if 32768 < o3.length then (8, []) else (0, o3)) := Lib.hid (HE.out.trans (by rw [← ho3]))
            have ho3l : o3.length ≤ 32770 := by
              rw [← ho3, List.length_append]
              have h2 : (⟨#[13, 10]⟩ : ByteArray).data.toList.length = 2 := rfl
              rw [h2]; omega
            have own4 := own3
            obtain ⟨A3, c3, rfl, _⟩ := own3.rd
            clear ho3
            by_cases h9 : 32768 < o3.length
            · have h9' : (32768 : Int) < (o3.length : Int) := by omega
              have HF : Hid (R = (8, [])) := Lib.hid (by rw [HE2.out, if_pos h9])
              go_wp2
              go_ret2
              exact wrPost_err HF.out hb4
            · have h9' : ¬ (32768 : Int) < (o3.length : Int) := by omega
              have HF : Hid (R = (0, o3)) := Lib.hid (by rw [HE2.out, if_neg h9])
              go_wp2
              go_ret2
              exact wrPost_ok HF.out own4 hb4
end Go.Proofs.YthkgnidafdiolaaDoor
