/- Contract: manifest.Read. -/
import Derived.Test.YthkgnidafdiolaaDoorManI
import Derived.Test.YthkgnidafdiolaaDoorManG
import Derived.Deep.RegionHeld3
import Derived.Lib.IndexBytes
namespace Go.Proofs.YthkgnidafdiolaaDoor
open Go.RowKit

theorem pairTy : ETy Tryd.prog 24 44 (.agg #[.string .empty, .string .empty]) 2 32 := ⟨Tryd.underlying24, info_parts (by kernel_rfl), rfl, by decide⟩
theorem keyS (s : ByteArray) (h : s.size ≤ maxLen) : keyOf Tryd.prog 9 (.string s) = some (.string s.data.toList) := WideMaps.keyOf_string_mk Tryd.underlying9 h
theorem strK : Maps.Keyed Tryd.prog 9 := Maps.string_keyed Tryd.underlying9
theorem str_inj (x y : ByteArray) (h : Value.string x = Value.string y) : x = y := by injection h
theorem zeroB_run (w : World) : (zeroValue 4).run Tryd.prog w = .ok (.bool false) w := by kernel_rfl
/-- What the map of seen names holds. -/
def seenG (out : List Attr) (s : ByteArray) : Option Value := if s.data.toList ∈ out.map (fun a => smallL a.1) then some (.bool true) else none
theorem seenG_addLast (out : List Attr) (v : List UInt8) (s : ByteArray) : seenG (addLast out v) s = seenG out s := by
  have e : (addLast out v).map (fun a => smallL a.1) = out.map (fun a => smallL a.1) := by
    induction out with
    | nil => rfl
    | cons a r ih => cases r with
      | nil => rfl
      | cons b r => simp only [addLast, List.map_cons] at ih ⊢; rw [ih]
  unfold seenG; rw [e]
theorem seenG_yes {out : List Attr} {s : ByteArray} (h : s.data.toList ∈ out.map (fun a => smallL a.1)) : (seenG out s).getD (.bool false) = .bool true := by unfold seenG; rw [if_pos h]; rfl
theorem seenG_no {out : List Attr} {s : ByteArray} (h : ¬ s.data.toList ∈ out.map (fun a => smallL a.1)) : (seenG out s).getD (.bool false) = .bool false := by unfold seenG; rw [if_neg h]; rfl
theorem seenG_new {out : List Attr} {a : Attr} {s : ByteArray} (hs : s.data.toList = smallL a.1) (q : ByteArray) : seenG (out ++ [a]) q = if q = s then some (.bool true) else seenG out q := by
  unfold seenG
  rw [List.map_append]
  by_cases e : q = s
  · subst e; rw [if_pos rfl, if_pos (by simp [hs])]
  · rw [if_neg e]
    have hne : ¬ q.data.toList = smallL a.1 := fun h => e (ba_eq (by rw [h, hs]))
    by_cases h : q.data.toList ∈ out.map (fun a => smallL a.1)
    · rw [if_pos h, if_pos (by simp only [List.mem_append]; exact .inl h)]
    · rw [if_neg h, if_neg (by simp only [List.mem_append, not_or, List.map_cons, List.map_nil, List.mem_singleton]; exact ⟨h, hne⟩)]
/-- All blocks below B but b0 are as they were. -/
def Apart (b0 B : Nat) (w w' : World) : Prop := B ≤ w'.heap.size ∧ ∀ i, i ≠ b0 → i < B → w'.heap[i]? = w.heap[i]?
theorem Apart.refl {b0 B : Nat} {w : World} (h : B ≤ w.heap.size) : Apart b0 B w w := ⟨h, fun _ _ _ => rfl⟩
theorem Apart.below {b0 B B' : Nat} {w w' w'' : World} (h : Apart b0 B w w') (hb : Below B' w' w'') (hB : B ≤ B') : Apart b0 B w w'' :=
  ⟨Nat.le_trans h.1 hb.size, fun i h1 h2 => (hb.block i (by omega)).trans (h.2 i h1 h2)⟩
theorem Apart.grown {b0 B : Nat} {w w' w'' : World} (h : Apart b0 B w w') (hb : w'.grownBy w'' (some b0)) : Apart b0 B w w'' :=
  ⟨Nat.le_trans h.1 hb.size, fun i h1 h2 => (hb.block i (by have := h.1; omega) (fun e => h1 (by injection e))).trans (h.2 i h1 h2)⟩
theorem Apart.alloc {b0 B : Nat} {w w' : World} (h : Apart b0 B w w') (o : Obj) : Apart b0 B w (w'.alloc o) := h.below ((Below.refl B w').alloc h.1 o) (Nat.le_refl _)
theorem Apart.drewN {b0 B : Nat} {w w' : World} (h : Apart b0 B w w') (n : Nat) : Apart b0 B w (w'.drewN n) := h
theorem Apart.set {b0 B : Nat} {w w' : World} (h : Apart b0 B w w') {p : Addr} (hp : B ≤ p.block) (u : Value) : Apart b0 B w (w'.setCell p u) :=
  ⟨by simpa [World.setCell] using h.1, fun i h1 h2 => (Below.heap_setCell w' p u i (by omega)).trans (h.2 i h1 h2)⟩
theorem Apart.rl {α : Type} {f : α → Value} {b0 B : Nat} {w w' : World} {A : Option Addr} {l : List α} (h : Apart b0 B w w') (hr : RL f w B A l) (hA : ∀ ad, A = some ad → b0 < ad.block) : RL f w' B A l := fun hn => by
  obtain ⟨ad, e, hb, hc⟩ := hr hn
  refine ⟨ad, e, hb, fun i u hu => ?_⟩
  have := hA ad e
  rw [← hc i u hu]
  exact World.cell?_of_block (by rw [blk_add]; exact h.2 _ (by omega) hb)
theorem cat_tail (s b : ByteArray) : s ++ b.extract 1 b.size = ⟨(s.data.toList ++ b.data.toList.drop 1).toArray⟩ := ba_eq (by
  rw [ByteArray.data_append, Array.toList_append, Lib.extract_to_end])
theorem ext_tail (b : ByteArray) : b.extract 1 b.size = ⟨(b.data.toList.drop 1).toArray⟩ := ba_eq (by rw [Lib.extract_to_end])
theorem mv_ne {s : ByteArray} (h : ¬ s.data.toList = mvL) : (s.toList != mvL) = true := by rw [Lib.toList_data]; simpa using h
theorem mv_eq {s : ByteArray} (h : s.data.toList = mvL) : (s.toList != mvL) = false := by rw [Lib.toList_data]; simpa using h
theorem fineL_head {x : List UInt8} {c : UInt8} (h : (restP x).head? = some c) (hc : ¬ c = 32) : fineL x = false := by
  unfold fineL
  rw [h]
  have : decide (some c = some (32 : UInt8)) = false := decide_eq_false (fun e => hc (by injection e))
  rw [this, Bool.and_false]
theorem dec_has {l : List UInt8} (h : longL l = false) : l.length ≤ 72 ∧ l.contains 0 = false := by
  unfold longL at h; simp only [Bool.or_eq_false_iff, decide_eq_false_iff_not] at h; exact ⟨by omega, h.2⟩
set_option maxRecDepth 100000 in
set_option maxHeartbeats 8000000 in
theorem read_any (A : Option Addr) (n c : Nat) (l : List UInt8) (m : Int) (w : World) (hn : l.length = n) (hz : n ≤ 140737488355328) (hr : RB w w.heap.size A l) (hm : w.cell? ⟨0, 0, none⟩ = some (.int .i64 m)) :
    Calls Tryd.prog 8 #[.slice A n c] w (ReadPost (readM l) w) := by
  have HL := Lib.hid hn
  obtain ⟨R, hR⟩ : ∃ R, readM l = R := ⟨_, rfl⟩
  rw [hR]
  by_cases h9 : 32768 < n
  · have HR : Hid (R = (8, [])) := Lib.hid (by rw [← hR]; unfold readM; rw [if_pos (by omega)])
    clear hn hR
    go_enter Tryd.func8, Tryd.ntmps8
    go_wp2
    go_ret2
    exact readPost_err HR.out (Below.refl _ _)
  · have HR : Hid (R = readL (linesM l) []) := Lib.hid (by rw [← hR]; unfold readM; rw [if_neg (by omega)])
    clear hn hR
    have hmm := @run_makeMap Tryd.prog
    go_enter Tryd.func8, Tryd.ntmps8
    go_wp2_with fail
    obtain ⟨b0, hb0⟩ : ∃ b0, w.heap.size = b0 := ⟨_, rfl⟩
    have hM0 : MapT Value.string (w.alloc (.map #[] 0)) Tryd.prog 9 b0 0 (seenG []) := (MapT.madeAt w _ _ hb0).ext (fun x => by unfold seenG; rfl)
    have hbl0 : Below b0 w (w.alloc (.map #[] 0)) := hb0 ▸ bl_alloc (Below.refl _ _) (Nat.le_refl _) _
    have hr0 : RB (w.alloc (.map #[] 0)) (w.alloc (.map #[] 0)).heap.size A l := (hr.alloc (Nat.le_refl _) _).top
    have hm0 : (w.alloc (.map #[] 0)).cell? ⟨0, 0, none⟩ = some (.int .i64 m) := (hbl0.cell (p := ⟨0, 0, none⟩) (hb0 ▸ World.block_lt_of_cell? _ _ hm)).trans hm
    have hsz0 : (w.alloc (.map #[] 0)).heap.size = b0 + 1 := by simp [hb0]
    have HB0 := Lib.hid hb0
    have hwb : w.heap.size ≤ b0 := by omega
    rw [hb0]
    clear hmm hb0
    generalize w.alloc (.map #[] 0) = w1 at hM0 hbl0 hr0 hm0 hsz0 ⊢
    refine (section_any A n c l m w1 HL.out (by omega) hr0 hm0).mono ?_
    rintro e w2 ⟨A2, c2, rfl, hrow, hb2, hlo⟩
    have hM2 := hM0.below hb2 (by omega)
    have hbel2 : Below b0 w w2 := hbl0.trans (hb2.mono (by omega))
    have hm2 : w2.cell? ⟨0, 0, none⟩ = some (.int .i64 m) := (hb2.cell (p := ⟨0, 0, none⟩) (World.block_lt_of_cell? _ _ hm0)).trans hm0
    have hm2l : 0 < b0 := by have := World.block_lt_of_cell? _ _ hm; have := HB0.out; simp at *; omega
    have hlo' : ∀ ad, A2 = some ad → b0 < ad.block := fun ad h => by have := hlo ad h; omega
    have HLO := Lib.hid hlo'
    have hs2 : b0 + 1 ≤ w2.heap.size := by have := hb2.size; omega
    obtain ⟨p, hp⟩ : ∃ p, linesM l = p := ⟨_, rfl⟩
    rw [hp] at hrow HR ⊢
    have hpl : p.length ≤ 32769 := by have := linesM_len l; rw [hp, HL.out] at this; omega
    have hpne : Hid (∀ x ∈ p, x ≠ [] ∧ x.length ≤ 32768) := Lib.hid (fun x hx => by rw [← hp] at hx; exact ⟨linesM_ne hx, by have := linesM_sz hx; rw [HL.out] at this; omega⟩)
    have HM2 := Lib.hid hm2
    clear hp hM0 hbl0 hr0 hm0 hsz0 hb2 hlo hlo' hm2
    obtain ⟨B2, hB2⟩ : ∃ B2, w2.heap.size = B2 := ⟨_, rfl⟩
    have hap2 : Apart b0 B2 w2 w2 := Apart.refl (by omega)
    rw [hB2] at hrow hs2
    have HB2 := Lib.hid hB2
    clear hB2
    go_wp2_with fail
    go_loopw [4, 6, 7, 8, 9, 10, 18] (fun v _ _ _ _ _ i wr => ∃ (k : Nat) (out : List Attr), k ≤ p.length ∧ i = .int .i64 (k : Int) ∧ OwS pairC 2 wr B2 44 v out ∧
      MapT Value.string wr Tryd.prog 9 b0 k (seenG out) ∧ Below b0 w wr ∧ Apart b0 B2 w2 wr ∧ Hid (AttrsOk out k) ∧ Hid (R = readL (p.drop k) out)) (fun _ _ _ _ _ _ i _ => p.length - (intOf i).toNat)
    case atStart => exact ⟨0, [], by omega, rfl, OwS.nil, hM2, hbel2, hap2, Lib.hid attrsOk_nil, Lib.hid HR.out⟩
    case round =>
      clear hM2 hbel2 hap2
      obtain ⟨k, out, hk, rfl, hown, hM, hbel, hap, hok, hgo⟩ := hrel
      by_cases hk0 : k < p.length
      · obtain ⟨ad, x, had, hlt, hx, hc⟩ := (hap.rl hrow HLO.out).atl hk0
        have HAD := Lib.hid had
        subst had
        have hxne := hpne.out x (List.mem_of_getElem? hx.out)
        obtain ⟨b, hb⟩ : ∃ b : ByteArray, (⟨x.toArray⟩ : ByteArray) = b := ⟨_, rfl⟩
        have hbx : b.data.toList = x := by rw [← hb]
        have hc' : wr.cell? (ad.add k) = some (.string b) := by rw [← hb]; exact hc
        have hbs : b.size ≤ 32768 := by rw [← size_len, hbx]; exact hxne.2
        have hbp : 0 < b.size := size_pos (by rw [hbx]; exact hxne.1)
        have HS := Lib.hid hbx
        have hm3 : wr.cell? ⟨0, 0, none⟩ = some (.int .i64 m) := (hbel.cell (p := ⟨0, 0, none⟩) hm2l).trans hm
        have HM3 := Lib.hid hm3
        clear hb hc hbx hxne hm3
        by_cases h72 : 72 < b.size
        · have HF := Lib.hid (hgo.out.trans (read_long hx.out (out := out) (by unfold longL; rw [← HS.out, size_len, decide_eq_true h72]; rfl)))
          go_wp2
          go_ret2
          exact readPost_err HF.out (HB0.out ▸ hbel)
        · by_cases h0 : b.data.toList.contains 0 = true
          · have HF := Lib.hid (hgo.out.trans (read_long hx.out (out := out) (by unfold longL; rw [← HS.out, h0]; simp)))
            have hge := idx_has h0
            have HGE := Lib.hid hge
            clear h0 hge
            go_wp2_with fail
            refine (Tryd.strings_IndexByte _ _ _).mono ?_
            rintro e w' ⟨rfl, rfl⟩
            rw [show ((0 : Int).toNat.toUInt8) = 0 from rfl]
            have hge := HGE.out
            go_wp2
            go_ret2
            exact readPost_err HF.out (HB0.out ▸ hbel)
          · have h0' : b.data.toList.contains 0 = false := by simpa using h0
            have HLG : Hid (longL x = false) := Lib.hid (by unfold longL; rw [← HS.out, h0', size_len, decide_eq_false h72]; rfl)
            have HID := Lib.hid (idx_lacks h0')
            clear h0 h0'
            have hb0h := head_at hbp
            have HH := Lib.hid hb0h
            clear hb0h
            by_cases h32 : b[0] = 32
            · have h32' : (b[0].toNat : Int) = 32 := by rw [h32]; rfl
              have HX32 : Hid (x.head? = some 32) := Lib.hid (by rw [← HS.out, HH.out, h32])
              clear h32
              by_cases hk00 : k = 0
              · have HF := Lib.hid (hgo.out.trans (read_lead hx.out HLG.out HX32.out (hok.out.2.1.2 hk00)))
                have hnk : ((k : Int) == 0) = true := by simpa using hk00
                clear hk00
                go_wp2_with fail
                refine (Tryd.strings_IndexByte _ _ _).mono ?_
                rintro e w' ⟨rfl, rfl⟩
                rw [show ((0 : Int).toNat.toUInt8) = 0 from rfl, HID.out]
                go_wp2
                go_ret2
                exact readPost_err HF.out (HB0.out ▸ hbel)
              · have hne : ¬ out = [] := fun e => hk00 (hok.out.2.1.1 e)
                have hnk : ((k : Int) == 0) = false := by simpa using hk00
                have hq0 : 0 < out.length := List.length_pos_iff.2 hne
                obtain ⟨g, cp, rfl, hg1, hg2⟩ := hown.form hq0
                obtain ⟨q, hq⟩ : ∃ q, out.length = q := ⟨_, rfl⟩
                rw [hq] at hown hq0 ⊢
                obtain ⟨a, ha⟩ : ∃ a, out[q - 1]? = some a := ⟨_, List.getElem?_eq_getElem (by omega)⟩
                obtain ⟨sv, hsv⟩ : ∃ sv : ByteArray, (⟨a.2.toArray⟩ : ByteArray) = sv := ⟨_, rfl⟩
                have hcl : wr.cell? ⟨g, (q - 1) * 2 + 1, none⟩ = some (.string sv) := by rw [← hsv]; exact hown.cell pairK ha rfl
                have hfz := hown.frz ((q - 1) * 2 + 1)
                have hsvs : sv.size ≤ 72 * k := by
                  rw [← hsv]; exact (hok.out.2.2 a (List.mem_of_getElem? ha)).2
                have hol : q ≤ k := by have := hok.out.1; omega
                have HQ := Lib.hid hq
                have HA := Lib.hid ha
                have HSV := Lib.hid hsv
                have HF := Lib.hid (hgo.out.trans (read_more hx.out HLG.out HX32.out hne))
                have i1 : IntKind.i64.wrap ((q : Int) - 1) = (q : Int) - 1 := IntWalk.i64_in _ (by omega)
                have i2 : 0 ≤ (q : Int) - 1 := by omega
                have i3 : (q : Int) - 1 < (q : Int) := by omega
                have i4 : ((q : Int) - 1).toNat = q - 1 := by omega
                clear hne hq ha hsv hk00
                go_wp2_with fail
                refine (Tryd.strings_IndexByte _ _ _).mono ?_
                rintro e w' ⟨rfl, rfl⟩
                rw [show ((0 : Int).toNat.toUInt8) = 0 from rfl, HID.out]
                go_wp2
                go_region
                have own2 : OwS pairC 2 _ B2 44 _ _ := hown.set pairK (k := q - 1) (j := 1) (x' := (a.1, a.2 ++ x.drop 1)) HA.out (by decide) (u := .string (sv ++ b.extract 1 b.size)) (by
                  rw [cat_tail, HS.out, ← HSV.out]; rfl)
                have HAL := Lib.hid (addLast_set (out := out) (v := x.drop 1) (by rw [HQ.out]; exact HA.out))
                have hM2 := hM.setCell (a := ⟨g, (q - 1) * 2 + 1, none⟩) (show b0 ≠ g by omega) (.string (sv ++ b.extract 1 b.size))
                have hb2 := hbel.setCell (p := ⟨g, (q - 1) * 2 + 1, none⟩) (show b0 ≤ g by omega) (.string (sv ++ b.extract 1 b.size))
                have hap2 := hap.set (p := ⟨g, (q - 1) * 2 + 1, none⟩) hg1 (.string (sv ++ b.extract 1 b.size))
                have hown2 := own2.drewN 1
                rw [HQ.out] at HAL
                clear hown own2 hM hbel hap
                go_wp2
                go_roundw
                case rel => exact ⟨k + 1, addLast out (x.drop 1), by omega, by go_num, by rw [HAL.out]; exact hown2, ((hM2.drew).mono (by omega)).ext (seenG_addLast _ _), hb2.drew, hap2, Lib.hid (attrsOk_add hok.out (by omega) (by rw [← HS.out, size_len]; omega)), HF⟩
                case measure => simp [intOf]; omega
            · have h32' : ¬ (b[0].toNat : Int) = 32 := u8_ne (y := 32) h32
              have h32b : ((b[0].toNat : Int) == 32) = false := by simpa using h32'
              have HX32 : Hid (¬ x.head? = some 32) := Lib.hid (by rw [← HS.out, HH.out]; intro e; injection e with e; exact h32 e)
              have hxl : Hid (x.length ≤ 72) := Lib.hid (by rw [← HS.out, size_len]; omega)
              have hxb : x.length = b.size := by rw [← HS.out, size_len]
              clear h32
              by_cases hf : (keyP x).length < x.length
              · have HC := Lib.hid (show Lib.cut b.data.toList (⟨#[58]⟩ : ByteArray).data.toList = (keyP x, restP x, true) by rw [HS.out]; exact (cut_key x).trans (if_pos hf))
                have hkl : (keyP x).length ≤ 72 := by have := hxl.out; omega
                have hrl : (restP x).length ≤ 72 := by unfold restP; rw [List.length_drop]; have := hxl.out; omega
                have HKF := Lib.hid hf
                clear hf hxb
                obtain ⟨kb, hkb⟩ : ∃ kb : ByteArray, (⟨(keyP x).toArray⟩ : ByteArray) = kb := ⟨_, rfl⟩
                obtain ⟨vb, hvb⟩ : ∃ vb : ByteArray, (⟨(restP x).toArray⟩ : ByteArray) = vb := ⟨_, rfl⟩
                have hkd : kb.data.toList = keyP x := by rw [← hkb]
                have hvd : vb.data.toList = restP x := by rw [← hvb]
                have hks : kb.size ≤ 72 := by rw [← size_len, hkd]; exact hkl
                have hvs : vb.size ≤ 72 := by rw [← size_len, hvd]; exact hrl
                have HKB := Lib.hid hkb
                have HVB := Lib.hid hvb
                have HKD := Lib.hid hkd
                have HVD := Lib.hid hvd
                clear hkl hrl hkb hvb hkd hvd
                go_wp2_with fail
                refine (Tryd.strings_IndexByte _ _ _).mono ?_
                rintro e w' ⟨rfl, rfl⟩
                rw [show ((0 : Int).toNat.toUInt8) = 0 from rfl, HID.out]
                go_wp2_with fail
                refine (Tryd.strings_Cut b ⟨#[58]⟩ m _ (by omega) HM3.out).mono ?_
                rintro e w3 ⟨rfl, q3, rfl⟩
                rw [show (⟨(Lib.cut b.data.toList (⟨#[58]⟩ : ByteArray).data.toList).1.toArray⟩ : ByteArray) = kb by rw [HC.out]; exact HKB.out,
                  show (⟨(Lib.cut b.data.toList (⟨#[58]⟩ : ByteArray).data.toList).2.1.toArray⟩ : ByteArray) = vb by rw [HC.out]; exact HVB.out,
                  show (Lib.cut b.data.toList (⟨#[58]⟩ : ByteArray).data.toList).2.2 = true by rw [HC.out]]
                have hM3 := hM.drewN q3
                have hbel3 := below_drewN hbel q3
                have hap3 := hap.drewN q3
                have hown3 := hown.drewN q3
                have hc3 : (w'.drewN q3).cell? (ad.add k) = some (.string b) := hc'
                clear hM hbel hap hown hc' HM3
                generalize w'.drewN q3 = w3 at hM3 hbel3 hap3 hown3 hc3 ⊢
                go_wp2_with fail
                refine (named_any kb _ (by omega)).mono ?_
                rintro e w4 ⟨rfl, hb4⟩
                have hM4 := hM3.below hb4 hM3.lt
                have hbel4 := hbel3.trans (hb4.mono (by have := hM3.lt; omega))
                have hap4 := hap3.below hb4 hap3.1
                have hown4 := hown3.step hb4
                rw [HKD.out]
                cases hnm : nameB (keyP x)
                · have HF := Lib.hid (hgo.out.trans (read_bad hx.out HLG.out HX32.out (by unfold fineL; rw [hnm]; simp)))
                  go_wp2
                  go_ret2
                  exact readPost_err HF.out (HB0.out ▸ hbel4)
                · by_cases hv0 : vb.data.toList = []
                  · have HF := Lib.hid (hgo.out.trans (read_bad hx.out HLG.out HX32.out (by unfold fineL; rw [← HVD.out, hv0]; simp)))
                    have e1 := tl_none hv0
                    clear hv0
                    go_wp2
                    go_ret2
                    exact readPost_err HF.out (HB0.out ▸ hbel4)
                  · have e1 := tl_some hv0
                    have e2 := size_pos hv0
                    have HVH := Lib.hid (head_at e2)
                    clear hv0
                    by_cases hv32 : vb[0] = 32
                    · have e3 : (vb[0].toNat : Int) = 32 := by rw [hv32]; rfl
                      have HFN : Hid (fineL x = true) := Lib.hid (by unfold fineL; rw [← HVD.out, HVH.out, hv32, decide_eq_true HKF.out, hnm]; rfl)
                      have HXF := Lib.hid hnm
                      clear hv32
                      obtain ⟨sb, hsb⟩ : ∃ sb : ByteArray, (⟨(smallL kb.data.toList).toArray⟩ : ByteArray) = sb := ⟨_, rfl⟩
                      have hsd : sb.data.toList = smallL (keyP x) := by rw [← hsb, ← HKD.out]
                      have hss : sb.size ≤ maxLen := by rw [← size_len, hsd]; unfold smallL maxLen; rw [List.length_map, ← HKD.out, size_len]; omega
                      have HSB := Lib.hid hsb
                      have HSD := Lib.hid hsd
                      have HKY := Lib.hid (keyS sb hss)
                      clear hsb hsd hss
                      go_wp2_with fail
                      refine (small_any kb _ (by omega)).mono ?_
                      rintro e w5 ⟨rfl, hb5⟩
                      have hM5 := hM4.below hb5 hM4.lt
                      have hbel5 := hbel4.trans (hb5.mono (by have := hM4.lt; omega))
                      have hap5 := hap4.below hb5 hap4.1
                      have hown5 := hown4.step hb5
                      rw [HSB.out]
                      clear hM3 hM4 hbel3 hbel4 hap3 hap4 hown3 hown4 hb4 hb5 hc3
                      by_cases hdup : sb.data.toList ∈ out.map (fun a => smallL a.1)
                      · have HF := Lib.hid (hgo.out.trans (read_twice hx.out HLG.out HX32.out HFN.out (by rw [← HSD.out]; exact hdup)))
                        have hg1 := seenG_yes hdup
                        clear hdup
                        go_wp2_with (at_lookup; refine wpList_lookT rfl (.tmp 70) (.tmp 72) _ rfl 4 strK Tryd.underlying45 (.bool false) (zeroB_run _) rfl hM5 sb _ rfl HKY.out ?_; rw [hg1])
                        go_ret2
                        exact readPost_err HF.out (HB0.out ▸ hbel5)
                      · have HF := Lib.hid (hgo.out.trans (read_new hx.out HLG.out HX32.out HFN.out (by rw [← HSD.out]; exact hdup)))
                        have hg1 := seenG_no hdup
                        have HG1 := Lib.hid hg1
                        clear hdup hg1
                        go_wp2_with (at_lookup; refine wpList_lookT rfl (.tmp 70) (.tmp 72) _ rfl 4 strK Tryd.underlying45 (.bool false) (zeroB_run _) rfl hM5 sb _ rfl HKY.out ?_; rw [HG1.out])
                        refine (small_any kb _ (by omega)).mono ?_
                        rintro e w6 ⟨rfl, hb6⟩
                        have hM6 := hM5.below hb6 hM5.lt
                        have hbel6 := hbel5.trans (hb6.mono (by have := hM5.lt; omega))
                        have hap6 := hap5.below hb6 hap5.1
                        have hown6 := hown5.step hb6
                        rw [HSB.out]
                        clear hM5 hbel5 hap5 hown5 hb6
                        obtain ⟨rt, hrt⟩ : ∃ rt, (restP x).drop 1 = rt := ⟨_, rfl⟩
                        have HOKN : Hid (AttrsOk (out ++ [(keyP x, rt)]) (k + 1)) := Lib.hid (hrt ▸ attrsOk_new hok.out HXF.out hxl.out)
                        rw [hrt] at HF
                        have HRT := Lib.hid hrt
                        clear hrt
                        have HSL : Hid ((sV (keyP x) = .string kb) ∧ sV (rt) = .string (vb.extract 1 vb.size)) := Lib.hid ⟨by unfold sV; rw [HKB.out], by rw [ext_tail, HVD.out, HRT.out]; rfl⟩
                        go_wp2_with (first
                          | (at_mapUpdate; refine wpList_storeT rfl (.tmp 74) (.tmp 76) _ _ rfl 4 strK Tryd.underlying45 rfl hM6 str_inj (by unfold maxLen; omega) sb (.bool true) _ rfl rfl HKY.out ?_; intro w7 hM7 hg7)
                          | (at_builtin; refine wpList_appS _ pairK rfl (.tmp 77) (.tmp 82) rfl pairTy (by decide) B2 u4 out rfl ?c3 _ _ 1 1 [(keyP x, rt)] rfl rfl (RS.new _ _ _ ?c0 _ _) ?c1 ?c2 ?_))
                        case c3 =>
                          refine OwS.alloc (hown6.kept hg7 ?_) _
                          cases hv : u4.ownBlock with
                          | none => exact .inl rfl
                          | some g => exact .inr (fun e => by injection e with e; have := (hown6.blk hv).1; omega)
                        case c0 => simp only [pairC, HSL.out.1, HSL.out.2]
                        case c1 => have := hok.out.1; simp; omega
                        case c2 => have := hap6.1; have := hg7.size; simp; omega
                        intro v8 w8 own8 _ _ hb8
                        have hM7' := hM7.ext (seenG_new (a := (keyP x, rt)) HSD.out)
                        have hbel7 := hbel6.trans (gb_low hg7 (Nat.le_refl _) hM6.lt)
                        have hap7 := hap6.grown hg7
                        have hb8' := (bl_alloc (Below.refl B2 w7) hap7.1 (.cells #[.string kb, .string (vb.extract 1 vb.size)] 44)).trans hb8
                        have hM8 := hM7'.below hb8' (by omega)
                        have hbel8 := hbel7.trans (hb8'.mono (by omega))
                        have hap8 := hap7.below hb8' (Nat.le_refl _)
                        clear hM6 hbel6 hap6 hown6 hM7 hM7' hbel7 hap7 hg7 hb8 hb8'
                        go_wp2
                        go_roundw
                        case rel => exact ⟨k + 1, out ++ [(keyP x, rt)], by omega, by go_num, own8, hM8, hbel8, hap8, HOKN, HF⟩
                        case measure => simp [intOf]; omega
                    · have e3 : ¬ (vb[0].toNat : Int) = 32 := u8_ne (y := 32) hv32
                      have e4 : ((vb[0].toNat : Int) != 32) = true := by simpa using e3
                      have HF := Lib.hid (hgo.out.trans (read_bad hx.out HLG.out HX32.out (fineL_head (by rw [← HVD.out]; exact HVH.out) hv32)))
                      clear hv32
                      go_wp2
                      go_ret2
                      exact readPost_err HF.out (HB0.out ▸ hbel4)
              · have HC := Lib.hid (show Lib.cut b.data.toList (⟨#[58]⟩ : ByteArray).data.toList = (x, [], false) by rw [HS.out]; exact (cut_key x).trans (if_neg hf))
                have HF := Lib.hid (hgo.out.trans (read_bad hx.out HLG.out HX32.out (by unfold fineL; rw [decide_eq_false hf]; rfl)))
                clear hf hxb
                go_wp2_with fail
                refine (Tryd.strings_IndexByte _ _ _).mono ?_
                rintro e w' ⟨rfl, rfl⟩
                rw [show ((0 : Int).toNat.toUInt8) = 0 from rfl, HID.out]
                go_wp2_with fail
                refine (Tryd.strings_Cut b ⟨#[58]⟩ m _ (by omega) HM3.out).mono ?_
                rintro e w3 ⟨rfl, q3, rfl⟩
                rw [show (Lib.cut b.data.toList (⟨#[58]⟩ : ByteArray).data.toList).2.2 = false by rw [HC.out]]
                go_wp2
                go_ret2
                exact readPost_err HF.out (HB0.out ▸ below_drewN hbel q3)
      · obtain rfl : k = p.length := by omega
        have hend := Lib.hid (hgo.out.trans read_end)
        by_cases h0 : out = []
        · obtain ⟨Av, cv, rfl, _⟩ := hown.rd
          have HF : Hid (R = (22, [])) := Lib.hid (by rw [hend.out, h0]; rfl)
          subst h0
          go_wp2
          go_ret2
          exact readPost_err HF.out (HB0.out ▸ hbel)
        · have hq0 : 0 < out.length := List.length_pos_iff.2 h0
          obtain ⟨g, cp, rfl, hg1, hg2⟩ := hown.form hq0
          obtain ⟨a, r, ha⟩ : ∃ a r, out = a :: r := by
            cases out with
            | nil => exact absurd rfl h0
            | cons a r => exact ⟨a, r, rfl⟩
          obtain ⟨sb, hsb⟩ : ∃ sb : ByteArray, (⟨a.1.toArray⟩ : ByteArray) = sb := ⟨_, rfl⟩
          have hcl : wr.cell? ⟨g, 0, none⟩ = some (.string sb) := by rw [← hsb]; exact hown.cell pairK (k := 0) (j := 0) (x := a) (by rw [ha]; rfl) rfl
          have hsbz : sb.size ≤ 70 := by
            rw [← hsb]; exact (nameB_all (hok.out.2.2 a (by rw [ha]; simp)).1).2.1
          obtain ⟨q, hq⟩ : ∃ q, out.length = q := ⟨_, rfl⟩
          rw [hq] at hq0 hown ⊢
          have hqe : ((q : Int) == 0) = false := by simp; omega
          have hsd : sb.data.toList = a.1 := by rw [← hsb]
          have HEND : Hid (R = if smallL a.1 = mvL then (0, out) else (22, [])) := Lib.hid (by rw [hend.out, ha]; rfl)
          obtain ⟨tb, htb⟩ : ∃ tb : ByteArray, (⟨(smallL sb.data.toList).toArray⟩ : ByteArray) = tb := ⟨_, rfl⟩
          have htd : tb.data.toList = smallL a.1 := by rw [← htb, ← hsd]
          have HTB := Lib.hid htb
          have HTD := Lib.hid htd
          have HQ := Lib.hid hq
          clear hsb ha hq hsd htb htd h0
          go_wp2_with fail
          refine (small_any sb _ (by omega)).mono ?_
          rintro e w5 ⟨rfl, hb5⟩
          rw [HTB.out]
          have hown5 := hown.step hb5
          have hbel5 := hbel.trans (hb5.mono (by have := hM.lt; omega))
          by_cases hmv : tb.data.toList = mvL
          · have HF : Hid (R = (0, out)) := Lib.hid (by rw [HEND.out, if_pos (by rw [← HTD.out]; exact hmv)])
            have e1 := mv_eq hmv
            have e2 : (tb.toList == mvL) = true := tl_eq hmv
            unfold mvL at e1 e2
            clear hmv hown hbel hb5
            go_wp2
            go_ret2
            exact readPost_ok HF.out hown5 (HB0.out ▸ hbel5)
          · have HF : Hid (R = (22, [])) := Lib.hid (by rw [HEND.out, if_neg (by rw [← HTD.out]; exact hmv)])
            have e1 := mv_ne hmv
            have e2 : (tb.toList == mvL) = false := tl_ne hmv
            unfold mvL at e1 e2
            clear hmv hown hbel hb5
            go_wp2
            go_ret2
            exact readPost_err HF.out (HB0.out ▸ hbel5)
end Go.Proofs.YthkgnidafdiolaaDoor
