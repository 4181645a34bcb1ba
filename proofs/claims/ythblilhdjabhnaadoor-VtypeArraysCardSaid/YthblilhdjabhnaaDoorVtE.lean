/- Contract: vtype.Under. -/
import Derived.Test.YthblilhdjabhnaaDoorVtD
import Derived.Test.YthblilhdjabhnaaDoorMap
namespace Go.Proofs.YthblilhdjabhnaaDoor
open Go.RowKit

abbrev hdrV (h : Hdr) : Value := .agg #[.string ⟨h.1.toArray⟩, .string ⟨h.2.1.toArray⟩, .int .i64 h.2.2.1, .slice h.2.2.2.1 h.2.2.2.2.1 h.2.2.2.2.2]
def zeroH : Value := .agg #[.string .empty, .string .empty, .int .i64 0, .slice none 0 0]
theorem zeroH_run (w : World) : (zeroValue 39).run Tryd.prog w = .ok zeroH w := by kernel_rfl
theorem keyH (s : ByteArray) (h : s.size ≤ maxLen) : keyOf Tryd.prog 9 (.string s) = some (.string s.data.toList) := WideMaps.keyOf_string_mk Tryd.underlying9 h
theorem strK : Maps.Keyed Tryd.prog 9 := Maps.string_keyed Tryd.underlying9
theorem str_inj (x y : ByteArray) (h : Value.string x = Value.string y) : x = y := by injection h
/-- What the map holds behind the first k headers. -/
def headG (l : List Hdr) (k : Nat) (b : ByteArray) : Option Value := (findH (l.take k) b.data.toList).map hdrV
theorem findH_snoc (l : List Hdr) (a : Hdr) (x : List UInt8) : findH (l ++ [a]) x = match findH l x with
    | some h => some h
    | none => if a.1 = x then some a else none := by
  induction l with
  | nil => rfl
  | cons b r ih =>
    rw [List.cons_append]
    unfold findH
    split
    · rfl
    · exact ih
theorem headG_full (l : List Hdr) (b : ByteArray) : headG l l.length b = (findH l b.data.toList).map hdrV := by unfold headG; rw [List.take_length]
theorem headG_old {l : List Hdr} {k : Nat} {a : Hdr} (ha : l[k]? = some a) {b : ByteArray} (hb : b.data.toList = a.1) (h : (headG l k b).isSome = true) (q : ByteArray) : headG l (k + 1) q = headG l k q := by
  unfold headG
  rw [List.take_add_one, ha]
  simp only [Option.toList_some]
  rw [findH_snoc]
  cases hq : findH (l.take k) q.data.toList with
  | some h => rfl
  | none =>
    simp only
    by_cases e : a.1 = q.data.toList
    · exfalso
      unfold headG at h
      rw [hb, e, hq] at h
      cases h
    · rw [if_neg e]
theorem headG_new {l : List Hdr} {k : Nat} {a : Hdr} (ha : l[k]? = some a) {b : ByteArray} (hb : b.data.toList = a.1) (h : (headG l k b).isSome = false) (q : ByteArray) : headG l (k + 1) q = if q = b then some (hdrV a) else headG l k q := by
  unfold headG at h ⊢
  rw [List.take_add_one, ha]
  simp only [Option.toList_some]
  rw [findH_snoc]
  by_cases e : q = b
  · subst e
    rw [if_pos rfl]
    cases hq : findH (l.take k) q.data.toList with
    | some h' => rw [hq] at h; cases h
    | none => simp only; rw [if_pos hb.symm]; rfl
  · rw [if_neg e]
    cases hq : findH (l.take k) q.data.toList with
    | some h' => rfl
    | none =>
      simp only
      rw [if_neg (fun e2 => e (ba_eq (by rw [hb, e2])))]

theorem bk4 {w : World} {g : Nat} {t : TypeId} {x y z u : Value} (B : Bk w g t #[x, y, z, u]) (a b c d : Value) :
    Bk ((((w.setCell ⟨g, 0, none⟩ a).setCell ⟨g, 1, none⟩ b).setCell ⟨g, 2, none⟩ c).setCell ⟨g, 3, none⟩ d) g t #[a, b, c, d] := by
  have := (((B.set 0 a).set 1 b).set 2 c).set 3 d
  simpa using this
theorem bel4 {w0 w : World} {B g : Nat} (h : Below B w0 w) (hg : B ≤ g) (a b c d : Value) : Below B w0 ((((w.setCell ⟨g, 0, none⟩ a).setCell ⟨g, 1, none⟩ b).setCell ⟨g, 2, none⟩ c).setCell ⟨g, 3, none⟩ d) :=
  (((h.setCell (by exact hg) _).setCell (by exact hg) _).setCell (by exact hg) _).setCell (by exact hg) _
theorem map4 {κ : Type} {f : κ → Value} {w : World} {P : Program} {k : TypeId} {b n g : Nat} {G : κ → Option Value} (h : MapT f w P k b n G) (hg : b ≠ g) (x y z u : Value) :
    MapT f ((((w.setCell ⟨g, 0, none⟩ x).setCell ⟨g, 1, none⟩ y).setCell ⟨g, 2, none⟩ z).setCell ⟨g, 3, none⟩ u) P k b n G :=
  (((h.setCell (by exact hg) _).setCell (by exact hg) _).setCell (by exact hg) _).setCell (by exact hg) _
theorem chainH_none {known : List Hdr} {y x : List UInt8} {n : Nat} (h : findH known x = none) : chain known y (n + 1) x = (false, x) := by unfold chain; rw [h]
theorem chainH_hit {known : List Hdr} {y x : List UInt8} {n : Nat} {a : Hdr} (h : findH known x = some a) (h1 : a.2.1 = y) : chain known y (n + 1) x = (true, []) := by
  unfold chain; rw [h]; simp only; rw [if_pos h1]
theorem chainH_end {known : List Hdr} {y x : List UInt8} {n : Nat} {a : Hdr} (h : findH known x = some a) (h1 : ¬ a.2.1 = y) (h2 : a.2.1 = []) : chain known y (n + 1) x = (false, []) := by
  unfold chain; rw [h]; simp only; rw [if_neg h1, if_pos h2]
theorem chainH_on {known : List Hdr} {y x : List UInt8} {n : Nat} {a : Hdr} (h : findH known x = some a) (h1 : ¬ a.2.1 = y) (h2 : ¬ a.2.1 = []) : chain known y (n + 1) x = chain known y n a.2.1 := by
  conv => lhs; unfold chain
  rw [h]; simp only; rw [if_neg h1, if_neg h2]
theorem findH_mem2 {l : List Hdr} {x : List UInt8} {a : Hdr} (h : findH l x = some a) : a ∈ l := by
  induction l with
  | nil => cases h
  | cons b r ih =>
    unfold findH at h
    split at h
    · injection h with h; subst h; simp
    · exact List.mem_cons_of_mem _ (ih h)

set_option maxRecDepth 100000 in
set_option maxHeartbeats 4000000 in
theorem under_cls (A : Option Addr) (n c : Nat) (l : List Hdr) (f t : ByteArray) (w : World) (hn : l.length = n) (hz : n ≤ 1000000) (hr : RH w w.heap.size A l) (hk : ∀ h ∈ l, h.1.length ≤ maxLen ∧ h.2.1.length ≤ maxLen)
    (hF : f.size ≤ 140737488355328) (hT : t.size ≤ 140737488355328) (hno : ¬ (f.data.toList = t.data.toList ∨ t.data.toList = objL)) (hf0 : ¬ f.data.toList = []) (ht0 : ¬ t.data.toList = []) (haf : isArr f.data.toList = false) (hat : isArr t.data.toList = false) :
    Calls Tryd.prog 13 #[.slice A n c, .string f, .string t] w (UPost (underV l f.data.toList t.data.toList) w) := by
  have HN := Lib.hid hn
  have HK := Lib.hid hk
  obtain ⟨R, hR⟩ : ∃ R, underV l f.data.toList t.data.toList = R := ⟨_, rfl⟩
  rw [hR]
  have hcls := Lib.hid (hR.symm.trans (underV_cls hno (fun h => h.elim hf0 ht0) haf hat))
  obtain ⟨g1, g2⟩ := ba_ne2 (fun e => hno (.inl e))
  have g3 : (t.toList == [106, 97, 118, 97, 47, 108, 97, 110, 103, 47, 79, 98, 106, 101, 99, 116]) = false := tl_ne (fun e => hno (.inr e))
  have g4 := tl_some hf0
  have g5 := tl_some ht0
  have HPF := Lib.hid ((hasPrefix_arr f.data.toList).trans haf)
  have HPT := Lib.hid ((hasPrefix_arr t.data.toList).trans hat)
  clear hn hk hR hno hf0 ht0 haf hat
  have hmm := @run_makeMap Tryd.prog
  go_enter Tryd.func13, Tryd.ntmps13
  go_wp2_with fail
  refine (Tryd.strings_HasPrefix _ _ _).mono ?_
  rintro e w' ⟨rfl, rfl⟩
  rw [show Lib.hasPrefix f.data.toList (⟨#[91]⟩ : ByteArray).data.toList = false from HPF.out]
  go_wp2_with fail
  refine (Tryd.strings_HasPrefix _ _ _).mono ?_
  rintro e w' ⟨rfl, rfl⟩
  rw [show Lib.hasPrefix t.data.toList (⟨#[91]⟩ : ByteArray).data.toList = false from HPT.out]
  go_wp2_with fail
  obtain ⟨b0, hb0⟩ : ∃ b0, w'.heap.size = b0 := ⟨_, rfl⟩
  have hM0 : MapT Value.string (w'.alloc (.map #[] 0)) Tryd.prog 9 b0 0 (headG l 0) := (MapT.madeAt w' _ _ hb0).ext (fun x => by unfold headG; rfl)
  have hbl0 : Below w'.heap.size w' (w'.alloc (.map #[] 0)) := bl_alloc (Below.refl _ _) (Nat.le_refl _) _
  rw [hb0]
  have HB0 := Lib.hid hb0
  have hb0' : w'.heap.size ≤ b0 := by omega
  clear hmm hb0
  go_loopw [71] (fun i wr => ∃ k : Nat, k ≤ n ∧ i = .int .i64 (k : Int) ∧ MapT Value.string wr Tryd.prog 9 b0 k (headG l k) ∧ Below w'.heap.size w' wr) (fun i _ => n - (intOf i).toNat)
  case atStart => exact ⟨0, by omega, rfl, hM0, hbl0⟩
  case round =>
    clear hM0 hbl0
    obtain ⟨k, hk, rfl, hM, hbel⟩ := hrel
    have hbz := hbel.size
    have hbm := hM.lt
    by_cases hk0 : k < n
    · obtain ⟨ad, x, rfl, hl, hx, hc0, hc1, hc2, hc3⟩ := (hr.below hbel (Nat.le_refl _)).at_ (k := k) (by rw [HN.out]; exact hk0)
      have hkx := HK.out x (List.mem_of_getElem? hx.out)
      obtain ⟨b, hb⟩ : ∃ b : ByteArray, (⟨x.1.toArray⟩ : ByteArray) = b := ⟨_, rfl⟩
      obtain ⟨b2, hb2⟩ : ∃ b2 : ByteArray, (⟨x.2.1.toArray⟩ : ByteArray) = b2 := ⟨_, rfl⟩
      obtain ⟨xa, hxa⟩ : ∃ xa : Int, x.2.2.1 = xa := ⟨_, rfl⟩
      obtain ⟨xA, xn, xc, hxv⟩ : ∃ (xA : Option Addr) (xn xc : Nat), x.2.2.2 = (xA, xn, xc) := ⟨_, _, _, rfl⟩
      have hV : hdrV x = .agg #[.string b, .string b2, .int .i64 xa, .slice xA xn xc] := by rw [← hb, ← hb2, ← hxa]; unfold hdrV; rw [hxv]
      rw [hb] at hc0
      rw [hb2] at hc1
      rw [hxa] at hc2
      rw [hxv] at hc3
      have hbd : b.data.toList = x.1 := by rw [← hb]
      have hbs : b.size ≤ maxLen := by rw [← size_len, hbd]; exact hkx.1
      have HBD := Lib.hid hbd
      have HV := Lib.hid hV
      have HKB := Lib.hid (keyH b hbs)
      clear hb hb2 hxa hxv hV hbd hkx
      cases hf : findH (l.take k) b.data.toList with
      | some h0 =>
        have HG := Lib.hid (show headG l k b = some (hdrV h0) by unfold headG; rw [hf]; rfl)
        have HO := Lib.hid (headG_old hx.out HBD.out (by rw [HG.out]; rfl))
        obtain ⟨v0, v1, v2, v3, v4, v5, hv⟩ : ∃ (v0 v1 : ByteArray) (v2 : Int) (v3 : Option Addr) (v4 v5 : Nat), hdrV h0 = .agg #[.string v0, .string v1, .int .i64 v2, .slice v3 v4 v5] := ⟨_, _, _, _, _, _, rfl⟩
        have HV0 := Lib.hid (show (headG l k b).getD zeroH = .agg #[.string v0, .string v1, .int .i64 v2, .slice v3 v4 v5] by rw [HG.out]; exact hv)
        have HS := Lib.hid (show (headG l k b).isSome = true by rw [HG.out]; rfl)
        clear hf hv
        go_wp2_with (at_lookup; refine wpList_lookV_ok rfl (.tmp 76) (.tmp 78) _ rfl 39 strK Tryd.underlying44 zeroH (zeroH_run _) rfl (hM.alloc _) b _ rfl HKB.out _ _ HV0.out HS.out ?_)
        go_roundw
        case rel => exact ⟨k + 1, by omega, by go_num, ((MapT.alloc (hM.alloc _) _).mono (by omega)).ext HO.out, bl_alloc (bl_alloc hbel (Nat.le_refl _) _) (Nat.le_refl _) _⟩
        case measure => simp [intOf]; omega
      | none =>
        have HG := Lib.hid (show headG l k b = none by unfold headG; rw [hf]; rfl)
        have HO := Lib.hid (headG_new hx.out HBD.out (by rw [HG.out]; rfl))
        have HV0 := Lib.hid (show (headG l k b).getD zeroH = .agg #[.string .empty, .string .empty, .int .i64 0, .slice none 0 0] by rw [HG.out]; rfl)
        have HS := Lib.hid (show (headG l k b).isSome = false by rw [HG.out]; rfl)
        clear hf
        go_wp2_with (first
          | (at_lookup; refine wpList_lookV_ok rfl (.tmp 76) (.tmp 78) _ rfl 39 strK Tryd.underlying44 zeroH (zeroH_run _) rfl (hM.alloc _) b _ rfl HKB.out _ _ HV0.out HS.out ?_)
          | (at_mapUpdate; refine wpList_storeT rfl (.tmp 84) (.tmp 86) (.tmp 87) _ rfl 39 strK Tryd.underlying44 rfl (MapT.alloc (hM.alloc _) _) str_inj (by unfold maxLen; omega) b (.agg #[.string b, .string b2, .int .i64 xa, .slice xA xn xc]) _ rfl rfl HKB.out ?_; intro w2 hM2 hg2))
        have hb2 := (bl_alloc (bl_alloc hbel (Nat.le_refl _) (.cells #[.string b, .string b2, .int .i64 xa, .slice xA xn xc] 39)) (Nat.le_refl _) (.cells #[.string .empty, .string .empty, .int .i64 0, .slice none 0 0] 39)).trans (gb_low hg2 hb0' (by simp; omega))
        go_wp2
        go_roundw
        case rel => exact ⟨k + 1, by omega, by go_num, hM2.ext (fun q => by rw [HO.out q, HV.out]), hb2⟩
        case measure => simp [intOf]; omega
    · obtain rfl : k = n := by omega
      have hM9 : MapT Value.string wr Tryd.prog 9 b0 k (fun q => (findH l q.data.toList).map hdrV) := hM.ext (fun q => by rw [← HN.out, headG_full])
      have HKT := Lib.hid (keyH t (by unfold maxLen; omega))
      clear hM
      cases hft : findH l t.data.toList with
      | none =>
        have hfin := Lib.hid (hcls.out.trans (show classU l f.data.toList t.data.toList = (false, t.data.toList) by unfold classU; rw [hft]))
        have HV0 := Lib.hid (show ((findH l t.data.toList).map hdrV).getD zeroH = .agg #[.string .empty, .string .empty, .int .i64 0, .slice none 0 0] by rw [hft]; rfl)
        have HS := Lib.hid (show ((findH l t.data.toList).map hdrV).isSome = false by rw [hft]; rfl)
        clear hft
        go_wp2_with (at_lookup; refine wpList_lookV_ok rfl (.tmp 90) (.tmp 91) _ rfl 39 strK Tryd.underlying44 zeroH (zeroH_run _) rfl hM9 t _ rfl HKT.out _ _ HV0.out HS.out ?_)
        go_ret2
        exact uPost_of hfin.out (bl_alloc hbel (Nat.le_refl _) _)
      | some h0 =>
        obtain ⟨v0, v1, v2, v3, v4, v5, hv⟩ : ∃ (v0 v1 : ByteArray) (v2 : Int) (v3 : Option Addr) (v4 v5 : Nat), hdrV h0 = .agg #[.string v0, .string v1, .int .i64 v2, .slice v3 v4 v5] := ⟨_, _, _, _, _, _, rfl⟩
        have hv2 : h0.2.2.1 = v2 := by unfold hdrV at hv; simp only [Value.agg.injEq, Array.mk.injEq, List.cons.injEq, Value.int.injEq] at hv; exact hv.2.2.1.2
        have HV0 := Lib.hid (show ((findH l t.data.toList).map hdrV).getD zeroH = .agg #[.string v0, .string v1, .int .i64 v2, .slice v3 v4 v5] by rw [hft]; exact hv)
        have HS := Lib.hid (show ((findH l t.data.toList).map hdrV).isSome = true by rw [hft]; rfl)
        have HFT := Lib.hid hft
        clear hft hv
        cases hif : ifaceB v2
        · have hcl2 := Lib.hid (hcls.out.trans (show classU l f.data.toList t.data.toList = chain l t.data.toList l.length f.data.toList by unfold classU; rw [HFT.out]; simp only; rw [hv2, if_neg (by rw [hif]; decide)]))
          have g6 : (bits BinOp.and IntKind.i64 v2 512 != 0) = false := hif
          clear hif hv2
          have hB : Bk (wr.alloc (.cells #[.string v0, .string v1, .int .i64 v2, .slice v3 v4 v5] 39)) wr.heap.size 39 #[.string v0, .string v1, .int .i64 v2, .slice v3 v4 v5] := Bk.new _ _ _
          have hbA := bl_alloc hbel (Nat.le_refl _) (.cells #[.string v0, .string v1, .int .i64 v2, .slice v3 v4 v5] 39)
          have hMA := hM9.alloc (.cells #[.string v0, .string v1, .int .i64 v2, .slice v3 v4 v5] 39)
          go_wp2_with (at_lookup; refine wpList_lookV_ok rfl (.tmp 90) (.tmp 91) _ rfl 39 strK Tryd.underlying44 zeroH (zeroH_run _) rfl hM9 t _ rfl HKT.out _ _ HV0.out HS.out ?_)
          clear g6
          obtain ⟨g, hg⟩ : ∃ g, wr.heap.size = g := ⟨_, rfl⟩
          have hgb : b0 < g := by omega
          have hgw : w'.heap.size ≤ g := by omega
          rw [hg] at hB ⊢
          generalize wr.alloc (.cells #[.string v0, .string v1, .int .i64 v2, .slice v3 v4 v5] 39) = wA at hB hbA hMA ⊢
          clear hg hM9 hbel hbz hbm
          have hf9 : f.size ≤ maxLen := by unfold maxLen; omega
          go_loopw [1, 104] (fun a i wr => ∃ (f : ByteArray) (i' : Nat) (x y z u : Value), a = .string f ∧ i = .int .i64 (i' : Int) ∧ i' ≤ k ∧ f.size ≤ maxLen ∧ Hid (R = chain l t.data.toList (k - i') f.data.toList) ∧
            MapT Value.string wr Tryd.prog 9 b0 k (fun q => (findH l q.data.toList).map hdrV) ∧ Bk wr g 39 #[x, y, z, u] ∧ Below w'.heap.size w' wr) (fun _ i _ => k - (intOf i).toNat)
          case atStart => exact ⟨f, 0, _, _, _, _, rfl, rfl, by omega, hf9, Lib.hid (by rw [hcl2.out, HN.out]; rfl), hMA, hB, hbA⟩
          case round =>
            clear hMA hB hbA
            obtain ⟨f, i, x, y, z, u, rfl, rfl, hi, hfm, hgo2, hM, hB, hbel⟩ := hrel
            by_cases hi0 : i < k
            · obtain ⟨q, hq⟩ : ∃ q, k - i = q + 1 := ⟨k - i - 1, by omega⟩
              have hstep := Lib.hid (show R = chain l t.data.toList (q + 1) f.data.toList by rw [hgo2.out, hq])
              have hq2 : q + 1 + i ≤ k ∧ k ≤ q + 1 + i := by omega
              have HKF := Lib.hid (keyH f hfm)
              have hc := hB.cell
              have hf := hB.frz
              have hz := hB.lt
              clear hq
              cases hff : findH l f.data.toList with
              | none =>
                have hfin := Lib.hid (hstep.out.trans (chainH_none hff))
                have HV1 := Lib.hid (show ((findH l f.data.toList).map hdrV).getD zeroH = .agg #[.string .empty, .string .empty, .int .i64 0, .slice none 0 0] by rw [hff]; rfl)
                have HS1 := Lib.hid (show ((findH l f.data.toList).map hdrV).isSome = false by rw [hff]; rfl)
                clear hff
                go_wp2_with (at_lookup; refine wpList_lookV_ok rfl (.tmp 107) (.tmp 108) _ rfl 39 strK Tryd.underlying44 zeroH (zeroH_run _) rfl hM f _ rfl HKF.out _ _ HV1.out HS1.out ?_)
                go_ret2
                exact uPost_of hfin.out (bel4 hbel hgw _ _ _ _)
              | some h1 =>
                obtain ⟨y0, y1, y2, y3, y4, y5, hv⟩ : ∃ (y0 y1 : ByteArray) (y2 : Int) (y3 : Option Addr) (y4 y5 : Nat), hdrV h1 = .agg #[.string y0, .string y1, .int .i64 y2, .slice y3 y4 y5] := ⟨_, _, _, _, _, _, rfl⟩
                have hy1 : y1.data.toList = h1.2.1 := by
                  unfold hdrV at hv; simp only [Value.agg.injEq, Array.mk.injEq, List.cons.injEq, Value.string.injEq] at hv; rw [← hv.2.1]
                have hy1m : y1.size ≤ maxLen := by rw [← size_len, hy1]; exact (HK.out h1 (findH_mem2 hff)).2
                have HV1 := Lib.hid (show ((findH l f.data.toList).map hdrV).getD zeroH = .agg #[.string y0, .string y1, .int .i64 y2, .slice y3 y4 y5] by rw [hff]; exact hv)
                have HS1 := Lib.hid (show ((findH l f.data.toList).map hdrV).isSome = true by rw [hff]; rfl)
                have HFF := Lib.hid hff
                have HY := Lib.hid hy1
                clear hff hv hy1
                have hB2 := Lib.hid (bk4 hB (.string y0) (.string y1) (.int .i64 y2) (.slice y3 y4 y5))
                have hM2 := map4 hM (g := g) (by omega) (.string y0) (.string y1) (.int .i64 y2) (.slice y3 y4 y5)
                have hb2 := bel4 hbel hgw (.string y0) (.string y1) (.int .i64 y2) (.slice y3 y4 y5)
                by_cases he1 : y1.data.toList = t.data.toList
                · have hfin := Lib.hid (hstep.out.trans (chainH_hit HFF.out (by rw [← HY.out]; exact he1)))
                  obtain rfl : y1 = t := ba_eq he1
                  clear he1
                  go_wp2_with (at_lookup; refine wpList_lookV_ok rfl (.tmp 107) (.tmp 108) _ rfl 39 strK Tryd.underlying44 zeroH (zeroH_run _) rfl hM f _ rfl HKF.out _ _ HV1.out HS1.out ?_)
                  go_ret2
                  exact uPost_of hfin.out hb2
                · by_cases he2 : y1.data.toList = []
                  · have hfin := Lib.hid (hstep.out.trans (chainH_end HFF.out (by rw [← HY.out]; exact he1) (by rw [← HY.out]; exact he2)))
                    obtain ⟨k1, k2⟩ := ba_ne2 he1
                    have k3 := tl_none he2
                    clear he1 he2
                    go_wp2_with (at_lookup; refine wpList_lookV_ok rfl (.tmp 107) (.tmp 108) _ rfl 39 strK Tryd.underlying44 zeroH (zeroH_run _) rfl hM f _ rfl HKF.out _ _ HV1.out HS1.out ?_)
                    go_ret2
                    exact uPost_of hfin.out hb2
                  · have hnx := Lib.hid (hstep.out.trans (chainH_on HFF.out (by rw [← HY.out]; exact he1) (by rw [← HY.out]; exact he2)))
                    obtain ⟨k1, k2⟩ := ba_ne2 he1
                    have k3 := tl_some he2
                    clear he1 he2
                    go_wp2_with (at_lookup; refine wpList_lookV_ok rfl (.tmp 107) (.tmp 108) _ rfl 39 strK Tryd.underlying44 zeroH (zeroH_run _) rfl hM f _ rfl HKF.out _ _ HV1.out HS1.out ?_)
                    go_roundw
                    case rel => exact ⟨y1, i + 1, _, _, _, _, rfl, by go_num, by omega, hy1m, Lib.hid (by rw [hnx.out, HY.out, show k - (i + 1) = q by omega]), hM2, hB2.out, hb2⟩
                    case measure => simp [intOf]; omega
            · obtain rfl : i = k := by omega
              have hfin := Lib.hid (hgo2.out.trans (show chain l t.data.toList (i - i) f.data.toList = (false, []) by rw [Nat.sub_self]; rfl))
              go_wp2
              go_ret2
              exact uPost_of hfin.out hbel
        · have hfin := Lib.hid (hcls.out.trans (show classU l f.data.toList t.data.toList = (true, []) by unfold classU; rw [HFT.out]; simp only; rw [hv2, if_pos hif]))
          have g6 : (bits BinOp.and IntKind.i64 v2 512 != 0) = true := hif
          clear hif hv2
          go_wp2_with (at_lookup; refine wpList_lookV_ok rfl (.tmp 90) (.tmp 91) _ rfl 39 strK Tryd.underlying44 zeroH (zeroH_run _) rfl hM9 t _ rfl HKT.out _ _ HV0.out HS.out ?_)
          go_ret2
          exact uPost_of hfin.out (bl_alloc hbel (Nat.le_refl _) _)
end Go.Proofs.YthblilhdjabhnaaDoor
