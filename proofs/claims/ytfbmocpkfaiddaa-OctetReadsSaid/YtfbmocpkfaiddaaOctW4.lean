/- The walk of OctetReads. -/
import Derived.Test.YtfbmocpkfaiddaaOctF
import Derived.Test.YtfbmocpkfaiddaaOctD
import Derived.Test.YtfbmocpkfaiddaaOctH
import Derived.Test.YtfbmocpkfaiddaaOctW2
namespace Go.Proofs.Ytfbmocpkfaiddaa
open Go.RowKit

/-- A row of asks: of each its kind and its number, two cells each. -/
def askC (a : Int × Int) : List Value := [.int .u8 a.1, .int .i64 a.2]
def RA (w : World) (B : Nat) (A : Option Addr) (l : List (Int × Int)) : Prop := Rd w B A (l.flatMap askC)
theorem askC_get {l : List (Int × Int)} {k : Nat} {a : Int × Int} (h : l[k]? = some a) : (l.flatMap askC)[k * 2]? = some (.int .u8 a.1) ∧ (l.flatMap askC)[k * 2 + 1]? = some (.int .i64 a.2) := by
  induction l generalizing k with
  | nil => simp at h
  | cons x r ih =>
    cases k with
    | zero => simp at h; subst h; simp [askC]
    | succ k =>
      have := ih (k := k) (by simpa using h)
      simp only [List.flatMap_cons, askC, List.cons_append, List.nil_append]
      rw [show (k + 1) * 2 = k * 2 + 1 + 1 by omega]
      simpa using this
theorem RA.at_ {w : World} {B : Nat} {A : Option Addr} {l : List (Int × Int)} (h : RA w B A l) {k : Nat} (hk : k < l.length) :
    ∃ ad x, A = some ad ∧ ad.block < B ∧ Hid (l[k]? = some x) ∧ w.cell? (ad.add (k * 2)) = some (.int .u8 x.1) ∧ w.cell? ⟨(ad.add (k * 2)).block, (ad.add (k * 2)).off + 1, none⟩ = some (.int .i64 x.2) := by
  have hx : l[k]? = some l[k] := List.getElem?_eq_getElem hk
  obtain ⟨h1, h2⟩ := askC_get hx
  obtain ⟨ad, e, hb, hc⟩ := h (fun e => by rw [e] at h1; simp at h1)
  exact ⟨ad, l[k], e, hb, hx, hc _ _ h1, by rw [← add_pos _ 0, addadd]; exact hc _ _ h2⟩

set_option maxRecDepth 100000 in
set_option maxHeartbeats 2000000 in
theorem octetReads_walk (w : World) (A0 : Option Addr) (n0 c0 : Nat) (l0 : List UInt8) (e0 : l0.length = n0) (_hc0 : n0 ≤ c0) (_hm0 : (c0 : Int) ≤ 9223372036854775807) (r0 : RB w w.heap.size A0 l0) (b0 : n0 ≤ 140737488351232)
    (A1 : Option Addr) (n1 c1 : Nat) (l1 : List (Int × Int)) (e1 : l1.length = n1) (hk1 : ∀ a ∈ l1, 0 ≤ a.1 ∧ a.1 ≤ 255) (r1 : RA w w.heap.size A1 l1) (b1 : n1 ≤ 140737488351232) :
    Calls Try.prog 6 #[.slice A0 n0 c0, .slice A1 n1 c1] w fun e w' => e = .returned (.bool true) ∧ Below w.heap.size w w' := by
  subst e0
  subst e1
  have hl0 : (l0.length : Int) ≤ 140737488355328 := by omega
  go_enter Try.func6, Try.ntmps6
  go_wp2_with fail
  refine (fixed_any _).mono ?_
  rintro e w1 ⟨rfl, hb1⟩
  have R0 : RB w1 w.heap.size A0 l0 := r0.below hb1 (Nat.le_refl _)
  have hz1 := hb1.size
  go_wp2_with (at_builtin; refine wpList_appL _ bV_one rfl (.tmp 14) (.tmp 15) rfl byteTy (by decide) w1.heap.size _ [] rfl ?aa w.heap.size _ _ _ l0 rfl ?ab ?ac ?ad ?ae ?_)
  case aa => exact OwL.lit0 w1 (Nat.le_refl _)
  case ab => rfl
  case ac => exact R0.alloc hz1 _
  case ad => simp; omega
  case ae => simp
  intro v1 w2 own1 _ _ hb2
  have hb2 : Below w.heap.size w w2 := hb1.trans (((bl_alloc (Below.refl w1.heap.size w1) (Nat.le_refl _) (.cells #[] 5)).trans hb2).mono hz1)
  have hz2 := hb2.size
  obtain ⟨Ao, co, rfl, ro, _⟩ := own1.rd
  have own1_lt : ∀ k, (Value.slice Ao l0.length co).ownBlock = some k → w1.heap.size ≤ k ∧ k < w2.heap.size := fun k hk => World.ownsRow.lt own1 k hk
  go_wp2_with fail
  refine (new_fresh _ _ _ _ l0 (by simp) (by omega) ro).mono ?_
  rintro e w3 ⟨g, rfl, hg, hr, hb3, hF⟩
  have hgl := hr.lt
  have R3 : RB w3 w.heap.size A0 l0 := r0.below (hb2.trans (hb3.mono hz2)) (Nat.le_refl _)
  have own3 : OwB w3 w1.heap.size 5 (.slice Ao l0.length co) l0 := own1.below hb3
  have hb3' := hb2.trans (hb3.mono hz2)
  have hz3 := hb3'.size
  have hz23 := hb3.size
  clear R0 own1 ro
  go_wp2_with (at_builtin; refine wpList_appL _ bV_one rfl (.tmp 19) (.tmp 20) rfl byteTy (by decide) w3.heap.size _ [] rfl ?ba w.heap.size _ _ _ l0 rfl ?bb ?bc ?bd ?be ?_)
  case ba => exact OwL.lit0 w3 (Nat.le_refl _)
  case bb => rfl
  case bc => exact R3.alloc hz3 _
  case bd => simp; omega
  case be => simp
  intro v2 w4 own4 _ _ hb4
  have hb4 : Below w3.heap.size w3 w4 := (bl_alloc (Below.refl w3.heap.size w3) (Nat.le_refl _) (.cells #[] 5)).trans hb4
  have HO4 := Lib.hid own4
  obtain ⟨Ax, cx, rfl, rx, hcx⟩ := own4.rd
  have hz4 := hb4.size
  clear own4
  go_wp2
  obtain ⟨w5, hw5⟩ : ∃ w5, w5 = w4.alloc (Obj.cells #[Value.slice Ax l0.length cx, Value.int IntKind.i64 0, Value.bool false] 38) := ⟨_, rfl⟩
  obtain ⟨gx, hgx⟩ : ∃ gx, gx = w4.heap.size := ⟨_, rfl⟩
  have hgw : w3.heap.size ≤ gx := by omega
  have hB5 : Bk w5 gx 38 #[.slice Ax l0.length cx, .int .i64 0, .bool false] := by rw [hw5, hgx]; exact Bk.new _ _ _
  have hs5 : w5.heap.size = gx + 1 := by rw [hw5, hgx]; simp
  have hA5 : OwB w5 w3.heap.size 5 (.slice Ax l0.length cx) l0 := by rw [hw5]; exact OwL.alloc HO4.out _
  have hb5 : Below w3.heap.size w3 w5 := by rw [hw5]; exact bl_alloc hb4 (Nat.le_refl _) _
  have HF : Hid (∀ w'' : World, (∀ k, w3.heap.size ≤ k → k < w5.heap.size → w''.heap[k]? = w5.heap[k]?) → Rdx w'' gx l0 0 false) := by
    intro w'' ha
    have ho := OwL.agree hA5 ha
    exact ⟨Ax, cx, (ha gx hgw (by omega)).trans hB5, by rw [hgx]; exact RL.low rx ho.rl, hcx.1, hcx.2, by omega, by omega⟩
  have own5 : OwB w5 w1.heap.size 5 (.slice Ao l0.length co) l0 := own3.below hb5
  have HR : Hid (∀ w'' : World, (∀ k, w2.heap.size ≤ k → k < w3.heap.size → w''.heap[k]? = w3.heap[k]?) → Rdr w'' g l0 0 false) := hF
  have hbw5 : Below w.heap.size w w5 := hb3'.trans (hb5.mono hz3)
  have hs35 : w3.heap.size ≤ w5.heap.size := hb5.size
  have hown2 := own1_lt
  rw [← hw5, ← hgx]
  clear hgx hF HO4 hB5 hA5 hcx rx hw5 own3 hr R3 hb3 hb3' hb4 hb2
  go_loopw [8, 28] (fun _ i wr => ∃ (k : Nat) (lo : List UInt8), k ≤ l0.length ∧ lo.length = l0.length ∧ i = .int .i64 (k : Int) ∧ OwB wr w1.heap.size 5 (.slice Ao l0.length co) lo ∧ w5.grownBy wr (Value.slice Ao l0.length co).ownBlock) (fun _ i _ => l0.length - (intOf i).toNat)
  case atStart => exact ⟨0, l0, by omega, rfl, rfl, own5, World.grownBy.refl _ _⟩
  case round =>
    obtain ⟨k, lo, hk, hlo, rfl, hown, hgr⟩ := hrel
    have HL := Lib.hid hlo
    clear hlo
    by_cases hk0 : k < l0.length
    · obtain ⟨go, c', hv, hgo1, hgo2⟩ := hown.at1 (by rw [HL.out]; omega)
      injection hv with hv1 hv2 hv3
      subst hv1
      clear hv2 hv3
      obtain ⟨x, hx⟩ : ∃ x, lo[k]? = some x := ⟨_, List.getElem?_eq_getElem (by rw [HL.out]; omega)⟩
      have hc1 : wr.cell? ⟨go, k, none⟩ = some (.int .u8 (x.toNat : Int)) := hown.cell hx
      have hf1 := hown.frz k
      have S := Lib.hid (hown.set k (x + 1))
      clear hx
      go_wp2
      go_roundw
      case rel =>
        refine ⟨k + 1, lo.set k (x + 1), by omega, by rw [List.length_set, HL.out], by go_num, ?_, gb_set hgr _ _⟩
        have e1 : bV (x + 1) = .int .u8 (((x.toNat : Int) + 1) % 256) := by
          unfold bV; rw [UInt8.toNat_add]; rfl
        have T := S.out
        rw [e1] at T
        exact T
      case measure => simp [intOf]; omega
    · obtain rfl : k = l0.length := by omega
      have hRr : Rdr wr g l0 0 false := HR.out wr fun q h1 h2 => by
        have e1 := hgr.block q (by omega) (fun e => by have := own1_lt q e.symm; omega)
        have e2 := hb5.block q h2
        rw [e1, e2]
      have hRx : Rdx wr gx l0 0 false := HF.out wr fun q h1 h2 => hgr.block q h2 (fun e => by have := own1_lt q e.symm; omega)
      have hbr : Below w.heap.size w wr := hbw5.trans ⟨hgr.os, hgr.tape, hgr.output, hgr.size, fun q hq => hgr.block q (by have := hbw5.size; omega) (fun e => by have := own1_lt q e.symm; omega)⟩
      have hgg : g < gx := by omega
      have hwg : w.heap.size ≤ g := by omega
      clear hgr hown HR HF own5 hbw5 own1_lt hk hk0
      go_wp2
      go_loopw [40] (fun i wq => ∃ (k at_ : Nat) (bad : Bool), k ≤ l1.length ∧ i = .int .i64 (k : Int) ∧ Rdr wq g l0 at_ bad ∧ Rdx wq gx l0 at_ bad ∧ Below w.heap.size w wq) (fun i _ => l1.length - (intOf i).toNat)
      case atStart => exact ⟨0, 0, false, by omega, rfl, hRr, hRx, hbr⟩
      case round =>
        obtain ⟨k, at_, bad, hk, rfl, hr, hx, hb⟩ := hrel
        by_cases hk0 : k < l1.length
        · obtain ⟨ad, x, rfl, hab, hxx, hc1, hc2⟩ := RA.at_ (Rd.below r1 hb (Nat.le_refl _)) hk0
          have hkk := hk1 x (by have := hxx.out; exact List.mem_of_getElem? this)
          obtain ⟨y, z⟩ := x
          simp only at hc1 hc2 hkk
          obtain ⟨hy1, hy2⟩ := hkk
          have hsx := hx.lt
          have hb6 := bl_alloc hb (Nat.le_refl _) (Obj.cells #[.int .u8 y, .int .i64 z] 40)
          have hr6 := hr.grown (World.grownBy_alloc wr (Obj.cells #[.int .u8 y, .int .i64 z] 40) none) (by simp)
          have hx6 := hx.grown (World.grownBy_alloc wr (Obj.cells #[.int .u8 y, .int .i64 z] 40) none) (by simp)
          have hB6 : Bk (wr.alloc (Obj.cells #[.int .u8 y, .int .i64 z] 40)) wr.heap.size 40 #[.int .u8 y, .int .i64 z] := Bk.new _ _ _
          have H6 := Lib.hid (And.intro hb6 (And.intro hr6 (And.intro hx6 hB6)))
          have hsg : g < wr.heap.size := by omega
          have hlast : Hid (∀ W : World, True) := fun _ => trivial
          clear hb hr hx hb6 hr6 hx6 hB6 hlast
          by_cases h3 : y % 3 = 0
          · have m0 : (y % 3 == 0) = true := by simp [h3]
            go_wp2_with fail
            refine (at_any _ _ _ _ _ H6.out.2.1).mono ?_
            rintro e w6 ⟨rfl, rfl⟩
            go_wp2_with fail
            obtain ⟨gv, hgv⟩ : ∃ gv, gv = wr.heap.size := ⟨_, rfl⟩
            rw [← hgv] at H6 ⊢
            generalize wr.alloc (Obj.cells #[.int .u8 y, .int .i64 z] 40) = w6 at H6 ⊢
            obtain ⟨hb6, hr6, hx6, hB6⟩ := H6.out
            have cz := hB6.cell 1
            simp only [List.getElem?_toArray, List.getElem?_cons_zero, List.getElem?_cons_succ] at cz
            have hgv1 : g < gv := by omega
            have hgv2 : gx < gv := by omega
            have hgv3 : gv < w6.heap.size := hB6.lt
            have hsg6 : g < w6.heap.size := hr6.lt
            clear hgv hb6 hB6
            go_region_held3 (fun w' => w'.cell? ⟨gv, 1, none⟩ = some (.int .i64 z))
              (first
                | go_keep
                | (rw [hg8.cell_far _ (by simpa using Nat.lt_of_lt_of_le hgv3 hg7.size) (by simp; omega)]; assumption)
                | (rw [hg7.cell_far _ (by simpa using hgv3) (by simp; omega)]; assumption))
              ((first
                | (go_at_call 20; refine (num_any g l0 at_ bad z _ hr6.drew).mono ?_; rintro e w7 ⟨rfl, hr7, hg7⟩)
                | (go_at_call 21; refine (refNum_any gx l0 at_ bad z w7 (hx6.drew.far hr6.drew hg7 (by omega))).mono ?_; rintro e w8 ⟨rfl, hx8, hg8⟩)))
            have hx7 := hx6.drew.far hr6.drew hg7 (show g ≠ gx by omega)
            have hr8 := hr7.far hx7 hg8 (show gx ≠ g by omega)
            have hge := numAt_ge l0 at_ bad z
            have hb8 := H6.out.1.drew.trans ((gb_low hg7 hwg (by simpa using hsg6)).trans (gb_low hg8 (by omega) (hx7.lt)))
            generalize numAt l0 at_ bad z = a' at hr8 hx8 hge
            generalize (!okN l0 at_ bad z) = b' at hr8 hx8
            clear hr7 hg7 hg8 hx7 hr6 hx6 H6
            obtain ⟨Aq, cq, hBq, hrq, _, _, _, haq⟩ := id hx8
            have p1 := hBq.cell 1
            have p2 := hBq.cell 2
            simp only [List.getElem?_toArray, List.getElem?_cons_zero, List.getElem?_cons_succ] at p1 p2
            have hd : decide ((a' : Int) < (at_ : Int)) = false := by simp; omega
            have hw : IntKind.i64.wrap ((l0.length : Int) - (a' : Int)) = (l0.length : Int) - (a' : Int) := IntWalk.i64_in _ (by omega)
            clear hBq hrq
            go_wp2_with fail
            go_quiet ((first
              | (go_at_call 19; exact quiet_eq (at_any _ _ _ _ _ (hr8.drewN _)))
              | (go_at_call 26; exact Calls.quiet_of (left_any _ _ _ _ _ (hr8.drewN _)))
              | (go_at_call 27; exact quiet_eq (bad_any _ _ _ _ _ (hr8.drewN _)))))
            go_wp2
            go_roundw
            case rel => exact ⟨k + 1, a', b', by omega, by go_num, hr8.drewN _, hx8.drewN _, below_drewN hb8 _⟩
            case measure => simp [intOf]; omega
          · have m0 : (y % 3 == 0) = false := by simp [h3]
            by_cases h4 : y % 3 = 1
            · have m1 : (y % 3 == 1) = true := by simp [h4]
              go_wp2_with fail
              refine (at_any _ _ _ _ _ H6.out.2.1).mono ?_
              rintro e w6 ⟨rfl, rfl⟩
              go_wp2_with fail
              obtain ⟨gv, hgv⟩ : ∃ gv, gv = wr.heap.size := ⟨_, rfl⟩
              rw [← hgv] at H6 ⊢
              generalize wr.alloc (Obj.cells #[.int .u8 y, .int .i64 z] 40) = w6 at H6 ⊢
              obtain ⟨hb6, hr6, hx6, hB6⟩ := H6.out
              have cz := hB6.cell 1
              simp only [List.getElem?_toArray, List.getElem?_cons_zero, List.getElem?_cons_succ] at cz
              have hgv1 : g < gv := by omega
              have hgv2 : gx < gv := by omega
              have hgv3 : gv < w6.heap.size := hB6.lt
              have hsg6 : g < w6.heap.size := hr6.lt
              have hgx6 : gx < w6.heap.size := hx6.lt
              clear hgv hb6 hB6
              go_region_held3 (fun w' => w'.cell? ⟨gv, 1, none⟩ = some (.int .i64 z))
                (first
                  | go_keep
                  | (rw [hg8.cell_far _ (by simpa using Nat.lt_of_lt_of_le hgv3 hg7.size) (by simp; omega)]; assumption)
                  | (rw [hg7.cell_far _ (by simpa using hgv3) (by simp; omega)]; assumption))
                ((first
                  | (go_at_call 22; refine (signed_any g l0 at_ bad z _ hr6.drew).mono ?_; rintro e w7 ⟨rfl, hr7, hg7⟩)
                  | (go_at_call 23; refine (refSigned_any gx l0 at_ bad z w7 (hx6.drew.far hr6.drew hg7 (by omega))).mono ?_; rintro e w8 ⟨rfl, hx8, hg8⟩)))
              have hx7 := hx6.drew.far hr6.drew hg7 (show g ≠ gx by omega)
              have hr8 := hr7.far hx7 hg8 (show gx ≠ g by omega)
              have hge := numAt_ge l0 at_ bad z
              have hb8 := H6.out.1.drew.trans ((gb_low hg7 hwg (by simpa using hsg6)).trans (gb_low hg8 (by omega) (hx7.lt)))
              generalize numAt l0 at_ bad z = a' at hr8 hx8 hge
              generalize (!okN l0 at_ bad z) = b' at hr8 hx8
              clear hr7 hg7 hg8 hx7 hr6 hx6 H6
              obtain ⟨Aq, cq, hBq, hrq, _, _, _, haq⟩ := id hx8
              have p1 := hBq.cell 1
              have p2 := hBq.cell 2
              simp only [List.getElem?_toArray, List.getElem?_cons_zero, List.getElem?_cons_succ] at p1 p2
              have hd : decide ((a' : Int) < (at_ : Int)) = false := by simp; omega
              have hw : IntKind.i64.wrap ((l0.length : Int) - (a' : Int)) = (l0.length : Int) - (a' : Int) := IntWalk.i64_in _ (by omega)
              clear hBq hrq
              go_wp2_with fail
              go_quiet ((first
                | (go_at_call 19; exact quiet_eq (at_any _ _ _ _ _ (hr8.drewN _)))
                | (go_at_call 26; exact Calls.quiet_of (left_any _ _ _ _ _ (hr8.drewN _)))
                | (go_at_call 27; exact quiet_eq (bad_any _ _ _ _ _ (hr8.drewN _)))))
              go_wp2
              go_roundw
              case rel => exact ⟨k + 1, a', b', by omega, by go_num, hr8.drewN _, hx8.drewN _, below_drewN hb8 _⟩
              case measure => simp [intOf]; omega

            · have m1 : (y % 3 == 1) = false := by simp [h4]
              have m2 : (y % 3 == 2) = true := by simp; omega
              go_wp2_with fail
              refine (at_any _ _ _ _ _ H6.out.2.1).mono ?_
              rintro e w6 ⟨rfl, rfl⟩
              go_wp2_with fail
              obtain ⟨gv, hgv⟩ : ∃ gv, gv = wr.heap.size := ⟨_, rfl⟩
              rw [← hgv] at H6 ⊢
              generalize wr.alloc (Obj.cells #[.int .u8 y, .int .i64 z] 40) = w6 at H6 ⊢
              obtain ⟨hb6, hr6, hx6, hB6⟩ := H6.out
              have cz := hB6.cell 1
              simp only [List.getElem?_toArray, List.getElem?_cons_zero, List.getElem?_cons_succ] at cz
              have hgv1 : g < gv := by omega
              have hgv2 : gx < gv := by omega
              have hgv3 : gv < w6.heap.size := hB6.lt
              have hsg6 : g < w6.heap.size := hr6.lt
              have hgx6 : gx < w6.heap.size := hx6.lt
              clear hgv hb6 hB6
              go_region_held3 (fun w' => w'.cell? ⟨gv, 1, none⟩ = some (.int .i64 z))
                (first
                  | go_keep
                  | (rw [hb9.cell (by simpa using Nat.lt_of_lt_of_le (Nat.lt_of_lt_of_le hgv3 hg7.size) hg8.size)]; assumption)
                  | (rw [hg8.cell_far _ (by simpa using Nat.lt_of_lt_of_le hgv3 hg7.size) (by simp; omega)]; assumption)
                  | (rw [hg7.cell_far _ (by simpa using hgv3) (by simp; omega)]; assumption))
                ((first
                  | (go_at_call 24; refine (bytes_any g l0 at_ bad z _ hr6.drew).mono ?_; rintro e w7 ⟨v7, rfl, ho7, hr7, hg7⟩; obtain ⟨A7, c7, rfl, hq7, _⟩ := ho7.rd)
                  | (go_at_call 25; refine (refBytes_any gx l0 at_ bad z w7 (hx6.drew.far hr6.drew hg7 (by omega))).mono ?_; rintro e w8 ⟨v8, rfl, ho8, hx8, hg8⟩; obtain ⟨A8, c8, rfl, hq8, _⟩ := ho8.rd)
                  | (go_at_call 15; refine (same_any _ _ _ _ _ _ w8 _ _ rfl rfl (bytV_len hl0 _ _ _) (bytV_len hl0 _ _ _) (ho7.off hg8 hgx6).rl hq8).mono ?_; rintro e w9 ⟨rfl, hb9⟩)))
              have hx7 := hx6.drew.far hr6.drew hg7 (show g ≠ gx by omega)
              have hr8 := hr7.far hx7 hg8 (show gx ≠ g by omega)
              have hge := bytAt_ge l0 at_ bad z
              have hb8 := H6.out.1.drew.trans ((gb_low hg7 hwg (by simpa using hsg6)).trans (gb_low hg8 (by omega) (hx7.lt)))
              have hr8 := hr8.grown (gb_below hb9 none) (by simp)
              have hx8 := hx8.grown (gb_below hb9 none) (by simp)
              have hb8 := hb8.trans (hb9.mono (by have := H6.out.1.size; have := hg7.size; have := hg8.size; simp at *; omega))
              generalize bytAt l0 at_ bad z = a' at hr8 hx8 hge
              generalize (!okB l0 at_ bad z) = b' at hr8 hx8
              clear hr7 hg7 hg8 hx7 hr6 hx6 H6
              obtain ⟨Aq, cq, hBq, hrq, _, _, _, haq⟩ := id hx8
              have p1 := hBq.cell 1
              have p2 := hBq.cell 2
              simp only [List.getElem?_toArray, List.getElem?_cons_zero, List.getElem?_cons_succ] at p1 p2
              have hd : decide ((a' : Int) < (at_ : Int)) = false := by simp; omega
              have hw : IntKind.i64.wrap ((l0.length : Int) - (a' : Int)) = (l0.length : Int) - (a' : Int) := IntWalk.i64_in _ (by omega)
              clear hBq hrq
              go_wp2_with fail
              go_quiet ((first
                | (go_at_call 19; exact quiet_eq (at_any _ _ _ _ _ (hr8.drewN _)))
                | (go_at_call 26; exact Calls.quiet_of (left_any _ _ _ _ _ (hr8.drewN _)))
                | (go_at_call 27; exact quiet_eq (bad_any _ _ _ _ _ (hr8.drewN _)))))
              go_wp2
              go_roundw
              case rel => exact ⟨k + 1, a', b', by omega, by go_num, hr8.drewN _, hx8.drewN _, below_drewN hb8 _⟩
              case measure => simp [intOf]; omega

        · obtain rfl : k = l1.length := by omega
          go_wp2
          go_ret
          exact ⟨rfl, hb⟩
end Go.Proofs.Ytfbmocpkfaiddaa
