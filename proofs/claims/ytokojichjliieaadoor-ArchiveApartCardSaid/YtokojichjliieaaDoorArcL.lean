/- Contract: samovarref09.central. -/
import Derived.Test.YtokojichjliieaaDoorArcK
import Derived.Test.YtokojichjliieaaDoorArcD
import Derived.Test.YtokojichjliieaaDoorTri
import Derived.Test.YtokojichjliieaaDoorArcE
import Derived.Deep.DeepCutAuto
namespace Go.Proofs.YtokojichjliieaaDoor
open Go.RowKit
theorem sapt_kept {α : Type} {fC : α → List Value} {sz : Nat} {w w' : World} {base : Nat} {e : TypeId} {v v1 : Value} {l : List α} (ho : OwS fC sz w base e v l) (ha : Apt v1 v) (g : w.grownBy w' v1.ownBlock) : OwS fC sz w' base e v l := by
  refine World.ownsRow.kept ho g ?_
  rcases ha with h | h | h
  · rw [h]
    cases hv : v.ownBlock with
    | none => exact .inl rfl
    | some b => exact .inr (by simp)
  · exact .inl h
  · exact .inr fun e => h e.symm
theorem sapt_new {α : Type} {fC : α → List Value} {sz : Nat} {w : World} {base : Nat} {e : TypeId} {v v1 v' : Value} {l : List α} (ho : OwS fC sz w base e v l) (ha : Apt v1 v) (k : v'.ownBlock = v1.ownBlock ∨ v'.ownBlock = some w.heap.size) : Apt v' v := by
  rcases k with k | k
  · unfold Apt; rw [k]; exact ha
  · unfold Apt
    rw [k]
    cases hv : v.ownBlock with
    | none => exact .inr (.inl rfl)
    | some b =>
      have := (World.ownsRow.lt ho b hv).2
      exact .inr (.inr (by intro e; injection e with e; omega))
def rec0 (x : Rec × Nat) : Rec × Nat := (x.1, 0)
def plcI (x : Rec × Nat) : Int := (x.2 : Int)
theorem intTyA : ETy Tryd.prog 65 3 (.int .i64 0) 1 8 := ⟨Tryd.underlying65, info_parts (by kernel_rfl), rfl, by decide⟩
theorem rnum_r (A : Option Addr) (n c p : Nat) (ki ni : Int) (k j : Nat) (b : List UInt8) (w wk : World) (hn : b.length = n) (hnc : n ≤ c) (hc : (c : Int) ≤ 9223372036854775807) (hr : RB w w.heap.size A b) (hB : Below w.heap.size w wk)
    (hk : ki = (k : Int)) (hj : ni = (j : Int)) (h1 : 1 ≤ j) (h2 : j ≤ 4) (hp : p + k + j ≤ n) {N : Nat} (hN : numA b (p + k) j = N) :
    Calls Tryd.prog 35 #[.slice A n c, .int .i64 ((p : Int) + ki), .int .i64 ni] wk fun e w' => e = .returned (.int .i64 (N : Int)) ∧ Below w.heap.size w w' := by
  subst hk hj hN
  have := rnum_ok A n c (p + k) j b wk hn hnc hc h1 h2 hp ((hr.below hB (Nat.le_refl _)).more hB.size)
  rw [show ((p + k : Nat) : Int) = (p : Int) + (k : Int) by omega] at this
  exact this.mono fun e w' ⟨he, hb⟩ => ⟨he, hB.trans (hb.mono hB.size)⟩
theorem rsign_r (A : Option Addr) (n c p : Nat) (b : List UInt8) (x y : UInt8) (xi yi : Int) (w wk : World) (hx : xi = (x.toNat : Int)) (hy : yi = (y.toNat : Int)) (hn : b.length = n) (hz : n ≤ 1000000000) (hp : p + 4 ≤ n) (hr : RB w w.heap.size A b) (hB : Below w.heap.size w wk) :
    Calls Tryd.prog 40 #[.slice A n c, .int .i64 (p : Int), .int .u8 xi, .int .u8 yi] wk fun e w' => e = .returned (.bool (signA b p x y)) ∧ w' = wk :=
  rsign_ok A n c p b x y xi yi wk hx hy hn hz hp ((hr.below hB (Nat.le_refl _)).more hB.size)
/-- The records and their places, the directory's end checked. -/
def cenR (b : List UInt8) (fr td m : Nat) : Rz (List (Rec × Nat)) := (centA b td m fr []).bind fun x => if x.2 ≠ td then .err 11 else .ok x.1
def CenPost (R : Rz (List (Rec × Nat))) (w : World) (e : Ending) (w' : World) : Prop := Below w.heap.size w w' ∧ match R with
  | .err k => e = .returned (.tuple #[.slice none 0 0, .slice none 0 0, .int .i64 k])
  | .ok l => ∃ v pv, e = .returned (.tuple #[v, pv, .int .i64 0]) ∧ OwS recL 7 w' w.heap.size 33 v (l.map rec0) ∧ OwI w' w.heap.size 3 pv (l.map plcI) ∧ Apt v pv
theorem CenPost.bad {R : Rz (List (Rec × Nat))} {w w' : World} {k : Int} (h : R = .err k) (hb : Below w.heap.size w w') : CenPost R w (.returned (.tuple #[.slice none 0 0, .slice none 0 0, .int .i64 k])) w' := by
  subst h; exact ⟨hb, rfl⟩
theorem CenPost.good {R : Rz (List (Rec × Nat))} {w w' : World} {l : List (Rec × Nat)} {v pv : Value} (h : R = .ok l) (hb : Below w.heap.size w w') (h1 : OwS recL 7 w' w.heap.size 33 v (l.map rec0)) (h2 : OwI w' w.heap.size 3 pv (l.map plcI)) (h3 : Apt v pv) :
    CenPost R w (.returned (.tuple #[v, pv, .int .i64 0])) w' := by
  subst h; exact ⟨hb, v, pv, rfl, h1, h2, h3⟩
theorem cenR_err {b : List UInt8} {fr td m j a : Nat} {acc : List (Rec × Nat)} {k : Int} (h : centA b td m fr [] = centA b td (j + 1) a acc) (hx : recA b a td (acc.map (·.1.name)) = .err k) : cenR b fr td m = .err k := by
  unfold cenR; rw [h, cent1_err hx]; rfl
def flK (v : Nat) : Nat → Nat
  | 0 => v
  | 1 => v - 2 * (v / 2 % 2)
  | 2 => v - 2 * (v / 2 % 2) - 4 * (v / 4 % 2)
  | _ => flagsA v
set_option maxRecDepth 100000 in
set_option maxHeartbeats 16000000 in
theorem rcent_any (A : Option Addr) (n c fr td m : Nat) (b : List UInt8) (w : World) (hn : b.length = n) (hz : n ≤ 70000) (hnc : n ≤ c) (hc : (c : Int) ≤ 9223372036854775807) (hr : RB w w.heap.size A b) (hto : td + 22 ≤ n) (hfr : fr ≤ 9000000000) (hm : m ≤ 64) :
    Calls Tryd.prog 36 #[.slice A n c, .int .i64 (fr : Int), .int .i64 (td : Int), .int .i64 (m : Int)] w (CenPost (cenR b fr td m) w) := by
  obtain ⟨R, hR⟩ : ∃ R, cenR b fr td m = R := ⟨_, rfl⟩
  rw [hR]
  have HR := bx hR.symm
  have HN := bx hn
  have HRB := bx hr
  have HB0 := bx (Below.refl w.heap.size w)
  clear hR hn hr
  go_enter Tryd.func36, Tryd.ntmps36
  go_wp2
  go_loopw [11, 12, 13, 14] (fun lv pv av iv wx => ∃ (i a : Nat) (acc : List (Rec × Nat)), i ≤ m ∧ iv = .int .i64 (i : Int) ∧ av = .int .i64 (a : Int) ∧ a ≤ 9000000000 ∧ Bx (centA b td m fr [] = centA b td (m - i) a acc) ∧ Bx (acc.length = i) ∧ Bx (Below w.heap.size w wx) ∧ Bx (OwS recL 7 wx w.heap.size 33 lv (acc.map rec0)) ∧ Bx (OwI wx w.heap.size 3 pv (acc.map plcI)) ∧ Bx (Apt lv pv)) (fun _ _ _ i _ => m - (intOf i).toNat)
  case atStart => exact ⟨0, fr, [], by omega, rfl, rfl, hfr, bx rfl, bx rfl, HB0, bx OwS.nil, bx OwL.nil, bx (.inl rfl)⟩
  case round =>
    obtain ⟨i, a, acc, hi, rfl, rfl, ha, HC, HL, HW, HO, HP, HA⟩ := hrel
    have hsz := HW.out.size
    by_cases him : i < m
    · have himI : (i : Int) < (m : Int) := by omega
      have hmi : m - i = (m - (i + 1)) + 1 := by omega
      have hC := HC.out
      rw [hmi] at hC
      obtain ⟨X, hX⟩ : ∃ X, recA b a td (acc.map (·.1.name)) = X := ⟨_, rfl⟩
      have HRE : Bx (∀ k, X = .err k → R = .err k) := bx (fun k hk => by rw [HR.out]; exact cenR_err hC (hX.trans hk))
      have HRO : Bx (∀ r q, X = .ok (r, q) → centA b td m fr [] = centA b td (m - (i + 1)) q (acc ++ [(r, a)]) ∧ q ≤ 70000) := bx (fun r q hk => ⟨hC.trans (cent1_ok (hX.trans hk)), by have := (recA_ok (hX.trans hk)).2.1; omega⟩)
      unfold recA at hX
      clear hC hmi HC
      have hwr2 : IntKind.i64.wrap ((td : Int) - (a : Int)) = (td : Int) - (a : Int) := IntWalk.i64_in _ (by omega)
      by_cases c1 : td < a + 46
      · rw [if_pos (.inl c1)] at hX
        have HRk := bx (HRE.out 11 hX.symm)
        have c1I : (td : Int) - (a : Int) < 46 := by omega
        clear hX c1
        go_wp2
        go_ret3
        exact CenPost.bad HRk.out HW.out
      have c1I : ¬ (td : Int) - (a : Int) < 46 := by omega
      have hin : a + 46 ≤ td := by omega
      have hsgn := rsign_r A n c a b 1 2 1 2 w wr rfl rfl HN.out (by omega) (by omega) HRB.out HW.out
      obtain ⟨sg, hsg⟩ : ∃ sg, signA b a 1 2 = sg := ⟨_, rfl⟩
      rw [hsg] at hsgn hX
      have HSG := bx hsgn
      clear hsgn hsg
      cases sg with
      | false =>
        rw [if_pos (.inr rfl)] at hX
        have HRk := bx (HRE.out 11 hX.symm)
        clear hX c1
        go_wp2_with fail
        refine HSG.out.mono ?_
        rintro e1 wr ⟨rfl, rfl⟩
        go_wp2
        go_ret3
        exact CenPost.bad HRk.out HW.out
      | true =>
      rw [if_neg (by rintro (h | h); exact c1 h; cases h)] at hX
      obtain ⟨sz, hsz1⟩ : ∃ sz, numA b (a + 28) 2 = sz := ⟨_, rfl⟩
      obtain ⟨ex, hex⟩ : ∃ sz, numA b (a + 30) 2 = sz := ⟨_, rfl⟩
      obtain ⟨cm, hcm⟩ : ∃ sz, numA b (a + 32) 2 = sz := ⟨_, rfl⟩
      obtain ⟨dk, hdk⟩ : ∃ sz, numA b (a + 34) 2 = sz := ⟨_, rfl⟩
      have l1 : sz < 65536 := by rw [← hsz1]; exact numA_2 _ _
      have l2 : ex < 65536 := by rw [← hex]; exact numA_2 _ _
      have l3 : cm < 65536 := by rw [← hcm]; exact numA_2 _ _
      rw [hsz1, hex, hcm, hdk] at hX
      have hrr : RB wr wr.heap.size A b := (HRB.out.below HW.out (Nat.le_refl _)).more hsz
      have HRR := bx hrr
      have HSZ := bx hsz1
      have HEX := bx hex
      have HCM := bx hcm
      have HDK := bx hdk
      have HX := bx hX
      clear hX hrr hsz1 hex hcm hdk c1
      go_wp2_with fail
      refine HSG.out.mono ?_
      rintro e1 wr ⟨rfl, rfl⟩
      go_wp2_with fail
      refine (rnum_r A n c a 28 2 28 2 b wr wr HN.out hnc hc HRR.out (Below.refl _ _) rfl rfl (by omega) (by omega) (by omega) HSZ.out).mono ?_
      rintro e2 w2 ⟨rfl, hb2⟩
      have HB2 := bx hb2
      clear hb2
      go_wp2_with fail
      refine (rnum_r A n c a 30 2 30 2 b wr w2 HN.out hnc hc HRR.out HB2.out rfl rfl (by omega) (by omega) (by omega) HEX.out).mono ?_
      rintro e3 w3 ⟨rfl, hb3⟩
      have HB3 := bx hb3
      clear hb3 HB2
      go_wp2_with fail
      refine (rnum_r A n c a 32 2 32 2 b wr w3 HN.out hnc hc HRR.out HB3.out rfl rfl (by omega) (by omega) (by omega) HCM.out).mono ?_
      rintro e4 w4 ⟨rfl, hb4⟩
      have HB4 := bx hb4
      have HW4 := bx (HW.out.trans (hb4.mono hsz))
      clear hb4 HB3 HSG
      by_cases c2 : td < a + 46 + sz + ex + cm
      · have HRk := bx (HRE.out 11 (by rw [← HX.out, if_pos (.inl c2)]))
        have c2I : (td : Int) - (a : Int) < 46 + (sz : Int) + (ex : Int) + (cm : Int) := by omega
        clear c2
        go_wp2
        go_ret3
        exact CenPost.bad HRk.out HW4.out
      have c2I : ¬ (td : Int) - (a : Int) < 46 + (sz : Int) + (ex : Int) + (cm : Int) := by omega
      by_cases c3 : dk = 0
      case neg =>
        have HRk := bx (HRE.out 11 (by rw [← HX.out, if_pos (.inr c3)]))
        have hdI : ((dk : Int) != 0) = true := by rw [bne_iff_ne]; omega
        clear c2 c3
        go_wp2_with fail
        refine (rnum_r A n c a 34 2 34 2 b wr w4 HN.out hnc hc HRR.out HB4.out rfl rfl (by omega) (by omega) (by omega) HDK.out).mono ?_
        rintro e5 w5 ⟨rfl, hb5⟩
        have HW5 := bx (HW.out.trans (hb5.mono hsz))
        clear hb5
        go_wp2
        go_ret3
        exact CenPost.bad HRk.out HW5.out
      have hdI : ((dk : Int) != 0) = false := by rw [bne_eq_false_iff_eq]; omega
      have hX := HX.out
      rw [if_neg (by rintro (h | h); exact c2 h; exact h c3)] at hX
      obtain ⟨nm, hnm⟩ : ∃ nm, (b.drop (a + 46)).take sz = nm := ⟨_, rfl⟩
      obtain ⟨me, hme⟩ : ∃ sz, numA b (a + 10) 2 = sz := ⟨_, rfl⟩
      obtain ⟨pk, hpk⟩ : ∃ sz, numA b (a + 20) 4 = sz := ⟨_, rfl⟩
      obtain ⟨si, hsi⟩ : ∃ sz, numA b (a + 24) 4 = sz := ⟨_, rfl⟩
      obtain ⟨su, hsu⟩ : ∃ sz, numA b (a + 16) 4 = sz := ⟨_, rfl⟩
      obtain ⟨hd, hhd⟩ : ∃ sz, numA b (a + 42) 4 = sz := ⟨_, rfl⟩
      obtain ⟨ve, hve⟩ : ∃ sz, numA b (a + 6) 2 = sz := ⟨_, rfl⟩
      obtain ⟨fl, hfl⟩ : ∃ sz, numA b (a + 8) 2 = sz := ⟨_, rfl⟩
      have m1 : me < 65536 := by rw [← hme]; exact numA_2 _ _
      have m2 : fl < 65536 := by rw [← hfl]; exact numA_2 _ _
      rw [hnm, hme, hpk, hsi, hsu, hhd, hve, hfl] at hX
      have hnl : nm.length = sz := by rw [← hnm]; simp; have := HN.out; omega
      have HNM := bx hnm
      have HNL := bx hnl
      have HME := bx hme
      have HPK := bx hpk
      have HSI := bx hsi
      have HSU := bx hsu
      have HHD := bx hhd
      have HVE := bx hve
      have HFL := bx hfl
      have HX0 := bx hX
      clear hnm hme hpk hsi hsu hhd hX hnl hve hfl HX c2 c3
      go_wp2_with fail
      refine (rnum_r A n c a 34 2 34 2 b wr w4 HN.out hnc hc HRR.out HB4.out rfl rfl (by omega) (by omega) (by omega) HDK.out).mono ?_
      rintro e5 w5 ⟨rfl, hb5⟩
      have HB5 := bx hb5
      clear hb5 HB4 HW4
      go_wp2_with fail
      refine (rnum_r A n c a 10 2 10 2 b wr w5 HN.out hnc hc HRR.out HB5.out rfl rfl (by omega) (by omega) (by omega) HME.out).mono ?_
      rintro e6 w6 ⟨rfl, hb6⟩
      have HB6 := bx hb6
      clear hb6 HB5
      go_wp2_with fail
      refine (rnum_r A n c a 8 2 8 2 b wr w6 HN.out hnc hc HRR.out HB6.out rfl rfl (by omega) (by omega) (by omega) HFL.out).mono ?_
      rintro e7 w7 ⟨rfl, hb7⟩
      have HB7 := bx hb7
      clear hb7 HB6
      go_wp2_with fail
      obtain ⟨w8, hw8⟩ : ∃ w8, w7.alloc (.cells #[.int .i64 2, .int .i64 4, .int .i64 2048] 3) = w8 := ⟨_, rfl⟩
      have hz7 : w7.heap.size = w7.heap.size := rfl
      obtain ⟨g7, hg7⟩ : ∃ g7, w7.heap.size = g7 := ⟨_, rfl⟩
      have hk7 : Bk w8 g7 3 #[.int .i64 2, .int .i64 4, .int .i64 2048] := by rw [← hw8]; exact Bk.newAt _ _ _ hg7
      have k0 : w8.cell? ⟨g7, 0, none⟩ = some (.int .i64 2) := (hk7.cell 0).trans rfl
      have k1 : w8.cell? ⟨g7, 1, none⟩ = some (.int .i64 4) := (hk7.cell 1).trans rfl
      have k2 : w8.cell? ⟨g7, 2, none⟩ = some (.int .i64 2048) := (hk7.cell 2).trans rfl
      have HB8 : Bx (Below wr.heap.size wr w8) := by rw [← hw8]; exact bx (bl_alloc HB7.out (Nat.le_refl _) _)
      rw [hg7, hw8]
      clear hw8 hg7 hk7 hz7 HB7
      go_loop [18, 77] (fun ov kv => ∃ k : Nat, k ≤ 3 ∧ kv = .int .i64 (k : Int) ∧ ov = .int .i64 (flK fl k : Int)) (fun _ kv => 3 - (intOf kv).toNat)
      case atStart => exact ⟨0, by omega, rfl, rfl⟩
      case round =>
        obtain ⟨k, hk, rfl, rfl⟩ := hrel
        obtain ⟨flv, hflv⟩ : ∃ flv, flK fl k = flv := ⟨_, rfl⟩
        have hflz : flv < 65536 := by
          have : flK fl k ≤ fl := by
            unfold flK
            split
            · omega
            · omega
            · omega
            · unfold flagsA; omega
          omega
        rw [hflv]
        rcases (by omega : k = 0 ∨ k = 1 ∨ k = 2 ∨ k = 3) with rfl | rfl | rfl | rfl
        · -- DEV{
          by_cases hb : flv / 2 % 2 = 1
          · have hbI : ((flv : Int) / 2 % 2 == 1) = true := by rw [beq_iff_eq]; omega
            have hge : 2 ≤ flv := by omega
            have hn : flK fl 1 = flv - 2 := by rw [← hflv] at hb ⊢; simp only [flK] at hb ⊢; omega
            have HN2 := bx hn
            clear hn hb hflv
            go_wp2
            go_round
            case rel => exact ⟨1, by omega, rfl, by rw [HN2.out]; go_num⟩
            case measure => simp [intOf]
          · have hbI : ((flv : Int) / 2 % 2 == 1) = false := by rw [beq_eq_false_iff_ne]; omega
            have hn : flK fl 1 = flv := by rw [← hflv] at hb ⊢; simp only [flK] at hb ⊢; omega
            have HN2 := bx hn
            clear hn hb hflv
            go_wp2
            go_round
            case rel => exact ⟨1, by omega, rfl, by rw [HN2.out]⟩
            case measure => simp [intOf]
          -- DEV}
        · -- DEV{
          by_cases hb : flv / 4 % 2 = 1
          · have hbI : ((flv : Int) / 4 % 2 == 1) = true := by rw [beq_iff_eq]; omega
            have hge : 4 ≤ flv := by omega
            have hn : flK fl 2 = flv - 4 := by rw [← hflv] at hb ⊢; simp only [flK] at hb ⊢; omega
            have HN2 := bx hn
            clear hn hb hflv
            go_wp2
            go_round
            case rel => exact ⟨2, by omega, rfl, by rw [HN2.out]; go_num⟩
            case measure => simp [intOf]
          · have hbI : ((flv : Int) / 4 % 2 == 1) = false := by rw [beq_eq_false_iff_ne]; omega
            have hn : flK fl 2 = flv := by rw [← hflv] at hb ⊢; simp only [flK] at hb ⊢; omega
            have HN2 := bx hn
            clear hn hb hflv
            go_wp2
            go_round
            case rel => exact ⟨2, by omega, rfl, by rw [HN2.out]⟩
            case measure => simp [intOf]
          -- DEV}
        · -- DEV{
          by_cases hb : flv / 2048 % 2 = 1
          · have hbI : ((flv : Int) / 2048 % 2 == 1) = true := by rw [beq_iff_eq]; omega
            have hge : 2048 ≤ flv := by omega
            have hn : flK fl 3 = flv - 2048 := by rw [← hflv] at hb ⊢; simp only [flK, flagsA] at hb ⊢; omega
            have HN2 := bx hn
            clear hn hb hflv
            go_wp2
            go_round
            case rel => exact ⟨3, by omega, rfl, by rw [HN2.out]; go_num⟩
            case measure => simp [intOf]
          · have hbI : ((flv : Int) / 2048 % 2 == 1) = false := by rw [beq_eq_false_iff_ne]; omega
            have hn : flK fl 3 = flv := by rw [← hflv] at hb ⊢; simp only [flK, flagsA] at hb ⊢; omega
            have HN2 := bx hn
            clear hn hb hflv
            go_wp2
            go_round
            case rel => exact ⟨3, by omega, rfl, by rw [HN2.out]⟩
            case measure => simp [intOf]
          -- DEV}
        have hfa : flagsA fl = flv := hflv
        rw [hfa] at HX0
        clear hfa hflv hk
        obtain ⟨bad, hbad⟩ : ∃ bad, decide (20 < ve ∨ flv ≠ 0 ∨ (me ≠ 0 ∧ me ≠ 8)) = bad := ⟨_, rfl⟩
        have HBAD := bx hbad
        clear k0 k1 k2 HFL
        go_upto_region 21 with (fail)
        go_cut [106] (fun v wx => v = .bool bad ∧ Bx (Below wr.heap.size wr wx))
        case first => -- DEV{
          go_wp2_with fail
          refine (rnum_r A n c a 6 2 6 2 b wr w8 HN.out hnc hc HRR.out HB8.out rfl rfl (by omega) (by omega) (by omega) HVE.out).mono ?_
          rintro e8 w9 ⟨rfl, hb9⟩
          have HB9 := bx hb9
          clear hb9
          by_cases d1 : 20 < ve
          · have d1I : (20 : Int) < (ve : Int) := by omega
            have hbt : bad = true := by rw [← hbad, decide_eq_true (.inl d1)]
            subst hbt
            clear hbad d1
            go_wp2
            go_meet
            case rel => exact ⟨rfl, HB9⟩
          have d1I : ¬ (20 : Int) < (ve : Int) := by omega
          have d1K := bx (decide_eq_false d1I)
          by_cases d2 : flv = 0
          case neg =>
            have hbt : bad = true := by rw [← hbad, decide_eq_true (.inr (.inl d2))]
            have d2I : ((flv : Int) != 0) = true := by rw [bne_iff_ne]; omega
            subst hbt
            clear hbad d2
            go_wp2
            go_meet
            case rel => exact ⟨by first | rfl | rw [d1K.out], HB9⟩
          have d2I : ((flv : Int) != 0) = false := by rw [bne_eq_false_iff_eq]; omega
          by_cases d3 : me = 0
          · have hbt : bad = false := by rw [← hbad]; exact decide_eq_false (by omega)
            have d3I : ((me : Int) != 0) = false := by rw [bne_eq_false_iff_eq]; omega
            subst hbt
            clear hbad d1 d2 d3
            go_wp2
            go_meet
            case rel => exact ⟨by first | rfl | rw [d1K.out], HB9⟩
          have d3I : ((me : Int) != 0) = true := by rw [bne_iff_ne]; omega
          by_cases d4 : me = 8
          · have hbt : bad = false := by rw [← hbad]; exact decide_eq_false (by omega)
            have d4I : ((me : Int) != 8) = false := by rw [bne_eq_false_iff_eq]; omega
            subst hbt
            clear hbad d1 d2 d3 d4
            go_wp2
            go_meet
            case rel => exact ⟨by first | rfl | rw [d1K.out], HB9⟩
          · have hbt : bad = true := by rw [← hbad]; exact decide_eq_true (.inr (.inr ⟨d3, d4⟩))
            have d4I : ((me : Int) != 8) = true := by rw [bne_iff_ne]; omega
            subst hbt
            clear hbad d1 d2 d3 d4
            go_wp2
            go_meet
            case rel => exact ⟨by first | rfl | rw [d1K.out], HB9⟩
          -- DEV}
        case rest =>
        rename World => w9
        obtain ⟨rfl, HB9⟩ := hcut
        have HW9 := bx (HW.out.trans (HB9.out.mono hsz))
        have hX := HX0.out
        clear HB8 HX0 hbad
        cases bad with
        | true =>
          have HRk := bx (HRE.out 12 (by rw [← hX, if_pos (of_decide_eq_true HBAD.out)]))
          clear hX
          go_wp2
          go_ret3
          exact CenPost.bad HRk.out HW9.out
        | false =>
        rw [if_neg (of_decide_eq_false HBAD.out)] at hX
        obtain ⟨nb, hnb⟩ : ∃ nb, nameA nm = nb := ⟨_, rfl⟩
        rw [hnb] at hX
        have HNA := bx hnb
        have hnml : nm.length ≤ 70000 := by have := HNL.out; omega
        have hXn := bx hX
        obtain ⟨sn, hsn⟩ : ∃ s, (⟨nm.toArray⟩ : ByteArray) = s := ⟨_, rfl⟩
        have hsnl : sn.data.toList = nm := by rw [← hsn]
        have hsns : sn.size ≤ 140737488351232 := by rw [← hsn]; show nm.toArray.size ≤ _; simp; omega
        have HSN := bx hsnl
        have HSN' := bx hsn
        have hrr := (HRR.out.below HB9.out (Nat.le_refl _))
        obtain ⟨ad, x0, hAd, _, _, _⟩ := hrr.byte (k := a) (by have := HN.out; omega)
        subst hAd
        have hcv := run_cut_str hrr (i := a + 46) (m := sz) (c := c - (a + 46)) (n := sz) (s := sn) rfl (by have := HN.out; omega) (by rw [HNM.out]; exact hsn)
        rw [show ad.add (a + 46) = ⟨ad.block, ad.off + (a + 45 + 1), none⟩ from add_pos ad (a + 45)] at hcv
        have v5 : ¬ c = a + 46 := by omega
        have v1 : (a : Int) + 46 ≤ (a : Int) + 46 + (sz : Int) := by omega
        have v2 : (a : Int) + 46 + (sz : Int) ≤ (c : Int) := by omega
        have v3 : ((a : Int) + 46).toNat = a + 46 := Int.toNat_natCast (a + 46)
        have v4 : (0 : Int) ≤ (a : Int) + 46 := by omega
        have v6 : (0 : Int) ≤ (a : Int) + 46 + (sz : Int) := by omega
        have v7 : a + 46 ≤ c := by omega
        have v8 : a + 46 ≤ ((a : Int) + 46 + (sz : Int)).toNat := by omega
        have v9 : ((a : Int) + 46 + (sz : Int)).toNat ≤ c := by omega
        have va : ¬ c - (a + 46) = 0 := by omega
        have vb : (a : Int) + 46 ≤ (c : Int) := by omega
        clear hX hnb hsn hsnl hrr HBAD
        go_wp2_with fail
        refine (rname_any sn w9 hsns).mono ?_
        rintro e9 wa ⟨rfl, hba⟩
        rw [HSN.out, HNA.out]
        have HBa := bx (HB9.out.trans (hba.mono HB9.out.size))
        have HWa := bx (HW.out.trans (HBa.out.mono hsz))
        clear hba hcv v1 v2 v3 v4 v5 v6 v7 v8 v9 va vb HB9 HW9
        cases nb with
        | false =>
          have HRk := bx (HRE.out 13 (by rw [← hXn.out, if_pos rfl]))
          go_wp2
          go_ret3
          exact CenPost.bad HRk.out HWa.out
        | true =>
        have hX := hXn.out
        rw [if_neg (by simp)] at hX
        have HX1 := bx hX
        have HOa := bx (HO.out.step HBa.out)
        have HPa : Bx (OwI wa w.heap.size 3 u12 (acc.map plcI)) := bx (HP.out.below HBa.out)
        obtain ⟨lA, lc, hlv, _, _⟩ := HOa.out.rd
        have hlen : (acc.map rec0).length = i := by rw [List.length_map, HL.out]
        rw [hlen] at hlv
        subst hlv
        clear hX hXn hlen
        go_wp2
        go_loop [22] (fun kv => ∃ k : Nat, k ≤ i ∧ kv = .int .i64 (k : Int) ∧ Bx (∀ j x, j < k → acc[j]? = some x → x.1.name ≠ nm)) (fun kv => i - (intOf kv).toNat)
        case atStart => exact ⟨0, by omega, rfl, bx (fun j x h => absurd h (by omega))⟩
        case round =>
          obtain ⟨k, hk, rfl, HNE⟩ := hrel
          by_cases hki : k < i
          · -- DEV{
            have hkI : (k : Int) < (i : Int) := by omega
            have hkK : decide (k < i) = true := decide_eq_true hki
            obtain ⟨x, hx⟩ : ∃ x, acc[k]? = some x := ⟨_, List.getElem?_eq_getElem (by rw [HL.out]; exact hki)⟩
            obtain ⟨gl, cc, hv, _⟩ := HOa.out.form (by rw [List.length_map, HL.out]; omega)
            injection hv with hv1 hv2 hv3
            subst hv1
            have q0 : wa.cell? ⟨gl, k * 7, none⟩ = some (strV x.1.name) := HOa.out.cell recCels (k := k) (j := 0) (x := rec0 x) (by rw [List.getElem?_map, hx]; rfl) rfl
            obtain ⟨sx, hsx⟩ : ∃ s, (⟨x.1.name.toArray⟩ : ByteArray) = s := ⟨_, rfl⟩
            unfold strV at q0
            rw [hsx] at q0
            have hsxl : sx.data.toList = x.1.name := by rw [← hsx]
            clear hv2 hv3 hsx
            by_cases he : x.1.name = nm
            · have hst : (sx.toList == sn.toList) = true := tl_same (by rw [hsxl, HSN.out]; exact he)
              have HRk := bx (HRE.out 14 (by
                rw [← HX1.out, if_pos]
                rw [← he]
                exact List.mem_map_of_mem (f := fun y : Rec × Nat => y.1.name) (List.mem_of_getElem? hx)))
              clear he hsxl hx
              go_wp2
              go_ret3
              exact CenPost.bad HRk.out HWa.out
            · have hst : (sx.toList == sn.toList) = false := tl_diff (by rw [hsxl, HSN.out]; exact he)
              have HNE2 : Bx (∀ j x, j < k + 1 → acc[j]? = some x → x.1.name ≠ nm) := bx (fun j y hj hy => by
                by_cases e : j = k
                · subst e
                  rw [hx] at hy
                  injection hy with hy
                  rw [← hy]; exact he
                · exact HNE.out j y (by omega) hy)
              clear he hsxl hx
              go_wp2
              go_round
              case rel => exact ⟨k + 1, by omega, by go_num, HNE2⟩
              case measure => simp [intOf]; omega
            -- DEV}
          have hkI : ¬ (k : Int) < (i : Int) := by omega
          have hkK : decide (k < i) = false := decide_eq_false hki
          have hkeq : k = i := by omega
          have HRr := bx (HRO.out ⟨nm, me, pk, si, su, hd⟩ (a + 46 + sz + ex + cm) (by
            rw [← HX1.out, if_neg]
            intro hmem
            obtain ⟨x, hxm, hxe⟩ := List.mem_map.1 hmem
            obtain ⟨j, hj, hjx⟩ := List.getElem_of_mem hxm
            exact HNE.out j x (by rw [HL.out] at hj; omega) (by rw [List.getElem?_eq_getElem hj, hjx]) hxe))
          clear hkeq HX1 HNE
          go_wp2_with fail
          refine (rnum_r (some ad) n c a 16 4 16 4 b wr wa HN.out hnc hc HRR.out HBa.out rfl rfl (by omega) (by omega) (by omega) HSU.out).mono ?_
          rintro eb wb ⟨rfl, hbx⟩
          have HBb := bx hbx
          clear hbx
          go_wp2_with fail
          refine (rnum_r (some ad) n c a 20 4 20 4 b wr wb HN.out hnc hc HRR.out HBb.out rfl rfl (by omega) (by omega) (by omega) HPK.out).mono ?_
          rintro eb wc1 ⟨rfl, hbx⟩
          have HBc := bx hbx
          clear hbx
          go_wp2_with fail
          refine (rnum_r (some ad) n c a 24 4 24 4 b wr wc1 HN.out hnc hc HRR.out HBc.out rfl rfl (by omega) (by omega) (by omega) HSI.out).mono ?_
          rintro eb wd1 ⟨rfl, hbx⟩
          have HBd := bx hbx
          clear hbx
          go_wp2_with fail
          refine (rnum_r (some ad) n c a 42 4 42 4 b wr wd1 HN.out hnc hc HRR.out HBd.out rfl rfl (by omega) (by omega) (by omega) HHD.out).mono ?_
          rintro eb we1 ⟨rfl, hbx⟩
          have HBe := bx hbx
          clear hbx
          have HWe := bx (HW.out.trans (HBe.out.mono hsz))
          have hze : w.heap.size ≤ we1.heap.size := HWe.out.size
          have HOe := bx (show OwS recL 7 we1 w.heap.size 33 (.slice lA i lc) (acc.map rec0) from HO.out.step HBe.out)
          have HPe := bx (show OwI we1 w.heap.size 3 u12 (acc.map plcI) from HP.out.below HBe.out)
          obtain ⟨rr, hrr⟩ : ∃ rr : Rec, (⟨nm, me, pk, si, su, hd⟩ : Rec) = rr := ⟨_, rfl⟩
          have HCS : Bx ((#[.string sn, .int .i64 (me : Int), .int .i64 (pk : Int), .int .i64 (si : Int), .int .i64 (su : Int), .int .i64 0, .int .i64 (hd : Int)] : Array Value).toList = recL (rec0 (rr, a))) := bx (by rw [← HSN'.out, ← hrr]; rfl)
          rw [hrr] at HRr
          have HN4 : Bx (((acc.map rec0).length + [rec0 (rr, a)].length) * 64 ≤ 140737488355328) := bx (by have := HL.out; simp; omega)
          have HN5 : Bx (((acc.map plcI).length + [plcI (rr, a)].length) * 8 ≤ 140737488355328) := bx (by have := HL.out; simp; omega)
          have HAt : Bx ((.int .i64 (a : Int) : Value) = iV (plcI (rr, a))) := bx rfl
          clear hrr HBa HBb HBc HBd HWa HSU HPK HSI HHD HME HVE hkI hkK hki hk
          go_wp2_with (first
            | (at_builtin; refine wpList_appS _ recCels rfl (.tmp 132) (.tmp 152) rfl recTy (by decide) w.heap.size (.slice lA i lc) (acc.map rec0) rfl (OwS.alloc HOe.out _) _ _ 1 1 [rec0 (rr, a)] rfl rfl (RS.new _ _ #[.string sn, .int .i64 (me : Int), .int .i64 (pk : Int), .int .i64 (si : Int), .int .i64 (su : Int), .int .i64 0, .int .i64 (hd : Int)] HCS.out _ _) HN4.out (le_alloc0 hze _) ?_; intro v8 w8 own8 g8 k8 hb8
               have HP8 := bx (apt_kept (HPe.out.alloc _) HA.out g8)
               have HA8 := bx (apt_new (HPe.out.alloc _) HA.out k8)
               have HO8 := bx own8
               have hz8 : w.heap.size ≤ w8.heap.size := Nat.le_trans (le_alloc0 hze _) hb8.size
               have HB8 := bx ((bl_alloc HWe.out (Nat.le_refl _) _).trans hb8)
               clear own8 g8 k8 hb8)
            | (at_builtin; refine wpList_appL _ iV_one rfl (.tmp 154) (.tmp 156) rfl intTyA (by decide) w.heap.size u12 (acc.map plcI) rfl (HP8.out.alloc _) _ _ 1 1 [plcI (rr, a)] rfl rfl (RL.freshe _ _ HAt.out _) HN5.out (le_alloc0 hz8 _) ?_; intro v9 wz own9 g9 k9 hb9))
          have HO9 := bx (sapt_kept (HO8.out.alloc _) HA8.out.symm g9)
          have HA9 := bx (sapt_new (HO8.out.alloc _) HA8.out.symm k9)
          have HB9 := bx ((bl_alloc HB8.out (Nat.le_refl _) (.cells #[.int .i64 (a : Int)] 3)).trans hb9)
          have HO10 : Bx (OwS recL 7 wz w.heap.size 33 v8 ((acc ++ [(rr, a)]).map rec0)) := bx (by rw [List.map_append]; exact HO9.out)
          have HP10 : Bx (OwI wz w.heap.size 3 v9 ((acc ++ [(rr, a)]).map plcI)) := bx (by rw [List.map_append]; exact own9)
          have HL10 : Bx ((acc ++ [(rr, a)]).length = i + 1) := bx (by rw [List.length_append, HL.out]; rfl)
          have HC10 := bx HRr.out.1
          have hq9 : a + 46 + sz + ex + cm ≤ 9000000000 := by have := HRr.out.2; omega
          clear own9 g9 k9 hb9 HO9 HP8 HO8 HB8
          go_roundw
          case rel => exact ⟨i + 1, a + 46 + sz + ex + cm, acc ++ [(rr, a)], by omega, by go_num, by go_num, hq9, HC10, HL10, HB9, HO10, HP10, bx HA9.out.symm⟩
          case measure => simp [intOf]; omega
    · have himI : ¬ (i : Int) < (m : Int) := by omega
      obtain rfl : i = m := by omega
      have hC := HC.out
      rw [show i - i = 0 by omega, centA] at hC
      by_cases hap : a = td
      case neg =>
        have HRk := bx (show R = .err 11 from by rw [HR.out]; unfold cenR; rw [hC]; show (if a ≠ td then _ else _) = _; rw [if_pos hap])
        have hapI : ((a : Int) != (td : Int)) = true := by rw [bne_iff_ne]; omega
        clear hC hap
        go_wp2
        go_ret3
        exact CenPost.bad HRk.out HW.out
      have hapI : ((a : Int) != (td : Int)) = false := by rw [bne_eq_false_iff_eq]; omega
      have HRk := bx (show R = .ok acc from by rw [HR.out]; unfold cenR; rw [hC]; show (if a ≠ td then _ else _) = _; rw [if_neg (by simpa using hap)])
      clear hC hap
      go_wp2
      go_ret3
      exact CenPost.good HRk.out HW.out HO.out HP.out HA.out
end Go.Proofs.YtokojichjliieaaDoor
