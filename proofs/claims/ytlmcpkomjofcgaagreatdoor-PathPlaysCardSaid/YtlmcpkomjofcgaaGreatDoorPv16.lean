/- samovarlaw22.fixed: it answers true. Contract of path: Known. samovarref13.SameTexts: what it answers. Two paths over two files. Two paths over two files: what is known ahead of a round. Several paths over the same files. -/
import Derived.Test.YtlmcpkomjofcgaaGreatDoorPv15
import Derived.Test.YtlmcpkomjofcgaaGreatDoorPv3
import Derived.Test.YtlmcpkomjofcgaaGreatDoorPv4
import Derived.Lib.SlBytesConst
namespace Go.Proofs.YtlmcpkomjofcgaaGreatDoor
open Go.RowKit
def pk22 : List Pk := [((⟨[120], [104, 105], false⟩ : Itm), ([104, 105] : List UInt8))]
def na22 : List UInt8 := [97, 46, 106, 97, 114]
def nb22 : List UInt8 := [98, 46, 106, 97, 114]
def kn0 : Kn := fun _ => none
def s22 : FS := (putFS FS.new na22 (bookB pk22)).2
def a22 : Rz (List UInt8) × FS × Kn := amongP [na22] [120] 1 0 s22 kn0
def b22 : Rz (List UInt8) × FS × Kn := amongP [na22] [120] 1 0 a22.2.1 a22.2.2
def c22 : Rz (List UInt8) × FS × Kn := amongP [na22] [121] 1 0 b22.2.1 b22.2.2
def d22 : Rz (List UInt8) × FS × Kn := amongP [nb22, na22] [120] 2 0 c22.2.1 kn0
def f22 : Int × FS := failFS d22.2.1 1
def g22 : Rz (List UInt8) × FS × Kn := amongP [na22] [120] 1 0 f22.2 kn0
def h22 : Rz (List UInt8) × FS × Kn := amongP [na22] [120] 1 0 g22.2.1 g22.2.2
theorem fx22_make : layP pk22 = .ok (bookB pk22) ∧ (bookB pk22).length ≤ 1000 := by
  have h1 : chkP (pk22.map (·.1)) = 0 := by decide +kernel
  have h2 : (bookB pk22).length ≤ 1000 := by decide +kernel
  exact ⟨layP_made h1 (by omega), h2⟩
theorem fx22_a : a22.1 = .ok [104, 105] ∧ a22.2.1.reads = 2 ∧ s22.reads = 0 := ⟨by kernel_rfl, by kernel_rfl, by kernel_rfl⟩
theorem fx22_b : b22.1 = .ok [104, 105] ∧ b22.2.1.reads = 3 := ⟨by kernel_rfl, by kernel_rfl⟩
theorem fx22_c : c22.1 = .err 21 ∧ c22.2.1.reads = 3 := ⟨by kernel_rfl, by kernel_rfl⟩
theorem fx22_d : d22.1 = .err 36 ∧ d22.2.1.nf = 0 := ⟨by kernel_rfl, by kernel_rfl⟩
theorem fx22_f : f22.2.reads = 3 := by kernel_rfl
theorem fx22_g : g22.1 = .err 20 ∧ g22.2.1.reads = 4 := ⟨by kernel_rfl, by kernel_rfl⟩
theorem fx22_h : h22.1 = .ok [104, 105] := by kernel_rfl
/-- A row that stands. -/
def Std (w : World) (M : Nat → Prop) (s : Sl) : Prop := SlX w (fun k => k < w.heap.size ∧ ¬ M k) s
theorem Std.ch {w w' : World} {M S : Nat → Prop} {s : Sl} (h : Std w M s) (c : Ch w w' S) (hS : ∀ k, S k → M k) : Std w' M s :=
  SlX.step h (fun k hk => c.same k hk.1 (fun e => hk.2 (hS k e))) (fun _ hk => ⟨Nat.lt_of_lt_of_le hk.1 c.size, hk.2⟩)
theorem Std.below {w w' : World} {M : Nat → Prop} {s : Sl} (h : Std w M s) (hb : Below w.heap.size w w') : Std w' M s := h.ch (S := fun _ => False) (Ch.of_below hb) (fun _ e => e.elim)
theorem Std.more {w w' : World} {M N : Nat → Prop} {s : Sl} (h : Std w M s) (hb : Below w.heap.size w w') (hN : ∀ k, N k → M k ∨ w.heap.size ≤ k) : Std w' N s :=
  SlX.step h (fun k hk => hb.block k hk.1) (fun k hk => ⟨Nat.lt_of_lt_of_le hk.1 hb.size, fun e => by
    rcases hN k e with e | e
    · exact hk.2 e
    · have := hk.1; omega⟩)
theorem Std.rb {w : World} {M : Nat → Prop} {s : Sl} (h : Std w M s) : RB w w.heap.size s.A s.l := (SlX.slB h (fun _ hk => hk.1)).2.2.2
theorem nms_one (w : World) (g : Nat) (hg : w.heap.size = g) (l : List (List UInt8)) (cs : Array Value) (h : cs.toList = l.map strV) : RL strV (w.alloc (.cells cs 9)) (w.alloc (.cells cs 9)).heap.size (some ⟨g, 0, none⟩) l := by
  subst hg
  exact (RL.news w l cs h 9 (0, 0)).more (by simp)
theorem path_sub {w : World} {M : Nat → Prop} {gf bR bF gp bK bC : Nat} {nms : List (List UInt8)} {F : FS} {K : Kn} {mx : Int} (h : PsM w M gf bR bF gp bK bC nms F K mx) : ∀ k, PathS gf bF bK bC k → M k := fun k e => by
  rcases e with e | e | e | e <;> subst e
  · exact h.fs.own.1
  · exact h.fs.own.2.2
  · exact h.pt.own.2.1
  · exact h.pt.own.2.2
theorem ansOk {R : Rz (List UInt8)} {B : Nat} {e : Ending} {w' : World} {l : List UInt8} (h : AnsP R B e w') (hR : R = .ok l) : ∃ A n c, e = .returned (.tuple #[.slice A n c, .int .i64 0]) ∧ Bx (n = l.length) ∧ OwB w' B 5 (.slice A n c) l := by
  subst hR
  obtain ⟨v, rfl, ho, _⟩ := h
  obtain ⟨A, n, c, rfl, hn, _⟩ := OwL.sl ho
  exact ⟨A, n, c, rfl, hn, ho⟩
theorem ansErr {R : Rz (List UInt8)} {B : Nat} {e : Ending} {w' : World} {k : Int} (h : AnsP R B e w') (hR : R = .err k) : e = .returned (.tuple #[.slice none 0 0, .int .i64 k]) := by subst hR; exact h.1
set_option maxRecDepth 100000 in
set_option maxHeartbeats 8000000 in
theorem fixed22_any (mx : Int) (w : World) (hm : w.cell? ⟨0, 0, none⟩ = some (.int .i64 mx)) (hz : 0 < w.heap.size) :
    Calls Tryz.prog 5 #[] w fun e w' => e = .returned (.bool true) ∧ Below w.heap.size w w' := by
  have HM := bx hm
  have HZ := bx hz
  have kc := fun (w : World) (C : Array Value) (n c : Nat) => Lib.run_convert_bytes_const (P := Tryz.prog) w 22 5 C n c Tryz.underlying22 Tryz.underlying5
  have HNEW := bx (fnew_any w (fun _ => False) (fun _ e => e.elim))
  clear hm hz
  go_enter Tryz.func5, Tryz.ntmps5
  go_wp2_with fail
  refine HNEW.out.mono ?_
  rintro e w1 ⟨gf, bR, bF, rfl, l1, l2, l3, hb1, hf1⟩
  obtain ⟨M1, hM1⟩ : ∃ M : Nat → Prop, (fun k => False ∨ k = gf ∨ k = bR ∨ k = bF) = M := ⟨_, rfl⟩
  have hMlo : ∀ k, M1 k → w.heap.size ≤ k := fun k e => by
    rw [← hM1] at e
    rcases e with e | e | e | e
    · exact e.elim
    · omega
    · omega
    · omega
  have hf1 : FsM w1 M1 gf bR bF FS.new := by rw [← hM1]; exact hf1
  have HF1 := bx hf1
  have HB1 := bx hb1
  have HML := bx hMlo
  have HC1 : Bx (Ch w w1 M1) := bx (Ch.of_below hb1)
  clear hb1 hf1 l1 l2 l3 HNEW hM1 hMlo
  go_wp2_with fail
  have hs1 := sl_new w1 [104, 105] #[.int .u8 104, .int .u8 105] 2 rfl rfl (by decide) 5 (2, 3)
  have hz1 : (w1.alloc (.cells #[.int .u8 104, .int .u8 105] 5 (2, 3))).heap.size = w1.heap.size + 1 := by simp
  have hcA : Below w1.heap.size w1 (w1.alloc (.cells #[.int .u8 104, .int .u8 105] 5 (2, 3))) := bl_alloc (Below.refl _ _) (Nat.le_refl _) _
  generalize w1.alloc (.cells #[.int .u8 104, .int .u8 105] 5 (2, 3)) = wA at hs1 hz1 hcA ⊢
  have hr2 := rit_one wA (w1.heap.size + 1) (Nat.le_of_eq hz1.symm) [120] ⟨some ⟨w1.heap.size, 0, none⟩, 2, 2, [104, 105]⟩ false hs1 55 #[.string ⟨#[120]⟩, .slice (some ⟨w1.heap.size, 0, none⟩) 2 2, .bool false] rfl (0, 0)
  have hz2 : (wA.alloc (.cells #[.string ⟨#[120]⟩, .slice (some ⟨w1.heap.size, 0, none⟩) 2 2, .bool false] 55)).heap.size = wA.heap.size + 1 := by simp
  have hc2 : Below w1.heap.size w1 (wA.alloc (.cells #[.string ⟨#[120]⟩, .slice (some ⟨w1.heap.size, 0, none⟩) 2 2, .bool false] 55)) := bl_alloc hcA (Nat.le_refl _) _
  generalize wA.alloc (.cells #[.string ⟨#[120]⟩, .slice (some ⟨w1.heap.size, 0, none⟩) 2 2, .bool false] 55) = w2 at hr2 hz2 hc2 ⊢
  rw [← hz2, hz1] at hr2
  have HMK := bx (rmake_any (some ⟨w1.heap.size + 1, 0, none⟩) 1 1 [⟨[120], ⟨some ⟨w1.heap.size, 0, none⟩, 2, 2, [104, 105]⟩, false⟩] w2 rfl (by decide) (by decide) (by decide) (fun x hx => by
    rcases List.mem_cons.1 hx with rfl | hx
    · exact ⟨by show (1 : Nat) ≤ _; decide, by show (2 : Nat) ≤ _; decide⟩
    · cases hx) hr2)
  have HF2 := bx (HF1.out.below hc2)
  have HC2 := bx (HC1.out.trans (Ch.of_below (S := M1) hc2) (fun _ _ e => e))
  clear hs1 hz1 hcA hr2 hz2 hc2 HF1 HC1
  refine HMK.out.mono ?_
  intro e w3 hp
  have hp : BookPost (layP pk22) w2 e w3 := hp
  obtain ⟨A3, n3, c3, rfl, hn3, hr3, _, _, hb3, _⟩ := bkOk hp fx22_make.1
  have HF3 := bx (HF2.out.below hb3)
  have HC3 := bx (HC2.out.trans (Ch.of_below (S := M1) hb3) (fun _ _ e => e))
  have HPUT := bx (fput_any ⟨#[97, 46, 106, 97, 114]⟩ A3 n3 c3 (bookB pk22) w3 M1 gf bR bF FS.new HF3.out hn3.out.symm (by have := fx22_make.2; rw [hn3.out]; omega) hr3 (by decide))
  clear hp hb3 hr3 HMK HF2 HC2 kc hn3
  go_wp2_with fail
  refine HPUT.out.mono ?_
  rintro e w4 ⟨rfl, hf4, hc4⟩
  have HF4 : Bx (FsM w4 M1 gf bR bF s22) := bx hf4
  have HC4 := bx (HC3.out.trans (hc4.mono (S' := M1) (fun k _ e => by rw [show k = bR from e]; exact HF4.out.own.2.1)) (fun _ _ e => e))
  clear hf4 hc4 HPUT HF3 HC3
  go_wp2_with fail
  have hba : Below w4.heap.size w4 (w4.alloc (.cells #[.string ⟨#[97, 46, 106, 97, 114]⟩] 9)) := bl_alloc (Below.refl _ _) (Nat.le_refl _) _
  obtain ⟨gg, hgg⟩ : ∃ g, w4.heap.size = g := ⟨_, rfl⟩
  have hrow := nms_one w4 gg hgg [na22] #[.string ⟨#[97, 46, 106, 97, 114]⟩] rfl
  have HFa := bx (HF4.out.below hba)
  have HCa := bx (HC4.out.trans (Ch.of_below (S := M1) hba) (fun _ _ e => e))
  rw [hgg]
  generalize w4.alloc (.cells #[.string ⟨#[97, 46, 106, 97, 114]⟩] 9) = w5 at hba hrow HFa HCa ⊢
  have hzz : w5.cell? ⟨0, 0, none⟩ = some (.int .i64 mx) ∧ ¬ M1 0 ∧ 0 < w5.heap.size := ⟨(cell_same (p := ⟨0, 0, none⟩) (HCa.out.same 0 HZ.out (fun e => by have := HML.out 0 e; have := HZ.out; omega))).trans HM.out, fun e => by have := HML.out 0 e; have := HZ.out; omega, Nat.lt_of_lt_of_le HZ.out HCa.out.size⟩
  have HNW := bx (ptnew_any (some ⟨gg, 0, none⟩) 1 1 [na22] w5 M1 gf bR bF s22 mx HFa.out hzz rfl (by decide) (by decide) hrow (fun x hx => by simp only [List.mem_cons, List.not_mem_nil, or_false] at hx; rcases hx with rfl <;> decide))
  clear hba hgg hrow hzz HF4 HC4 
  refine HNW.out.mono ?_
  rintro e w6 ⟨gp2, bK2, bC2, rfl, l1, l2, l3, hb, hps⟩
  obtain ⟨M2, hMM⟩ : ∃ M : Nat → Prop, (fun k => M1 k ∨ k = gp2 ∨ k = bK2 ∨ k = bC2) = M := ⟨_, rfl⟩
  have hps : PsM w6 M2 gf bR bF gp2 bK2 bC2 [na22] s22 kn0 mx := by rw [← hMM]; exact hps
  have hsz := HCa.out.size
  have HML2 : Bx (∀ k, M2 k → w.heap.size ≤ k) := bx (fun k e => by rw [← hMM] at e; rcases e with e | e | e | e; exact HML.out k e; all_goals omega)
  have hsub : ∀ k, M2 k → M1 k ∨ w5.heap.size ≤ k := fun k e => by rw [← hMM] at e; rcases e with e | e | e | e; exact .inl e; all_goals (right; omega)
  have HPS2 := bx hps
  have HC60 : Bx (Ch w w6 M2) := bx ((HCa.out.mono (S' := M2) (fun k _ e => by rw [← hMM]; exact .inl e)).trans (Ch.of_below (S := M2) hb) (fun _ _ e => e))
  clear hps hb hMM hsub hsz l1 l2 l3 HNW HFa HCa 
  go_wp2_with fail
  have HFD := bx (pfind_any ⟨#[120]⟩ w6 M2 gf bR bF gp2 bK2 bC2 [na22] _ _ mx HPS2.out (by decide) (by rw [fx22_a.2.2]; decide))
  refine HFD.out.mono ?_
  intro e w7 hp
  have hp : AmgPost w6 M2 gf bR bF gp2 bK2 bC2 [na22] a22 mx e w7 := hp
  obtain ⟨ha, hps, hc⟩ := hp
  have hsub := path_sub HPS2.out
  obtain ⟨AX, nX, cX, rfl, hnX, hoX⟩ := ansOk ha fx22_a.1
  have HNX := bx hnX.out
  have HXX : Bx (Std w7 M2 ⟨AX, nX, cX, [104, 105]⟩) := bx (slX_own (hoX.low (by exact Nat.le_refl _)) (fun k hk => by exact HPS2.out.pt.all k hk))
  clear hnX hoX
  have HPS700 := bx hps
  have HC700 := bx (HC60.out.trans (hc.mono (S' := M2) (fun k _ e => hsub k e)) (fun _ _ e => e))
  clear ha hps hc hsub HFD HPS2 HC60 
  go_wp2_with fail
  refine (freads_any w7 M2 gf bR bF _ HPS700.out.fs).mono ?_
  rintro e wx ⟨rfl, hwx⟩
  obtain rfl : w7 = wx := hwx.symm
  rw [fx22_a.2.1]
  go_wp2_with fail
  have HFD := bx (pfind_any ⟨#[120]⟩ w7 M2 gf bR bF gp2 bK2 bC2 [na22] _ _ mx HPS700.out (by decide) (by rw [fx22_a.2.1]; decide))
  refine HFD.out.mono ?_
  intro e w8 hp
  have hp : AmgPost w7 M2 gf bR bF gp2 bK2 bC2 [na22] b22 mx e w8 := hp
  obtain ⟨ha, hps, hc⟩ := hp
  have hsub := path_sub HPS700.out
  obtain ⟨Aq8, nq8, cq8, rfl, hnq8, hoq8⟩ := ansOk ha fx22_b.1
  have HNq8 := bx hnq8.out
  clear hnq8 hoq8
  have HPS800 := bx hps
  have HC800 := bx (HC700.out.trans (hc.mono (S' := M2) (fun k _ e => hsub k e)) (fun _ _ e => e))
  have HXXc := bx (HXX.out.ch hc hsub)
  clear ha hps hc hsub HFD HPS700 HC700 HXX
  go_wp2_with fail
  refine (freads_any w8 M2 gf bR bF _ HPS800.out.fs).mono ?_
  rintro e wx ⟨rfl, hwx⟩
  obtain rfl : w8 = wx := hwx.symm
  rw [fx22_b.2]
  go_wp2_with fail
  have HFD := bx (pfind_any ⟨#[121]⟩ w8 M2 gf bR bF gp2 bK2 bC2 [na22] _ _ mx HPS800.out (by decide) (by rw [fx22_b.2]; decide))
  refine HFD.out.mono ?_
  intro e w9 hp
  have hp : AmgPost w8 M2 gf bR bF gp2 bK2 bC2 [na22] c22 mx e w9 := hp
  obtain ⟨ha, hps, hc⟩ := hp
  have hsub := path_sub HPS800.out
  obtain rfl := ansErr ha fx22_c.1
  have HPS900 := bx hps
  have HC900 := bx (HC800.out.trans (hc.mono (S' := M2) (fun k _ e => hsub k e)) (fun _ _ e => e))
  have HXXcc := bx (HXXc.out.ch hc hsub)
  clear ha hps hc hsub HFD HPS800 HC800 HXXc
  have HF5 := bx HPS900.out.fs
  clear HPS900
  go_wp2_with fail
  have hba : Below w9.heap.size w9 (w9.alloc (.cells #[.string ⟨#[98, 46, 106, 97, 114]⟩, .string ⟨#[97, 46, 106, 97, 114]⟩] 9)) := bl_alloc (Below.refl _ _) (Nat.le_refl _) _
  obtain ⟨gg, hgg⟩ : ∃ g, w9.heap.size = g := ⟨_, rfl⟩
  have hrow := nms_one w9 gg hgg [nb22, na22] #[.string ⟨#[98, 46, 106, 97, 114]⟩, .string ⟨#[97, 46, 106, 97, 114]⟩] rfl
  have HFa := bx (HF5.out.below hba)
  have HCa := bx (HC900.out.trans (Ch.of_below (S := M2) hba) (fun _ _ e => e))
  have HXXcca := bx (HXXcc.out.below hba)
  rw [hgg]
  generalize w9.alloc (.cells #[.string ⟨#[98, 46, 106, 97, 114]⟩, .string ⟨#[97, 46, 106, 97, 114]⟩] 9) = w10 at hba hrow HFa HCa HXXcca ⊢
  have hzz : w10.cell? ⟨0, 0, none⟩ = some (.int .i64 mx) ∧ ¬ M2 0 ∧ 0 < w10.heap.size := ⟨(cell_same (p := ⟨0, 0, none⟩) (HCa.out.same 0 HZ.out (fun e => by have := HML2.out 0 e; have := HZ.out; omega))).trans HM.out, fun e => by have := HML2.out 0 e; have := HZ.out; omega, Nat.lt_of_lt_of_le HZ.out HCa.out.size⟩
  have HNW := bx (ptnew_any (some ⟨gg, 0, none⟩) 2 2 [nb22, na22] w10 M2 gf bR bF c22.2.1 mx HFa.out hzz rfl (by decide) (by decide) hrow (fun x hx => by simp only [List.mem_cons, List.not_mem_nil, or_false] at hx; rcases hx with rfl | rfl <;> decide))
  clear hba hgg hrow hzz HF5 HC900 HXXcc
  refine HNW.out.mono ?_
  rintro e w11 ⟨gp3, bK3, bC3, rfl, l1, l2, l3, hb, hps⟩
  obtain ⟨M3, hMM⟩ : ∃ M : Nat → Prop, (fun k => M2 k ∨ k = gp3 ∨ k = bK3 ∨ k = bC3) = M := ⟨_, rfl⟩
  have hps : PsM w11 M3 gf bR bF gp3 bK3 bC3 [nb22, na22] c22.2.1 kn0 mx := by rw [← hMM]; exact hps
  have hsz := HCa.out.size
  have HML3 : Bx (∀ k, M3 k → w.heap.size ≤ k) := bx (fun k e => by rw [← hMM] at e; rcases e with e | e | e | e; exact HML2.out k e; all_goals omega)
  have hsub : ∀ k, M3 k → M2 k ∨ w10.heap.size ≤ k := fun k e => by rw [← hMM] at e; rcases e with e | e | e | e; exact .inl e; all_goals (right; omega)
  have HPS3 := bx hps
  have HC110 : Bx (Ch w w11 M3) := bx ((HCa.out.mono (S' := M3) (fun k _ e => by rw [← hMM]; exact .inl e)).trans (Ch.of_below (S := M3) hb) (fun _ _ e => e))
  have HXXccb := bx (HXXcca.out.more hb hsub)
  clear hps hb hMM hsub hsz l1 l2 l3 HNW HFa HCa HXXcca
  go_wp2_with fail
  have HFD := bx (pfind_any ⟨#[120]⟩ w11 M3 gf bR bF gp3 bK3 bC3 [nb22, na22] _ _ mx HPS3.out (by decide) (by rw [fx22_c.2]; decide))
  refine HFD.out.mono ?_
  intro e w12 hp
  have hp : AmgPost w11 M3 gf bR bF gp3 bK3 bC3 [nb22, na22] d22 mx e w12 := hp
  obtain ⟨ha, hps, hc⟩ := hp
  have hsub := path_sub HPS3.out
  obtain rfl := ansErr ha fx22_d.1
  have HPS1200 := bx hps
  have HC1200 := bx (HC110.out.trans (hc.mono (S' := M3) (fun k _ e => hsub k e)) (fun _ _ e => e))
  have HXXccbc := bx (HXXccb.out.ch hc hsub)
  clear ha hps hc hsub HFD HPS3 HC110 HXXccb
  have HF6 := bx HPS1200.out.fs
  clear HPS1200
  go_wp2_with fail
  have hba : Below w12.heap.size w12 (w12.alloc (.cells #[.string ⟨#[97, 46, 106, 97, 114]⟩] 9)) := bl_alloc (Below.refl _ _) (Nat.le_refl _) _
  obtain ⟨gg, hgg⟩ : ∃ g, w12.heap.size = g := ⟨_, rfl⟩
  have hrow := nms_one w12 gg hgg [na22] #[.string ⟨#[97, 46, 106, 97, 114]⟩] rfl
  have HFa := bx (HF6.out.below hba)
  have HCa := bx (HC1200.out.trans (Ch.of_below (S := M3) hba) (fun _ _ e => e))
  have HXXccbca := bx (HXXccbc.out.below hba)
  rw [hgg]
  generalize w12.alloc (.cells #[.string ⟨#[97, 46, 106, 97, 114]⟩] 9) = w13 at hba hrow HFa HCa HXXccbca ⊢
  have hzz : w13.cell? ⟨0, 0, none⟩ = some (.int .i64 mx) ∧ ¬ M3 0 ∧ 0 < w13.heap.size := ⟨(cell_same (p := ⟨0, 0, none⟩) (HCa.out.same 0 HZ.out (fun e => by have := HML3.out 0 e; have := HZ.out; omega))).trans HM.out, fun e => by have := HML3.out 0 e; have := HZ.out; omega, Nat.lt_of_lt_of_le HZ.out HCa.out.size⟩
  have HNW := bx (ptnew_any (some ⟨gg, 0, none⟩) 1 1 [na22] w13 M3 gf bR bF d22.2.1 mx HFa.out hzz rfl (by decide) (by decide) hrow (fun x hx => by simp only [List.mem_cons, List.not_mem_nil, or_false] at hx; rcases hx with rfl <;> decide))
  clear hba hgg hrow hzz HF6 HC1200 HXXccbc
  refine HNW.out.mono ?_
  rintro e w14 ⟨gp4, bK4, bC4, rfl, l1, l2, l3, hb, hps⟩
  obtain ⟨M4, hMM⟩ : ∃ M : Nat → Prop, (fun k => M3 k ∨ k = gp4 ∨ k = bK4 ∨ k = bC4) = M := ⟨_, rfl⟩
  have hps : PsM w14 M4 gf bR bF gp4 bK4 bC4 [na22] d22.2.1 kn0 mx := by rw [← hMM]; exact hps
  have hsz := HCa.out.size
  have HML4 : Bx (∀ k, M4 k → w.heap.size ≤ k) := bx (fun k e => by rw [← hMM] at e; rcases e with e | e | e | e; exact HML3.out k e; all_goals omega)
  have hsub : ∀ k, M4 k → M3 k ∨ w13.heap.size ≤ k := fun k e => by rw [← hMM] at e; rcases e with e | e | e | e; exact .inl e; all_goals (right; omega)
  have HPS4 := bx hps
  have HC140 : Bx (Ch w w14 M4) := bx ((HCa.out.mono (S' := M4) (fun k _ e => by rw [← hMM]; exact .inl e)).trans (Ch.of_below (S := M4) hb) (fun _ _ e => e))
  have HXXccbcb := bx (HXXccbca.out.more hb hsub)
  clear hps hb hMM hsub hsz l1 l2 l3 HNW HFa HCa HXXccbca
  go_wp2_with fail
  have HFL := bx (ffail_any 1 w14 M4 gf bR bF _ HPS4.out.fs (by rw [fx22_d.2]; decide))
  refine HFL.out.mono ?_
  rintro e w15 ⟨rfl, hf, hc⟩
  have hf : FsM w15 M4 gf bR bF f22.2 := hf
  have hown := HPS4.out.fs.own
  have HPSF : Bx (PsM w15 M4 gf bR bF gp4 bK4 bC4 [na22] f22.2 kn0 mx) := bx (HPS4.out.read hf hc (by exact Nat.le_refl _))
  have HCF := bx (HC140.out.trans (hc.mono (S' := M4) (fun k _ e => by rcases e with e | e <;> rw [e]; exact hown.1; exact hown.2.2)) (fun _ _ e => e))
  have HXXccbcbd := bx (HXXccbcb.out.ch hc (fun k e => by rcases e with e | e <;> rw [e]; exact hown.1; exact hown.2.2))
  clear hf hc hown HFL HPS4 HC140 HXXccbcb
  go_wp2_with fail
  have HFD := bx (pfind_any ⟨#[120]⟩ w15 M4 gf bR bF gp4 bK4 bC4 [na22] _ _ mx HPSF.out (by decide) (by rw [fx22_f]; decide))
  refine HFD.out.mono ?_
  intro e w16 hp
  have hp : AmgPost w15 M4 gf bR bF gp4 bK4 bC4 [na22] g22 mx e w16 := hp
  obtain ⟨ha, hps, hc⟩ := hp
  have hsub := path_sub HPSF.out
  obtain rfl := ansErr ha fx22_g.1
  have HPS1600 := bx hps
  have HC1600 := bx (HCF.out.trans (hc.mono (S' := M4) (fun k _ e => hsub k e)) (fun _ _ e => e))
  have HXXccbcbdc := bx (HXXccbcbd.out.ch hc hsub)
  clear ha hps hc hsub HFD HPSF HCF HXXccbcbd
  go_wp2_with fail
  have HFD := bx (pfind_any ⟨#[120]⟩ w16 M4 gf bR bF gp4 bK4 bC4 [na22] _ _ mx HPS1600.out (by decide) (by rw [fx22_g.2]; decide))
  refine HFD.out.mono ?_
  intro e w17 hp
  have hp : AmgPost w16 M4 gf bR bF gp4 bK4 bC4 [na22] h22 mx e w17 := hp
  obtain ⟨ha, hps, hc⟩ := hp
  have hsub := path_sub HPS1600.out
  obtain ⟨AY, nY, cY, rfl, hnY, hoY⟩ := ansOk ha fx22_h
  have HNY := bx hnY.out
  have HXY : Bx (Std w17 M4 ⟨AY, nY, cY, [104, 105]⟩) := bx (slX_own (hoY.low (by exact Nat.le_refl _)) (fun k hk => by exact HPS1600.out.pt.all k hk))
  clear hnY hoY
  have HPS1700 := bx hps
  have HC1700 := bx (HC1600.out.trans (hc.mono (S' := M4) (fun k _ e => hsub k e)) (fun _ _ e => e))
  have HXXccbcbdcc := bx (HXXccbcbdc.out.ch hc hsub)
  clear ha hps hc hsub HFD HPS1600 HC1600 HXXccbcbdc
  have hcx := run_conv_str (P := Tryz.prog) (c := cX) Tryz.underlying22 Tryz.underlying5 Tryz.underlying9 (show ([104, 105] : List UInt8).length = nX from HNX.out.symm) (Std.rb HXXccbcbdcc.out)
  have hcy := run_conv_str (P := Tryz.prog) (c := cY) Tryz.underlying22 Tryz.underlying5 Tryz.underlying9 (show ([104, 105] : List UInt8).length = nY from HNY.out.symm) (Std.rb HXY.out)
  go_wp2
  go_ret
  exact ⟨rfl, HC1700.out.below (Nat.le_refl _) (fun k hk e => by have := HML4.out k e; omega)⟩
end Go.Proofs.YtlmcpkomjofcgaaGreatDoor
namespace Go.Proofs.YtlmcpkomjofcgaaGreatDoor
open Go.RowKit
/-- The names of the first files whose directories are known. -/
def knP (nms : List (List UInt8)) (K : Kn) : Nat → List (List UInt8)
  | 0 => []
  | i + 1 => knP nms K i ++ (if (K i).isSome = true then [nms.getD i []] else [])
theorem knP_len (nms : List (List UInt8)) (K : Kn) : ∀ i, (knP nms K i).length ≤ i
  | 0 => Nat.le_refl _
  | i + 1 => by
    have := knP_len nms K i
    unfold knP
    split
    · simp; omega
    · simp; omega
theorem knP_yes {nms : List (List UInt8)} {K : Kn} {i : Nat} (h : (K i).isSome = true) : knP nms K (i + 1) = knP nms K i ++ [nms.getD i []] := by rw [knP, if_pos h]
theorem knP_no {nms : List (List UInt8)} {K : Kn} {i : Nat} (h : ¬ (K i).isSome = true) : knP nms K (i + 1) = knP nms K i := by rw [knP, if_neg h, List.append_nil]
set_option maxRecDepth 100000 in
set_option maxHeartbeats 4000000 in
theorem pknown_any (w : World) (M : Nat → Prop) (gf bR bF gp bK bC : Nat) (nms : List (List UInt8)) (F : FS) (K : Kn) (mx : Int) (h : PsM w M gf bR bF gp bK bC nms F K mx) :
    Calls Tryz.prog 21 #[.pointer (some ⟨gp, 0, none⟩)] w fun e w' => ∃ v, e = .returned v ∧ OwL strV w' w.heap.size 9 v (knP nms K nms.length) ∧ Below w.heap.size w w' := by
  have HH := bx h
  obtain ⟨ad, c, s0, hB, hnc, hcm, _, _, _, hlt, _⟩ := h.pt.name (i := 0) (by have := h.pt.len.1; omega)
  have c1 : w.cell? ⟨gp, 1, none⟩ = some (.slice (some ad) nms.length c) := (hB.cell 1).trans rfl
  have hgp := hB.lt
  have HB := bx hB
  have hn8 : nms.length ≤ 8 := h.pt.len.2
  have hnm : ∀ i, i < nms.length → ∃ s : ByteArray, w.cell? (ad.add i) = some (.string s) ∧ s.data.toList = nms.getD i [] ∧ s.size ≤ maxLen := fun i hi => by
    obtain ⟨ad2, c2, s2, hB2, _, _, hc2, hs2, hs3, _⟩ := h.pt.name hi
    have e1 := ((hB2.cell 1).symm.trans (hB.cell 1))
    have e2 : (.slice (some ad2) nms.length c2 : Value) = .slice (some ad) nms.length c := Option.some.inj e1
    injection e2 with e2 _ _
    injection e2 with e2
    subst e2
    exact ⟨s2, hc2, hs2, hs3⟩
  have HNM := bx hnm
  obtain ⟨nn, hnn⟩ : ∃ nn, nms.length = nn := ⟨_, rfl⟩
  rw [hnn] at c1 hn8 ⊢
  have HN := bx hnn
  have HL := bx hlt
  have HG := bx hgp
  clear h hB hnm hnn hnc hcm hlt hgp
  go_enter Tryz.func21, Tryz.ntmps21
  go_wp2_with fail
  go_loopw [3, 13] (fun v iv wx => ∃ j : Nat, j ≤ nn ∧ iv = .int .i64 (j : Int) ∧ Bx (OwL strV wx w.heap.size 9 v (knP nms K j) ∧ Below w.heap.size w wx)) (fun _ iv _ => nn - (intOf iv).toNat)
  case atStart => exact ⟨0, by omega, rfl, bx ⟨OwL.nil, Below.refl _ _⟩⟩
  case round =>
    obtain ⟨j, hj, rfl, HST⟩ := hrel
    obtain ⟨A2, n2, c2, rfl, hn2, _⟩ := OwL.sl HST.out.1
    by_cases hjn : j < nn
    · have hjI : (j : Int) < (nn : Int) := by omega
      obtain ⟨sj, hsj, hsn, hsm⟩ := HNM.out j (by rw [HN.out]; exact hjn)
      have hcj : wr.cell? (ad.add j) = some (.string sj) := (cell_same (p := ad.add j) (by rw [blk_add]; exact HST.out.2.block _ HL.out)).trans hsj
      have hc2 : wr.cell? ⟨gp, 2, none⟩ = some (.map (some bK)) := (cell_same (p := ⟨gp, 2, none⟩) (HST.out.2.block _ HG.out)).trans ((HB.out.cell 2).trans rfl)
      obtain ⟨mK, hmK, hMK⟩ := (HH.out.below HST.out.2).pt.known
      have HMK := bx hMK
      have HKI := bx (keyN j (by omega))
      have HSN := bx hsn
      have HNN : Bx (((knP nms K j).length + [sj.data.toList].length) * 16 ≤ 140737488355328) := bx (by have := knP_len nms K j; simp only [List.length_cons, List.length_nil]; omega)
      have HZ1 := bx HST.out.2.size
      clear hsj hsn hsm hmK hMK
      by_cases hk : (K j).isSome = true
      · have hkv : (if (K j).isSome = true then some (.bool true : Value) else none).getD (.bool false) = .bool true := by rw [if_pos hk]; rfl
        have HKV := bx hkv
        have HK := bx hk
        clear hkv hk
        go_wp2_with (first | (refine wpList_lookZ rfl (.tmp 21) (.tmp 22) _ rfl _ intK10 Tryz.underlying58 _ (zeroBo_run _) rfl HMK.out j _ rfl HKI.out (.bool true) HKV.out ?_) | (at_builtin; refine wpList_appL _ strV_one10 rfl (.tmp 24) (.tmp 26) rfl strTy (by decide) w.heap.size _ (knP nms K j) rfl (HST.out.1.alloc _) _ _ 1 1 [sj.data.toList] rfl rfl (RL.news _ _ _ rfl _ _) HNN.out (le_alloc0 HZ1.out _) ?_; intro v3 w3 own3 _ _ hb3; obtain ⟨A3, n3, c3, rfl, hn3, _⟩ := OwL.sl own3; have HO3 := bx own3; have HB3 := bx ((bl_alloc HST.out.2 (Nat.le_refl _) (.cells #[.string sj] 9)).trans hb3); clear own3 hb3))
        go_roundw
        case rel => exact ⟨j + 1, by omega, by go_num, bx ⟨by rw [knP_yes HK.out, ← HSN.out]; exact HO3.out, HB3.out⟩⟩
        case measure => simp [intOf]; omega
      · have hkv : (if (K j).isSome = true then some (.bool true : Value) else none).getD (.bool false) = .bool false := by rw [if_neg hk]; rfl
        have HKV := bx hkv
        have HK := bx hk
        clear hkv hk
        go_wp2_with (refine wpList_lookZ rfl (.tmp 21) (.tmp 22) _ rfl _ intK10 Tryz.underlying58 _ (zeroBo_run _) rfl HMK.out j _ rfl HKI.out (.bool false) HKV.out ?_)
        go_roundw
        case rel => exact ⟨j + 1, by omega, by go_num, bx ⟨by rw [knP_no HK.out]; exact HST.out.1, HST.out.2⟩⟩
        case measure => simp [intOf]; omega
    · obtain rfl : j = nn := by omega
      have hjI : ¬ (j : Int) < (j : Int) := by omega
      go_wp2
      go_ret
      exact ⟨_, rfl, HST.out.1, HST.out.2⟩
end Go.Proofs.YtlmcpkomjofcgaaGreatDoor
namespace Go.Proofs.YtlmcpkomjofcgaaGreatDoor
open Go.RowKit
theorem eq_of_get10 {α : Type} {a b : List α} (h : a.length = b.length) (he : ∀ i, i < a.length → a[i]? = b[i]?) : a = b := by
  apply List.ext_getElem? 
  intro i
  rcases Nat.lt_or_ge i a.length with h1 | h1
  · exact he i h1
  · rw [List.getElem?_eq_none h1, List.getElem?_eq_none (by omega)]
set_option maxHeartbeats 1000000 in
theorem sameTexts_any (A0 A1 : Option Addr) (n0 n1 c0 c1 : Nat) (l0 l1 : List (List UInt8)) (w : World) (e0 : l0.length = n0) (e1 : l1.length = n1) (b0 : n0 ≤ 140737488355328) (b1 : n1 ≤ 140737488355328)
    (r0 : RL strV w w.heap.size A0 l0) (r1 : RL strV w w.heap.size A1 l1) :
    Calls Tryz.prog 20 #[.slice A0 n0 c0, .slice A1 n1 c1] w fun e w' => e = .returned (.bool (decide (l0 = l1))) ∧ Below w.heap.size w w' := by
  by_cases hn : n0 = n1
  · subst hn
    have E0 := Lib.hid e0
    have E1 := Lib.hid e1
    clear e0 e1
    go_enter Tryz.func20, Tryz.ntmps20
    go_wp2
    go_loopw [5] (fun i wr => ∃ k : Nat, k ≤ n0 ∧ i = .int .i64 (k : Int) ∧ Hid (∀ j, j < k → l0[j]? = l1[j]?) ∧ Hid (∃ q, wr = w.drewN q)) (fun i _ => n0 - (intOf i).toNat)
    case atStart => exact ⟨0, by omega, rfl, Lib.hid (fun j hj => by omega), Lib.hid ⟨0, rfl⟩⟩
    case round =>
      obtain ⟨k, hk, rfl, hgo, hw⟩ := hrel
      obtain ⟨q, rfl⟩ := hw.out
      by_cases hk0 : k < n0
      · obtain ⟨ad0, x0, rfl, hl0, hx0, hc0⟩ := r0.atl (k := k) (by rw [E0.out]; exact hk0)
        obtain ⟨ad1, x1, rfl, hl1, hx1, hc1⟩ := r1.atl (k := k) (by rw [E1.out]; exact hk0)
        replace hc0 : w.cell? (ad0.add k) = some (.string ⟨x0.toArray⟩) := hc0
        replace hc1 : w.cell? (ad1.add k) = some (.string ⟨x1.toArray⟩) := hc1
        have s0 : (0 : Int) ≤ (k : Int) := by omega
        have s1 : (k : Int) < (n0 : Int) := by omega
        clear hw
        go_wp2
        go_quiet (fail)
        go_wp2
        · rename_i hne
          go_ret
          refine ⟨ret_bool ?_, below_drewN (below_drewN (Below.refl _ _) _) _⟩
          symm
          rw [decide_eq_false_iff_not]
          intro e
          have h0 := hx0.out
          rw [e, hx1.out] at h0
          injection h0 with h0
          subst h0
          simp at hne
        · rename_i hne
          go_roundw
          case rel =>
            refine ⟨k + 1, by omega, by go_num, Lib.hid ?_, Lib.hid ⟨_, rfl⟩⟩
            intro j hj
            rcases Nat.lt_or_ge j k with h | h
            · exact hgo.out j h
            · obtain rfl : j = k := by omega
              rw [hx0.out, hx1.out]
              simp at hne
              rw [hne]
          case measure => simp [intOf]; omega
      · obtain rfl : k = n0 := by omega
        go_wp2
        go_ret
        exact ⟨ret_bool (by symm; rw [decide_eq_true_eq]; exact eq_of_get10 (by rw [E0.out, E1.out]) (by rw [E0.out]; exact hgo.out)), below_drewN (Below.refl _ _) _⟩
  · have hnb : ((n0 : Int) != (n1 : Int)) = true := by simp; omega
    have hf : decide (l0 = l1) = false := decide_eq_false fun e => hn (by rw [← e0, ← e1, e])
    rw [hf]
    clear hf hn e0 e1
    go_enter Tryz.func20, Tryz.ntmps20
    go_wp2
    go_ret
    exact ⟨rfl, Below.refl _ _⟩
end Go.Proofs.YtlmcpkomjofcgaaGreatDoor
namespace Go.Proofs.YtlmcpkomjofcgaaGreatDoor
open Go.RowKit
section
variable {w w' : World} {M N S : Nat → Prop} {gf bR bF gp bK bC : Nat} {nms : List (List UInt8)} {F F' : FS} {K : Kn} {mx : Int}
end
def nOne : List UInt8 := [111, 110, 101]
def nTwo : List UInt8 := [116, 119, 111]
def fsA (a : List UInt8) : FS := ⟨fun q => if q = nOne then some a else none, 1, 0, fun _ => false, 0⟩
def fsB (a b : List UInt8) : FS := ⟨fun q => if q = nTwo then some b else if q = nOne then some a else none, 2, 0, fun _ => false, 0⟩
/-- A number of an error, or nought; a row of bytes, or none. -/
def ecd : Rz (List UInt8) → Int
  | .ok _ => 0
  | .err k => k
def okl : Rz (List UInt8) → List UInt8
  | .ok l => l
  | .err _ => []
theorem ans_form {R : Rz (List UInt8)} {B : Nat} {e : Ending} {w' : World} (h : AnsP R B e w') : ∃ A n c, e = .returned (.tuple #[.slice A n c, .int .i64 (ecd R)]) ∧ Bx ((okl R).length = n) ∧ Bx (n ≤ 32768) ∧ OwB w' B 5 (.slice A n c) (okl R) := by
  cases R with
  | ok l =>
    obtain ⟨v, rfl, ho, hl⟩ := h
    obtain ⟨A, n, c, rfl, hn, _⟩ := OwL.sl ho
    exact ⟨A, n, c, rfl, bx hn.out.symm, bx (by rw [hn.out]; exact hl), ho⟩
  | err k => exact ⟨none, 0, 0, h.1, bx rfl, bx (Nat.zero_le _), OwL.nil⟩
theorem among_reads {nms : List (List UInt8)} {nm : List UInt8} : ∀ (f i : Nat) (F : FS) (K : Kn), (amongP nms nm f i F K).2.1.reads ≤ F.reads + 2 * f
  | 0, _, F, _ => Nat.le_refl _
  | f + 1, i, F, K => by
    have h1 := learn_reads nms F K i
    rw [amongP]
    obtain ⟨k, F1, K1, hL⟩ : ∃ k F1 K1, learnP nms F K i = (k, F1, K1) := ⟨_, _, _, rfl⟩
    rw [hL] at h1 ⊢
    dsimp only at h1 ⊢
    split
    · dsimp only; omega
    · cases recOf K1 i nm with
      | none =>
        have := among_reads (nms := nms) (nm := nm) f (i + 1) F1 K1
        dsimp only; omega
      | some x =>
        dsimp only
        have h2 : (takeP nms F1 i x).2.reads ≤ F1.reads + 1 := by
          have h3 := readFS_reads F1 (nms.getD i []) x.2 x.1.packed
          unfold takeP
          split <;> rename_i h4 <;> rw [h4] at h3 <;> exact h3.2
        omega
end Go.Proofs.YtlmcpkomjofcgaaGreatDoor
namespace Go.Proofs.YtlmcpkomjofcgaaGreatDoor
open Go.RowKit
theorem dec_self10 (l : List UInt8) : decide (l = l) = true := by simp
theorem dec_self11 (l : List (List UInt8)) : decide (l = l) = true := by simp
theorem cell_lt10 {w : World} {k o : Nat} {v : Value} (h : w.cell? ⟨k, o, none⟩ = some v) : k < w.heap.size := by
  unfold World.cell? at h
  by_cases hk : k < w.heap.size
  · exact hk
  · have : w.heap[k]? = none := Array.getElem?_eq_none (by omega)
    simp [this] at h
def stF (i j : Nat) (a b : List UInt8) : FS := if i < j then fsB a b else FS.new
structure TwoF (w wx : World) (M : Nat → Prop) (gf bR bF gg bR2 bF2 : Nat) (a b : List UInt8) (j : Nat) : Prop where
  ch : Ch w wx M
  f : FsM wx M gf bR bF (stF 0 j a b)
  g : FsM wx M gg bR2 bF2 (stF 1 j a b)
section
variable {w wx wy : World} {M : Nat → Prop} {gf bR bF gg bR2 bF2 : Nat} {a b : List UInt8} {j : Nat}
end
/-- Ahead of the j-th look: nf looks of the first path failed. -/
structure LkS (w wx : World) (M : Nat → Prop) (gf bR bF gp bK bC gg bR2 bF2 gq bK2 bC2 : Nat) (F G : FS) (K : Kn) (mx : Int) (nf j : Nat) : Prop where
  ch : Ch w wx M
  p : PsM wx M gf bR bF gp bK bC [nOne, nTwo] F K mx
  q : PsM wx M gg bR2 bF2 gq bK2 bC2 [nOne, nTwo] G K mx
  rows : F.rows = G.rows
  qt : Quiet G
  rdF : F.reads ≤ 8 * j
  rdG : G.reads ≤ 4 * j
  pend : (nf = 0 ∧ ∃ m, Pend m F) ∨ (nf = 1 ∧ Quiet F)
end Go.Proofs.YtlmcpkomjofcgaaGreatDoor
namespace Go.Proofs.YtlmcpkomjofcgaaGreatDoor
open Go.RowKit
section
variable {w w' : World} {M : Nat → Prop} {gf bR bF gp bK bC gq bK2 bC2 : Nat} {nms nms2 : List (List UInt8)} {F F' : FS} {K K' K2 : Kn} {mx : Int}
end
end Go.Proofs.YtlmcpkomjofcgaaGreatDoor
