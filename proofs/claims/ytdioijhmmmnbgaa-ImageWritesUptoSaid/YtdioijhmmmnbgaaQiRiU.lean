/- Contract: samovarref14.putMembers. -/
import Derived.Test.YtdioijhmmmnbgaaQiRiQ
import Derived.Test.YtdioijhmmmnbgaaQiImI
namespace Go.Proofs.Ytdioijhmmmnbgaa
open Go.RowKit
def memB' (y : MmE) : List UInt8 := [y.access, y.name, y.desc].flatMap (beB 2) ++ (beB 2 (y.n : Int) ++ y.L.flatMap attB')
/-- What is asked of a member that is written. -/
def MmW (y : MmE) : Prop := (∀ a ∈ [y.access, y.name, y.desc], -9223372036854775808 ≤ a ∧ a ≤ 9223372036854775807) ∧ y.n ≤ 64 ∧ ∀ z ∈ y.L, (-9223372036854775808 ≤ z.name ∧ z.name ≤ 9223372036854775807) ∧ z.s.n ≤ 32768
theorem memB_len {w : World} {B : Nat} {y : MmE} (h : MmB w B y) (hw : MmW y) : (memB' y).length ≤ 2100000 := by
  have h1 := attBs_len y.L (fun z hz => by rw [(h.2.2.2.2 z hz).1]; exact (hw.2.2 z hz).2)
  have h2 : y.L.length * 32774 ≤ 64 * 32774 := Nat.mul_le_mul (by rw [h.1]; exact hw.2.1) (Nat.le_refl _)
  have e : (memB' y).length = 6 + (2 + (y.L.flatMap attB').length) := by
    unfold memB'
    rw [List.length_append, List.length_append, beBs_len, beB_len]; rfl
  omega
theorem memBs_len {w : World} {B : Nat} : ∀ L : List MmE, (∀ y ∈ L, MmB w B y ∧ MmW y) → (L.flatMap memB').length ≤ L.length * 2100000 := by
  intro L
  induction L with
  | nil => intro _; simp
  | cons y r ih =>
    intro h
    have h1 := ih (fun z hz => h z (List.mem_cons_of_mem _ hz))
    have h2 := h y (List.mem_cons_self ..)
    have h3 := memB_len h2.1 h2.2
    rw [List.flatMap_cons, List.length_append, List.length_cons]
    omega
def dstM : Nat → Option Tmp
  | 0 => some 17
  | 1 => some 18
  | 2 => some 19
  | 3 => some 20
  | 4 => some 21
  | 5 => some 22
  | 6 => some 23
  | 7 => some 24
  | 8 => some 25
  | 9 => some 26
  | 10 => some 27
  | 11 => some 28
  | 12 => some 29
  | 13 => some 30
  | 14 => some 31
  | 15 => some 32
  | 16 => some 33
  | 17 => some 34
  | 18 => some 35
  | 19 => some 36
  | 20 => some 37
  | 21 => some 38
  | 22 => some 39
  | 23 => some 40
  | 24 => some 0
  | _ => none
def consM : Nat → Nat
  | 25 => 17
  | 17 => 23
  | 23 => 24
  | _ => 1000
def DM : List (List Nat) := [[], [], [], [1, 2], [3], [4], [], [], [6, 7], [8], [9], [], [], [11, 12], [13], [14], [5, 10, 15], [0, 16], [], [], [18, 19], [20], [21], [17, 22], [23]]
def IM : List (List Nat) := [[], [], [], [], [], [], [], [], [], [], [], [], [], [], [], [], [], [25], [], [], [], [], [], [], []]
def FM (base : Nat) (E : TypeId) (V : Value) (ad : Addr) (na ca k : Nat) (n1 n2 n3 : Int) (sA : Option Addr) (sn sc : Nat) (l0 l1 l2 : List UInt8) : Nat → Value → (Nat → Prop) → World → Prop
  | 0 => fPure V
  | 1 => fPure (.slice (some ad) na ca)
  | 2 => fPure (.int .i64 (k : Int))
  | 3 => fPure (.pointer (some (ad.add (k * 4))))
  | 4 => fPure (.pointer (some (ad.add (k * 4))))
  | 5 => fPure (.int .i64 n1)
  | 6 => fPure (.slice (some ad) na ca)
  | 7 => fPure (.int .i64 (k : Int))
  | 8 => fPure (.pointer (some (ad.add (k * 4))))
  | 9 => fPure (.pointer (some ⟨(ad.add (k * 4)).block, (ad.add (k * 4)).off + 1, none⟩))
  | 10 => fPure (.int .i64 n2)
  | 11 => fPure (.slice (some ad) na ca)
  | 12 => fPure (.int .i64 (k : Int))
  | 13 => fPure (.pointer (some (ad.add (k * 4))))
  | 14 => fPure (.pointer (some ⟨(ad.add (k * 4)).block, (ad.add (k * 4)).off + 2, none⟩))
  | 15 => fPure (.int .i64 n3)
  | 16 => fRow [n1, n2, n3] 3
  | 17 => fGro base E l1
  | 18 => fPure (.slice (some ad) na ca)
  | 19 => fPure (.int .i64 (k : Int))
  | 20 => fPure (.pointer (some (ad.add (k * 4))))
  | 21 => fPure (.pointer (some ⟨(ad.add (k * 4)).block, (ad.add (k * 4)).off + 3, none⟩))
  | 22 => fPure (.slice sA sn sc)
  | 23 => fGro base E l2
  | 24 => fGro base E l2
  | 25 => fGroI base E V l0
  | _ => fun _ _ _ => True
set_option maxRecDepth 100000 in
set_option maxHeartbeats 16000000 in
theorem rputMembers_any (base na ca : Nat) (v : Value) (o : List UInt8) (A : Option Addr) (M : List MmE) (w : World) (h : OwB w base 5 v o) (hb : base ≤ w.heap.size) (hm : M.length = na) (hM : RM w base A M) (hn : ∀ y ∈ M, MmW y) (hna : na ≤ 64) (ho : o.length ≤ 800000000000) :
    Calls Try.prog 47 #[v, .slice A na ca] w (RPut w base v (o ++ (beB 2 (na : Int) ++ M.flatMap memB'))) := by
  have HO := bx ho
  have HB := bx hb
  have HL := bx hm
  have HM := bx hM
  have HNS := bx hn
  have HW0 := bx h
  have HP0 := bx (rput14_any base 2 1 1 v o (some ⟨w.heap.size, 0, none⟩) [(na : Int)] (w.alloc (.cells #[.int .i64 (na : Int)] 3)) (h.alloc _) (Nat.le_trans hb (by simp)) rfl (RL.top (RL.freshe w (na : Int) rfl _)) (fun _ ad ha => by
    injection ha with ha
    rw [← ha]
    intro hf
    have := (World.ownsRow.lt h _ hf).2
    exact Nat.lt_irrefl _ this) (fun x hx => by
    rcases List.mem_cons.1 hx with rfl | hx
    · omega
    · cases hx) (by decide) (by decide) (by decide) (by omega))
  clear h hb hm hM hn ho
  go_enter Try.func47, Try.ntmps47
  go_wp2_with fail
  refine HP0.out.mono ?_
  rintro e w1 ⟨V1, rfl, hg1⟩
  have HG1 : Bx (GrR w w1 base 5 v V1 (o ++ (beB 2 (na : Int) ++ (M.take 0).flatMap memB'))) := bx (by
    have g0 := ((GrR.start HW0.out).alloc (.cells #[.int .i64 (na : Int)] 3)).trans hg1
    simpa using g0)
  clear hg1 HP0
  go_wp2_with fail
  go_loopw [0, 5] (fun V iv wx => ∃ k : Nat, k ≤ na ∧ iv = .int .i64 (k : Int) ∧ Bx (GrR w wx base 5 v V (o ++ (beB 2 (na : Int) ++ (M.take k).flatMap memB')))) (fun _ iv _ => na - (intOf iv).toNat)
  case atStart => exact ⟨0, by omega, rfl, HG1⟩
  case round =>
    clear HG1
    obtain ⟨k, hk, rfl, HG⟩ := hrel
    obtain ⟨AV, nV, cV, rfl, _, _⟩ := OwL.sl HG.out.own
    have hz := HG.out.ch.size
    have HLO := bx (HG.out.low HW0.out HB.out)
    by_cases hkn : k < na
    · have hkI : (k : Int) < (na : Int) := by omega
      have hkJ : (0 : Int) ≤ (k : Int) := by omega
      obtain ⟨ad, y, rfl, hlt, HY, p0, p1, p2, p3, HSY⟩ := (HM.out.below HLO.out (Nat.le_refl _)).at_ (k := k) (by rw [HL.out]; exact hkn)
      have hyn := HNS.out y (List.mem_of_getElem? HY.out)
      have HYN := bx hyn
      have hbw : base ≤ wr.heap.size := Nat.le_trans HB.out hz
      have HBW := bx hbw
      have HVL : Bx (∀ q, Fow (.slice AV nV cV) q → base ≤ q ∧ q < wr.heap.size) := bx (fun q hq => World.ownsRow.lt HG.out.own q hq)
      have HEL : Bx (∀ wx, Ch wr wx (Fow (.slice AV nV cV)) → wx.cell? (ad.add (k * 4)) = some (.int .i64 y.access) ∧ wx.cell? ⟨(ad.add (k * 4)).block, (ad.add (k * 4)).off + 1, none⟩ = some (.int .i64 y.name) ∧ wx.cell? ⟨(ad.add (k * 4)).block, (ad.add (k * 4)).off + 2, none⟩ = some (.int .i64 y.desc) ∧
          wx.cell? ⟨(ad.add (k * 4)).block, (ad.add (k * 4)).off + 3, none⟩ = some (.slice y.A y.n y.c) ∧ MmB wx base y ∧ ad.block < wx.heap.size) := bx (fun wx hc => by
        have hlow := low_of HBW.out (fun q hq => (HVL.out q hq).1) hc
        exact ⟨(hlow.cell (p := ad.add (k * 4)) (by rw [blk_add]; exact hlt)).trans p0, (hlow.cell (p := ⟨(ad.add (k * 4)).block, (ad.add (k * 4)).off + 1, none⟩) (by rw [blk_add]; exact hlt)).trans p1, (hlow.cell (p := ⟨(ad.add (k * 4)).block, (ad.add (k * 4)).off + 2, none⟩) (by rw [blk_add]; exact hlt)).trans p2,
          (hlow.cell (p := ⟨(ad.add (k * 4)).block, (ad.add (k * 4)).off + 3, none⟩) (by rw [blk_add]; exact hlt)).trans p3, HSY.out.below hlow (Nat.le_refl _), Nat.lt_of_lt_of_le hlt (Nat.le_trans hbw hc.size)⟩)
      have HYL := bx HSY.out.1
      obtain ⟨l0, hl0⟩ : ∃ l, o ++ (beB 2 (na : Int) ++ (M.take k).flatMap memB') = l := ⟨_, rfl⟩
      obtain ⟨l1, hl1⟩ : ∃ l, l0 ++ [y.access, y.name, y.desc].flatMap (beB 2) = l := ⟨_, rfl⟩
      obtain ⟨l2, hl2⟩ : ∃ l, l1 ++ (beB 2 (y.n : Int) ++ y.L.flatMap attB') = l := ⟨_, rfl⟩
      have HE3 : Bx (l2 = o ++ (beB 2 (na : Int) ++ (M.take (k + 1)).flatMap memB')) := bx (by
        rw [← hl2, ← hl1, ← hl0, take_next HY.out, List.flatMap_append]
        show _ = o ++ (beB 2 (na : Int) ++ ((M.take k).flatMap memB' ++ [y].flatMap memB'))
        simp [memB', List.append_assoc])
      have hlen0 : l0.length ≤ 800200000000 := by
        rw [← hl0, List.length_append, List.length_append, beB_len]
        have h9 := memBs_len (w := w) (B := base) (M.take k) (fun z hz => by
          have hzM := List.mem_of_mem_take hz
          exact ⟨HM.out.2 z hzM, HNS.out z hzM⟩)
        have h8 : (M.take k).length ≤ 64 := by rw [List.length_take]; omega
        have h7 : (M.take k).length * 2100000 ≤ 64 * 2100000 := Nat.mul_le_mul h8 (Nat.le_refl _)
        have := HO.out
        omega
      have hlen1 : l1.length ≤ 800200000006 := by rw [← hl1, List.length_append, beBs_len]; simp only [List.length_cons, List.length_nil]; omega
      have HG0 : Bx (OwB wr base 5 (.slice AV nV cV) l0) := bx (by rw [← hl0]; exact HG.out.own)
      have E1 := bx hl1
      have E2 := bx hl2
      have L0 := bx hlen0
      have L1 := bx hlen1
      have L3 : Bx (0 < l2.length) := bx (by rw [← hl2, List.length_append, List.length_append, beB_len]; omega)
      clear hl0 hl1 hl2 hlen0 hlen1 p0 p1 p2 p3 HSY hyn hlt
      go_upto_region 5 with (fail)
      refine wp_region_res (by kernel_rfl) dstM (by kernel_rfl) (FM base 5 (.slice AV nV cV) ad na ca k y.access y.name y.desc y.A y.n y.c l0 l1 l2) consM (Fow (.slice AV nV cV)) DM IM (by kernel_rfl) (.slice AV nV cV) (Fow (.slice AV nV cV)) ⟨rfl, rfl, HG0.out⟩ (fun q h => (HVL.out q h).2) (fun _ h => h) ⟨?_, ?_, ?_, ?_, ?_, ?_, ?_, ?_, ?_, ?_, ?_, ?_, ?_, ?_, ?_, ?_, ?_, ?_, ?_, ?_, ?_, ?_, ?_, ?_, ?_, trivial⟩ ?_
      · show StepR _ _ _ _ _ _ _ [] [] 0 _
        intro v S w HC HL HU HD Q hQ
        simp only [putsF]
        go_wp2_with fail
        exact fin_pure hQ rfl ⟨rfl, rfl⟩
      · show StepR _ _ _ _ _ _ _ [] [] 1 _
        intro v S w HC HL HU HD Q hQ
        simp only [putsF]
        go_wp2_with fail
        exact fin_pure hQ rfl ⟨rfl, rfl⟩
      · show StepR _ _ _ _ _ _ _ [] [] 2 _
        intro v S w HC HL HU HD Q hQ
        simp only [putsF]
        go_wp2_with fail
        exact fin_pure hQ rfl ⟨rfl, rfl⟩
      · show StepR _ _ _ _ _ _ _ [1, 2] [1, 2] 3 _
        intro v S w HC HL HU HD Q hQ
        have e1 := Live.pure (HL 1 (by decide))
        have e2 := Live.pure (HL 2 (by decide))
        simp only [putsF, dstM, e1, e2]
        go_wp2_with fail
        exact fin_pure hQ (by simp only [putsF, dstM, e1, e2]; rfl) ⟨rfl, rfl⟩
      · show StepR _ _ _ _ _ _ _ [3] [3] 4 _
        intro v S w HC HL HU HD Q hQ
        have e3 := Live.pure (HL 3 (by decide))
        simp only [putsF, dstM, e3]
        go_wp2_with fail
        exact fin_pure hQ (by simp only [putsF, dstM, e3]; rfl) ⟨rfl, rfl⟩
      · show StepR _ _ _ _ _ _ _ [4] [4] 5 _
        intro v S w HC HL HU HD Q hQ
        have e4 := Live.pure (HL 4 (by decide))
        simp only [putsF, dstM, e4]
        obtain ⟨c0, c1, c2, c3, _, hbl⟩ := HEL.out w HC
        go_wp2_with fail
        exact fin_pure hQ (by simp only [putsF, dstM, e4]; rfl) ⟨rfl, rfl⟩
      · show StepR _ _ _ _ _ _ _ [] [] 6 _
        intro v S w HC HL HU HD Q hQ
        simp only [putsF]
        go_wp2_with fail
        exact fin_pure hQ rfl ⟨rfl, rfl⟩
      · show StepR _ _ _ _ _ _ _ [] [] 7 _
        intro v S w HC HL HU HD Q hQ
        simp only [putsF]
        go_wp2_with fail
        exact fin_pure hQ rfl ⟨rfl, rfl⟩
      · show StepR _ _ _ _ _ _ _ [6, 7] [6, 7] 8 _
        intro v S w HC HL HU HD Q hQ
        have e6 := Live.pure (HL 6 (by decide))
        have e7 := Live.pure (HL 7 (by decide))
        simp only [putsF, dstM, e6, e7]
        go_wp2_with fail
        exact fin_pure hQ (by simp only [putsF, dstM, e6, e7]; rfl) ⟨rfl, rfl⟩
      · show StepR _ _ _ _ _ _ _ [8] [8] 9 _
        intro v S w HC HL HU HD Q hQ
        have e8 := Live.pure (HL 8 (by decide))
        simp only [putsF, dstM, e8]
        go_wp2_with fail
        exact fin_pure hQ (by simp only [putsF, dstM, e8]; rfl) ⟨rfl, rfl⟩
      · show StepR _ _ _ _ _ _ _ [9] [9] 10 _
        intro v S w HC HL HU HD Q hQ
        have e9 := Live.pure (HL 9 (by decide))
        simp only [putsF, dstM, e9]
        obtain ⟨c0, c1, c2, c3, _, hbl⟩ := HEL.out w HC
        go_wp2_with fail
        exact fin_pure hQ (by simp only [putsF, dstM, e9]; rfl) ⟨rfl, rfl⟩
      · show StepR _ _ _ _ _ _ _ [] [] 11 _
        intro v S w HC HL HU HD Q hQ
        simp only [putsF]
        go_wp2_with fail
        exact fin_pure hQ rfl ⟨rfl, rfl⟩
      · show StepR _ _ _ _ _ _ _ [] [] 12 _
        intro v S w HC HL HU HD Q hQ
        simp only [putsF]
        go_wp2_with fail
        exact fin_pure hQ rfl ⟨rfl, rfl⟩
      · show StepR _ _ _ _ _ _ _ [11, 12] [11, 12] 13 _
        intro v S w HC HL HU HD Q hQ
        have e11 := Live.pure (HL 11 (by decide))
        have e12 := Live.pure (HL 12 (by decide))
        simp only [putsF, dstM, e11, e12]
        go_wp2_with fail
        exact fin_pure hQ (by simp only [putsF, dstM, e11, e12]; rfl) ⟨rfl, rfl⟩
      · show StepR _ _ _ _ _ _ _ [13] [13] 14 _
        intro v S w HC HL HU HD Q hQ
        have e13 := Live.pure (HL 13 (by decide))
        simp only [putsF, dstM, e13]
        go_wp2_with fail
        exact fin_pure hQ (by simp only [putsF, dstM, e13]; rfl) ⟨rfl, rfl⟩
      · show StepR _ _ _ _ _ _ _ [14] [14] 15 _
        intro v S w HC HL HU HD Q hQ
        have e14 := Live.pure (HL 14 (by decide))
        simp only [putsF, dstM, e14]
        obtain ⟨c0, c1, c2, c3, _, hbl⟩ := HEL.out w HC
        go_wp2_with fail
        exact fin_pure hQ (by simp only [putsF, dstM, e14]; rfl) ⟨rfl, rfl⟩
      · show StepR _ _ _ _ _ _ _ [5, 10, 15] [5, 10, 15] 16 _
        intro v S w HC HL HU HD Q hQ
        have e5 := Live.pure (HL 5 (by decide))
        have e10 := Live.pure (HL 10 (by decide))
        have e15 := Live.pure (HL 15 (by decide))
        simp only [putsF, dstM, e5, e10, e15]
        go_wp2_with fail
        exact fin_blk hQ (by simp only [putsF, dstM, e5, e10, e15]; rfl) ⟨_, rfl, rfl, (RL.news w [y.access, y.name, y.desc] _ rfl _ _).more (by simp)⟩
      · show StepR _ _ _ _ _ _ _ [0, 16] [0, 16, 25] 17 _
        intro v S w HC HL HU HD Q hQ
        have e0 := Live.pure (HL 0 (by decide))
        obtain ⟨g16, e16, s16, R16, Z16⟩ := Live.row (HL 16 (by decide))
        obtain ⟨eI, s25, O25⟩ := Live.groI (HL 25 (by decide))
        simp only [putsF, dstM, e0, e16]
        go_wp2_with fail
        have hdj : ¬ Fow (.slice AV nV cV) g16 := fun hf => HD 25 (by decide) 16 (by decide) (by decide) g16 (by rw [s25]; exact hf) (by rw [s16])
        refine (rput14_any base 2 3 3 (.slice AV nV cV) l0 (some ⟨g16, 0, none⟩) [y.access, y.name, y.desc] w O25.out (Nat.le_trans HBW.out HC.size) rfl R16.out (fun _ ad ha => by injection ha with ha; rw [← ha]; exact hdj) HYN.out.1 (by decide) (by decide) (by decide) (by have := L0.out; omega)).mono ?_
        rintro e w2 ⟨V2, rfl, G2⟩
        go_wp2_with fail
        exact fin_grow hQ (by simp only [putsF, dstM, e0, e16]; rfl) G2 (fun q hq => ⟨25, by decide, rfl, by rw [s25]; exact hq⟩) (fun h => by rw [E1.out] at h; exact h)
      · show StepR _ _ _ _ _ _ _ [] [] 18 _
        intro v S w HC HL HU HD Q hQ
        simp only [putsF]
        go_wp2_with fail
        exact fin_pure hQ rfl ⟨rfl, rfl⟩
      · show StepR _ _ _ _ _ _ _ [] [] 19 _
        intro v S w HC HL HU HD Q hQ
        simp only [putsF]
        go_wp2_with fail
        exact fin_pure hQ rfl ⟨rfl, rfl⟩
      · show StepR _ _ _ _ _ _ _ [18, 19] [18, 19] 20 _
        intro v S w HC HL HU HD Q hQ
        have e18 := Live.pure (HL 18 (by decide))
        have e19 := Live.pure (HL 19 (by decide))
        simp only [putsF, dstM, e18, e19]
        go_wp2_with fail
        exact fin_pure hQ (by simp only [putsF, dstM, e18, e19]; rfl) ⟨rfl, rfl⟩
      · show StepR _ _ _ _ _ _ _ [20] [20] 21 _
        intro v S w HC HL HU HD Q hQ
        have e20 := Live.pure (HL 20 (by decide))
        simp only [putsF, dstM, e20]
        go_wp2_with fail
        exact fin_pure hQ (by simp only [putsF, dstM, e20]; rfl) ⟨rfl, rfl⟩
      · show StepR _ _ _ _ _ _ _ [21] [21] 22 _
        intro v S w HC HL HU HD Q hQ
        have e21 := Live.pure (HL 21 (by decide))
        simp only [putsF, dstM, e21]
        obtain ⟨c0, c1, c2, c3, _, hbl⟩ := HEL.out w HC
        go_wp2_with fail
        exact fin_pure hQ (by simp only [putsF, dstM, e21]; rfl) ⟨rfl, rfl⟩
      · show StepR _ _ _ _ _ _ _ [17, 22] [17, 22] 23 _
        intro v S w HC HL HU HD Q hQ
        obtain ⟨s17, O17⟩ := Live.gro (HL 17 (by decide))
        obtain ⟨V17, hV17⟩ : ∃ V, v 17 = V := ⟨_, rfl⟩
        rw [hV17] at s17 O17
        have HV17 := bx hV17
        clear hV17
        have e22 := Live.pure (HL 22 (by decide))
        simp only [putsF, dstM, HV17.out, e22]
        obtain ⟨_, _, _, _, hmb, _⟩ := HEL.out w HC
        have HMB := bx hmb
        clear hmb
        go_wp2_with fail
        refine (rputAttrs_any base y.n y.c V17 l1 y.A y.L w O17.out (Nat.le_trans HBW.out HC.size) HYL.out HMB.out.2.2.2 HYN.out.2.2 HYN.out.2.1 (by have := L1.out; omega)).mono ?_
        rintro e w2 ⟨V2, rfl, G2⟩
        go_wp2_with fail
        exact fin_grow hQ (by simp only [putsF, dstM, HV17.out, e22]; rfl) G2 (fun q hq => ⟨17, by decide, rfl, by rw [s17]; exact hq⟩) (fun h => by rw [E2.out] at h; exact h)
      · show StepR _ _ _ _ _ _ _ [23] [23] 24 _
        intro v S w HC HL HU HD Q hQ
        obtain ⟨s23, O23⟩ := Live.gro (HL 23 (by decide))
        obtain ⟨V23, hV23⟩ : ∃ V, v 23 = V := ⟨_, rfl⟩
        rw [hV23] at s23 O23
        have HV23 := bx hV23
        clear hV23
        simp only [putsF, dstM, HV23.out]
        go_wp2_with fail
        exact fin_keep hQ (by simp only [putsF, dstM, HV23.out]; rfl) O23.out (fun q hq => ⟨23, by decide, rfl, by rw [s23]; exact hq⟩) (fun h => h)
      intro v' S w7 HC HL HD
      obtain ⟨s22, O22⟩ := Live.gro (HL 24 (by decide) (by decide)).1
      have hu := (HL 24 (by decide) (by decide)).2
      obtain ⟨V9, hV9⟩ : ∃ V, v' 24 = V := ⟨_, rfl⟩
      rw [hV9] at s22 O22
      have HV9 := bx hV9
      have HG9 : Bx (GrR w w7 base 5 v V9 (o ++ (beB 2 (na : Int) ++ (M.take (k + 1)).flatMap memB'))) := bx (by
        rw [← HE3.out]
        exact HG.out.trans (GrR.of O22.out HC L3.out (fun q hq => hu q (by rw [s22]; exact hq))))
      clear HL HD HC hu O22 s22 hV9
      show Exit.inBlock _ _ Exit.normal (putsF dstM v' _ [24, 23, 22, 21, 20, 19, 18, 17, 16, 15, 14, 13, 12, 11, 10, 9, 8, 7, 6, 5, 4, 3, 2, 1, 0]) w7
      simp only [putsF, dstM, Act.put, List.setIfInBounds_toArray, List.set_cons_succ, List.set_cons_zero]
      rw [HV9.out]
      go_wp2
      go_roundw
      case rel => exact ⟨k + 1, by omega, by go_num, HG9⟩
      case measure => simp [intOf]; omega
    · obtain rfl : na = k := by omega
      have hkI : ¬ (na : Int) < (na : Int) := by omega
      have HF : Bx (GrR w wr base 5 v (.slice AV nV cV) (o ++ (beB 2 (na : Int) ++ M.flatMap memB'))) := bx (by have := HG.out; rwa [List.take_of_length_le (by rw [HL.out]; omega)] at this)
      go_wp2
      go_ret
      exact ⟨_, rfl, HF.out⟩
end Go.Proofs.Ytdioijhmmmnbgaa
