/- Contract: samovarref14.putAttrs. -/
import Derived.Test.YtdioijhmmmnbgaaQiRiP
import Derived.Test.YtdioijhmmmnbgaaPi4
import Derived.Test.YtdioijhmmmnbgaaPi7
import Derived.Deep.DeepCutAuto
import Derived.Deep.CutBlock
import Derived.Deep.RegionLaw
namespace Go.Proofs.Ytdioijhmmmnbgaa
open Go.RowKit
/-- A row that grows, as an answer. -/
def fGro (base : Nat) (E : TypeId) (l : List UInt8) (x : Value) (S : Nat → Prop) (w : World) : Prop := S = Fow x ∧ OwB w base E x l
def fGroI (base : Nat) (E : TypeId) (V : Value) (l : List UInt8) (x : Value) (S : Nat → Prop) (w : World) : Prop := x = V ∧ fGro base E l x S w
section
variable {base : Nat} {E : TypeId} {l l' : List UInt8} {x V V' : Value} {S : Nat → Prop} {w w' : World}
theorem Live.gro (h : Live (fGro base E l) x S w) : S = Fow x ∧ Bx (OwB w base E x l) := by
  obtain ⟨w1, ⟨s, o⟩, z, c⟩ := h
  exact ⟨s, bx (o.ch c (fun k hk hn => hn (by rw [s]; exact hk)))⟩
theorem Live.groI (h : Live (fGroI base E V l) x S w) : x = V ∧ S = Fow V ∧ Bx (OwB w base E V l) := by
  obtain ⟨w1, ⟨e, s, o⟩, z, c⟩ := h
  subst e
  exact ⟨rfl, s, bx (o.ch c (fun k hk hn => hn (by rw [s]; exact hk)))⟩
variable {Fj : Value → (Nat → Prop) → World → Prop} {C : Nat → Prop} {Q : Exit → Act → World → Prop} {A : Value → Act} {a : Act}
theorem fin_grow (hQ : ∀ x T w' a, a = A x → Fj x T w' → (∀ k, T k → k < w'.heap.size) → Ch w w' C → (∀ k, T k → C k ∨ w.heap.size ≤ k) → Q .normal a w') (ha : a = A V') (hG : GrR w w' base E V V' l') (hC : ∀ k, Fow V k → C k) (hF : fGro base E l' V' (Fow V') w' → Fj V' (Fow V') w') : Q .normal a w' :=
  hQ V' (Fow V') w' a ha (hF ⟨rfl, hG.own⟩) (fun k hk => (World.ownsRow.lt hG.own k hk).2) (hG.ch.mono (fun i _ h => hC i h)) (fun k hk => by
    have hk : V'.ownBlock = some k := hk
    rcases hG.on with e | ⟨b, e, hb⟩
    · exact .inl (hC k (e.symm.trans hk))
    · rw [e] at hk; injection hk with hk; exact .inr (by omega))
theorem fin_keep (hQ : ∀ x T w' a, a = A x → Fj x T w' → (∀ k, T k → k < w'.heap.size) → Ch w w' C → (∀ k, T k → C k ∨ w.heap.size ≤ k) → Q .normal a w') (ha : a = A V) (h0 : OwB w base E V l) (hC : ∀ k, Fow V k → C k) (hF : fGro base E l V (Fow V) w → Fj V (Fow V) w) : Q .normal a w :=
  fin_grow hQ ha (GrR.start h0) hC hF
/-- What lies below a growing row stays. -/
theorem low_of {base : Nat} {w w' : World} {V : Value} (hb : base ≤ w.heap.size) (hV : ∀ k, Fow V k → base ≤ k) (hc : Ch w w' (Fow V)) : Below base w w' := hc.below hb (fun k hk hf => by have := hV k hf; omega)
theorem GrR.low {v : Value} (h : GrR w w' base E v V l) (ho : OwB w base E v l') (hb : base ≤ w.heap.size) : Below base w w' := low_of hb (fun k hk => (World.ownsRow.lt ho k hk).1) h.ch
theorem GrR.of (ho : OwB w' base E V' l') (hc : Ch w w' (Fow V)) (hl : 0 < l'.length) (hu : ∀ k, Fow V' k → Fow V k ∨ w.heap.size ≤ k) : GrR w w' base E V V' l' := by
  refine ⟨ho, hc, ?_⟩
  obtain ⟨g, c, e, _, _⟩ := World.ownsRow.form ho hl
  have hg : Fow V' g := by show V'.ownBlock = some g; rw [e]; rfl
  rcases hu g hg with h | h
  · exact .inl ((show V'.ownBlock = some g from hg).trans (show V.ownBlock = some g from h).symm)
  · exact .inr ⟨g, hg, h⟩
end
def attB' (y : AtE) : List UInt8 := beB 2 y.name ++ (beB 4 (y.s.n : Int) ++ y.s.l)
theorem attBs_len : ∀ L : List AtE, (∀ y ∈ L, y.s.l.length ≤ 32768) → (L.flatMap attB').length ≤ L.length * 32774 := by
  intro L
  induction L with
  | nil => intro _; simp
  | cons y r ih =>
    intro h
    have h1 := ih (fun z hz => h z (List.mem_cons_of_mem _ hz))
    have h2 := h y (List.mem_cons_self ..)
    have e : (attB' y).length = 2 + (4 + y.s.l.length) := by unfold attB'; rw [List.length_append, List.length_append, beB_len, beB_len]
    rw [List.flatMap_cons, List.length_append, List.length_cons, e]
    omega
def dstA : Nat → Option Tmp
  | 0 => some 17
  | 1 => some 18
  | 2 => some 19
  | 3 => some 20
  | 4 => some 21
  | 5 => some 22
  | 6 => some 23
  | 7 => some 24
  | 8 => some 25
  | 9 => some 26
  | 10 => some 27
  | 11 => some 28
  | 12 => some 29
  | 13 => some 30
  | 14 => some 31
  | 15 => some 32
  | 16 => some 33
  | 17 => some 34
  | 18 => some 35
  | 19 => some 36
  | 20 => some 37
  | 21 => some 38
  | 22 => some 0
  | _ => none
def consA : Nat → Nat
  | 23 => 7
  | 7 => 15
  | 15 => 21
  | 21 => 22
  | _ => 1000
def DA : List (List Nat) := [[], [], [], [1, 2], [3], [4], [5], [0, 6], [], [], [8, 9], [10], [11], [12], [13], [7, 14], [], [], [16, 17], [18], [19], [15, 20], [21]]
def IA : List (List Nat) := [[], [], [], [], [], [], [], [23], [], [], [], [], [], [], [], [], [], [], [], [], [], [], []]
def FA (base : Nat) (E : TypeId) (V : Value) (ad : Addr) (na ca k : Nat) (nm : Int) (sA : Option Addr) (sn sc : Nat) (l0 l1 l2 l3 : List UInt8) : Nat → Value → (Nat → Prop) → World → Prop
  | 0 => fPure V
  | 1 => fPure (.slice (some ad) na ca)
  | 2 => fPure (.int .i64 (k : Int))
  | 3 => fPure (.pointer (some (ad.add (k * 2))))
  | 4 => fPure (.pointer (some (ad.add (k * 2))))
  | 5 => fPure (.int .i64 nm)
  | 6 => fRow [nm] 1
  | 7 => fGro base E l1
  | 8 => fPure (.slice (some ad) na ca)
  | 9 => fPure (.int .i64 (k : Int))
  | 10 => fPure (.pointer (some (ad.add (k * 2))))
  | 11 => fPure (.pointer (some ⟨(ad.add (k * 2)).block, (ad.add (k * 2)).off + 1, none⟩))
  | 12 => fPure (.slice sA sn sc)
  | 13 => fPure (.int .i64 (sn : Int))
  | 14 => fRow [(sn : Int)] 1
  | 15 => fGro base E l2
  | 16 => fPure (.slice (some ad) na ca)
  | 17 => fPure (.int .i64 (k : Int))
  | 18 => fPure (.pointer (some (ad.add (k * 2))))
  | 19 => fPure (.pointer (some ⟨(ad.add (k * 2)).block, (ad.add (k * 2)).off + 1, none⟩))
  | 20 => fPure (.slice sA sn sc)
  | 21 => fGro base E l3
  | 22 => fGro base E l3
  | 23 => fGroI base E V l0
  | _ => fun _ _ _ => True
set_option maxRecDepth 100000 in
set_option maxHeartbeats 16000000 in
theorem rputAttrs_any (base na ca : Nat) (v : Value) (o : List UInt8) (A : Option Addr) (M : List AtE) (w : World) (h : OwB w base 5 v o) (hb : base ≤ w.heap.size) (hm : M.length = na) (hM : RA w base A M) (hn : ∀ y ∈ M, (-9223372036854775808 ≤ y.name ∧ y.name ≤ 9223372036854775807) ∧ y.s.n ≤ 32768) (hna : na ≤ 64) (ho : o.length ≤ 900000000000) :
    Calls Try.prog 46 #[v, .slice A na ca] w (RPut w base v (o ++ (beB 2 (na : Int) ++ M.flatMap attB'))) := by
  have HO := bx ho
  have HB := bx hb
  have HL := bx hm
  have HM := bx hM
  have HNS := bx hn
  have HW0 := bx h
  have HP0 := bx (rput14_any base 2 1 1 v o (some ⟨w.heap.size, 0, none⟩) [(na : Int)] (w.alloc (.cells #[.int .i64 (na : Int)] 3)) (h.alloc _) (Nat.le_trans hb (by simp)) rfl (RL.top (RL.freshe w (na : Int) rfl _)) (fun _ ad ha => by
    injection ha with ha
    rw [← ha]
    intro hf
    have := (World.ownsRow.lt h _ hf).2
    exact Nat.lt_irrefl _ this) (fun x hx => by
    rcases List.mem_cons.1 hx with rfl | hx
    · omega
    · cases hx) (by decide) (by decide) (by decide) (by omega))
  clear h hb hm hM hn ho
  go_enter Try.func46, Try.ntmps46
  go_wp2_with fail
  refine HP0.out.mono ?_
  rintro e w1 ⟨V1, rfl, hg1⟩
  have HG1 : Bx (GrR w w1 base 5 v V1 (o ++ (beB 2 (na : Int) ++ (M.take 0).flatMap attB'))) := bx (by
    have g0 := ((GrR.start HW0.out).alloc (.cells #[.int .i64 (na : Int)] 3)).trans hg1
    simpa using g0)
  clear hg1 HP0
  go_wp2_with fail
  go_loopw [0, 5] (fun V iv wx => ∃ k : Nat, k ≤ na ∧ iv = .int .i64 (k : Int) ∧ Bx (GrR w wx base 5 v V (o ++ (beB 2 (na : Int) ++ (M.take k).flatMap attB')))) (fun _ iv _ => na - (intOf iv).toNat)
  case atStart => exact ⟨0, by omega, rfl, HG1⟩
  case round =>
    clear HG1
    obtain ⟨k, hk, rfl, HG⟩ := hrel
    obtain ⟨AV, nV, cV, rfl, _, _⟩ := OwL.sl HG.out.own
    have hz := HG.out.ch.size
    have HLO := bx (HG.out.low HW0.out HB.out)
    by_cases hkn : k < na
    · have hkI : (k : Int) < (na : Int) := by omega
      have hkJ : (0 : Int) ≤ (k : Int) := by omega
      obtain ⟨ad, y, rfl, hlt, HY, p0, p1, HSY⟩ := (HM.out.below HLO.out (Nat.le_refl _)).at_ (k := k) (by rw [HL.out]; exact hkn)
      have hyn := HNS.out y (List.mem_of_getElem? HY.out)
      have HYN := bx hyn
      have hbw : base ≤ wr.heap.size := Nat.le_trans HB.out hz
      have HBW := bx hbw
      have HVL : Bx (∀ q, Fow (.slice AV nV cV) q → base ≤ q ∧ q < wr.heap.size) := bx (fun q hq => World.ownsRow.lt HG.out.own q hq)
      have HEL : Bx (∀ wx, Ch wr wx (Fow (.slice AV nV cV)) → wx.cell? (ad.add (k * 2)) = some (.int .i64 y.name) ∧ wx.cell? ⟨(ad.add (k * 2)).block, (ad.add (k * 2)).off + 1, none⟩ = some (.slice y.s.A y.s.n y.s.c) ∧ SlB wx base y.s ∧ ad.block < wx.heap.size) := bx (fun wx hc => by
        have hlow := low_of HBW.out (fun q hq => (HVL.out q hq).1) hc
        exact ⟨(hlow.cell (p := ad.add (k * 2)) (by rw [blk_add]; exact hlt)).trans p0, (hlow.cell (p := ⟨(ad.add (k * 2)).block, (ad.add (k * 2)).off + 1, none⟩) (by rw [blk_add]; exact hlt)).trans p1, HSY.out.below hlow (Nat.le_refl _), Nat.lt_of_lt_of_le hlt (Nat.le_trans hbw hc.size)⟩)
      have HYL := bx HSY.out.1
      obtain ⟨l0, hl0⟩ : ∃ l, o ++ (beB 2 (na : Int) ++ (M.take k).flatMap attB') = l := ⟨_, rfl⟩
      obtain ⟨l1, hl1⟩ : ∃ l, l0 ++ [y.name].flatMap (beB 2) = l := ⟨_, rfl⟩
      obtain ⟨l2, hl2⟩ : ∃ l, l1 ++ [(y.s.n : Int)].flatMap (beB 4) = l := ⟨_, rfl⟩
      obtain ⟨l3, hl3⟩ : ∃ l, l2 ++ y.s.l = l := ⟨_, rfl⟩
      have HE3 : Bx (l3 = o ++ (beB 2 (na : Int) ++ (M.take (k + 1)).flatMap attB')) := bx (by
        rw [← hl3, ← hl2, ← hl1, ← hl0, take_next HY.out, List.flatMap_append]
        show _ = o ++ (beB 2 (na : Int) ++ ((M.take k).flatMap attB' ++ [y].flatMap attB'))
        simp [attB', List.append_assoc])
      have hlen0 : l0.length ≤ 900002200000 := by
        rw [← hl0, List.length_append, List.length_append, beB_len]
        have h9 := attBs_len (M.take k) (fun z hz => by
          have hzM := List.mem_of_mem_take hz
          have := (HNS.out z hzM).2
          rw [(HM.out.2 z hzM).1]; exact this)
        have h8 : (M.take k).length ≤ 64 := by rw [List.length_take]; omega
        have h7 : (M.take k).length * 32774 ≤ 64 * 32774 := Nat.mul_le_mul h8 (Nat.le_refl _)
        have := HO.out
        omega
      have hlen1 : l1.length ≤ 900002200002 := by rw [← hl1, List.length_append, beBs_len]; simp only [List.length_singleton]; omega
      have hlen2 : l2.length ≤ 900002200006 := by rw [← hl2, List.length_append, beBs_len]; simp only [List.length_singleton]; omega
      have N3 : Bx ((l2.length + y.s.l.length) * 1 ≤ 140737488355328) := bx (by rw [HYL.out]; omega)
      have HG0 : Bx (OwB wr base 5 (.slice AV nV cV) l0) := bx (by rw [← hl0]; exact HG.out.own)
      have E1 := bx hl1
      have E2 := bx hl2
      have E3 := bx hl3
      have L0 := bx hlen0
      have L1 := bx hlen1
      have L3 : Bx (0 < l3.length) := bx (by rw [← hl3, List.length_append, ← hl2, List.length_append, beBs_len]; simp only [List.length_singleton]; omega)
      clear hl0 hl1 hl2 hl3 hlen0 hlen1 hlen2 p0 p1 HSY hyn hlt
      go_upto_region 5 with (fail)
      refine wp_region_res (by kernel_rfl) dstA (by kernel_rfl) (FA base 5 (.slice AV nV cV) ad na ca k y.name y.s.A y.s.n y.s.c l0 l1 l2 l3) consA (Fow (.slice AV nV cV)) DA IA (by kernel_rfl) (.slice AV nV cV) (Fow (.slice AV nV cV)) ⟨rfl, rfl, HG0.out⟩ (fun q h => (HVL.out q h).2) (fun _ h => h) ⟨?_, ?_, ?_, ?_, ?_, ?_, ?_, ?_, ?_, ?_, ?_, ?_, ?_, ?_, ?_, ?_, ?_, ?_, ?_, ?_, ?_, ?_, ?_, trivial⟩ ?_

      · show StepR _ _ _ _ _ _ _ [] [] 0 _
        intro v S w HC HL HU HD Q hQ
        simp only [putsF]
        go_wp2_with fail
        exact fin_pure hQ rfl ⟨rfl, rfl⟩
      · show StepR _ _ _ _ _ _ _ [] [] 1 _
        intro v S w HC HL HU HD Q hQ
        simp only [putsF]
        go_wp2_with fail
        exact fin_pure hQ rfl ⟨rfl, rfl⟩
      · show StepR _ _ _ _ _ _ _ [] [] 2 _
        intro v S w HC HL HU HD Q hQ
        simp only [putsF]
        go_wp2_with fail
        exact fin_pure hQ rfl ⟨rfl, rfl⟩
      · show StepR _ _ _ _ _ _ _ [1, 2] [1, 2] 3 _
        intro v S w HC HL HU HD Q hQ
        have e1 := Live.pure (HL 1 (by decide))
        have e2 := Live.pure (HL 2 (by decide))
        simp only [putsF, dstA, e1, e2]
        go_wp2_with fail
        exact fin_pure hQ (by simp only [putsF, dstA, e1, e2]; rfl) ⟨rfl, rfl⟩
      · show StepR _ _ _ _ _ _ _ [3] [3] 4 _
        intro v S w HC HL HU HD Q hQ
        have e3 := Live.pure (HL 3 (by decide))
        simp only [putsF, dstA, e3]
        go_wp2_with fail
        exact fin_pure hQ (by simp only [putsF, dstA, e3]; rfl) ⟨rfl, rfl⟩
      · show StepR _ _ _ _ _ _ _ [4] [4] 5 _
        intro v S w HC HL HU HD Q hQ
        have e4 := Live.pure (HL 4 (by decide))
        simp only [putsF, dstA, e4]
        obtain ⟨c0, c1, _, hbl⟩ := HEL.out w HC
        go_wp2_with fail
        exact fin_pure hQ (by simp only [putsF, dstA, e4]; rfl) ⟨rfl, rfl⟩
      · show StepR _ _ _ _ _ _ _ [5] [5] 6 _
        intro v S w HC HL HU HD Q hQ
        have e5 := Live.pure (HL 5 (by decide))
        simp only [putsF, dstA, e5]
        go_wp2_with fail
        exact fin_blk hQ (by simp only [putsF, dstA, e5]; rfl) ⟨_, rfl, rfl, (RL.freshe w y.name rfl _).more (by simp)⟩
      · show StepR _ _ _ _ _ _ _ [0, 6] [0, 6, 23] 7 _
        intro v S w HC HL HU HD Q hQ
        have e0 := Live.pure (HL 0 (by decide))
        obtain ⟨g6, e6, s6, R6, Z6⟩ := Live.row (HL 6 (by decide))
        obtain ⟨eI, s23, O23⟩ := Live.groI (HL 23 (by decide))
        simp only [putsF, dstA, e0, e6]
        go_wp2_with fail
        have hdj : ¬ Fow (.slice AV nV cV) g6 := fun hf => HD 23 (by decide) 6 (by decide) (by decide) g6 (by rw [s23]; exact hf) (by rw [s6])
        refine (rput14_any base 2 1 1 (.slice AV nV cV) l0 (some ⟨g6, 0, none⟩) [y.name] w O23.out (Nat.le_trans HBW.out HC.size) rfl R6.out (fun _ ad ha => by injection ha with ha; rw [← ha]; exact hdj) (fun z hz => by rcases List.mem_cons.1 hz with rfl | hz; exact HYN.out.1; cases hz) (by decide) (by decide) (by decide) (by have := L0.out; omega)).mono ?_
        rintro e w2 ⟨V2, rfl, G2⟩
        go_wp2_with fail
        exact fin_grow hQ (by simp only [putsF, dstA, e0, e6]; rfl) G2 (fun q hq => ⟨23, by decide, rfl, by rw [s23]; exact hq⟩) (fun h => by rw [E1.out] at h; exact h)
      · show StepR _ _ _ _ _ _ _ [] [] 8 _
        intro v S w HC HL HU HD Q hQ
        simp only [putsF]
        go_wp2_with fail
        exact fin_pure hQ rfl ⟨rfl, rfl⟩
      · show StepR _ _ _ _ _ _ _ [] [] 9 _
        intro v S w HC HL HU HD Q hQ
        simp only [putsF]
        go_wp2_with fail
        exact fin_pure hQ rfl ⟨rfl, rfl⟩
      · show StepR _ _ _ _ _ _ _ [8, 9] [8, 9] 10 _
        intro v S w HC HL HU HD Q hQ
        have e8 := Live.pure (HL 8 (by decide))
        have e9 := Live.pure (HL 9 (by decide))
        simp only [putsF, dstA, e8, e9]
        go_wp2_with fail
        exact fin_pure hQ (by simp only [putsF, dstA, e8, e9]; rfl) ⟨rfl, rfl⟩
      · show StepR _ _ _ _ _ _ _ [10] [10] 11 _
        intro v S w HC HL HU HD Q hQ
        have e10 := Live.pure (HL 10 (by decide))
        simp only [putsF, dstA, e10]
        go_wp2_with fail
        exact fin_pure hQ (by simp only [putsF, dstA, e10]; rfl) ⟨rfl, rfl⟩
      · show StepR _ _ _ _ _ _ _ [11] [11] 12 _
        intro v S w HC HL HU HD Q hQ
        have e11 := Live.pure (HL 11 (by decide))
        simp only [putsF, dstA, e11]
        obtain ⟨c0, c1, _, hbl⟩ := HEL.out w HC
        go_wp2_with fail
        exact fin_pure hQ (by simp only [putsF, dstA, e11]; rfl) ⟨rfl, rfl⟩
      · show StepR _ _ _ _ _ _ _ [12] [12] 13 _
        intro v S w HC HL HU HD Q hQ
        have e12 := Live.pure (HL 12 (by decide))
        simp only [putsF, dstA, e12]
        have hb9 : (y.s.n : Int) ≤ 9223372036854775807 := by have := HYN.out.2; omega
        go_wp2_with fail
        exact fin_pure hQ (by simp only [putsF, dstA, e12]; rfl) ⟨rfl, rfl⟩
      · show StepR _ _ _ _ _ _ _ [13] [13] 14 _
        intro v S w HC HL HU HD Q hQ
        have e13 := Live.pure (HL 13 (by decide))
        simp only [putsF, dstA, e13]
        go_wp2_with fail
        exact fin_blk hQ (by simp only [putsF, dstA, e13]; rfl) ⟨_, rfl, rfl, (RL.freshe w (y.s.n : Int) rfl _).more (by simp)⟩
      · show StepR _ _ _ _ _ _ _ [7, 14] [7, 14] 15 _
        intro v S w HC HL HU HD Q hQ
        obtain ⟨s7, O7⟩ := Live.gro (HL 7 (by decide))
        obtain ⟨V7, hV7⟩ : ∃ V, v 7 = V := ⟨_, rfl⟩
        rw [hV7] at s7 O7
        have HV7 := bx hV7
        clear hV7
        obtain ⟨g14, e14, s14, R14, Z14⟩ := Live.row (HL 14 (by decide))
        simp only [putsF, dstA, HV7.out, e14]
        go_wp2_with fail
        have hdj : ¬ Fow V7 g14 := fun hf => HD 7 (by decide) 14 (by decide) (by decide) g14 (by rw [s7]; exact hf) (by rw [s14])
        refine (rput14_any base 4 1 1 V7 l1 (some ⟨g14, 0, none⟩) [(y.s.n : Int)] w O7.out (Nat.le_trans HBW.out HC.size) rfl R14.out (fun _ ad ha => by injection ha with ha; rw [← ha]; exact hdj) (fun z hz => by rcases List.mem_cons.1 hz with rfl | hz; exact ⟨by omega, by have := HYN.out.2; omega⟩; cases hz) (by decide) (by decide) (by decide) (by have := L1.out; omega)).mono ?_
        rintro e w2 ⟨V2, rfl, G2⟩
        go_wp2_with fail
        exact fin_grow hQ (by simp only [putsF, dstA, HV7.out, e14]; rfl) G2 (fun q hq => ⟨7, by decide, rfl, by rw [s7]; exact hq⟩) (fun h => by rw [E2.out] at h; exact h)
      · show StepR _ _ _ _ _ _ _ [] [] 16 _
        intro v S w HC HL HU HD Q hQ
        simp only [putsF]
        go_wp2_with fail
        exact fin_pure hQ rfl ⟨rfl, rfl⟩
      · show StepR _ _ _ _ _ _ _ [] [] 17 _
        intro v S w HC HL HU HD Q hQ
        simp only [putsF]
        go_wp2_with fail
        exact fin_pure hQ rfl ⟨rfl, rfl⟩
      · show StepR _ _ _ _ _ _ _ [16, 17] [16, 17] 18 _
        intro v S w HC HL HU HD Q hQ
        have e16 := Live.pure (HL 16 (by decide))
        have e17 := Live.pure (HL 17 (by decide))
        simp only [putsF, dstA, e16, e17]
        go_wp2_with fail
        exact fin_pure hQ (by simp only [putsF, dstA, e16, e17]; rfl) ⟨rfl, rfl⟩
      · show StepR _ _ _ _ _ _ _ [18] [18] 19 _
        intro v S w HC HL HU HD Q hQ
        have e18 := Live.pure (HL 18 (by decide))
        simp only [putsF, dstA, e18]
        go_wp2_with fail
        exact fin_pure hQ (by simp only [putsF, dstA, e18]; rfl) ⟨rfl, rfl⟩
      · show StepR _ _ _ _ _ _ _ [19] [19] 20 _
        intro v S w HC HL HU HD Q hQ
        have e19 := Live.pure (HL 19 (by decide))
        simp only [putsF, dstA, e19]
        obtain ⟨c0, c1, _, hbl⟩ := HEL.out w HC
        go_wp2_with fail
        exact fin_pure hQ (by simp only [putsF, dstA, e19]; rfl) ⟨rfl, rfl⟩
      · show StepR _ _ _ _ _ _ _ [15, 20] [15, 20] 21 _
        intro v S w HC HL HU HD Q hQ
        obtain ⟨s15, O15⟩ := Live.gro (HL 15 (by decide))
        obtain ⟨V15, hV15⟩ : ∃ V, v 15 = V := ⟨_, rfl⟩
        rw [hV15] at s15 O15
        have HV15 := bx hV15
        clear hV15
        have e20 := Live.pure (HL 20 (by decide))
        simp only [putsF, dstA, HV15.out, e20]
        obtain ⟨_, _, hsl, _⟩ := HEL.out w HC
        have HSL := bx hsl
        clear hsl
        go_wp2_with (at_builtin; refine wpList_appL _ bV_one rfl (.tmp 32) (.tmp 37) rfl byteTyP (by decide) base V15 l2 rfl O15.out base y.s.A y.s.n y.s.c y.s.l rfl HYL.out HSL.out.2.2.2 N3.out (Nat.le_trans HBW.out HC.size) ?_; intro v5 w5 hO5 hg5 hv5 _)
        exact fin_grow hQ (by simp only [putsF, dstA, HV15.out, e20]; rfl) ⟨hO5, (grown_ch hg5 hv5).1, (grown_ch hg5 hv5).2⟩ (fun q hq => ⟨15, by decide, rfl, by rw [s15]; exact hq⟩) (fun h => by rw [E3.out] at h; exact h)
      · show StepR _ _ _ _ _ _ _ [21] [21] 22 _
        intro v S w HC HL HU HD Q hQ
        obtain ⟨s21, O21⟩ := Live.gro (HL 21 (by decide))
        obtain ⟨V21, hV21⟩ : ∃ V, v 21 = V := ⟨_, rfl⟩
        rw [hV21] at s21 O21
        have HV21 := bx hV21
        clear hV21
        simp only [putsF, dstA, HV21.out]
        go_wp2_with fail
        exact fin_keep hQ (by simp only [putsF, dstA, HV21.out]; rfl) O21.out (fun q hq => ⟨21, by decide, rfl, by rw [s21]; exact hq⟩) (fun h => h)
      intro v' S w7 HC HL HD
      obtain ⟨s22, O22⟩ := Live.gro (HL 22 (by decide) (by decide)).1
      have hu := (HL 22 (by decide) (by decide)).2
      obtain ⟨V9, hV9⟩ : ∃ V, v' 22 = V := ⟨_, rfl⟩
      rw [hV9] at s22 O22
      have HV9 := bx hV9
      have HG9 : Bx (GrR w w7 base 5 v V9 (o ++ (beB 2 (na : Int) ++ (M.take (k + 1)).flatMap attB'))) := bx (by
        rw [← HE3.out]
        exact HG.out.trans (GrR.of O22.out HC L3.out (fun q hq => hu q (by rw [s22]; exact hq))))
      clear HL HD HC hu O22 s22 hV9
      show Exit.inBlock _ _ Exit.normal (putsF dstA v' _ [22, 21, 20, 19, 18, 17, 16, 15, 14, 13, 12, 11, 10, 9, 8, 7, 6, 5, 4, 3, 2, 1, 0]) w7
      simp only [putsF, dstA, Act.put, List.setIfInBounds_toArray, List.set_cons_succ, List.set_cons_zero]
      rw [HV9.out]
      go_wp2
      go_roundw
      case rel => exact ⟨k + 1, by omega, by go_num, HG9⟩
      case measure => simp [intOf]; omega
    · obtain rfl : na = k := by omega
      have hkI : ¬ (na : Int) < (na : Int) := by omega
      have HF : Bx (GrR w wr base 5 v (.slice AV nV cV) (o ++ (beB 2 (na : Int) ++ M.flatMap attB'))) := bx (by have := HG.out; rwa [List.take_of_length_le (by rw [HL.out]; omega)] at this)
      go_wp2
      go_ret
      exact ⟨_, rfl, HF.out⟩
end Go.Proofs.Ytdioijhmmmnbgaa
