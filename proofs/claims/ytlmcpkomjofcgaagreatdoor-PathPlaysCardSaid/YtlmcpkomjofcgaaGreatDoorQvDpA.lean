/- Contract of the document's path: New. -/
import Derived.Test.YtlmcpkomjofcgaaGreatDoorQvDfE
import Derived.Test.YtlmcpkomjofcgaaGreatDoorPv13
namespace Go.Proofs.YtlmcpkomjofcgaaGreatDoor
open Go.RowKit
theorem info_bool10 : (Tryz.prog.info? 4).map (fun i => (i.zero, i.size, i.bytes)) = some (some (.bool false), 1, 1) := by kernel_rfl
theorem info_rcs10 : (Tryz.prog.info? 67).map (fun i => (i.zero, i.size, i.bytes)) = some (some (.slice none 0 0), 1, 24) := by kernel_rfl
/-- A row of texts of the call's own; a made row; what is built of them. -/
def fOw (B : Nat) (l : List (List UInt8)) (x : Value) (S : Nat → Prop) (w : World) : Prop := S = Fow x ∧ OwL strV w B 9 x l
def fMk (B n : Nat) (t : TypeId) (cs : Array Value) (x : Value) (S : Nat → Prop) (w : World) : Prop := ∃ g, x = .slice (some ⟨g, 0, none⟩) n n ∧ S = (fun k => k = g) ∧ Bk w g t cs ∧ B ≤ g
structure Bl (w : World) (B : Nat) (nms : List (List UInt8)) (cs1 cs2 : Array Value) (vA : Value) (gT gD : Nat) : Prop where
  own : OwL strV w B 9 vA nms
  bT : Bk w gT 4 cs1
  bD : Bk w gD 67 cs2
  ne : gT ≠ gD ∧ ¬ Fow vA gT ∧ ¬ Fow vA gD
  lo : B ≤ gT ∧ B ≤ gD
def fBl (B n bx : Nat) (nms : List (List UInt8)) (cs1 cs2 : Array Value) (x : Value) (S : Nat → Prop) (w : World) : Prop := ∃ vA gT gD, x = .agg #[.pointer (some ⟨bx, 0, none⟩), vA, .slice (some ⟨gT, 0, none⟩) n n, .slice (some ⟨gD, 0, none⟩) n n] ∧ S = (fun k => Fow vA k ∨ k = gT ∨ k = gD) ∧ Bl w B nms cs1 cs2 vA gT gD
def fNp (B n bx : Nat) (nms : List (List UInt8)) (cs1 cs2 : Array Value) (x : Value) (S : Nat → Prop) (w : World) : Prop := ∃ vA gT gD gq, x = .pointer (some ⟨gq, 0, none⟩) ∧ S = (fun k => (Fow vA k ∨ k = gT ∨ k = gD) ∨ k = gq) ∧ Bl w B nms cs1 cs2 vA gT gD ∧ Bk w gq 80 #[.pointer (some ⟨bx, 0, none⟩), vA, .slice (some ⟨gT, 0, none⟩) n n, .slice (some ⟨gD, 0, none⟩) n n] ∧ (gq ≠ gT ∧ gq ≠ gD ∧ ¬ Fow vA gq) ∧ B ≤ gq
section
variable {B n bq : Nat} {nms : List (List UInt8)} {cs1 cs2 cs : Array Value} {t : TypeId} {x v1 : Value} {S : Nat → Prop} {w w' : World} {vA : Value} {gT gD : Nat}
theorem Bl.ch {U : Nat → Prop} (h : Bl w B nms cs1 cs2 vA gT gD) (c : Ch w w' U) (hU : ∀ k, (Fow vA k ∨ k = gT ∨ k = gD) → ¬ U k) : Bl w' B nms cs1 cs2 vA gT gD :=
  ⟨h.own.ch c (fun k hk => hU k (.inl hk)), h.bT.ch c (hU _ (.inr (.inl rfl))), h.bD.ch c (hU _ (.inr (.inr rfl))), h.ne, h.lo⟩
theorem Live.ow (h : Live (fOw B nms) x S w) : S = Fow x ∧ Bx (OwL strV w B 9 x nms) := by
  obtain ⟨w1, ⟨s, o⟩, z, c⟩ := h
  exact ⟨s, bx (o.ch c (fun k hk hn => hn (by rw [s]; exact hk)))⟩
theorem Live.mk (h : Live (fMk B n t cs) x S w) : ∃ g, x = .slice (some ⟨g, 0, none⟩) n n ∧ S = (fun k => k = g) ∧ Bx (Bk w g t cs) ∧ B ≤ g := by
  obtain ⟨w1, ⟨g, e, s, o, hB⟩, z, c⟩ := h
  exact ⟨g, e, s, bx (o.ch c (fun hn => hn (by rw [s]))), hB⟩
theorem Live.bl (h : Live (fBl B n bq nms cs1 cs2) x S w) : ∃ vA gT gD, x = .agg #[.pointer (some ⟨bq, 0, none⟩), vA, .slice (some ⟨gT, 0, none⟩) n n, .slice (some ⟨gD, 0, none⟩) n n] ∧ S = (fun k => Fow vA k ∨ k = gT ∨ k = gD) ∧ Bx (Bl w B nms cs1 cs2 vA gT gD) := by
  obtain ⟨w1, ⟨vA, gT, gD, e, s, o⟩, z, c⟩ := h
  exact ⟨vA, gT, gD, e, s, bx (o.ch c (fun k hk hn => hn (by rw [s]; exact hk)))⟩
theorem Live.np (h : Live (fNp B n bq nms cs1 cs2) x S w) : ∃ vA gT gD gq, x = .pointer (some ⟨gq, 0, none⟩) ∧ S = (fun k => (Fow vA k ∨ k = gT ∨ k = gD) ∨ k = gq) ∧ Bx (fNp B n bq nms cs1 cs2 x S w) := by
  obtain ⟨w1, ⟨vA, gT, gD, gq, e, s, o, b, hn, hB⟩, z, c⟩ := h
  exact ⟨vA, gT, gD, gq, e, s, bx ⟨vA, gT, gD, gq, e, s, o.ch c (fun k hk hn => hn (by rw [s]; exact .inl hk)), b.ch c (fun hn => hn (by rw [s]; exact .inr rfl)), hn, hB⟩⟩
variable {Fj : Value → (Nat → Prop) → World → Prop} {C : Nat → Prop} {Q : Exit → Act → World → Prop} {A : Value → Act} {a : Act}
theorem fin_ow {l : List (List UInt8)} (hQ : ∀ x T w' a, a = A x → Fj x T w' → (∀ k, T k → k < w'.heap.size) → Ch w w' C → (∀ k, T k → C k ∨ w.heap.size ≤ k) → Q .normal a w') (ha : a = A x) (ho : OwL strV w' B 9 x l) (hF : fOw B l x (Fow x) w' → Fj x (Fow x) w') (hc : Ch w w' C) (hu : ∀ k, Fow x k → C k ∨ w.heap.size ≤ k) : Q .normal a w' :=
  hQ x (Fow x) w' a ha (hF ⟨rfl, ho⟩) (fun k hk => (World.ownsRow.lt ho k hk).2) hc hu
theorem fin_same {T : Nat → Prop} (hQ : ∀ x T w' a, a = A x → Fj x T w' → (∀ k, T k → k < w'.heap.size) → Ch w w' C → (∀ k, T k → C k ∨ w.heap.size ≤ k) → Q .normal a w') (ha : a = A x) (hF : Fj x T w) (ht : ∀ k, T k → k < w.heap.size) (hC : ∀ k, T k → C k) : Q .normal a w :=
  hQ x T w a ha hF ht (Ch.refl w) (fun k hk => .inl (hC k hk))
end
def dstN : Nat → Option Tmp
  | 0 => some 14
  | 1 => some 15
  | 2 => some 16
  | 3 => some 17
  | 4 => some 18
  | 5 => some 19
  | 6 => some 20
  | 7 => some 21
  | 8 => some 22
  | 9 => some 23
  | 10 => some 24
  | 11 => some 25
  | 12 => some 4
  | 13 => some 5
  | _ => none
def consN : Nat → Nat
  | 1 => 3
  | 3 => 10
  | 6 => 10
  | 9 => 10
  | 10 => 11
  | 11 => 12
  | _ => 1000
def DN : List (List Nat) := [[], [], [], [1, 2], [], [4], [5], [], [7], [8], [0, 3, 6, 9], [10], [11], []]
def IN : List (List Nat) := [[], [], [], [], [], [], [], [], [], [], [], [], [], []]
def FN (B n c bx : Nat) (A : Option Addr) (nms : List (List UInt8)) (cs1 cs2 : Array Value) : Nat → Value → (Nat → Prop) → World → Prop
  | 0 => fPure (.pointer (some ⟨bx, 0, none⟩))
  | 1 => fOw B []
  | 2 => fPure (.slice A n c)
  | 3 => fOw B nms
  | 4 => fPure (.slice A n c)
  | 5 => fPure (.int .i64 (n : Int))
  | 6 => fMk B n 4 cs1
  | 7 => fPure (.slice A n c)
  | 8 => fPure (.int .i64 (n : Int))
  | 9 => fMk B n 67 cs2
  | 10 => fBl B n bx nms cs1 cs2
  | 11 => fNp B n bx nms cs1 cs2
  | 12 => fNp B n bx nms cs1 cs2
  | 13 => fPure (.int .i64 0)
  | _ => fPure undef
/-- What New leaves. -/
def RNewP (w : World) (M N : Nat → Prop) (bx : Nat) (nms : List (List UInt8)) (e : Ending) (w' : World) : Prop :=
  ∃ gq bT bD, e = .returned (.tuple #[.pointer (some ⟨gq, 0, none⟩), .int .i64 0]) ∧ w.heap.size ≤ gq ∧ w.heap.size ≤ bT ∧ w.heap.size ≤ bD ∧ Below w.heap.size w w' ∧ DpM w' (fun k => M k ∨ k = gq ∨ k = bT ∨ k = bD) N gq bx bT bD nms (fun _ => none)
theorem dp_made {w w' : World} {M N : Nat → Prop} {n bx : Nat} {nms : List (List UInt8)} {cs1 cs2 : Array Value} {x : Value} {S : Nat → Prop} (h : fNp w.heap.size n bx nms cs1 cs2 x S w') (hb : Below w.heap.size w w') (hM : ∀ k, M k → k < w.heap.size) (hN : ∀ k, N k → M k) (hn : nms.length = n) (h18 : 1 ≤ n ∧ n ≤ 8) (hsh : ∀ x ∈ nms, x.length ≤ maxLen)
    (h1 : cs1.toList = List.replicate n (.bool false)) (h2 : cs2.toList = List.replicate n (.slice none 0 0)) :
    RNewP w M N bx nms (.returned (.tuple #[x, .int .i64 0])) w' := by
  obtain ⟨vA, gT, gD, gq, rfl, _, hbl, hq, hne, hlo⟩ := h
  obtain ⟨A', c', rfl, hr, hc1, hc2⟩ := OwL.rd hbl.own
  have hl := World.ownsRow.lt hbl.own
  have hsz1 : cs1.size = n := by rw [← Array.length_toList, h1, List.length_replicate]
  have hsz2 : cs2.size = n := by rw [← Array.length_toList, h2, List.length_replicate]
  subst hn
  refine ⟨gq, gT, gD, rfl, hlo, hbl.lo.1, hbl.lo.2, hb, A', c', fun _ => .slice none 0 0, hq, ⟨hc1, hc2⟩, fun hnn => ?_, Rw.of hbl.bT hsz1 (fun i hi => by rw [← Array.getElem?_toList, h1, List.getElem?_replicate, if_pos hi]; rfl), Rw.of hbl.bD hsz2 (fun i hi => by rw [← Array.getElem?_toList, h2, List.getElem?_replicate, if_pos hi]), (fun i l hi => by cases hi),
    ⟨.inr (.inl rfl), .inr (.inr (.inl rfl)), .inr (.inr (.inr rfl))⟩, ⟨fun e => by have := hM _ (hN _ e); omega, fun e => by have := hM _ (hN _ e); have := hbl.lo.1; omega, fun e => by have := hM _ (hN _ e); have := hbl.lo.2; omega⟩, ⟨hne.1, hne.2.1, hbl.ne.1⟩, (fun i l hi => by cases hi), h18, hsh, fun k hk => ?_⟩
  · obtain ⟨ad, e7, hbk, hcl⟩ := hr hnn
    subst e7
    have hlo2 := (hl ad.block rfl).1
    refine ⟨ad, rfl, ⟨hbk, fun hk => ?_⟩, hcl⟩
    rcases hk with e | e | e | e
    · have := hM _ e; omega
    · exact hne.2.2 (by rw [← e]; rfl)
    · exact hbl.ne.2.1 (by rw [← e]; rfl)
    · exact hbl.ne.2.2 (by rw [← e]; rfl)
  · rcases hk with e | e | e | e
    · exact Nat.lt_of_lt_of_le (hM k e) hb.size
    · rw [e]; exact hq.lt
    · rw [e]; exact hbl.bT.lt
    · rw [e]; exact hbl.bD.lt
set_option maxRecDepth 100000 in
set_option maxHeartbeats 1000000 in
theorem r22new_no (p : Value) (A : Option Addr) (n c : Nat) (w : World) (h : n = 0 ∨ (8 < n ∧ n ≤ 140737488351232)) :
    Calls Tryz.prog 16 #[p, .slice A n c] w fun e w' => e = .returned (.tuple #[.pointer none, .int .i64 1]) ∧ w' = w := by
  by_cases h1 : n < 1
  · have hI : (n : Int) < 1 := by omega
    clear h
    go_enter Tryz.func16, Tryz.ntmps16
    go_wp2
    go_ret2
    exact ⟨rfl, rfl⟩
  · have hI : ¬ (n : Int) < 1 := by omega
    have hI2 : (8 : Int) < (n : Int) := by omega
    clear h
    go_enter Tryz.func16, Tryz.ntmps16
    go_wp2
    go_ret2
    exact ⟨rfl, rfl⟩
set_option maxRecDepth 100000 in
set_option maxHeartbeats 8000000 in
theorem r22new_any (A : Option Addr) (n c : Nat) (nms : List (List UInt8)) (w : World) (M N : Nat → Prop) (bx0 : Nat) (F : FS) (h : DfM w M N bx0 F) (hn : nms.length = n) (h1 : 1 ≤ n) (h8 : n ≤ 8) (hr : RL strV w w.heap.size A nms) (hsh : ∀ x ∈ nms, x.length ≤ maxLen) :
    Calls Tryz.prog 16 #[.pointer (some ⟨bx0, 0, none⟩), .slice A n c] w (RNewP w M N bx0 nms) := by
  have HH := bx h
  have HN := bx hn
  have HR := bx hr
  have HSH := bx hsh
  have HNN : Bx ((([] : List (List UInt8)).length + nms.length) * 16 ≤ 140737488355328) := bx (by simp only [List.length_nil]; omega)
  obtain ⟨cs1, hcs1, hm1⟩ : ∃ cs : Array Value, cs.toList = List.replicate n (.bool false) ∧ ∀ w : World, (Instr.makeSlice 77 (.int .i64 (n : Int)) (.int .i64 (n : Int))).run Tryz.prog w = .ok (.slice (some ⟨w.heap.size, 0, none⟩) n n) (w.alloc (.cells cs 4)) :=
    ⟨madeCells #[.bool false] n, toList_madeCells_one _ _, fun w => run_make_row' 77 4 (.bool false) 1 Tryz.underlying77 info_bool10 rfl .i64 .i64 n (by omega) (by omega) w⟩
  obtain ⟨cs2, hcs2, hm2⟩ : ∃ cs : Array Value, cs.toList = List.replicate n (.slice none 0 0) ∧ ∀ w : World, (Instr.makeSlice 78 (.int .i64 (n : Int)) (.int .i64 (n : Int))).run Tryz.prog w = .ok (.slice (some ⟨w.heap.size, 0, none⟩) n n) (w.alloc (.cells cs 67)) :=
    ⟨madeCells #[.slice none 0 0] n, toList_madeCells_one _ _, fun w => run_make_row' 78 67 (.slice none 0 0) 24 Tryz.underlying78 info_rcs10 rfl .i64 .i64 n (by omega) (by omega) w⟩
  have h1I : ¬ (n : Int) < 1 := by omega
  have h8I : ¬ (8 : Int) < (n : Int) := by omega
  have H18 : Bx (1 ≤ n ∧ n ≤ 8) := bx ⟨h1, h8⟩
  have HC1 := bx hcs1
  have HC2 := bx hcs2
  have HM1 := bx hm1
  have HM2 := bx hm2
  have HZB : Bx (w.heap.size ≤ w.heap.size) := bx (Nat.le_refl _)
  clear h hn hr hsh hcs1 hcs2 hm1 hm2 h1 h8
  go_enter Tryz.func16, Tryz.ntmps16
  go_upto_region 3 with (fail)
  refine wp_region_res (by kernel_rfl) dstN (by kernel_rfl) (FN w.heap.size n c bx0 A nms cs1 cs2) consN fNo DN IN (by kernel_rfl) undef fNo ⟨rfl, rfl⟩ (fun q h => h.elim) (fun _ h => h) ⟨?_, ?_, ?_, ?_, ?_, ?_, ?_, ?_, ?_, ?_, ?_, ?_, ?_, ?_, trivial⟩ ?_
  · show StepR _ _ _ _ _ _ _ [] [] 0 _
    intro v S w9 HC HL HU HD Q hQ
    simp only [putsF]
    go_wp2_with fail
    exact fin_pure hQ rfl ⟨rfl, rfl⟩
  · show StepR _ _ _ _ _ _ _ [] [] 1 _
    intro v S w9 HC HL HU HD Q hQ
    simp only [putsF]
    go_wp2_with fail
    have hz9 := HC.size
    exact fin_ow hQ rfl (OwL.lit0 w9 hz9) (fun h => h) (Ch.of_below (bl_alloc (Below.refl _ _) (Nat.le_refl _) _)) (fun k hk => .inr (by have hk : some w9.heap.size = some k := hk; injection hk with hk; omega))
  · show StepR _ _ _ _ _ _ _ [] [] 2 _
    intro v S w9 HC HL HU HD Q hQ
    simp only [putsF]
    go_wp2_with fail
    exact fin_pure hQ rfl ⟨rfl, rfl⟩
  · show StepR _ _ _ _ _ _ _ [1, 2] [1, 2] 3 _
    intro v S w9 HC HL HU HD Q hQ
    obtain ⟨s1, O1⟩ := Live.ow (HL 1 (by decide))
    obtain ⟨V1, hV1⟩ : ∃ V, v 1 = V := ⟨_, rfl⟩
    rw [hV1] at s1 O1
    have HV1 := bx hV1
    clear hV1
    have e2 := Live.pure (HL 2 (by decide))
    simp only [putsF, dstN, HV1.out, e2]
    have hz9 := HC.size
    have hrw : RL strV w9 w.heap.size A nms := HR.out.below (HC.below (Nat.le_refl _) (fun _ _ h => h.elim)) (Nat.le_refl _)
    obtain ⟨A1, n1, c1, rfl, _, _⟩ := OwL.sl O1.out
    go_wp2_with (at_builtin; refine wpList_appL _ strV_one10 rfl (.tmp 15) (.tmp 16) rfl strTy (by decide) w.heap.size _ [] rfl O1.out _ A n c nms rfl HN.out hrw HNN.out hz9 ?_; intro V7 w7 hO7 hg7 hv7 _)
    rw [List.nil_append] at hO7
    exact fin_ow hQ (by simp only [putsF, dstN, HV1.out, e2]; rfl) hO7 (fun h => h) (Ch.of_grown hg7 (fun k hk => ⟨1, by decide, rfl, by rw [s1]; have h9 : (Value.slice A1 n1 c1).ownBlock = some k := hk; exact h9⟩)) (fun k hk => by
      rcases hv7 with e | e
      · exact .inl ⟨1, by decide, rfl, by rw [s1]; exact e.symm.trans hk⟩
      · right; have hk : V7.ownBlock = some k := hk; rw [e] at hk; injection hk with hk; omega)
  · show StepR _ _ _ _ _ _ _ [] [] 4 _
    intro v S w9 HC HL HU HD Q hQ
    simp only [putsF]
    go_wp2_with fail
    exact fin_pure hQ rfl ⟨rfl, rfl⟩
  · show StepR _ _ _ _ _ _ _ [4] [4] 5 _
    intro v S w9 HC HL HU HD Q hQ
    have e4 := Live.pure (HL 4 (by decide))
    simp only [putsF, dstN, e4]
    go_wp2_with fail
    exact fin_pure hQ (by simp only [putsF, dstN, e4]; rfl) ⟨rfl, rfl⟩
  · show StepR _ _ _ _ _ _ _ [5] [5] 6 _
    intro v S w9 HC HL HU HD Q hQ
    have e5 := Live.pure (HL 5 (by decide))
    simp only [putsF, dstN, e5]
    have hm := HM1.out
    have hz9 := HC.size
    go_wp2_with fail
    exact fin_blk hQ (by simp only [putsF, dstN, e5]; rfl) ⟨_, rfl, rfl, Bk.new _ _ _, hz9⟩
  · show StepR _ _ _ _ _ _ _ [] [] 7 _
    intro v S w9 HC HL HU HD Q hQ
    simp only [putsF]
    go_wp2_with fail
    exact fin_pure hQ rfl ⟨rfl, rfl⟩
  · show StepR _ _ _ _ _ _ _ [7] [7] 8 _
    intro v S w9 HC HL HU HD Q hQ
    have e7 := Live.pure (HL 7 (by decide))
    simp only [putsF, dstN, e7]
    go_wp2_with fail
    exact fin_pure hQ (by simp only [putsF, dstN, e7]; rfl) ⟨rfl, rfl⟩
  · show StepR _ _ _ _ _ _ _ [8] [8] 9 _
    intro v S w9 HC HL HU HD Q hQ
    have e8 := Live.pure (HL 8 (by decide))
    simp only [putsF, dstN, e8]
    have hm := HM2.out
    have hz9 := HC.size
    go_wp2_with fail
    exact fin_blk hQ (by simp only [putsF, dstN, e8]; rfl) ⟨_, rfl, rfl, Bk.new _ _ _, hz9⟩
  · show StepR _ _ _ _ _ _ _ [0, 3, 6, 9] [0, 3, 6, 9] 10 _
    intro v S w9 HC HL HU HD Q hQ
    have e0 := Live.pure (HL 0 (by decide))
    obtain ⟨s3, O3⟩ := Live.ow (HL 3 (by decide))
    obtain ⟨V3, hV3⟩ : ∃ V, v 3 = V := ⟨_, rfl⟩
    rw [hV3] at s3 O3
    have HV3 := bx hV3
    clear hV3
    obtain ⟨g6, e6, s6, K6, lo6⟩ := Live.mk (HL 6 (by decide))
    obtain ⟨g9, e9, s9, K9, lo9⟩ := Live.mk (HL 9 (by decide))
    simp only [putsF, dstN, e0, HV3.out, e6, e9]
    have d36 : ¬ Fow V3 g6 := fun hf => HD 3 (by decide) 6 (by decide) (by decide) g6 (by rw [s3]; exact hf) (by rw [s6])
    have d39 : ¬ Fow V3 g9 := fun hf => HD 3 (by decide) 9 (by decide) (by decide) g9 (by rw [s3]; exact hf) (by rw [s9])
    have d69 : g6 ≠ g9 := fun hf => HD 6 (by decide) 9 (by decide) (by decide) g6 (by rw [s6]) (by rw [s9]; exact hf)
    obtain ⟨A3, n3, c3, rfl, _, _⟩ := OwL.sl O3.out
    go_wp2_with fail
    exact fin_same (T := fun k => Fow (.slice A3 n3 c3) k ∨ k = g6 ∨ k = g9) hQ (by simp only [putsF, dstN, e0, HV3.out, e6, e9]; rfl) ⟨_, g6, g9, rfl, rfl, O3.out, K6.out, K9.out, ⟨d69, d36, d39⟩, ⟨lo6, lo9⟩⟩ (fun k hk => by
      rcases hk with hk | hk | hk
      · exact (World.ownsRow.lt O3.out k hk).2
      · rw [hk]; exact K6.out.lt
      · rw [hk]; exact K9.out.lt) (fun k hk => by
      rcases hk with hk | hk | hk
      · exact ⟨3, by decide, rfl, by rw [s3]; exact hk⟩
      · exact ⟨6, by decide, rfl, by rw [s6]; exact hk⟩
      · exact ⟨9, by decide, rfl, by rw [s9]; exact hk⟩)
  · show StepR _ _ _ _ _ _ _ [10] [10] 11 _
    intro v S w9 HC HL HU HD Q hQ
    obtain ⟨vA, gT, gD, e10, s10, L10⟩ := Live.bl (HL 10 (by decide))
    simp only [putsF, dstN, e10]
    have hz9 := HC.size
    have hlt : ∀ k, (Fow vA k ∨ k = gT ∨ k = gD) → k < w9.heap.size := fun k hk => by
      rcases hk with hk | hk | hk
      · exact (World.ownsRow.lt L10.out.own k hk).2
      · rw [hk]; exact L10.out.bT.lt
      · rw [hk]; exact L10.out.bD.lt
    have hnq : ¬ (Fow vA w9.heap.size ∨ w9.heap.size = gT ∨ w9.heap.size = gD) := fun e => by have := hlt _ e; omega
    go_wp2_with fail
    have hbA : Below w9.heap.size w9 (w9.alloc (.cells #[.pointer (some ⟨bx0, 0, none⟩), vA, .slice (some ⟨gT, 0, none⟩) n n, .slice (some ⟨gD, 0, none⟩) n n] 80)) := bl_alloc (Below.refl _ _) (Nat.le_refl _) _
    exact hQ _ (fun k => (Fow vA k ∨ k = gT ∨ k = gD) ∨ k = w9.heap.size) _ _ (by simp only [putsF, dstN, e10]; rfl) ⟨vA, gT, gD, w9.heap.size, rfl, rfl, L10.out.ch (U := fNo) (Ch.of_below hbA) (fun _ _ h => h), Bk.new _ _ _, ⟨fun e => hnq (.inr (.inl e)), fun e => hnq (.inr (.inr e)), fun e => hnq (.inl e)⟩, hz9⟩ (fun k hk => by
      rcases hk with hk | hk
      · exact Nat.lt_of_lt_of_le (hlt k hk) hbA.size
      · rw [hk]; simp) (Ch.of_below hbA) (fun k hk => by
      rcases hk with hk | hk
      · exact .inl ⟨10, by decide, rfl, by rw [s10]; exact hk⟩
      · exact .inr (by omega))
  · show StepR _ _ _ _ _ _ _ [11] [11] 12 _
    intro v S w9 HC HL HU HD Q hQ
    obtain ⟨vA, gT, gD, gq, e11, s11, P11⟩ := Live.np (HL 11 (by decide))
    rw [e11] at P11
    simp only [putsF, dstN, e11]
    go_wp2_with fail
    exact fin_same (T := S 11) hQ (by simp only [putsF, dstN, e11]; rfl) P11.out (fun k hk => by
      have hlv := HL 11 (by decide)
      exact hlv.lt hk) (fun k hk => ⟨11, by decide, rfl, hk⟩)
  · show StepR _ _ _ _ _ _ _ [] [] 13 _
    intro v S w9 HC HL HU HD Q hQ
    simp only [putsF]
    go_wp2_with fail
    exact fin_pure hQ rfl ⟨rfl, rfl⟩
  · intro v S w9 HC HL HD
    obtain ⟨vA, gT, gD, gq, e12, s12, P12⟩ := Live.np (HL 12 (by decide) (by decide)).1
    rw [e12] at P12
    have e13 := Live.pure (HL 13 (by decide) (by decide)).1
    have HB9 : Bx (Below w.heap.size w w9) := bx (HC.below (Nat.le_refl _) (fun _ _ h => h.elim))
    have HFIN := bx (dp_made P12.out HB9.out HH.out.all HH.out.sub HN.out H18.out HSH.out HC1.out HC2.out)
    have HE12 := bx e12
    have HE13 := bx e13
    clear HL HD HC P12 e12 e13 s12 HM1 HM2 HC1 HC2
    show Exit.then _ _ Exit.normal (putsF dstN v _ [13, 12, 11, 10, 9, 8, 7, 6, 5, 4, 3, 2, 1, 0]) w9
    simp only [putsF, dstN, Act.put, List.setIfInBounds_toArray, List.set_cons_succ, List.set_cons_zero]
    rw [HE12.out, HE13.out]
    go_wp2
    go_ret2
    exact HFIN.out
end Go.Proofs.YtlmcpkomjofcgaaGreatDoor
