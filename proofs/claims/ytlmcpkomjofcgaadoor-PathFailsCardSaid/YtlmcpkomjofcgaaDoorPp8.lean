/- Contract: archive.Directory. Plain: the directory as the document reads it. -/
import Derived.Test.YtlmcpkomjofcgaaDoorPp7
namespace Go.Proofs.YtlmcpkomjofcgaaDoor
open Go.RowKit
/-- A record as the directory gives it: seven cells. -/
def recL (x : Rec × Nat) : List Value := [strV x.1.name, .int .i64 x.1.method, .int .i64 x.1.packed, .int .i64 x.1.size, .int .i64 x.1.sum, .int .i64 x.2, .int .i64 x.1.head]
theorem recCels : Cels recL 7 := ⟨fun _ => rfl, fun x u hu => by
  simp only [recL, List.mem_cons, List.not_mem_nil, or_false] at hu
  rcases hu with rfl | rfl | rfl | rfl | rfl | rfl | rfl <;> rfl, by omega⟩
def DirPost (R : Rz (List (Rec × Nat))) (w : World) (e : Ending) (w' : World) : Prop := Below w.heap.size w w' ∧ match R with
  | .err k => e = .returned (.tuple #[.slice none 0 0, .int .i64 k])
  | .ok l => ∃ v, e = .returned (.tuple #[v, .int .i64 0]) ∧ OwS recL 7 w' w.heap.size 59 v l
theorem DirPost.bad {R : Rz (List (Rec × Nat))} {w w' : World} {k : Int} (h : R = .err k) (hb : Below w.heap.size w w') : DirPost R w (.returned (.tuple #[.slice none 0 0, .int .i64 k])) w' := by
  subst h; exact ⟨hb, rfl⟩
theorem DirPost.good {R : Rz (List (Rec × Nat))} {w w' : World} {l : List (Rec × Nat)} {v : Value} (h : R = .ok l) (hb : Below w.heap.size w w') (ho : OwS recL 7 w' w.heap.size 59 v l) : DirPost R w (.returned (.tuple #[v, .int .i64 0])) w' := by
  subst h; exact ⟨hb, v, rfl, ho⟩
def ent0 (x : Rec × Nat) : Ent := (x.1, 0, x.2)
theorem fndTy : ETy Tryd.prog 88 91 (.agg z8) 8 72 := ⟨Tryd.underlying88, info_parts (by kernel_rfl), rfl, by decide⟩
theorem recTy : ETy Tryd.prog 70 59 (.agg #[.string ⟨#[]⟩, .int .i64 0, .int .i64 0, .int .i64 0, .int .i64 0, .int .i64 0, .int .i64 0]) 7 64 := ⟨Tryd.underlying70, info_parts (by kernel_rfl), rfl, by decide⟩
theorem recA_err {b : List UInt8} {p border : Nat} {seen : List (List UInt8)} {k : Int} (h : recA b p border seen = .err k) : 11 ≤ k ∧ k ≤ 14 := by
  unfold recA at h
  split at h
  · injection h with h; omega
  split at h
  · injection h with h; omega
  split at h
  · injection h with h; omega
  split at h
  · injection h with h; omega
  split at h
  · injection h with h; omega
  · cases h
theorem recA_sm {b : List UInt8} {p border q : Nat} {seen : List (List UInt8)} {r : Rec} (h : recA b p border seen = .ok (r, q)) : r.head < 4294967296 ∧ r.packed < 4294967296 ∧ r.name.length < 65536 ∧ r.method < 65536 ∧ r.size < 4294967296 ∧ r.sum < 4294967296 := by
  unfold recA at h
  split at h
  · cases h
  split at h
  · cases h
  split at h
  · cases h
  split at h
  · cases h
  split at h
  · cases h
  · injection h with h
    injection h with h1 h2
    subst h1
    refine ⟨numA_4 _ _, numA_4 _ _, ?_, numA_2 _ _, numA_4 _ _, numA_4 _ _⟩
    have := numA_2 b (p + 28)
    simp only [List.length_take]; omega
def doneE (done acc : List (Rec × Nat)) : List Ent := List.zipWith (fun d x => (d.1, ((d.2 : Nat) : Int), x.2)) done acc
theorem doneE_len {done acc : List (Rec × Nat)} {k : Nat} (h : done.length = k) (hk : k ≤ acc.length) : (doneE done acc).length = k := by
  unfold doneE; rw [List.length_zipWith]; omega
theorem list_at {done acc : List (Rec × Nat)} {k : Nat} {x : Rec × Nat} (h : done.length = k) (hx : acc[k]? = some x) : (doneE done acc ++ (acc.drop k).map ent0)[k]? = some (x.1, 0, x.2) := by
  have hk := (List.getElem?_eq_some_iff.1 hx).1
  rw [List.getElem?_append_right (by rw [doneE_len h (by omega)]; exact Nat.le_refl _), doneE_len h (by omega), Nat.sub_self, List.getElem?_map, List.getElem?_drop, Nat.add_zero, hx]
  rfl
theorem zip_more {α β γ : Type} (f : α → β → γ) : ∀ (d : List α) (l : List β) (y : α) (x : β), l[d.length]? = some x → List.zipWith f (d ++ [y]) l = List.zipWith f d l ++ [f y x]
  | [], [], _, _, h => by simp at h
  | [], z :: l, y, x, h => by simp at h; subst h; simp
  | c :: d, [], _, _, h => by simp at h
  | c :: d, z :: l, y, x, h => by simp at h; simp [zip_more f d l y x h]
theorem list_set {done acc : List (Rec × Nat)} {k a : Nat} {x : Rec × Nat} (h : done.length = k) (hx : acc[k]? = some x) :
    (doneE done acc ++ (acc.drop k).map ent0).set k (x.1, ((a : Nat) : Int), x.2) = doneE (done ++ [(x.1, a)]) acc ++ (acc.drop (k + 1)).map ent0 := by
  have hk := (List.getElem?_eq_some_iff.1 hx).1
  have e1 : doneE (done ++ [(x.1, a)]) acc = doneE done acc ++ [(x.1, ((a : Nat) : Int), x.2)] := zip_more _ done acc (x.1, a) x (by rw [h]; exact hx)
  rw [List.set_append_right _ _ (by rw [doneE_len h (by omega)]; exact Nat.le_refl _), doneE_len h (by omega), Nat.sub_self, List.drop_eq_getElem_cons hk, List.map_cons, List.set_cons_zero, e1]
  simp
def DonOk (dir : Nat) (y : Rec × Nat) : Prop := y.1.head < 4294967296 ∧ y.1.packed < 4294967296 ∧ y.1.method < 65536 ∧ y.1.size < 4294967296 ∧ y.1.sum < 4294967296 ∧ y.1.name.length < 65536 ∧ y.1.head + 30 ≤ y.2 ∧ y.2 + y.1.packed ≤ dir
theorem list_len {done acc : List (Rec × Nat)} {k : Nat} (h : done.length = k) (hk : k ≤ acc.length) : (doneE done acc ++ (acc.drop k).map ent0).length = acc.length := by
  rw [List.length_append, doneE_len h hk, List.length_map, List.length_drop]; omega
theorem OwS.low {α : Type} {fC : α → List Value} {sz : Nat} {w : World} {base base' : Nat} {e : TypeId} {v : Value} {l : List α} (h : OwS fC sz w base e v l) (hB : base' ≤ base) : OwS fC sz w base' e v l := by
  refine ⟨h.1, ?_⟩
  rcases h.2 with h0 | ⟨g, cap, cur, hv, hb, r⟩
  · exact .inl h0
  · exact .inr ⟨g, cap, cur, hv, Nat.le_trans hB hb, r⟩
def frE (x : Ent) : Rec × Nat := (x.1, x.2.1.toNat)
theorem doneE_fr : ∀ (done acc : List (Rec × Nat)), done.length ≤ acc.length → (doneE done acc).map frE = done
  | [], _, _ => by simp [doneE]
  | d :: ds, [], h => by simp at h
  | d :: ds, x :: xs, h => by
    have := doneE_fr ds xs (by simpa using h)
    unfold doneE at this ⊢
    rw [List.zipWith_cons_cons, List.map_cons, this]
    rfl
theorem doneE_at : ∀ (done acc : List (Rec × Nat)), ∀ x ∈ doneE done acc, x.2.1 = ((frE x).2 : Int)
  | [], _, x, h => by simp [doneE] at h
  | d :: ds, [], x, h => by simp [doneE] at h
  | d :: ds, y :: ys, x, h => by
    unfold doneE at h
    rw [List.zipWith_cons_cons] at h
    rcases List.mem_cons.1 h with h | h
    · subst h; rfl
    · exact doneE_at ds ys x h
theorem doneE_get {done acc : List (Rec × Nat)} {t : Nat} (h : done.length ≤ acc.length) {d : Rec × Nat} (hd : done[t]? = some d) : ∃ q, (doneE done acc)[t]? = some (d.1, ((d.2 : Nat) : Int), q) := by
  have ht := (List.getElem?_eq_some_iff.1 hd).1
  unfold doneE
  rw [List.getElem?_zipWith, hd, List.getElem?_eq_getElem (by omega)]
  exact ⟨_, rfl⟩
theorem adj_hit : ∀ (s : List (Rec × Nat)) (t : Nat) (x y : Rec × Nat), s[t]? = some x → s[t + 1]? = some y → y.1.head < x.2 + x.1.packed → adjA s = true
  | [], _, _, _, h, _, _ => by simp at h
  | [a], t, x, y, h, h2, _ => by simp at h2
  | a :: b :: r, 0, x, y, h, h2, h3 => by
    simp at h h2
    subst h; subst h2
    rw [adjA, decide_eq_true h3]; rfl
  | a :: b :: r, t + 1, x, y, h, h2, h3 => by
    have := adj_hit (b :: r) t x y (by simpa using h) (by simpa using h2) h3
    rw [adjA, this, Bool.or_true]
theorem adj_none : ∀ (s : List (Rec × Nat)), (∀ t x y, s[t]? = some x → s[t + 1]? = some y → ¬ y.1.head < x.2 + x.1.packed) → adjA s = false
  | [], _ => rfl
  | [a], _ => rfl
  | a :: b :: r, h => by
    have := adj_none (b :: r) (fun t x y hx hy => h (t + 1) x y (by simpa using hx) (by simpa using hy))
    rw [adjA, this, Bool.or_false, decide_eq_false (h 0 a b rfl rfl)]
theorem overE {done acc : List (Rec × Nat)} {dir : Nat} {s : List Ent} (hl : done.length ≤ acc.length) (hp : s.Perm (doneE done acc)) (hs : Sorted s) (hd : ∀ y ∈ done, DonOk dir y) : adjA (s.map frE) = anyOver done := by
  have h1 : (s.map frE).Perm done := by
    have := hp.map frE
    rwa [doneE_fr done acc hl] at this
  refine over_sorted h1 ?_ (fun x hx => by have := (hd x hx).2.2.2.2.2.2.1; omega)
  rw [List.pairwise_map]
  exact hs
def RecSm (x : Rec × Nat) : Prop := x.1.head < 4294967296 ∧ x.1.packed < 4294967296 ∧ x.1.name.length < 65536 ∧ x.1.method < 65536 ∧ x.1.size < 4294967296 ∧ x.1.sum < 4294967296
theorem centA_sm {b : List UInt8} {border : Nat} : ∀ n p acc l q, (∀ x ∈ acc, RecSm x) → centA b border n p acc = .ok (l, q) → ∀ x ∈ l, RecSm x := by
  intro n
  induction n with
  | zero =>
    intro p acc l q hacc h
    rw [centA] at h
    injection h with h
    injection h with h1 h2
    subst h1; exact hacc
  | succ n ih =>
    intro p acc l q hacc h
    rw [centA] at h
    cases hr : recA b p border (acc.map (·.1.name)) with
    | err e => rw [hr] at h; cases h
    | ok x =>
      rw [hr] at h
      exact ih x.2 (acc ++ [(x.1, p)]) l q (fun y hy => by
        rcases List.mem_append.1 hy with h | h
        · exact hacc y h
        · simp at h; subst h; exact recA_sm (q := x.2) hr) h
theorem cent1_err {b : List UInt8} {p n at_ : Nat} {acc : List (Rec × Nat)} {k : Int} (h : recA b at_ p (acc.map (·.1.name)) = .err k) : centA b p (n + 1) at_ acc = .err k := by
  rw [centA, h]; rfl
theorem cent1_ok {b : List UInt8} {p n at_ : Nat} {acc : List (Rec × Nat)} {x : Rec × Nat} (h : recA b at_ p (acc.map (·.1.name)) = .ok x) : centA b p (n + 1) at_ acc = centA b p n x.2 (acc ++ [(x.1, at_)]) := by
  rw [centA, h]; rfl
set_option maxRecDepth 100000 in
set_option maxHeartbeats 16000000 in
theorem dir_any (A : Option Addr) (n c : Nat) (b : List UInt8) (w : World) (mx : Int) (hn : b.length = n) (hzz : n ≤ 140737488351232) (hnc : n ≤ c) (hc : (c : Int) ≤ 9223372036854775807) (hr : RB w w.heap.size A b) (hmx : w.cell? ⟨0, 0, none⟩ = some (.int .i64 mx)) :
    Calls Tryd.prog 30 #[.slice A n c] w (DirPost (dirA b) w) := by
  obtain ⟨R, hR⟩ : ∃ R, dirA b = R := ⟨_, rfl⟩
  rw [hR]
  unfold dirA at hR
  by_cases c1 : 65536 < n
  · rw [if_pos (by rw [hn]; exact c1)] at hR
    have HR := bx hR.symm
    have HB := bx (Below.refl w.heap.size w)
    clear hR hn hr hmx
    go_enter Tryd.func30, Tryd.ntmps30
    go_wp2
    go_ret2
    exact DirPost.bad HR.out HB.out
  have hz : n ≤ 70000 := by omega
  rw [if_neg (by rw [hn]; exact c1)] at hR
  have HN := bx hn
  have HR0 := bx hR
  have HRB := bx hr
  have HMX := bx hmx
  clear hR hn hr hmx
  go_enter Tryd.func30, Tryd.ntmps30
  go_wp2_with fail
  refine (kinds_any w).mono ?_
  rintro e w1 ⟨mk, rfl, hmk, hMk, hb1⟩
  go_wp2_with fail
  obtain ⟨g, hg⟩ : ∃ g, w1.heap.size = g := ⟨_, rfl⟩
  obtain ⟨w2, hw2⟩ : ∃ w2, w1.alloc (.cells #[.slice A n c, .map (some mk)] 84) = w2 := ⟨_, rfl⟩
  have hE2 : Bx (BookE w2 (g + 1) g b) := by
    rw [← hw2, ← hg]
    have hlt := hMk.lt
    refine bx ⟨A, c, mk, 3, Nat.lt_succ_self _, Nat.lt_succ_of_lt hlt, by simp, ?_, ?_, by rw [HN.out]; exact hnc, hMk.alloc _, by rw [HN.out]; omega, hc⟩
    · rw [HN.out]; exact Bk.new _ _ _
    · exact ((HRB.out.below hb1 (Nat.le_refl _)).more hb1.size |>.alloc (Nat.le_refl _) _).more (Nat.le_succ _)
  have hB2 : Bx (Below w.heap.size w w2) := by rw [← hw2]; exact bx (bl_alloc hb1 (Nat.le_refl _) _)
  have hgs : Bx (w2.heap.size = g + 1) := by rw [← hw2, ← hg]; exact bx (by simp)
  have hwg : w.heap.size ≤ g := by rw [← hg]; exact hb1.size
  rw [hg, hw2]
  clear hw2 hg hMk hb1 hmk
  go_wp2_with fail
  go_loopw [5, 6, 7] (fun pv ev iv wr => ∃ k p e : Nat, k ≤ n - 21 ∧ iv = .int .i64 (k : Int) ∧ pv = .int .i64 (p : Int) ∧ ev = .int .i64 (e : Int) ∧ Bx (EndC b k p e) ∧ Bx (Below (g + 1) w2 wr)) (fun _ _ i _ => n - (intOf i).toNat)
  case atStart => exact ⟨0, 0, 0, by omega, rfl, rfl, rfl, bx (EndC.start b), bx (Below.refl _ _)⟩
  case round =>
    obtain ⟨k, p, e, hk, rfl, rfl, rfl, HE, HB⟩ := hrel
    have hek := HE.out.1
    have HEr := bx (hE2.out.below HB.out)
    have hwr : g + 1 ≤ wr.heap.size := by have := HB.out.size; have := hgs.out; omega
    by_cases hk0 : k + 22 ≤ n
    · -- DEV{
      have hkI : (k : Int) ≤ (n : Int) - 22 := by omega
      have hrr : RB wr wr.heap.size A b := ((HRB.out.below hB2.out (Nat.le_refl _)).below HB.out (by omega)).more (by omega)
      obtain ⟨ad, x, hA, _, hx, hcx⟩ := hrr.byte (k := k) (by have := HN.out; omega)
      have hsx : x ≠ 80 → endA b k = false := fun hne => by
        unfold endA signA
        rw [List.getD_eq_getElem?_getD, hx.out]
        simp [hne]
      subst hA
      have hHX := bx hsx
      obtain ⟨sg, hs⟩ : ∃ sg, signA b k 5 6 = sg := ⟨_, rfl⟩
      obtain ⟨N, hN⟩ : ∃ N, numA b (k + 20) 2 = N := ⟨_, rfl⟩
      have HD : Bx (endA b k = (sg && decide (N = n - k - 22))) := bx (by unfold endA; rw [hs, hN, HN.out])
      have his := is_any g b k 22 n 1 5 6 wr HEr.out.d (.inl ⟨rfl, rfl, rfl⟩) (by omega) (by omega) (by have := HN.out; omega) (by omega)
      rw [hs, decide_eq_true hk0, Bool.true_and] at his
      have HIS := bx his
      have HNM := bx (fun w' (hb : Below wr.heap.size wr w') => num_at g b k 20 2 20 2 w' (HEr.out.below (hb.mono hwr)).d rfl rfl (by omega) (by omega) (by have := HN.out; omega) hN)
      clear hsx hs hN his hrr hx
      by_cases hx80 : x = 80
      case neg =>
        have hxI : ((x.toNat : Int) == 80) = false := (u8_beq x 80 (z := 80) rfl).trans (decide_eq_false hx80)
        have HX := bx (HE.out.skip (hHX.out hx80))
        clear hx80
        go_wp2
        go_roundw
        case rel => exact ⟨k + 1, p, e, by omega, by go_num, rfl, rfl, HX, HB⟩
        case measure => simp [intOf]; omega
      have hxI : ((x.toNat : Int) == 80) = true := (u8_beq x 80 (z := 80) rfl).trans (decide_eq_true hx80)
      clear hx80 hHX
      cases sg with
      | false =>
        have HX := bx (HE.out.skip HD.out)
        go_wp2_with fail
        refine HIS.out.mono ?_
        rintro e1 w3 ⟨rfl, hb3⟩
        have HB3 := bx (HB.out.trans (hb3.mono hwr))
        clear hb3
        go_wp2
        go_roundw
        case rel => exact ⟨k + 1, p, e, by omega, by go_num, rfl, rfl, HX, HB3⟩
        case measure => simp [intOf]; omega
      | true =>
      by_cases hNk : N = n - k - 22
      · have hNI : ((N : Int) == (n : Int) - (k : Int) - 22) = true := by rw [beq_iff_eq]; omega
        have HX := bx (HE.out.hit (by rw [HD.out, decide_eq_true hNk]; rfl))
        clear hNk
        go_wp2_with fail
        refine HIS.out.mono ?_
        rintro e1 w3 ⟨rfl, hb3⟩
        have HB3 := bx (HB.out.trans (hb3.mono hwr))
        have HN3 := bx (HNM.out w3 hb3)
        clear hb3
        go_wp2_with fail
        refine HN3.out.mono ?_
        rintro e2 w4 ⟨rfl, rfl⟩
        go_wp2
        go_roundw
        case rel => exact ⟨k + 1, k, e + 1, by omega, by go_num, rfl, by go_num, HX, HB3⟩
        case measure => simp [intOf]; omega
      · have hNI : ((N : Int) == (n : Int) - (k : Int) - 22) = false := by rw [beq_eq_false_iff_ne]; omega
        have HX := bx (HE.out.skip (by rw [HD.out, decide_eq_false hNk]; rfl))
        clear hNk
        go_wp2_with fail
        refine HIS.out.mono ?_
        rintro e1 w3 ⟨rfl, hb3⟩
        have HB3 := bx (HB.out.trans (hb3.mono hwr))
        have HN3 := bx (HNM.out w3 hb3)
        clear hb3
        go_wp2_with fail
        refine HN3.out.mono ?_
        rintro e2 w4 ⟨rfl, rfl⟩
        go_wp2
        go_roundw
        case rel => exact ⟨k + 1, p, e, by omega, by go_num, rfl, rfl, HX, HB3⟩
        case measure => simp [intOf]; omega
      -- DEV}
    have hkI : ¬ (k : Int) ≤ (n : Int) - 22 := by omega
    have hkn : k = b.length - 21 := by rw [HN.out]; omega
    have HC : Bx (EndC b (b.length - 21) p e) := bx (by rw [← hkn]; exact HE.out)
    have hB1 : Bx (Below w.heap.size w wr) := bx (hB2.out.trans (HB.out.mono (by omega)))
    clear hkn HE hk0 hE2 hB2 HB hgs
    by_cases he : e = 1
    case neg => -- DEV{
      have HR := bx (show R = .err 9 from by rw [← HR0.out, HC.out.none he])
      have heI : ((e : Int) != 1) = true := by rw [bne_iff_ne]; omega
      clear he HR0 HC
      go_wp2
      go_ret2
      exact DirPost.bad HR.out hB1.out
      -- DEV}
    have heI : ((e : Int) != 1) = false := by rw [bne_eq_false_iff_eq]; omega
    have hEP := HC.out.some he
    have hpe := (endP_some hEP).1
    have HR := HR0.out
    rw [hEP] at HR
    dsimp only at HR
    rw [HN.out] at hpe
    obtain ⟨d4, hd4⟩ : ∃ d, numA b (p + 4) 4 = d := ⟨_, rfl⟩
    obtain ⟨d10, hd10⟩ : ∃ d, numA b (p + 10) 2 = d := ⟨_, rfl⟩
    obtain ⟨m, hm⟩ : ∃ d, numA b (p + 8) 2 = d := ⟨_, rfl⟩
    obtain ⟨fr, hfr⟩ : ∃ d, numA b (p + 16) 4 = d := ⟨_, rfl⟩
    obtain ⟨sz, hsz⟩ : ∃ d, numA b (p + 12) 4 = d := ⟨_, rfl⟩
    have l1 : m < 65536 := by rw [← hm]; exact numA_2 _ _
    have l2 : fr < 4294967296 := by rw [← hfr]; exact numA_4 _ _
    have l3 : sz < 4294967296 := by rw [← hsz]; exact numA_4 _ _
    rw [hd4, hd10, hm, hfr, hsz] at HR
    have h4 := bx (num_at g b p 4 4 4 4 wr HEr.out.d rfl rfl (by omega) (by omega) (by have := HN.out; omega) hd4)
    have h10 := bx (num_at g b p 10 2 10 2 wr HEr.out.d rfl rfl (by omega) (by omega) (by have := HN.out; omega) hd10)
    have h8 := bx (num_at g b p 8 2 8 2 wr HEr.out.d rfl rfl (by omega) (by omega) (by have := HN.out; omega) hm)
    have h16 := bx (num_at g b p 16 4 16 4 wr HEr.out.d rfl rfl (by omega) (by omega) (by have := HN.out; omega) hfr)
    have h12 := bx (num_at g b p 12 4 12 4 wr HEr.out.d rfl rfl (by omega) (by omega) (by have := HN.out; omega) hsz)
    have HR1 := bx HR
    clear hEP hd4 hd10 hm hfr hsz HR HR0 HC he
    by_cases e4 : d4 = 0
    case neg => -- DEV{
      have HR := bx (show R = .err 10 from by rw [← HR1.out, if_pos (.inl e4)])
      have d4I : ((d4 : Int) != 0) = true := by rw [bne_iff_ne]; omega
      clear e4 HR1
      go_wp2_with fail
      refine h8.out.mono ?_
      rintro e1 wr ⟨rfl, rfl⟩
      go_wp2_with fail
      refine h16.out.mono ?_
      rintro e1 wr ⟨rfl, rfl⟩
      go_wp2_with fail
      refine h4.out.mono ?_
      rintro e1 wr ⟨rfl, rfl⟩
      go_wp2
      go_ret2
      exact DirPost.bad HR.out hB1.out
      -- DEV}
    have d4I : ((d4 : Int) != 0) = false := by rw [bne_eq_false_iff_eq]; omega
    by_cases e10 : d10 = m
    case neg => -- DEV{
      have HR := bx (show R = .err 10 from by rw [← HR1.out, if_pos (.inr (.inl e10))])
      have d10I : ((d10 : Int) != (m : Int)) = true := by rw [bne_iff_ne]; omega
      clear e4 e10 HR1
      go_wp2_with fail
      refine h8.out.mono ?_
      rintro e1 wr ⟨rfl, rfl⟩
      go_wp2_with fail
      refine h16.out.mono ?_
      rintro e1 wr ⟨rfl, rfl⟩
      go_wp2_with fail
      refine h4.out.mono ?_
      rintro e1 wr ⟨rfl, rfl⟩
      go_wp2_with fail
      refine h10.out.mono ?_
      rintro e1 wr ⟨rfl, rfl⟩
      go_wp2
      go_ret2
      exact DirPost.bad HR.out hB1.out
      -- DEV}
    have d10I : ((d10 : Int) != (m : Int)) = false := by rw [bne_eq_false_iff_eq]; omega
    by_cases em : 64 < m
    · -- DEV{
      have HR := bx (show R = .err 10 from by rw [← HR1.out, if_pos (.inr (.inr (.inl em)))])
      have emI : (64 : Int) < (m : Int) := by omega
      clear e4 e10 HR1
      go_wp2_with fail
      refine h8.out.mono ?_
      rintro e1 wr ⟨rfl, rfl⟩
      go_wp2_with fail
      refine h16.out.mono ?_
      rintro e1 wr ⟨rfl, rfl⟩
      go_wp2_with fail
      refine h4.out.mono ?_
      rintro e1 wr ⟨rfl, rfl⟩
      go_wp2_with fail
      refine h10.out.mono ?_
      rintro e1 wr ⟨rfl, rfl⟩
      go_wp2
      go_ret2
      exact DirPost.bad HR.out hB1.out
      -- DEV}
    have emI : ¬ (64 : Int) < (m : Int) := by omega
    by_cases es : fr + sz = p
    case neg => -- DEV{
      have HR := bx (show R = .err 10 from by rw [← HR1.out, if_pos (.inr (.inr (.inr es)))])
      have esI : ((fr : Int) + (sz : Int) != (p : Int)) = true := by rw [bne_iff_ne]; omega
      clear e4 e10 es HR1
      go_wp2_with fail
      refine h8.out.mono ?_
      rintro e1 wr ⟨rfl, rfl⟩
      go_wp2_with fail
      refine h16.out.mono ?_
      rintro e1 wr ⟨rfl, rfl⟩
      go_wp2_with fail
      refine h4.out.mono ?_
      rintro e1 wr ⟨rfl, rfl⟩
      go_wp2_with fail
      refine h10.out.mono ?_
      rintro e1 wr ⟨rfl, rfl⟩
      go_wp2_with fail
      refine h12.out.mono ?_
      rintro e1 wr ⟨rfl, rfl⟩
      go_wp2
      go_ret2
      exact DirPost.bad HR.out hB1.out
      -- DEV}
    have esI : ((fr : Int) + (sz : Int) != (p : Int)) = false := by rw [bne_eq_false_iff_eq]; omega
    have HR := bx (show R = (centA b p m fr []).bind (dirK b fr p) from by rw [← HR1.out, if_neg (by rintro (h | h | h | h); exact h e4; exact h e10; exact em h; exact h es), bookA_dirK])
    clear HR1 e4 e10 es
    go_wp2_with fail
    refine h8.out.mono ?_
    rintro e1 wr ⟨rfl, rfl⟩
    go_wp2_with fail
    refine h16.out.mono ?_
    rintro e1 wr ⟨rfl, rfl⟩
    go_wp2_with fail
    refine h4.out.mono ?_
    rintro e1 wr ⟨rfl, rfl⟩
    go_wp2_with fail
    refine h10.out.mono ?_
    rintro e1 wr ⟨rfl, rfl⟩
    go_wp2_with fail
    refine h12.out.mono ?_
    rintro e1 wa ⟨rfl, rfl⟩
    clear h8 h16 h4 h10 h12
    have hmm := @run_makeMap Tryd.prog
    go_wp2_with fail
    obtain ⟨gm, hgm⟩ : ∃ gm, wa.heap.size = gm := ⟨_, rfl⟩
    have hM0 : Bx (MapT strV (wa.alloc (.map #[] 0)) Tryd.prog 9 gm 0 (seenG [])) := bx ((MapT.madeAt wa _ _ hgm).ext fun q => by unfold seenG; simp)
    have hW0 : Bx (Below gm wa (wa.alloc (.map #[] 0))) := bx (by rw [← hgm]; exact bl_alloc (Below.refl _ _) (Nat.le_refl _) _)
    have hX0 : Bx (wa.cell? ⟨0, 0, none⟩ = some (.int .i64 mx)) := bx ((hB1.out.cell (p := ⟨0, 0, none⟩) (World.block_lt_of_cell? w ⟨0, 0, none⟩ HMX.out)).trans HMX.out)
    have hggm : g < gm := by rw [← hgm]; omega
    have hwgm : w.heap.size ≤ gm := by omega
    have hEm : Bx (BookE wa gm g b) := by
      obtain ⟨A', c', mk', q', a1, a2, a3, a4, a5, r⟩ := HEr.out
      exact bx ⟨A', c', mk', q', hggm, by omega, Nat.le_of_eq hgm.symm, a4, a5.more (by omega), r⟩
    have hGM := bx hgm
    rw [hgm]
    clear hmm hkI heI d4I d10I em emI esI hwr HEr hgm
    go_loopw [10, 12, 103] (fun lv av iv wx => ∃ (i a : Nat) (acc : List (Rec × Nat)), i ≤ m ∧ iv = .int .i64 (i : Int) ∧ av = .int .i64 (a : Int) ∧ a ≤ 9000000000 ∧ Bx (centA b p m fr [] = centA b p (m - i) a acc) ∧ Bx (acc.length = i) ∧ Bx (Below gm wa wx) ∧ Bx (MapT strV wx Tryd.prog 9 gm i (seenG (acc.map (·.1.name)))) ∧ Bx (OwS fndL 8 wx (gm + 1) 91 lv (acc.map ent0))) (fun _ _ i _ => m - (intOf i).toNat)
    case atStart => exact ⟨0, fr, [], by omega, rfl, rfl, by omega, bx rfl, bx rfl, hW0, hM0, bx OwS.nil⟩
    case round =>
      obtain ⟨i, a, acc, hi, rfl, rfl, ha, HC, HL, HW, HM, HO⟩ := hrel
      have hgx : gm < wr.heap.size := HM.out.lt
      have HE := bx (hEm.out.below HW.out)
      have HX := bx ((HW.out.cell (p := ⟨0, 0, none⟩) (by show 0 < gm; omega)).trans hX0.out)
      by_cases him : i < m
      · -- DEV{
        have himI : (i : Int) < (m : Int) := by omega
        have hRec := record_any g gm i b a p (acc.map (·.1.name)) wr mx HE.out.d HM.out HX.out (by omega) (by have := HN.out; omega) (by have := HN.out; omega) ha
        obtain ⟨X, hX⟩ : ∃ X, recA b a p (acc.map (·.1.name)) = X := ⟨_, rfl⟩
        rw [hX] at hRec
        have HREC := bx hRec
        have hmi : m - i = (m - (i + 1)) + 1 := by omega
        have hC := HC.out
        rw [hmi] at hC
        cases X with
        | err k =>
          have hk := recA_err hX
          have HRk := bx (show R = .err k from by rw [HR.out, hC, cent1_err hX]; rfl)
          have hkI : (k != 0) = true := by rw [bne_iff_ne]; omega
          clear hRec hC hX HC hmi
          go_wp2_with fail
          refine HREC.out.mono ?_
          rintro e1 w3 ⟨rfl, hb3⟩
          have HB3 := bx (hB1.out.trans (HW.out.mono (by have := hB1.out.size; omega)) |>.trans (hb3.mono (by have := hB1.out.size; have := HW.out.size; omega)))
          clear hb3
          go_wp2_with (refine wpList_store_row rfl 91 (.tmp 13) (.tmp 111) rfl w3.heap.size z8 rfl rfl 91 z8 (Bk.new _ _ _) (by rw [z8_size]; exact info_found) rfl z8_one ?_)
          go_ret2
          exact DirPost.bad HRk.out (bl_setRow (bl_alloc HB3.out (Nat.le_refl _) _) (by have := HB3.out.size; omega) z8)
        | ok x =>
          obtain ⟨r, q⟩ := x
          have hq := recA_ok hX
          have HC2 := bx (hC.trans (cent1_ok hX))
          clear hRec hC hX HC hmi
          go_wp2_with fail
          refine HREC.out.mono ?_
          rintro e1 w3 ⟨rfl, hg3, hM3⟩
          have HM3 := bx hM3
          have HO3 := bx (HO.out.kept hg3 (by
            cases hv : u10.ownBlock with
            | none => exact .inl rfl
            | some z => exact .inr (fun e => by injection e with e; have := (HO.out.blk hv).1; omega)))
          have HW3 := bx (HW.out.trans (gb_low hg3 (Nat.le_refl _) hgx))
          have hgx3 : gm < w3.heap.size := by have := hg3.size; omega
          clear hg3 hM3 HREC HO HW HM
          dsimp only at HM3
          obtain ⟨y0, y1, y2, y3, y4, y5, y6, y7, hcs⟩ : ∃ y0 y1 y2 y3 y4 y5 y6 y7, fndC r 0 a = #[y0, y1, y2, y3, y4, y5, y6, y7] := ⟨_, _, _, _, _, _, _, _, rfl⟩
          have hc1 := bx (fndC_one r 0 a)
          have HCS : Bx ((#[y0, y1, y2, y3, y4, y5, y6, y7] : Array Value).toList = fndL (ent0 (r, a))) := bx (by rw [← hcs]; rfl)
          rw [hcs] at hc1
          obtain ⟨w4, hw4⟩ : ∃ w4, (w3.alloc (.cells z8 91)).setRow w3.heap.size #[y0, y1, y2, y3, y4, y5, y6, y7] = w4 := ⟨_, rfl⟩
          have hK4 : Bx (Bk w4 w3.heap.size 91 #[y0, y1, y2, y3, y4, y5, y6, y7]) := by rw [← hw4]; exact bx ((Bk.new w3 _ z8).setRow _)
          have hb34 : Below w3.heap.size w3 w4 := by rw [← hw4]; exact bl_setRow (bl_alloc (Below.refl _ _) (Nat.le_refl _) _) (Nat.le_refl _) _
          have HM4 := bx (HM3.out.below hb34 hgx3)
          have HO4 := bx (HO3.out.step hb34)
          have HW4 := bx (HW3.out.trans (hb34.mono (by omega)))
          have hgx4 : gm < w4.heap.size := by have := hb34.size; omega
          have HW4' := bx hw4
          have HN4 : Bx (((acc.map ent0).length + [ent0 (r, a)].length) * 72 ≤ 140737488355328) := bx (by have := HL.out; simp; omega)
          rw [show (r, q).fst = r from rfl, show (r, q).snd = q from rfl, hcs]
          clear hcs hw4 hb34 HM3 HO3 HW3
          go_wp2_with (first
            | (refine wpList_store_row rfl 91 (.tmp 13) (.tmp 111) rfl w3.heap.size #[y0, y1, y2, y3, y4, y5, y6, y7] rfl rfl 91 z8 (Bk.new _ _ _) info_found rfl hc1.out ?_; rw [z8_eq, HW4'.out])
            | (refine wpList_load_row rfl 91 (.tmp 13) rfl w3.heap.size rfl _ #[y0, y1, y2, y3, y4, y5, y6, y7] _ _ hK4.out Tryd.underlying91 rfl info_found ?_)
            | (at_builtin; refine wpList_appS _ fndCels rfl (.tmp 117) (.tmp 119) rfl fndTy (by decide) (gm + 1) u10 (acc.map ent0) rfl (OwS.alloc HO4.out _) _ _ 1 1 [ent0 (r, a)] rfl rfl (RS.new _ _ #[y0, y1, y2, y3, y4, y5, y6, y7] HCS.out _ _) HN4.out (le_alloc0 hgx4 _) ?_; intro v8 w8 own8 _ _ hb8))
          have hb48 := (bl_alloc (Below.refl (gm + 1) w4) hgx4 (.cells #[y0, y1, y2, y3, y4, y5, y6, y7] 91)).trans hb8
          have HM8 := bx (HM4.out.below hb48 (Nat.lt_succ_self gm))
          have HM9 : Bx (MapT strV w8 Tryd.prog 9 gm (i + 1) (seenG ((acc ++ [(r, a)]).map (·.1.name)))) := bx (by rw [List.map_append]; exact HM8.out)
          have HW8 := bx (HW4.out.trans (hb48.mono (Nat.le_succ gm)))
          have HO8 : Bx (OwS fndL 8 w8 (gm + 1) 91 v8 ((acc ++ [(r, a)]).map ent0)) := bx (by rw [List.map_append]; exact own8)
          have HL8 : Bx ((acc ++ [(r, a)]).length = i + 1) := bx (by rw [List.length_append, HL.out]; rfl)
          have hqle : q ≤ 9000000000 := by have := hq.2.1; omega
          clear hb8 hb48 own8 HM8 hq
          go_roundw
          case rel => exact ⟨i + 1, q, acc ++ [(r, a)], by omega, by go_num, rfl, hqle, HC2, HL8, HW8, HM9, HO8⟩
          case measure => simp [intOf]; omega
        -- DEV}
      have himI : ¬ (i : Int) < (m : Int) := by omega
      obtain rfl : i = m := by omega
      have hC := HC.out
      rw [show i - i = 0 by omega, centA] at hC
      have hOk := centA_ok i fr [] acc a (Nat.le_refl _) ⟨by simp, by simp⟩ hC
      have hSm := centA_sm i fr [] acc a (by simp) hC
      have HR2 := bx (show R = dirK b fr p (acc, a) from by rw [HR.out, hC]; rfl)
      have HB3 := bx (hB1.out.trans (HW.out.mono (by have := hB1.out.size; omega)))
      have HB3b := HW
      clear hC HC HR hX0 hM0 hW0
      by_cases hap : a = p
      case neg => -- DEV{
        have HRk := bx (show R = .err 11 from by rw [HR2.out]; unfold dirK; rw [if_pos hap])
        have hapI : ((a : Int) != (p : Int)) = true := by rw [bne_iff_ne]; omega
        clear hOk hSm hap
        go_wp2
        go_ret2
        exact DirPost.bad HRk.out HB3.out
        -- DEV}
      have hapI : ((a : Int) != (p : Int)) = false := by rw [bne_eq_false_iff_eq]; omega
      have HR3 := bx (show R = locR b fr [] acc from by rw [HR2.out, hap, dirK_loc])
      have hfrp : fr ≤ p := by have := hOk.2.2.1; omega
      have HOK := bx hOk.1
      have HSM := bx hSm
      obtain ⟨A3, n3, c3, hv3, hn3, _⟩ : ∃ A3 n3 c3, u10 = .slice A3 n3 c3 ∧ n3 = i ∧ True := by
        obtain ⟨A3, c3, h1, _⟩ := HO.out.rd
        exact ⟨A3, _, c3, h1, by simp [HL.out], trivial⟩
      subst hn3
      subst hv3
      clear hOk hSm hap HR2 HM
      go_wp2_with fail
      obtain ⟨wb, rfl⟩ : ∃ wb, wb = wr := ⟨_, rfl⟩
      have hB0 : Bx (OwS fndL 8 wb (gm + 1) 91 (.slice A3 n3 c3) (doneE [] acc ++ (acc.drop 0).map ent0)) := bx HO.out
      clear HO him hi ha
      go_loopw [128] (fun iv wx => ∃ (j : Nat) (done : List (Rec × Nat)), j ≤ n3 ∧ iv = .int .i64 (j : Int) ∧ Bx (R = locR b fr done (acc.drop j)) ∧ Bx (done.length = j) ∧ Bx (Below gm wb wx) ∧ Bx (OwS fndL 8 wx (gm + 1) 91 (.slice A3 n3 c3) (doneE done acc ++ (acc.drop j).map ent0)) ∧ Bx (∀ y ∈ done, DonOk fr y)) (fun i _ => n3 - (intOf i).toNat)
      case atStart => exact ⟨0, [], by omega, rfl, HR3, bx rfl, bx (Below.refl _ _), hB0, bx (by simp)⟩
      case round =>
        obtain ⟨j, done, hj, rfl, HRj, HLj, HWj, HOj, HTj⟩ := hrel
        by_cases hjn : j < n3
        · -- DEV{
          have hjI : (j : Int) < (n3 : Int) := by omega
          obtain ⟨x, hx⟩ : ∃ x, acc[j]? = some x := ⟨_, List.getElem?_eq_getElem (by rw [HL.out]; exact hjn)⟩
          have hxm : x ∈ acc := List.mem_of_getElem? hx
          have hLn := list_len HLj.out (by rw [HL.out]; exact hj)
          obtain ⟨gl, cc, hv, hglo, hglt⟩ := HOj.out.form (by rw [hLn, HL.out]; omega)
          injection hv with hv1 hv2 hv3
          subst hv1
          have hEj := hEm.out.below (HB3b.out.trans HWj.out)
          have hx2 := (HOK.out.good x hxm).2.2.2
          have hsm := HSM.out x hxm
          have hLOC := local_any g gl (j * 8) j gm (gm + 1) n3 c3 b x 0 fr _ wr hEj (by omega) rfl HOj.out (list_at HLj.out hx) (by have := HN.out; omega) (by have := HN.out; omega) (by have := HN.out; omega) hsm.1 hsm.2.1 hsm.2.2.1
          obtain ⟨Y, hY⟩ : ∃ Y, localA b fr x = Y := ⟨_, rfl⟩
          rw [hY] at hLOC
          have HLOC := bx hLOC
          have hdr : acc.drop j = x :: acc.drop (j + 1) := by
            rw [List.drop_eq_getElem_cons (by rw [HL.out]; exact hjn)]
            rw [List.getElem?_eq_getElem (by rw [HL.out]; exact hjn)] at hx
            injection hx with hx
            rw [hx]
          clear hv2 hv3 hLn hB0
          cases Y with
          | none =>
            have HRk := bx (show R = .err 15 from by rw [HRj.out, hdr, locR_bad hY])
            have HB5 := bx (HB3.out.trans (HWj.out.mono (by have := HB3.out.size; omega)))
            clear hLOC hY hdr hx HRj
            go_wp2_with fail
            refine HLOC.out.mono ?_
            rintro e1 w5 ⟨hg5, rfl⟩
            have HB6 := bx (HB5.out.trans (gb_low hg5 (by omega) hglt))
            clear hg5
            go_wp2
            go_ret2
            exact DirPost.bad HRk.out HB6.out
          | some a2 =>
            have hlo := localA_ok hY
            have HRj2 := bx (show R = locR b fr (done ++ [(x.1, a2)]) (acc.drop (j + 1)) from by rw [HRj.out, hdr, locR_good hY])
            have HS := bx (list_set (a := a2) HLj.out hx)
            have HTj2 : Bx (∀ y ∈ done ++ [(x.1, a2)], DonOk fr y) := bx (fun y hy => by
              rcases List.mem_append.1 hy with h | h
              · exact HTj.out y h
              · simp at h; subst h
                exact ⟨hsm.1, hsm.2.1, hsm.2.2.2.1, hsm.2.2.2.2.1, hsm.2.2.2.2.2, hsm.2.2.1, by have := hlo.1; show x.1.head + 30 ≤ a2; omega, hlo.2.1⟩)
            have HLj2 : Bx ((done ++ [(x.1, a2)]).length = j + 1) := bx (by rw [List.length_append, HLj.out]; rfl)
            clear hLOC hY hdr hx HRj hlo hsm hxm HTj HLj
            go_wp2_with fail
            refine HLOC.out.mono ?_
            rintro e1 w5 ⟨hg5, rfl, hO5⟩
            have HO5 := bx hO5
            have HW5 := bx (HWj.out.trans (gb_low hg5 (by omega) hglt))
            rw [HS.out] at HO5
            clear hg5 hO5 HOj HWj HLOC
            go_wp2
            go_roundw
            case rel => exact ⟨j + 1, _, by omega, by go_num, HRj2, HLj2, HW5, HO5, HTj2⟩
            case measure => simp [intOf]; omega
          -- DEV}
        have hjI : ¬ (j : Int) < (n3 : Int) := by omega
        obtain rfl : j = n3 := by omega
        have HR4 := bx (show R = locK done from by rw [HRj.out, List.drop_eq_nil_of_le (Nat.le_of_eq HL.out), locR_nil])
        have HO4 : Bx (OwS fndL 8 wr (gm + 1) 91 (.slice A3 j c3) (doneE done acc)) := by
          have := HOj.out
          rw [List.drop_eq_nil_of_le (Nat.le_of_eq HL.out), List.map_nil, List.append_nil] at this
          exact bx this
        have HB4 := bx (HB3.out.trans (HWj.out.mono (by have := HB3.out.size; omega)))
        have HW4 := bx (HB3b.out.trans HWj.out)
        have hgx4 : gm < wr.heap.size := by have := HWj.out.size; omega
        clear HB3 HB3b HWj HOj HRj hB0 hj hjn HE HX HOK HSM HR3 hgx
        obtain ⟨wc, rfl⟩ : ∃ wc, wc = wr := ⟨_, rfl⟩
        obtain ⟨gc, hgc⟩ : ∃ gc, wc.heap.size = gc := ⟨_, rfl⟩
        have hGC := bx hgc
        have hgmc : gm < gc := by omega
        have HCc := bx (show Below gc wc wc from Below.refl _ _)
        clear hgc hgx4 hEm himI hjI hB1
        go_wp2_with fail
        go_loopw [18, 143] (fun ov iv wx => ∃ t : Nat, t ≤ j ∧ iv = .int .i64 (t : Int) ∧ Bx (Below gc wc wx) ∧ Bx (OwS recL 7 wx gc 59 ov (done.take t))) (fun _ i _ => j - (intOf i).toNat)
        case atStart => exact ⟨0, by omega, rfl, HCc, bx OwS.nil⟩
        case round =>
          obtain ⟨t, ht, rfl, HWt, HOt⟩ := hrel
          have hgcr : gc ≤ wr.heap.size := by have := HWt.out.size; have := hGC.out; omega
          by_cases htj : t < j
          · -- DEV{
            have htI : (t : Int) < (j : Int) := by omega
            obtain ⟨d, hd⟩ : ∃ d, done[t]? = some d := ⟨_, List.getElem?_eq_getElem (by rw [HLj.out]; exact htj)⟩
            obtain ⟨qp, hqp⟩ := doneE_get (acc := acc) (by rw [HLj.out, HL.out]; exact Nat.le_refl _) hd
            have hOr : OwS fndL 8 wr (gm + 1) 91 (.slice A3 j c3) (doneE done acc) := HO4.out.step (by rw [hGC.out]; exact HWt.out)
            obtain ⟨gl, cc, hv, hglo, hglt⟩ := hOr.form (by rw [doneE_len HLj.out (by rw [HL.out]; exact Nat.le_refl _)]; omega)
            injection hv with hv1 hv2 hv3
            subst hv1
            obtain ⟨y0, y1, y2, y3, y4, y5, y6, y7, hcs⟩ : ∃ y0 y1 y2 y3 y4 y5 y6 y7, fndC d.1 (d.2 : Int) qp = #[y0, y1, y2, y3, y4, y5, y6, y7] := ⟨_, _, _, _, _, _, _, _, rfl⟩
            have hfl : fndL (d.1, ((d.2 : Nat) : Int), qp) = [y0, y1, y2, y3, y4, y5, y6, y7] := by show (fndC d.1 (d.2 : Int) qp).toList = _; rw [hcs]
            have hc1 := bx (fndC_one d.1 (d.2 : Int) qp)
            have HCS : Bx ((#[y0, y1, y2, y3, y4, y5, y6] : Array Value).toList = recL d) := bx (by
              have e : recL d = (fndL (d.1, ((d.2 : Nat) : Int), qp)).take 7 := rfl
              rw [e, hfl]; rfl)
            rw [hcs] at hc1
            have k0 : wr.cell? ⟨gl, t * 8, none⟩ = some y0 := hOr.cell fndCels (j := 0) hqp (by rw [hfl]; rfl)
            have k1 : wr.cell? ⟨gl, t * 8 + 1, none⟩ = some y1 := hOr.cell fndCels (j := 1) hqp (by rw [hfl]; rfl)
            have k2 : wr.cell? ⟨gl, t * 8 + 2, none⟩ = some y2 := hOr.cell fndCels (j := 2) hqp (by rw [hfl]; rfl)
            have k3 : wr.cell? ⟨gl, t * 8 + 3, none⟩ = some y3 := hOr.cell fndCels (j := 3) hqp (by rw [hfl]; rfl)
            have k4 : wr.cell? ⟨gl, t * 8 + 4, none⟩ = some y4 := hOr.cell fndCels (j := 4) hqp (by rw [hfl]; rfl)
            have k5 : wr.cell? ⟨gl, t * 8 + 5, none⟩ = some y5 := hOr.cell fndCels (j := 5) hqp (by rw [hfl]; rfl)
            have k6 : wr.cell? ⟨gl, t * 8 + 6, none⟩ = some y6 := hOr.cell fndCels (j := 6) hqp (by rw [hfl]; rfl)
            have k7 : wr.cell? ⟨gl, t * 8 + 7, none⟩ = some y7 := hOr.cell fndCels (j := 7) hqp (by rw [hfl]; rfl)
            obtain ⟨w4, hw4⟩ : ∃ w4, (wr.alloc (.cells z8 91)).setRow wr.heap.size #[y0, y1, y2, y3, y4, y5, y6, y7] = w4 := ⟨_, rfl⟩
            have hK4 : Bk w4 wr.heap.size 91 #[y0, y1, y2, y3, y4, y5, y6, y7] := by rw [← hw4]; exact ((Bk.new wr _ z8).setRow _)
            have hb34 : Below wr.heap.size wr w4 := by rw [← hw4]; exact bl_setRow (bl_alloc (Below.refl _ _) (Nat.le_refl _) _) (Nat.le_refl _) _
            have n0 : w4.cell? ⟨wr.heap.size, 0, none⟩ = some y0 := (hK4.cell 0).trans rfl
            have n1 : w4.cell? ⟨wr.heap.size, 1, none⟩ = some y1 := (hK4.cell 1).trans rfl
            have n2 : w4.cell? ⟨wr.heap.size, 2, none⟩ = some y2 := (hK4.cell 2).trans rfl
            have n3 : w4.cell? ⟨wr.heap.size, 3, none⟩ = some y3 := (hK4.cell 3).trans rfl
            have n4 : w4.cell? ⟨wr.heap.size, 4, none⟩ = some y4 := (hK4.cell 4).trans rfl
            have n5 : w4.cell? ⟨wr.heap.size, 5, none⟩ = some y5 := (hK4.cell 5).trans rfl
            have n6 : w4.cell? ⟨wr.heap.size, 6, none⟩ = some y6 := (hK4.cell 6).trans rfl
            have HO4' := bx (HOt.out.step hb34)
            have HW4' := bx (HWt.out.trans (hb34.mono hgcr))
            have hgx4 : gc ≤ w4.heap.size := by have := hb34.size; omega
            have HW4e := bx hw4
            have HN4 : Bx (((done.take t).length + [d].length) * 64 ≤ 140737488355328) := bx (by have := HLj.out; simp; omega)
            have HTK : Bx (done.take t ++ [d] = done.take (t + 1)) := bx (by
              rw [List.take_add_one, hd]; rfl)
            clear hv2 hv3 hOr hfl hcs hqp hd hw4 hb34 hK4 HOt HWt
            go_wp2_with (first
              | (refine wpList_store_row rfl 91 (.tmp 20) (.tmp 146) rfl wr.heap.size #[y0, y1, y2, y3, y4, y5, y6, y7] rfl rfl 91 z8 (Bk.new _ _ _) info_found rfl hc1.out ?_; rw [z8_eq, HW4e.out])
              | (at_builtin; refine wpList_appS _ recCels rfl (.tmp 147) (.tmp 150) rfl recTy (by decide) gc u18 (done.take t) rfl (OwS.alloc HO4'.out _) _ _ 1 1 [d] rfl rfl (RS.new _ _ #[y0, y1, y2, y3, y4, y5, y6] HCS.out _ _) HN4.out (le_alloc0 hgx4 _) ?_; intro v8 w8 own8 _ _ hb8))
            have HO8 : Bx (OwS recL 7 w8 gc 59 v8 (done.take (t + 1))) := bx (by rw [← HTK.out]; exact own8)
            have HW8 := bx (HW4'.out.trans ((bl_alloc (Below.refl gc w4) hgx4 (.cells #[y0, y1, y2, y3, y4, y5, y6] 59)).trans hb8))
            clear own8 hb8 HTK k0 k1 k2 k3 k4 k5 k6 k7 n0 n1 n2 n3 n4 n5 n6
            go_roundw
            case rel => exact ⟨t + 1, by omega, by go_num, HW8, HO8⟩
            case measure => simp [intOf]; omega
            -- DEV}
          have htI : ¬ (t : Int) < (j : Int) := by omega
          obtain rfl : t = j := by omega
          have HOd : Bx (OwS recL 7 wr gc 59 u18 done) := by
            have := HOt.out
            rw [List.take_of_length_le (Nat.le_of_eq HLj.out)] at this
            exact bx this
          have hlenE : (doneE done acc).length = t := doneE_len HLj.out (by rw [HL.out]; exact Nat.le_refl _)
          have hSRT := sort_both A3 t c3 (gm + 1) (doneE done acc) wr (HO4.out.step (by rw [hGC.out]; exact HWt.out)) hlenE (by omega)
          have HSRT := bx hSRT
          have HB5 := bx (HB4.out.trans (HWt.out.mono (by have := HB4.out.size; have := hGC.out; omega)))
          clear hSRT hlenE HOt htj ht
          go_wp2_with fail
          refine HSRT.out.mono ?_
          rintro e5 w5 ⟨rfl, hb5, ⟨row, hrow, hrg⟩, s, hsp, hss, hsr⟩
          have HOe := bx (HOd.out.kept hrow (by
            cases hv : u18.ownBlock with
            | none => exact .inl rfl
            | some z =>
              refine .inr (fun e => ?_)
              have hA := hrg z e.symm
              subst hA
              have h1 := (HOd.out.blk hv).1
              have h2 : z < wc.heap.size := (HO4.out.blk (g := z) rfl).2
              have := hGC.out
              omega))
          have HB6 := bx (HB5.out.trans (hb5.mono (by omega)))
          have hlenS : s.length = t := by rw [hsp.length_eq]; exact doneE_len HLj.out (by rw [HL.out]; exact Nat.le_refl _)
          have HOV := bx (overE (dir := fr) (by rw [HLj.out, HL.out]; exact Nat.le_refl _) hsp hss HTj.out)
          have HAT : Bx (∀ x ∈ s, x.2.1 = ((frE x).2 : Int) ∧ (frE x).2 ≤ 70000 ∧ x.1.head < 4294967296 ∧ x.1.packed < 4294967296) := bx (fun x hx => by
            have h1 := hsp.mem_iff.1 hx
            have h2 := doneE_at done acc x h1
            have h3 : frE x ∈ done := by
              have := List.mem_map_of_mem (f := frE) h1
              rwa [doneE_fr done acc (by rw [HLj.out, HL.out]; exact Nat.le_refl _)] at this
            have h4 := HTj.out _ h3
            have h5 : (frE x).1 = x.1 := rfl
            unfold DonOk at h4
            rw [h5] at h4
            exact ⟨h2, by have := h4.2.2.2.2.2.2.2; omega, h4.1, h4.2.1⟩)
          have HLS := bx hlenS
          have HRO := bx hsr
          have HAF : Bx (t = 0 ∨ ∃ gl, A3 = some ⟨gl, 0, none⟩) := bx (by
            rcases Nat.eq_zero_or_pos t with h | h
            · exact .inl h
            · obtain ⟨gl, cc, hv, _⟩ := HO4.out.form (by rw [doneE_len HLj.out (by rw [HL.out]; exact Nat.le_refl _)]; exact h)
              injection hv with hv
              exact .inr ⟨gl, hv⟩)
          clear hb5 hrow hrg hsp hss hsr hlenS HSRT HB5 HOd HWt hgcr HO4 HB4 HW4 HTj HL HCc
          go_wp2_with fail
          go_loopw [21] (fun iv wx => ∃ v q : Nat, (v = 0 ∨ v + 1 ≤ t) ∧ iv = .int .i64 ((v : Int) + 1) ∧ wx = w5.drewN q ∧ Bx (∀ u x y, u < v → (s.map frE)[u]? = some x → (s.map frE)[u + 1]? = some y → ¬ y.1.head < x.2 + x.1.packed)) (fun i _ => t - (intOf i).toNat)
          case atStart => exact ⟨0, 0, .inl rfl, rfl, rfl, bx (fun u _ _ h => absurd h (by omega))⟩
          case round =>
            obtain ⟨v, q, hv, rfl, rfl, HV⟩ := hrel
            by_cases hvt : v + 1 < t
            · have hvI : (v : Int) + 1 < (t : Int) := by omega
              obtain ⟨gl, rfl⟩ : ∃ gl, A3 = some ⟨gl, 0, none⟩ := by
                rcases HAF.out with h | h
                · omega
                · exact h
              have hro := HRO.out gl rfl
              obtain ⟨x, hx⟩ : ∃ x, s[v]? = some x := ⟨_, List.getElem?_eq_getElem (by rw [HLS.out]; omega)⟩
              obtain ⟨y, hy⟩ : ∃ y, s[v + 1]? = some y := ⟨_, List.getElem?_eq_getElem (by rw [HLS.out]; omega)⟩
              obtain ⟨ha1, ha2, ha3, ha4⟩ := HAT.out x (List.mem_of_getElem? hx)
              have hb3 := (HAT.out y (List.mem_of_getElem? hy)).2.2.1
              obtain ⟨at1, hat1⟩ : ∃ z, (frE x).2 = z := ⟨_, rfl⟩
              obtain ⟨pk1, hpk1⟩ : ∃ z, x.1.packed = z := ⟨_, rfl⟩
              obtain ⟨hd1, hhd1⟩ : ∃ z, y.1.head = z := ⟨_, rfl⟩
              rw [hat1] at ha1 ha2
              rw [hpk1] at ha4
              rw [hhd1] at hb3
              have q6 : w5.cell? ⟨gl, (v + 1) * 8 + 6, none⟩ = some (.int .i64 (hd1 : Int)) := by rw [← hhd1]; exact hro (v + 1) 6 y _ hy rfl
              have q5 : w5.cell? ⟨gl, v * 8 + 5, none⟩ = some (.int .i64 (at1 : Int)) := by rw [← ha1]; exact hro v 5 x _ hx rfl
              have q2 : w5.cell? ⟨gl, v * 8 + 2, none⟩ = some (.int .i64 (pk1 : Int)) := by rw [← hpk1]; exact hro v 2 x _ hx rfl
              have HSX : Bx ((s.map frE)[v]? = some (frE x) ∧ (s.map frE)[v + 1]? = some (frE y) ∧ ((frE y).1.head < (frE x).2 + (frE x).1.packed ↔ hd1 < at1 + pk1)) := bx ⟨by rw [List.getElem?_map, hx]; rfl, by rw [List.getElem?_map, hy]; rfl, by
                rw [hat1]
                show y.1.head < at1 + x.1.packed ↔ _
                rw [hhd1, hpk1]⟩
              have x1 : IntKind.i64.wrap ((v : Int) + 1 - 1) = (v : Int) := by rw [show (v : Int) + 1 - 1 = (v : Int) by omega]; exact IntWalk.i64_in _ (by omega)
              have x2 : IntKind.i64.wrap (v : Int) = (v : Int) := IntWalk.i64_in _ (by omega)
              have x3 : IntKind.i64.wrap ((at1 : Int) + (pk1 : Int)) = (at1 : Int) + (pk1 : Int) := IntWalk.i64_in _ (by omega)
              have x4 : ((v : Int) + 1).toNat = v + 1 := Int.toNat_natCast (v + 1)
              have x5 : (v : Int) < (t : Int) := by omega
              have x6 : (0 : Int) ≤ (v : Int) + 1 := by omega
              clear hx hy ha1 hat1 hpk1 hhd1 hro
              by_cases hov : hd1 < at1 + pk1
              · have hovI : (hd1 : Int) < (at1 : Int) + (pk1 : Int) := by omega
                have hovJ : decide ((hd1 : Int) < (at1 : Int) + (pk1 : Int)) = true := decide_eq_true hovI
                have HRk := bx (show R = .err 16 from by
                  rw [HR4.out]; unfold locK
                  rw [← HOV.out, adj_hit _ v _ _ HSX.out.1 HSX.out.2.1 (HSX.out.2.2.2 hov)]; rfl)
                clear hov
                go_wp2
                go_quiet (fail)
                go_wp2
                go_ret2
                exact DirPost.bad HRk.out (below_drewN (below_drewN HB6.out _) _)
              · have hovI : ¬ (hd1 : Int) < (at1 : Int) + (pk1 : Int) := by omega
                have hovJ : decide ((hd1 : Int) < (at1 : Int) + (pk1 : Int)) = false := decide_eq_false hovI
                have HV2 : Bx (∀ u x y, u < v + 1 → (s.map frE)[u]? = some x → (s.map frE)[u + 1]? = some y → ¬ y.1.head < x.2 + x.1.packed) := bx (fun u x' y' hu h1 h2 => by
                  by_cases e : u = v
                  · subst e
                    rw [HSX.out.1] at h1; rw [HSX.out.2.1] at h2
                    injection h1 with h1; injection h2 with h2
                    rw [← h1, ← h2]
                    exact fun h => hov (HSX.out.2.2.1 h)
                  · exact HV.out u x' y' (by omega) h1 h2)
                clear hov
                go_wp2
                go_quiet (fail)
                go_wp2
                go_roundw
                case rel => exact ⟨v + 1, q + nq, .inr (by omega), by go_num, rfl, HV2⟩
                case measure => simp [intOf]; omega
            · have hvI : ¬ (v : Int) + 1 < (t : Int) := by omega
              have HRk := bx (show R = .ok done from by
                rw [HR4.out]; unfold locK
                rw [← HOV.out, adj_none _ (fun u x y h1 h2 => HV.out u x y (by
                  have := (List.getElem?_eq_some_iff.1 h2).1
                  rw [List.length_map, HLS.out] at this
                  omega) h1 h2)]; rfl)
              go_wp2
              go_ret2
              exact DirPost.good HRk.out (below_drewN HB6.out _) (OwS.drewN (OwS.low HOe.out (by omega)) _)
end Go.Proofs.YtlmcpkomjofcgaaDoor
namespace Go.Proofs.YtlmcpkomjofcgaaDoor
open Go.RowKit
/-- The records and their places, the directory's end checked. -/
def cenR (b : List UInt8) (fr td m : Nat) : Rz (List (Rec × Nat)) := (centA b td m fr []).bind fun x => if x.2 ≠ td then .err 11 else .ok x.1
theorem over_all {l : List (Rec × Nat)} (h : ∀ (i k : Nat) (x y : Rec × Nat), l[i]? = some x → l[k]? = some y → k < i → overA x y = false) : anyOver l = false := by
  rw [anyOver_iff, List.pairwise_iff_getElem]
  intro i j hi hj hij
  rw [overA_comm]
  exact h j i _ _ (List.getElem?_eq_getElem hj) (List.getElem?_eq_getElem hi) hij
theorem over_hit {l : List (Rec × Nat)} {i k : Nat} {x y : Rec × Nat} (hx : l[i]? = some x) (hy : l[k]? = some y) (hk : k < i) (h : overA x y = true) : anyOver l = true := by
  cases ha : anyOver l with
  | true => rfl
  | false =>
    rw [anyOver_iff, List.pairwise_iff_getElem] at ha
    obtain ⟨hi, e1⟩ := List.getElem?_eq_some_iff.1 hx
    obtain ⟨hk2, e2⟩ := List.getElem?_eq_some_iff.1 hy
    have := ha k i hk2 hi hk
    rw [e1, e2, overA_comm, h] at this
    cases this
theorem cenR_pos {b : List UInt8} {fr td m : Nat} {k : Int} (h : cenR b fr td m = .err k) : 11 ≤ k ∧ k ≤ 14 := by
  have key : ∀ (n p : Nat) (acc : List (Rec × Nat)) (k : Int), centA b td n p acc = .err k → 11 ≤ k ∧ k ≤ 14 := by
    intro n
    induction n with
    | zero => intro p acc k h; rw [centA] at h; cases h
    | succ n ih =>
      intro p acc k h
      cases hr : recA b p td (acc.map (·.1.name)) with
      | err e => rw [cent1_err hr] at h; injection h with h; rw [← h]; exact recA_err hr
      | ok x => rw [cent1_ok hr] at h; exact ih _ _ _ h
  unfold cenR at h
  cases hc : centA b td m fr [] with
  | err e => rw [hc] at h; injection h with h; rw [← h]; exact key _ _ _ _ hc
  | ok x =>
    rw [hc] at h
    have h : (if x.2 ≠ td then Rz.err 11 else Rz.ok x.1 : Rz (List (Rec × Nat))) = .err k := h
    split at h
    · injection h with h; omega
    · cases h
theorem cenR_ok {b : List UInt8} {fr td m : Nat} {l : List (Rec × Nat)} (h : cenR b fr td m = .ok l) : centA b td m fr [] = .ok (l, td) := by
  unfold cenR at h
  cases hc : centA b td m fr [] with
  | err e => rw [hc] at h; cases h
  | ok x =>
    rw [hc] at h
    have h : (if x.2 ≠ td then Rz.err 11 else Rz.ok x.1 : Rz (List (Rec × Nat))) = .ok l := h
    split at h
    · cases h
    · rename_i hx
      injection h with h
      rw [← h, show x = (x.1, x.2) from rfl, show x.2 = td by simpa using hx]
theorem book_cenR {b : List UInt8} {fr td m : Nat} : bookA b fr td m = (cenR b fr td m).bind fun l => locR b fr [] l := by
  rw [bookA_dirK]
  unfold cenR
  cases hc : centA b td m fr [] with
  | err e => rfl
  | ok x =>
    obtain ⟨l, q⟩ := x
    show dirK b fr td (l, q) = (if q ≠ td then Rz.err 11 else Rz.ok l).bind _
    by_cases hq : q = td
    · subst hq
      rw [if_neg (by simp), dirK_loc]; rfl
    · rw [if_pos hq]; unfold dirK; rw [if_pos hq]; rfl
end Go.Proofs.YtlmcpkomjofcgaaDoor
