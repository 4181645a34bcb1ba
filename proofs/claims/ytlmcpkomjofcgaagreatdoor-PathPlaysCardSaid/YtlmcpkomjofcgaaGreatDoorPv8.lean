/- Contract: archive.Directory. Plain: the directory as the document reads it. Contract: samovarref09.central. Contract: samovarref09.local. Contract: samovarref09.Directory. -/
import Derived.Test.YtlmcpkomjofcgaaGreatDoorPv7
import Derived.Test.YtlmcpkomjofcgaaGreatDoorPv4
import Derived.Deep.DeepCutAuto
import Derived.Deep.RegionHeld3
import Derived.Deep.RegionWith
namespace Go.Proofs.YtlmcpkomjofcgaaGreatDoor
open Go.RowKit
/-- A record as the directory gives it: seven cells. -/
def recL (x : Rec × Nat) : List Value := [strV x.1.name, .int .i64 x.1.method, .int .i64 x.1.packed, .int .i64 x.1.size, .int .i64 x.1.sum, .int .i64 x.2, .int .i64 x.1.head]
theorem recCels : Cels recL 7 := ⟨fun _ => rfl, fun x u hu => by
  simp only [recL, List.mem_cons, List.not_mem_nil, or_false] at hu
  rcases hu with rfl | rfl | rfl | rfl | rfl | rfl | rfl <;> rfl, by omega⟩
def DirPost (R : Rz (List (Rec × Nat))) (w : World) (e : Ending) (w' : World) : Prop := Below w.heap.size w w' ∧ match R with
  | .err k => e = .returned (.tuple #[.slice none 0 0, .int .i64 k])
  | .ok l => ∃ v, e = .returned (.tuple #[v, .int .i64 0]) ∧ OwS recL 7 w' w.heap.size 71 v l
theorem DirPost.bad {R : Rz (List (Rec × Nat))} {w w' : World} {k : Int} (h : R = .err k) (hb : Below w.heap.size w w') : DirPost R w (.returned (.tuple #[.slice none 0 0, .int .i64 k])) w' := by
  subst h; exact ⟨hb, rfl⟩
theorem DirPost.good {R : Rz (List (Rec × Nat))} {w w' : World} {l : List (Rec × Nat)} {v : Value} (h : R = .ok l) (hb : Below w.heap.size w w') (ho : OwS recL 7 w' w.heap.size 71 v l) : DirPost R w (.returned (.tuple #[v, .int .i64 0])) w' := by
  subst h; exact ⟨hb, v, rfl, ho⟩
def ent0 (x : Rec × Nat) : Ent := (x.1, 0, x.2)
theorem fndTy : ETy Tryz.prog 130 133 (.agg z8) 8 72 := ⟨Tryz.underlying130, info_parts (by kernel_rfl), rfl, by decide⟩
theorem recTy : ETy Tryz.prog 67 71 (.agg #[.string ⟨#[]⟩, .int .i64 0, .int .i64 0, .int .i64 0, .int .i64 0, .int .i64 0, .int .i64 0]) 7 64 := ⟨Tryz.underlying67, info_parts (by kernel_rfl), rfl, by decide⟩
theorem recA_err {b : List UInt8} {p border : Nat} {seen : List (List UInt8)} {k : Int} (h : recA b p border seen = .err k) : 11 ≤ k ∧ k ≤ 14 := by
  unfold recA at h
  split at h
  · injection h with h; omega
  split at h
  · injection h with h; omega
  split at h
  · injection h with h; omega
  split at h
  · injection h with h; omega
  split at h
  · injection h with h; omega
  · cases h
theorem recA_sm {b : List UInt8} {p border q : Nat} {seen : List (List UInt8)} {r : Rec} (h : recA b p border seen = .ok (r, q)) : r.head < 4294967296 ∧ r.packed < 4294967296 ∧ r.name.length < 65536 ∧ r.method < 65536 ∧ r.size < 4294967296 ∧ r.sum < 4294967296 := by
  unfold recA at h
  split at h
  · cases h
  split at h
  · cases h
  split at h
  · cases h
  split at h
  · cases h
  split at h
  · cases h
  · injection h with h
    injection h with h1 h2
    subst h1
    refine ⟨numA_4 _ _, numA_4 _ _, ?_, numA_2 _ _, numA_4 _ _, numA_4 _ _⟩
    have := numA_2 b (p + 28)
    simp only [List.length_take]; omega
def doneE (done acc : List (Rec × Nat)) : List Ent := List.zipWith (fun d x => (d.1, ((d.2 : Nat) : Int), x.2)) done acc
theorem doneE_len {done acc : List (Rec × Nat)} {k : Nat} (h : done.length = k) (hk : k ≤ acc.length) : (doneE done acc).length = k := by
  unfold doneE; rw [List.length_zipWith]; omega
theorem list_at {done acc : List (Rec × Nat)} {k : Nat} {x : Rec × Nat} (h : done.length = k) (hx : acc[k]? = some x) : (doneE done acc ++ (acc.drop k).map ent0)[k]? = some (x.1, 0, x.2) := by
  have hk := (List.getElem?_eq_some_iff.1 hx).1
  rw [List.getElem?_append_right (by rw [doneE_len h (by omega)]; exact Nat.le_refl _), doneE_len h (by omega), Nat.sub_self, List.getElem?_map, List.getElem?_drop, Nat.add_zero, hx]
  rfl
theorem zip_more {α β γ : Type} (f : α → β → γ) : ∀ (d : List α) (l : List β) (y : α) (x : β), l[d.length]? = some x → List.zipWith f (d ++ [y]) l = List.zipWith f d l ++ [f y x]
  | [], [], _, _, h => by simp at h
  | [], z :: l, y, x, h => by simp at h; subst h; simp
  | c :: d, [], _, _, h => by simp at h
  | c :: d, z :: l, y, x, h => by simp at h; simp [zip_more f d l y x h]
theorem list_set {done acc : List (Rec × Nat)} {k a : Nat} {x : Rec × Nat} (h : done.length = k) (hx : acc[k]? = some x) :
    (doneE done acc ++ (acc.drop k).map ent0).set k (x.1, ((a : Nat) : Int), x.2) = doneE (done ++ [(x.1, a)]) acc ++ (acc.drop (k + 1)).map ent0 := by
  have hk := (List.getElem?_eq_some_iff.1 hx).1
  have e1 : doneE (done ++ [(x.1, a)]) acc = doneE done acc ++ [(x.1, ((a : Nat) : Int), x.2)] := zip_more _ done acc (x.1, a) x (by rw [h]; exact hx)
  rw [List.set_append_right _ _ (by rw [doneE_len h (by omega)]; exact Nat.le_refl _), doneE_len h (by omega), Nat.sub_self, List.drop_eq_getElem_cons hk, List.map_cons, List.set_cons_zero, e1]
  simp
def DonOk (dir : Nat) (y : Rec × Nat) : Prop := y.1.head < 4294967296 ∧ y.1.packed < 4294967296 ∧ y.1.method < 65536 ∧ y.1.size < 4294967296 ∧ y.1.sum < 4294967296 ∧ y.1.name.length < 65536 ∧ y.1.head + 30 ≤ y.2 ∧ y.2 + y.1.packed ≤ dir
theorem list_len {done acc : List (Rec × Nat)} {k : Nat} (h : done.length = k) (hk : k ≤ acc.length) : (doneE done acc ++ (acc.drop k).map ent0).length = acc.length := by
  rw [List.length_append, doneE_len h hk, List.length_map, List.length_drop]; omega
theorem OwS.low {α : Type} {fC : α → List Value} {sz : Nat} {w : World} {base base' : Nat} {e : TypeId} {v : Value} {l : List α} (h : OwS fC sz w base e v l) (hB : base' ≤ base) : OwS fC sz w base' e v l := by
  refine ⟨h.1, ?_⟩
  rcases h.2 with h0 | ⟨g, cap, cur, hv, hb, r⟩
  · exact .inl h0
  · exact .inr ⟨g, cap, cur, hv, Nat.le_trans hB hb, r⟩
def frE (x : Ent) : Rec × Nat := (x.1, x.2.1.toNat)
theorem doneE_fr : ∀ (done acc : List (Rec × Nat)), done.length ≤ acc.length → (doneE done acc).map frE = done
  | [], _, _ => by simp [doneE]
  | d :: ds, [], h => by simp at h
  | d :: ds, x :: xs, h => by
    have := doneE_fr ds xs (by simpa using h)
    unfold doneE at this ⊢
    rw [List.zipWith_cons_cons, List.map_cons, this]
    rfl
theorem doneE_at : ∀ (done acc : List (Rec × Nat)), ∀ x ∈ doneE done acc, x.2.1 = ((frE x).2 : Int)
  | [], _, x, h => by simp [doneE] at h
  | d :: ds, [], x, h => by simp [doneE] at h
  | d :: ds, y :: ys, x, h => by
    unfold doneE at h
    rw [List.zipWith_cons_cons] at h
    rcases List.mem_cons.1 h with h | h
    · subst h; rfl
    · exact doneE_at ds ys x h
theorem doneE_get {done acc : List (Rec × Nat)} {t : Nat} (h : done.length ≤ acc.length) {d : Rec × Nat} (hd : done[t]? = some d) : ∃ q, (doneE done acc)[t]? = some (d.1, ((d.2 : Nat) : Int), q) := by
  have ht := (List.getElem?_eq_some_iff.1 hd).1
  unfold doneE
  rw [List.getElem?_zipWith, hd, List.getElem?_eq_getElem (by omega)]
  exact ⟨_, rfl⟩
theorem adj_hit : ∀ (s : List (Rec × Nat)) (t : Nat) (x y : Rec × Nat), s[t]? = some x → s[t + 1]? = some y → y.1.head < x.2 + x.1.packed → adjA s = true
  | [], _, _, _, h, _, _ => by simp at h
  | [a], t, x, y, h, h2, _ => by simp at h2
  | a :: b :: r, 0, x, y, h, h2, h3 => by
    simp at h h2
    subst h; subst h2
    rw [adjA, decide_eq_true h3]; rfl
  | a :: b :: r, t + 1, x, y, h, h2, h3 => by
    have := adj_hit (b :: r) t x y (by simpa using h) (by simpa using h2) h3
    rw [adjA, this, Bool.or_true]
theorem adj_none : ∀ (s : List (Rec × Nat)), (∀ t x y, s[t]? = some x → s[t + 1]? = some y → ¬ y.1.head < x.2 + x.1.packed) → adjA s = false
  | [], _ => rfl
  | [a], _ => rfl
  | a :: b :: r, h => by
    have := adj_none (b :: r) (fun t x y hx hy => h (t + 1) x y (by simpa using hx) (by simpa using hy))
    rw [adjA, this, Bool.or_false, decide_eq_false (h 0 a b rfl rfl)]
theorem overE {done acc : List (Rec × Nat)} {dir : Nat} {s : List Ent} (hl : done.length ≤ acc.length) (hp : s.Perm (doneE done acc)) (hs : Sorted s) (hd : ∀ y ∈ done, DonOk dir y) : adjA (s.map frE) = anyOver done := by
  have h1 : (s.map frE).Perm done := by
    have := hp.map frE
    rwa [doneE_fr done acc hl] at this
  refine over_sorted h1 ?_ (fun x hx => by have := (hd x hx).2.2.2.2.2.2.1; omega)
  rw [List.pairwise_map]
  exact hs
def RecSm (x : Rec × Nat) : Prop := x.1.head < 4294967296 ∧ x.1.packed < 4294967296 ∧ x.1.name.length < 65536 ∧ x.1.method < 65536 ∧ x.1.size < 4294967296 ∧ x.1.sum < 4294967296
theorem centA_sm {b : List UInt8} {border : Nat} : ∀ n p acc l q, (∀ x ∈ acc, RecSm x) → centA b border n p acc = .ok (l, q) → ∀ x ∈ l, RecSm x := by
  intro n
  induction n with
  | zero =>
    intro p acc l q hacc h
    rw [centA] at h
    injection h with h
    injection h with h1 h2
    subst h1; exact hacc
  | succ n ih =>
    intro p acc l q hacc h
    rw [centA] at h
    cases hr : recA b p border (acc.map (·.1.name)) with
    | err e => rw [hr] at h; cases h
    | ok x =>
      rw [hr] at h
      exact ih x.2 (acc ++ [(x.1, p)]) l q (fun y hy => by
        rcases List.mem_append.1 hy with h | h
        · exact hacc y h
        · simp at h; subst h; exact recA_sm (q := x.2) hr) h
theorem cent1_err {b : List UInt8} {p n at_ : Nat} {acc : List (Rec × Nat)} {k : Int} (h : recA b at_ p (acc.map (·.1.name)) = .err k) : centA b p (n + 1) at_ acc = .err k := by
  rw [centA, h]; rfl
theorem cent1_ok {b : List UInt8} {p n at_ : Nat} {acc : List (Rec × Nat)} {x : Rec × Nat} (h : recA b at_ p (acc.map (·.1.name)) = .ok x) : centA b p (n + 1) at_ acc = centA b p n x.2 (acc ++ [(x.1, at_)]) := by
  rw [centA, h]; rfl
set_option maxRecDepth 100000 in
set_option maxHeartbeats 16000000 in
theorem dir_any (A : Option Addr) (n c : Nat) (b : List UInt8) (w : World) (mx : Int) (hn : b.length = n) (hzz : n ≤ 140737488351232) (hnc : n ≤ c) (hc : (c : Int) ≤ 9223372036854775807) (hr : RB w w.heap.size A b) (hmx : w.cell? ⟨0, 0, none⟩ = some (.int .i64 mx)) :
    Calls Tryz.prog 50 #[.slice A n c] w (DirPost (dirA b) w) := by
  obtain ⟨R, hR⟩ : ∃ R, dirA b = R := ⟨_, rfl⟩
  rw [hR]
  unfold dirA at hR
  by_cases c1 : 65536 < n
  · rw [if_pos (by rw [hn]; exact c1)] at hR
    have HR := bx hR.symm
    have HB := bx (Below.refl w.heap.size w)
    clear hR hn hr hmx
    go_enter Tryz.func50, Tryz.ntmps50
    go_wp2
    go_ret2
    exact DirPost.bad HR.out HB.out
  have hz : n ≤ 70000 := by omega
  rw [if_neg (by rw [hn]; exact c1)] at hR
  have HN := bx hn
  have HR0 := bx hR
  have HRB := bx hr
  have HMX := bx hmx
  clear hR hn hr hmx
  go_enter Tryz.func50, Tryz.ntmps50
  go_wp2_with fail
  refine (kinds_any w).mono ?_
  rintro e w1 ⟨mk, rfl, hmk, hMk, hb1⟩
  go_wp2_with fail
  obtain ⟨g, hg⟩ : ∃ g, w1.heap.size = g := ⟨_, rfl⟩
  obtain ⟨w2, hw2⟩ : ∃ w2, w1.alloc (.cells #[.slice A n c, .map (some mk)] 126) = w2 := ⟨_, rfl⟩
  have hE2 : Bx (BookE w2 (g + 1) g b) := by
    rw [← hw2, ← hg]
    have hlt := hMk.lt
    refine bx ⟨A, c, mk, 3, Nat.lt_succ_self _, Nat.lt_succ_of_lt hlt, by simp, ?_, ?_, by rw [HN.out]; exact hnc, hMk.alloc _, by rw [HN.out]; omega, hc⟩
    · rw [HN.out]; exact Bk.new _ _ _
    · exact ((HRB.out.below hb1 (Nat.le_refl _)).more hb1.size |>.alloc (Nat.le_refl _) _).more (Nat.le_succ _)
  have hB2 : Bx (Below w.heap.size w w2) := by rw [← hw2]; exact bx (bl_alloc hb1 (Nat.le_refl _) _)
  have hgs : Bx (w2.heap.size = g + 1) := by rw [← hw2, ← hg]; exact bx (by simp)
  have hwg : w.heap.size ≤ g := by rw [← hg]; exact hb1.size
  rw [hg, hw2]
  clear hw2 hg hMk hb1 hmk
  go_wp2_with fail
  go_loopw [5, 6, 7] (fun pv ev iv wr => ∃ k p e : Nat, k ≤ n - 21 ∧ iv = .int .i64 (k : Int) ∧ pv = .int .i64 (p : Int) ∧ ev = .int .i64 (e : Int) ∧ Bx (EndC b k p e) ∧ Bx (Below (g + 1) w2 wr)) (fun _ _ i _ => n - (intOf i).toNat)
  case atStart => exact ⟨0, 0, 0, by omega, rfl, rfl, rfl, bx (EndC.start b), bx (Below.refl _ _)⟩
  case round =>
    obtain ⟨k, p, e, hk, rfl, rfl, rfl, HE, HB⟩ := hrel
    have hek := HE.out.1
    have HEr := bx (hE2.out.below HB.out)
    have hwr : g + 1 ≤ wr.heap.size := by have := HB.out.size; have := hgs.out; omega
    by_cases hk0 : k + 22 ≤ n
    · -- DEV{
      have hkI : (k : Int) ≤ (n : Int) - 22 := by omega
      have hrr : RB wr wr.heap.size A b := ((HRB.out.below hB2.out (Nat.le_refl _)).below HB.out (by omega)).more (by omega)
      obtain ⟨ad, x, hA, _, hx, hcx⟩ := hrr.byte (k := k) (by have := HN.out; omega)
      have hsx : x ≠ 80 → endA b k = false := fun hne => by
        unfold endA signA
        rw [List.getD_eq_getElem?_getD, hx.out]
        simp [hne]
      subst hA
      have hHX := bx hsx
      obtain ⟨sg, hs⟩ : ∃ sg, signA b k 5 6 = sg := ⟨_, rfl⟩
      obtain ⟨N, hN⟩ : ∃ N, numA b (k + 20) 2 = N := ⟨_, rfl⟩
      have HD : Bx (endA b k = (sg && decide (N = n - k - 22))) := bx (by unfold endA; rw [hs, hN, HN.out])
      have his := is_any g b k 22 n 1 5 6 wr HEr.out.d (.inl ⟨rfl, rfl, rfl⟩) (by omega) (by omega) (by have := HN.out; omega) (by omega)
      rw [hs, decide_eq_true hk0, Bool.true_and] at his
      have HIS := bx his
      have HNM := bx (fun w' (hb : Below wr.heap.size wr w') => num_at g b k 20 2 20 2 w' (HEr.out.below (hb.mono hwr)).d rfl rfl (by omega) (by omega) (by have := HN.out; omega) hN)
      clear hsx hs hN his hrr hx
      by_cases hx80 : x = 80
      case neg =>
        have hxI : ((x.toNat : Int) == 80) = false := (u8_beq x 80 (z := 80) rfl).trans (decide_eq_false hx80)
        have HX := bx (HE.out.skip (hHX.out hx80))
        clear hx80
        go_wp2
        go_roundw
        case rel => exact ⟨k + 1, p, e, by omega, by go_num, rfl, rfl, HX, HB⟩
        case measure => simp [intOf]; omega
      have hxI : ((x.toNat : Int) == 80) = true := (u8_beq x 80 (z := 80) rfl).trans (decide_eq_true hx80)
      clear hx80 hHX
      cases sg with
      | false =>
        have HX := bx (HE.out.skip HD.out)
        go_wp2_with fail
        refine HIS.out.mono ?_
        rintro e1 w3 ⟨rfl, hb3⟩
        have HB3 := bx (HB.out.trans (hb3.mono hwr))
        clear hb3
        go_wp2
        go_roundw
        case rel => exact ⟨k + 1, p, e, by omega, by go_num, rfl, rfl, HX, HB3⟩
        case measure => simp [intOf]; omega
      | true =>
      by_cases hNk : N = n - k - 22
      · have hNI : ((N : Int) == (n : Int) - (k : Int) - 22) = true := by rw [beq_iff_eq]; omega
        have HX := bx (HE.out.hit (by rw [HD.out, decide_eq_true hNk]; rfl))
        clear hNk
        go_wp2_with fail
        refine HIS.out.mono ?_
        rintro e1 w3 ⟨rfl, hb3⟩
        have HB3 := bx (HB.out.trans (hb3.mono hwr))
        have HN3 := bx (HNM.out w3 hb3)
        clear hb3
        go_wp2_with fail
        refine HN3.out.mono ?_
        rintro e2 w4 ⟨rfl, rfl⟩
        go_wp2
        go_roundw
        case rel => exact ⟨k + 1, k, e + 1, by omega, by go_num, rfl, by go_num, HX, HB3⟩
        case measure => simp [intOf]; omega
      · have hNI : ((N : Int) == (n : Int) - (k : Int) - 22) = false := by rw [beq_eq_false_iff_ne]; omega
        have HX := bx (HE.out.skip (by rw [HD.out, decide_eq_false hNk]; rfl))
        clear hNk
        go_wp2_with fail
        refine HIS.out.mono ?_
        rintro e1 w3 ⟨rfl, hb3⟩
        have HB3 := bx (HB.out.trans (hb3.mono hwr))
        have HN3 := bx (HNM.out w3 hb3)
        clear hb3
        go_wp2_with fail
        refine HN3.out.mono ?_
        rintro e2 w4 ⟨rfl, rfl⟩
        go_wp2
        go_roundw
        case rel => exact ⟨k + 1, p, e, by omega, by go_num, rfl, rfl, HX, HB3⟩
        case measure => simp [intOf]; omega
      -- DEV}
    have hkI : ¬ (k : Int) ≤ (n : Int) - 22 := by omega
    have hkn : k = b.length - 21 := by rw [HN.out]; omega
    have HC : Bx (EndC b (b.length - 21) p e) := bx (by rw [← hkn]; exact HE.out)
    have hB1 : Bx (Below w.heap.size w wr) := bx (hB2.out.trans (HB.out.mono (by omega)))
    clear hkn HE hk0 hE2 hB2 HB hgs
    by_cases he : e = 1
    case neg => -- DEV{
      have HR := bx (show R = .err 9 from by rw [← HR0.out, HC.out.none he])
      have heI : ((e : Int) != 1) = true := by rw [bne_iff_ne]; omega
      clear he HR0 HC
      go_wp2
      go_ret2
      exact DirPost.bad HR.out hB1.out
      -- DEV}
    have heI : ((e : Int) != 1) = false := by rw [bne_eq_false_iff_eq]; omega
    have hEP := HC.out.some he
    have hpe := (endP_some hEP).1
    have HR := HR0.out
    rw [hEP] at HR
    dsimp only at HR
    rw [HN.out] at hpe
    obtain ⟨d4, hd4⟩ : ∃ d, numA b (p + 4) 4 = d := ⟨_, rfl⟩
    obtain ⟨d10, hd10⟩ : ∃ d, numA b (p + 10) 2 = d := ⟨_, rfl⟩
    obtain ⟨m, hm⟩ : ∃ d, numA b (p + 8) 2 = d := ⟨_, rfl⟩
    obtain ⟨fr, hfr⟩ : ∃ d, numA b (p + 16) 4 = d := ⟨_, rfl⟩
    obtain ⟨sz, hsz⟩ : ∃ d, numA b (p + 12) 4 = d := ⟨_, rfl⟩
    have l1 : m < 65536 := by rw [← hm]; exact numA_2 _ _
    have l2 : fr < 4294967296 := by rw [← hfr]; exact numA_4 _ _
    have l3 : sz < 4294967296 := by rw [← hsz]; exact numA_4 _ _
    rw [hd4, hd10, hm, hfr, hsz] at HR
    have h4 := bx (num_at g b p 4 4 4 4 wr HEr.out.d rfl rfl (by omega) (by omega) (by have := HN.out; omega) hd4)
    have h10 := bx (num_at g b p 10 2 10 2 wr HEr.out.d rfl rfl (by omega) (by omega) (by have := HN.out; omega) hd10)
    have h8 := bx (num_at g b p 8 2 8 2 wr HEr.out.d rfl rfl (by omega) (by omega) (by have := HN.out; omega) hm)
    have h16 := bx (num_at g b p 16 4 16 4 wr HEr.out.d rfl rfl (by omega) (by omega) (by have := HN.out; omega) hfr)
    have h12 := bx (num_at g b p 12 4 12 4 wr HEr.out.d rfl rfl (by omega) (by omega) (by have := HN.out; omega) hsz)
    have HR1 := bx HR
    clear hEP hd4 hd10 hm hfr hsz HR HR0 HC he
    by_cases e4 : d4 = 0
    case neg => -- DEV{
      have HR := bx (show R = .err 10 from by rw [← HR1.out, if_pos (.inl e4)])
      have d4I : ((d4 : Int) != 0) = true := by rw [bne_iff_ne]; omega
      clear e4 HR1
      go_wp2_with fail
      refine h8.out.mono ?_
      rintro e1 wr ⟨rfl, rfl⟩
      go_wp2_with fail
      refine h16.out.mono ?_
      rintro e1 wr ⟨rfl, rfl⟩
      go_wp2_with fail
      refine h4.out.mono ?_
      rintro e1 wr ⟨rfl, rfl⟩
      go_wp2
      go_ret2
      exact DirPost.bad HR.out hB1.out
      -- DEV}
    have d4I : ((d4 : Int) != 0) = false := by rw [bne_eq_false_iff_eq]; omega
    by_cases e10 : d10 = m
    case neg => -- DEV{
      have HR := bx (show R = .err 10 from by rw [← HR1.out, if_pos (.inr (.inl e10))])
      have d10I : ((d10 : Int) != (m : Int)) = true := by rw [bne_iff_ne]; omega
      clear e4 e10 HR1
      go_wp2_with fail
      refine h8.out.mono ?_
      rintro e1 wr ⟨rfl, rfl⟩
      go_wp2_with fail
      refine h16.out.mono ?_
      rintro e1 wr ⟨rfl, rfl⟩
      go_wp2_with fail
      refine h4.out.mono ?_
      rintro e1 wr ⟨rfl, rfl⟩
      go_wp2_with fail
      refine h10.out.mono ?_
      rintro e1 wr ⟨rfl, rfl⟩
      go_wp2
      go_ret2
      exact DirPost.bad HR.out hB1.out
      -- DEV}
    have d10I : ((d10 : Int) != (m : Int)) = false := by rw [bne_eq_false_iff_eq]; omega
    by_cases em : 64 < m
    · -- DEV{
      have HR := bx (show R = .err 10 from by rw [← HR1.out, if_pos (.inr (.inr (.inl em)))])
      have emI : (64 : Int) < (m : Int) := by omega
      clear e4 e10 HR1
      go_wp2_with fail
      refine h8.out.mono ?_
      rintro e1 wr ⟨rfl, rfl⟩
      go_wp2_with fail
      refine h16.out.mono ?_
      rintro e1 wr ⟨rfl, rfl⟩
      go_wp2_with fail
      refine h4.out.mono ?_
      rintro e1 wr ⟨rfl, rfl⟩
      go_wp2_with fail
      refine h10.out.mono ?_
      rintro e1 wr ⟨rfl, rfl⟩
      go_wp2
      go_ret2
      exact DirPost.bad HR.out hB1.out
      -- DEV}
    have emI : ¬ (64 : Int) < (m : Int) := by omega
    by_cases es : fr + sz = p
    case neg => -- DEV{
      have HR := bx (show R = .err 10 from by rw [← HR1.out, if_pos (.inr (.inr (.inr es)))])
      have esI : ((fr : Int) + (sz : Int) != (p : Int)) = true := by rw [bne_iff_ne]; omega
      clear e4 e10 es HR1
      go_wp2_with fail
      refine h8.out.mono ?_
      rintro e1 wr ⟨rfl, rfl⟩
      go_wp2_with fail
      refine h16.out.mono ?_
      rintro e1 wr ⟨rfl, rfl⟩
      go_wp2_with fail
      refine h4.out.mono ?_
      rintro e1 wr ⟨rfl, rfl⟩
      go_wp2_with fail
      refine h10.out.mono ?_
      rintro e1 wr ⟨rfl, rfl⟩
      go_wp2_with fail
      refine h12.out.mono ?_
      rintro e1 wr ⟨rfl, rfl⟩
      go_wp2
      go_ret2
      exact DirPost.bad HR.out hB1.out
      -- DEV}
    have esI : ((fr : Int) + (sz : Int) != (p : Int)) = false := by rw [bne_eq_false_iff_eq]; omega
    have HR := bx (show R = (centA b p m fr []).bind (dirK b fr p) from by rw [← HR1.out, if_neg (by rintro (h | h | h | h); exact h e4; exact h e10; exact em h; exact h es), bookA_dirK])
    clear HR1 e4 e10 es
    go_wp2_with fail
    refine h8.out.mono ?_
    rintro e1 wr ⟨rfl, rfl⟩
    go_wp2_with fail
    refine h16.out.mono ?_
    rintro e1 wr ⟨rfl, rfl⟩
    go_wp2_with fail
    refine h4.out.mono ?_
    rintro e1 wr ⟨rfl, rfl⟩
    go_wp2_with fail
    refine h10.out.mono ?_
    rintro e1 wr ⟨rfl, rfl⟩
    go_wp2_with fail
    refine h12.out.mono ?_
    rintro e1 wa ⟨rfl, rfl⟩
    clear h8 h16 h4 h10 h12
    have hmm := @run_makeMap Tryz.prog
    go_wp2_with fail
    obtain ⟨gm, hgm⟩ : ∃ gm, wa.heap.size = gm := ⟨_, rfl⟩
    have hM0 : Bx (MapT strV (wa.alloc (.map #[] 0)) Tryz.prog 9 gm 0 (seenG [])) := bx ((MapT.madeAt wa _ _ hgm).ext fun q => by unfold seenG; simp)
    have hW0 : Bx (Below gm wa (wa.alloc (.map #[] 0))) := bx (by rw [← hgm]; exact bl_alloc (Below.refl _ _) (Nat.le_refl _) _)
    have hX0 : Bx (wa.cell? ⟨0, 0, none⟩ = some (.int .i64 mx)) := bx ((hB1.out.cell (p := ⟨0, 0, none⟩) (World.block_lt_of_cell? w ⟨0, 0, none⟩ HMX.out)).trans HMX.out)
    have hggm : g < gm := by rw [← hgm]; omega
    have hwgm : w.heap.size ≤ gm := by omega
    have hEm : Bx (BookE wa gm g b) := by
      obtain ⟨A', c', mk', q', a1, a2, a3, a4, a5, r⟩ := HEr.out
      exact bx ⟨A', c', mk', q', hggm, by omega, Nat.le_of_eq hgm.symm, a4, a5.more (by omega), r⟩
    have hGM := bx hgm
    rw [hgm]
    clear hmm hkI heI d4I d10I em emI esI hwr HEr hgm
    go_loopw [10, 12, 103] (fun lv av iv wx => ∃ (i a : Nat) (acc : List (Rec × Nat)), i ≤ m ∧ iv = .int .i64 (i : Int) ∧ av = .int .i64 (a : Int) ∧ a ≤ 9000000000 ∧ Bx (centA b p m fr [] = centA b p (m - i) a acc) ∧ Bx (acc.length = i) ∧ Bx (Below gm wa wx) ∧ Bx (MapT strV wx Tryz.prog 9 gm i (seenG (acc.map (·.1.name)))) ∧ Bx (OwS fndL 8 wx (gm + 1) 133 lv (acc.map ent0))) (fun _ _ i _ => m - (intOf i).toNat)
    case atStart => exact ⟨0, fr, [], by omega, rfl, rfl, by omega, bx rfl, bx rfl, hW0, hM0, bx OwS.nil⟩
    case round =>
      obtain ⟨i, a, acc, hi, rfl, rfl, ha, HC, HL, HW, HM, HO⟩ := hrel
      have hgx : gm < wr.heap.size := HM.out.lt
      have HE := bx (hEm.out.below HW.out)
      have HX := bx ((HW.out.cell (p := ⟨0, 0, none⟩) (by show 0 < gm; omega)).trans hX0.out)
      by_cases him : i < m
      · -- DEV{
        have himI : (i : Int) < (m : Int) := by omega
        have hRec := record_any g gm i b a p (acc.map (·.1.name)) wr mx HE.out.d HM.out HX.out (by omega) (by have := HN.out; omega) (by have := HN.out; omega) ha
        obtain ⟨X, hX⟩ : ∃ X, recA b a p (acc.map (·.1.name)) = X := ⟨_, rfl⟩
        rw [hX] at hRec
        have HREC := bx hRec
        have hmi : m - i = (m - (i + 1)) + 1 := by omega
        have hC := HC.out
        rw [hmi] at hC
        cases X with
        | err k =>
          have hk := recA_err hX
          have HRk := bx (show R = .err k from by rw [HR.out, hC, cent1_err hX]; rfl)
          have hkI : (k != 0) = true := by rw [bne_iff_ne]; omega
          clear hRec hC hX HC hmi
          go_wp2_with fail
          refine HREC.out.mono ?_
          rintro e1 w3 ⟨rfl, hb3⟩
          have HB3 := bx (hB1.out.trans (HW.out.mono (by have := hB1.out.size; omega)) |>.trans (hb3.mono (by have := hB1.out.size; have := HW.out.size; omega)))
          clear hb3
          go_wp2_with (refine wpList_store_row rfl 133 (.tmp 13) (.tmp 111) rfl w3.heap.size z8 rfl rfl 133 z8 (Bk.new _ _ _) (by rw [z8_size]; exact info_found) rfl z8_one ?_)
          go_ret2
          exact DirPost.bad HRk.out (bl_setRow (bl_alloc HB3.out (Nat.le_refl _) _) (by have := HB3.out.size; omega) z8)
        | ok x =>
          obtain ⟨r, q⟩ := x
          have hq := recA_ok hX
          have HC2 := bx (hC.trans (cent1_ok hX))
          clear hRec hC hX HC hmi
          go_wp2_with fail
          refine HREC.out.mono ?_
          rintro e1 w3 ⟨rfl, hg3, hM3⟩
          have HM3 := bx hM3
          have HO3 := bx (HO.out.kept hg3 (by
            cases hv : u10.ownBlock with
            | none => exact .inl rfl
            | some z => exact .inr (fun e => by injection e with e; have := (HO.out.blk hv).1; omega)))
          have HW3 := bx (HW.out.trans (gb_low hg3 (Nat.le_refl _) hgx))
          have hgx3 : gm < w3.heap.size := by have := hg3.size; omega
          clear hg3 hM3 HREC HO HW HM
          dsimp only at HM3
          obtain ⟨y0, y1, y2, y3, y4, y5, y6, y7, hcs⟩ : ∃ y0 y1 y2 y3 y4 y5 y6 y7, fndC r 0 a = #[y0, y1, y2, y3, y4, y5, y6, y7] := ⟨_, _, _, _, _, _, _, _, rfl⟩
          have hc1 := bx (fndC_one r 0 a)
          have HCS : Bx ((#[y0, y1, y2, y3, y4, y5, y6, y7] : Array Value).toList = fndL (ent0 (r, a))) := bx (by rw [← hcs]; rfl)
          rw [hcs] at hc1
          obtain ⟨w4, hw4⟩ : ∃ w4, (w3.alloc (.cells z8 133)).setRow w3.heap.size #[y0, y1, y2, y3, y4, y5, y6, y7] = w4 := ⟨_, rfl⟩
          have hK4 : Bx (Bk w4 w3.heap.size 133 #[y0, y1, y2, y3, y4, y5, y6, y7]) := by rw [← hw4]; exact bx ((Bk.new w3 _ z8).setRow _)
          have hb34 : Below w3.heap.size w3 w4 := by rw [← hw4]; exact bl_setRow (bl_alloc (Below.refl _ _) (Nat.le_refl _) _) (Nat.le_refl _) _
          have HM4 := bx (HM3.out.below hb34 hgx3)
          have HO4 := bx (HO3.out.step hb34)
          have HW4 := bx (HW3.out.trans (hb34.mono (by omega)))
          have hgx4 : gm < w4.heap.size := by have := hb34.size; omega
          have HW4' := bx hw4
          have HN4 : Bx (((acc.map ent0).length + [ent0 (r, a)].length) * 72 ≤ 140737488355328) := bx (by have := HL.out; simp; omega)
          rw [show (r, q).fst = r from rfl, show (r, q).snd = q from rfl, hcs]
          clear hcs hw4 hb34 HM3 HO3 HW3
          go_wp2_with (first
            | (refine wpList_store_row rfl 133 (.tmp 13) (.tmp 111) rfl w3.heap.size #[y0, y1, y2, y3, y4, y5, y6, y7] rfl rfl 133 z8 (Bk.new _ _ _) info_found rfl hc1.out ?_; rw [z8_eq, HW4'.out])
            | (refine wpList_load_row rfl 133 (.tmp 13) rfl w3.heap.size rfl _ #[y0, y1, y2, y3, y4, y5, y6, y7] _ _ hK4.out Tryz.underlying133 rfl info_found ?_)
            | (at_builtin; refine wpList_appS _ fndCels rfl (.tmp 117) (.tmp 119) rfl fndTy (by decide) (gm + 1) u10 (acc.map ent0) rfl (OwS.alloc HO4.out _) _ _ 1 1 [ent0 (r, a)] rfl rfl (RS.new _ _ #[y0, y1, y2, y3, y4, y5, y6, y7] HCS.out _ _) HN4.out (le_alloc0 hgx4 _) ?_; intro v8 w8 own8 _ _ hb8))
          have hb48 := (bl_alloc (Below.refl (gm + 1) w4) hgx4 (.cells #[y0, y1, y2, y3, y4, y5, y6, y7] 133)).trans hb8
          have HM8 := bx (HM4.out.below hb48 (Nat.lt_succ_self gm))
          have HM9 : Bx (MapT strV w8 Tryz.prog 9 gm (i + 1) (seenG ((acc ++ [(r, a)]).map (·.1.name)))) := bx (by rw [List.map_append]; exact HM8.out)
          have HW8 := bx (HW4.out.trans (hb48.mono (Nat.le_succ gm)))
          have HO8 : Bx (OwS fndL 8 w8 (gm + 1) 133 v8 ((acc ++ [(r, a)]).map ent0)) := bx (by rw [List.map_append]; exact own8)
          have HL8 : Bx ((acc ++ [(r, a)]).length = i + 1) := bx (by rw [List.length_append, HL.out]; rfl)
          have hqle : q ≤ 9000000000 := by have := hq.2.1; omega
          clear hb8 hb48 own8 HM8 hq
          go_roundw
          case rel => exact ⟨i + 1, q, acc ++ [(r, a)], by omega, by go_num, rfl, hqle, HC2, HL8, HW8, HM9, HO8⟩
          case measure => simp [intOf]; omega
        -- DEV}
      have himI : ¬ (i : Int) < (m : Int) := by omega
      obtain rfl : i = m := by omega
      have hC := HC.out
      rw [show i - i = 0 by omega, centA] at hC
      have hOk := centA_ok i fr [] acc a (Nat.le_refl _) ⟨by simp, by simp⟩ hC
      have hSm := centA_sm i fr [] acc a (by simp) hC
      have HR2 := bx (show R = dirK b fr p (acc, a) from by rw [HR.out, hC]; rfl)
      have HB3 := bx (hB1.out.trans (HW.out.mono (by have := hB1.out.size; omega)))
      have HB3b := HW
      clear hC HC HR hX0 hM0 hW0
      by_cases hap : a = p
      case neg => -- DEV{
        have HRk := bx (show R = .err 11 from by rw [HR2.out]; unfold dirK; rw [if_pos hap])
        have hapI : ((a : Int) != (p : Int)) = true := by rw [bne_iff_ne]; omega
        clear hOk hSm hap
        go_wp2
        go_ret2
        exact DirPost.bad HRk.out HB3.out
        -- DEV}
      have hapI : ((a : Int) != (p : Int)) = false := by rw [bne_eq_false_iff_eq]; omega
      have HR3 := bx (show R = locR b fr [] acc from by rw [HR2.out, hap, dirK_loc])
      have hfrp : fr ≤ p := by have := hOk.2.2.1; omega
      have HOK := bx hOk.1
      have HSM := bx hSm
      obtain ⟨A3, n3, c3, hv3, hn3, _⟩ : ∃ A3 n3 c3, u10 = .slice A3 n3 c3 ∧ n3 = i ∧ True := by
        obtain ⟨A3, c3, h1, _⟩ := HO.out.rd
        exact ⟨A3, _, c3, h1, by simp [HL.out], trivial⟩
      subst hn3
      subst hv3
      clear hOk hSm hap HR2 HM
      go_wp2_with fail
      obtain ⟨wb, rfl⟩ : ∃ wb, wb = wr := ⟨_, rfl⟩
      have hB0 : Bx (OwS fndL 8 wb (gm + 1) 133 (.slice A3 n3 c3) (doneE [] acc ++ (acc.drop 0).map ent0)) := bx HO.out
      clear HO him hi ha
      go_loopw [128] (fun iv wx => ∃ (j : Nat) (done : List (Rec × Nat)), j ≤ n3 ∧ iv = .int .i64 (j : Int) ∧ Bx (R = locR b fr done (acc.drop j)) ∧ Bx (done.length = j) ∧ Bx (Below gm wb wx) ∧ Bx (OwS fndL 8 wx (gm + 1) 133 (.slice A3 n3 c3) (doneE done acc ++ (acc.drop j).map ent0)) ∧ Bx (∀ y ∈ done, DonOk fr y)) (fun i _ => n3 - (intOf i).toNat)
      case atStart => exact ⟨0, [], by omega, rfl, HR3, bx rfl, bx (Below.refl _ _), hB0, bx (by simp)⟩
      case round =>
        obtain ⟨j, done, hj, rfl, HRj, HLj, HWj, HOj, HTj⟩ := hrel
        by_cases hjn : j < n3
        · -- DEV{
          have hjI : (j : Int) < (n3 : Int) := by omega
          obtain ⟨x, hx⟩ : ∃ x, acc[j]? = some x := ⟨_, List.getElem?_eq_getElem (by rw [HL.out]; exact hjn)⟩
          have hxm : x ∈ acc := List.mem_of_getElem? hx
          have hLn := list_len HLj.out (by rw [HL.out]; exact hj)
          obtain ⟨gl, cc, hv, hglo, hglt⟩ := HOj.out.form (by rw [hLn, HL.out]; omega)
          injection hv with hv1 hv2 hv3
          subst hv1
          have hEj := hEm.out.below (HB3b.out.trans HWj.out)
          have hx2 := (HOK.out.good x hxm).2.2.2
          have hsm := HSM.out x hxm
          have hLOC := local_any g gl (j * 8) j gm (gm + 1) n3 c3 b x 0 fr _ wr hEj (by omega) rfl HOj.out (list_at HLj.out hx) (by have := HN.out; omega) (by have := HN.out; omega) (by have := HN.out; omega) hsm.1 hsm.2.1 hsm.2.2.1
          obtain ⟨Y, hY⟩ : ∃ Y, localA b fr x = Y := ⟨_, rfl⟩
          rw [hY] at hLOC
          have HLOC := bx hLOC
          have hdr : acc.drop j = x :: acc.drop (j + 1) := by
            rw [List.drop_eq_getElem_cons (by rw [HL.out]; exact hjn)]
            rw [List.getElem?_eq_getElem (by rw [HL.out]; exact hjn)] at hx
            injection hx with hx
            rw [hx]
          clear hv2 hv3 hLn hB0
          cases Y with
          | none =>
            have HRk := bx (show R = .err 15 from by rw [HRj.out, hdr, locR_bad hY])
            have HB5 := bx (HB3.out.trans (HWj.out.mono (by have := HB3.out.size; omega)))
            clear hLOC hY hdr hx HRj
            go_wp2_with fail
            refine HLOC.out.mono ?_
            rintro e1 w5 ⟨hg5, rfl⟩
            have HB6 := bx (HB5.out.trans (gb_low hg5 (by omega) hglt))
            clear hg5
            go_wp2
            go_ret2
            exact DirPost.bad HRk.out HB6.out
          | some a2 =>
            have hlo := localA_ok hY
            have HRj2 := bx (show R = locR b fr (done ++ [(x.1, a2)]) (acc.drop (j + 1)) from by rw [HRj.out, hdr, locR_good hY])
            have HS := bx (list_set (a := a2) HLj.out hx)
            have HTj2 : Bx (∀ y ∈ done ++ [(x.1, a2)], DonOk fr y) := bx (fun y hy => by
              rcases List.mem_append.1 hy with h | h
              · exact HTj.out y h
              · simp at h; subst h
                exact ⟨hsm.1, hsm.2.1, hsm.2.2.2.1, hsm.2.2.2.2.1, hsm.2.2.2.2.2, hsm.2.2.1, by have := hlo.1; show x.1.head + 30 ≤ a2; omega, hlo.2.1⟩)
            have HLj2 : Bx ((done ++ [(x.1, a2)]).length = j + 1) := bx (by rw [List.length_append, HLj.out]; rfl)
            clear hLOC hY hdr hx HRj hlo hsm hxm HTj HLj
            go_wp2_with fail
            refine HLOC.out.mono ?_
            rintro e1 w5 ⟨hg5, rfl, hO5⟩
            have HO5 := bx hO5
            have HW5 := bx (HWj.out.trans (gb_low hg5 (by omega) hglt))
            rw [HS.out] at HO5
            clear hg5 hO5 HOj HWj HLOC
            go_wp2
            go_roundw
            case rel => exact ⟨j + 1, _, by omega, by go_num, HRj2, HLj2, HW5, HO5, HTj2⟩
            case measure => simp [intOf]; omega
          -- DEV}
        have hjI : ¬ (j : Int) < (n3 : Int) := by omega
        obtain rfl : j = n3 := by omega
        have HR4 := bx (show R = locK done from by rw [HRj.out, List.drop_eq_nil_of_le (Nat.le_of_eq HL.out), locR_nil])
        have HO4 : Bx (OwS fndL 8 wr (gm + 1) 133 (.slice A3 j c3) (doneE done acc)) := by
          have := HOj.out
          rw [List.drop_eq_nil_of_le (Nat.le_of_eq HL.out), List.map_nil, List.append_nil] at this
          exact bx this
        have HB4 := bx (HB3.out.trans (HWj.out.mono (by have := HB3.out.size; omega)))
        have HW4 := bx (HB3b.out.trans HWj.out)
        have hgx4 : gm < wr.heap.size := by have := HWj.out.size; omega
        clear HB3 HB3b HWj HOj HRj hB0 hj hjn HE HX HOK HSM HR3 hgx
        obtain ⟨wc, rfl⟩ : ∃ wc, wc = wr := ⟨_, rfl⟩
        obtain ⟨gc, hgc⟩ : ∃ gc, wc.heap.size = gc := ⟨_, rfl⟩
        have hGC := bx hgc
        have hgmc : gm < gc := by omega
        have HCc := bx (show Below gc wc wc from Below.refl _ _)
        clear hgc hgx4 hEm himI hjI hB1
        go_wp2_with fail
        go_loopw [18, 143] (fun ov iv wx => ∃ t : Nat, t ≤ j ∧ iv = .int .i64 (t : Int) ∧ Bx (Below gc wc wx) ∧ Bx (OwS recL 7 wx gc 71 ov (done.take t))) (fun _ i _ => j - (intOf i).toNat)
        case atStart => exact ⟨0, by omega, rfl, HCc, bx OwS.nil⟩
        case round =>
          obtain ⟨t, ht, rfl, HWt, HOt⟩ := hrel
          have hgcr : gc ≤ wr.heap.size := by have := HWt.out.size; have := hGC.out; omega
          by_cases htj : t < j
          · -- DEV{
            have htI : (t : Int) < (j : Int) := by omega
            obtain ⟨d, hd⟩ : ∃ d, done[t]? = some d := ⟨_, List.getElem?_eq_getElem (by rw [HLj.out]; exact htj)⟩
            obtain ⟨qp, hqp⟩ := doneE_get (acc := acc) (by rw [HLj.out, HL.out]; exact Nat.le_refl _) hd
            have hOr : OwS fndL 8 wr (gm + 1) 133 (.slice A3 j c3) (doneE done acc) := HO4.out.step (by rw [hGC.out]; exact HWt.out)
            obtain ⟨gl, cc, hv, hglo, hglt⟩ := hOr.form (by rw [doneE_len HLj.out (by rw [HL.out]; exact Nat.le_refl _)]; omega)
            injection hv with hv1 hv2 hv3
            subst hv1
            obtain ⟨y0, y1, y2, y3, y4, y5, y6, y7, hcs⟩ : ∃ y0 y1 y2 y3 y4 y5 y6 y7, fndC d.1 (d.2 : Int) qp = #[y0, y1, y2, y3, y4, y5, y6, y7] := ⟨_, _, _, _, _, _, _, _, rfl⟩
            have hfl : fndL (d.1, ((d.2 : Nat) : Int), qp) = [y0, y1, y2, y3, y4, y5, y6, y7] := by show (fndC d.1 (d.2 : Int) qp).toList = _; rw [hcs]
            have hc1 := bx (fndC_one d.1 (d.2 : Int) qp)
            have HCS : Bx ((#[y0, y1, y2, y3, y4, y5, y6] : Array Value).toList = recL d) := bx (by
              have e : recL d = (fndL (d.1, ((d.2 : Nat) : Int), qp)).take 7 := rfl
              rw [e, hfl]; rfl)
            rw [hcs] at hc1
            have k0 : wr.cell? ⟨gl, t * 8, none⟩ = some y0 := hOr.cell fndCels (j := 0) hqp (by rw [hfl]; rfl)
            have k1 : wr.cell? ⟨gl, t * 8 + 1, none⟩ = some y1 := hOr.cell fndCels (j := 1) hqp (by rw [hfl]; rfl)
            have k2 : wr.cell? ⟨gl, t * 8 + 2, none⟩ = some y2 := hOr.cell fndCels (j := 2) hqp (by rw [hfl]; rfl)
            have k3 : wr.cell? ⟨gl, t * 8 + 3, none⟩ = some y3 := hOr.cell fndCels (j := 3) hqp (by rw [hfl]; rfl)
            have k4 : wr.cell? ⟨gl, t * 8 + 4, none⟩ = some y4 := hOr.cell fndCels (j := 4) hqp (by rw [hfl]; rfl)
            have k5 : wr.cell? ⟨gl, t * 8 + 5, none⟩ = some y5 := hOr.cell fndCels (j := 5) hqp (by rw [hfl]; rfl)
            have k6 : wr.cell? ⟨gl, t * 8 + 6, none⟩ = some y6 := hOr.cell fndCels (j := 6) hqp (by rw [hfl]; rfl)
            have k7 : wr.cell? ⟨gl, t * 8 + 7, none⟩ = some y7 := hOr.cell fndCels (j := 7) hqp (by rw [hfl]; rfl)
            obtain ⟨w4, hw4⟩ : ∃ w4, (wr.alloc (.cells z8 133)).setRow wr.heap.size #[y0, y1, y2, y3, y4, y5, y6, y7] = w4 := ⟨_, rfl⟩
            have hK4 : Bk w4 wr.heap.size 133 #[y0, y1, y2, y3, y4, y5, y6, y7] := by rw [← hw4]; exact ((Bk.new wr _ z8).setRow _)
            have hb34 : Below wr.heap.size wr w4 := by rw [← hw4]; exact bl_setRow (bl_alloc (Below.refl _ _) (Nat.le_refl _) _) (Nat.le_refl _) _
            have n0 : w4.cell? ⟨wr.heap.size, 0, none⟩ = some y0 := (hK4.cell 0).trans rfl
            have n1 : w4.cell? ⟨wr.heap.size, 1, none⟩ = some y1 := (hK4.cell 1).trans rfl
            have n2 : w4.cell? ⟨wr.heap.size, 2, none⟩ = some y2 := (hK4.cell 2).trans rfl
            have n3 : w4.cell? ⟨wr.heap.size, 3, none⟩ = some y3 := (hK4.cell 3).trans rfl
            have n4 : w4.cell? ⟨wr.heap.size, 4, none⟩ = some y4 := (hK4.cell 4).trans rfl
            have n5 : w4.cell? ⟨wr.heap.size, 5, none⟩ = some y5 := (hK4.cell 5).trans rfl
            have n6 : w4.cell? ⟨wr.heap.size, 6, none⟩ = some y6 := (hK4.cell 6).trans rfl
            have HO4' := bx (HOt.out.step hb34)
            have HW4' := bx (HWt.out.trans (hb34.mono hgcr))
            have hgx4 : gc ≤ w4.heap.size := by have := hb34.size; omega
            have HW4e := bx hw4
            have HN4 : Bx (((done.take t).length + [d].length) * 64 ≤ 140737488355328) := bx (by have := HLj.out; simp; omega)
            have HTK : Bx (done.take t ++ [d] = done.take (t + 1)) := bx (by
              rw [List.take_add_one, hd]; rfl)
            clear hv2 hv3 hOr hfl hcs hqp hd hw4 hb34 hK4 HOt HWt
            go_wp2_with (first
              | (refine wpList_store_row rfl 133 (.tmp 20) (.tmp 146) rfl wr.heap.size #[y0, y1, y2, y3, y4, y5, y6, y7] rfl rfl 133 z8 (Bk.new _ _ _) info_found rfl hc1.out ?_; rw [z8_eq, HW4e.out])
              | (at_builtin; refine wpList_appS _ recCels rfl (.tmp 147) (.tmp 150) rfl recTy (by decide) gc u18 (done.take t) rfl (OwS.alloc HO4'.out _) _ _ 1 1 [d] rfl rfl (RS.new _ _ #[y0, y1, y2, y3, y4, y5, y6] HCS.out _ _) HN4.out (le_alloc0 hgx4 _) ?_; intro v8 w8 own8 _ _ hb8))
            have HO8 : Bx (OwS recL 7 w8 gc 71 v8 (done.take (t + 1))) := bx (by rw [← HTK.out]; exact own8)
            have HW8 := bx (HW4'.out.trans ((bl_alloc (Below.refl gc w4) hgx4 (.cells #[y0, y1, y2, y3, y4, y5, y6] 71)).trans hb8))
            clear own8 hb8 HTK k0 k1 k2 k3 k4 k5 k6 k7 n0 n1 n2 n3 n4 n5 n6
            go_roundw
            case rel => exact ⟨t + 1, by omega, by go_num, HW8, HO8⟩
            case measure => simp [intOf]; omega
            -- DEV}
          have htI : ¬ (t : Int) < (j : Int) := by omega
          obtain rfl : t = j := by omega
          have HOd : Bx (OwS recL 7 wr gc 71 u18 done) := by
            have := HOt.out
            rw [List.take_of_length_le (Nat.le_of_eq HLj.out)] at this
            exact bx this
          have hlenE : (doneE done acc).length = t := doneE_len HLj.out (by rw [HL.out]; exact Nat.le_refl _)
          have hSRT := sort_both A3 t c3 (gm + 1) (doneE done acc) wr (HO4.out.step (by rw [hGC.out]; exact HWt.out)) hlenE (by omega)
          have HSRT := bx hSRT
          have HB5 := bx (HB4.out.trans (HWt.out.mono (by have := HB4.out.size; have := hGC.out; omega)))
          clear hSRT hlenE HOt htj ht
          go_wp2_with fail
          refine HSRT.out.mono ?_
          rintro e5 w5 ⟨rfl, hb5, ⟨row, hrow, hrg⟩, s, hsp, hss, hsr⟩
          have HOe := bx (HOd.out.kept hrow (by
            cases hv : u18.ownBlock with
            | none => exact .inl rfl
            | some z =>
              refine .inr (fun e => ?_)
              have hA := hrg z e.symm
              subst hA
              have h1 := (HOd.out.blk hv).1
              have h2 : z < wc.heap.size := (HO4.out.blk (g := z) rfl).2
              have := hGC.out
              omega))
          have HB6 := bx (HB5.out.trans (hb5.mono (by omega)))
          have hlenS : s.length = t := by rw [hsp.length_eq]; exact doneE_len HLj.out (by rw [HL.out]; exact Nat.le_refl _)
          have HOV := bx (overE (dir := fr) (by rw [HLj.out, HL.out]; exact Nat.le_refl _) hsp hss HTj.out)
          have HAT : Bx (∀ x ∈ s, x.2.1 = ((frE x).2 : Int) ∧ (frE x).2 ≤ 70000 ∧ x.1.head < 4294967296 ∧ x.1.packed < 4294967296) := bx (fun x hx => by
            have h1 := hsp.mem_iff.1 hx
            have h2 := doneE_at done acc x h1
            have h3 : frE x ∈ done := by
              have := List.mem_map_of_mem (f := frE) h1
              rwa [doneE_fr done acc (by rw [HLj.out, HL.out]; exact Nat.le_refl _)] at this
            have h4 := HTj.out _ h3
            have h5 : (frE x).1 = x.1 := rfl
            unfold DonOk at h4
            rw [h5] at h4
            exact ⟨h2, by have := h4.2.2.2.2.2.2.2; omega, h4.1, h4.2.1⟩)
          have HLS := bx hlenS
          have HRO := bx hsr
          have HAF : Bx (t = 0 ∨ ∃ gl, A3 = some ⟨gl, 0, none⟩) := bx (by
            rcases Nat.eq_zero_or_pos t with h | h
            · exact .inl h
            · obtain ⟨gl, cc, hv, _⟩ := HO4.out.form (by rw [doneE_len HLj.out (by rw [HL.out]; exact Nat.le_refl _)]; exact h)
              injection hv with hv
              exact .inr ⟨gl, hv⟩)
          clear hb5 hrow hrg hsp hss hsr hlenS HSRT HB5 HOd HWt hgcr HO4 HB4 HW4 HTj HL HCc
          go_wp2_with fail
          go_loopw [21] (fun iv wx => ∃ v q : Nat, (v = 0 ∨ v + 1 ≤ t) ∧ iv = .int .i64 ((v : Int) + 1) ∧ wx = w5.drewN q ∧ Bx (∀ u x y, u < v → (s.map frE)[u]? = some x → (s.map frE)[u + 1]? = some y → ¬ y.1.head < x.2 + x.1.packed)) (fun i _ => t - (intOf i).toNat)
          case atStart => exact ⟨0, 0, .inl rfl, rfl, rfl, bx (fun u _ _ h => absurd h (by omega))⟩
          case round =>
            obtain ⟨v, q, hv, rfl, rfl, HV⟩ := hrel
            by_cases hvt : v + 1 < t
            · have hvI : (v : Int) + 1 < (t : Int) := by omega
              obtain ⟨gl, rfl⟩ : ∃ gl, A3 = some ⟨gl, 0, none⟩ := by
                rcases HAF.out with h | h
                · omega
                · exact h
              have hro := HRO.out gl rfl
              obtain ⟨x, hx⟩ : ∃ x, s[v]? = some x := ⟨_, List.getElem?_eq_getElem (by rw [HLS.out]; omega)⟩
              obtain ⟨y, hy⟩ : ∃ y, s[v + 1]? = some y := ⟨_, List.getElem?_eq_getElem (by rw [HLS.out]; omega)⟩
              obtain ⟨ha1, ha2, ha3, ha4⟩ := HAT.out x (List.mem_of_getElem? hx)
              have hb3 := (HAT.out y (List.mem_of_getElem? hy)).2.2.1
              obtain ⟨at1, hat1⟩ : ∃ z, (frE x).2 = z := ⟨_, rfl⟩
              obtain ⟨pk1, hpk1⟩ : ∃ z, x.1.packed = z := ⟨_, rfl⟩
              obtain ⟨hd1, hhd1⟩ : ∃ z, y.1.head = z := ⟨_, rfl⟩
              rw [hat1] at ha1 ha2
              rw [hpk1] at ha4
              rw [hhd1] at hb3
              have q6 : w5.cell? ⟨gl, (v + 1) * 8 + 6, none⟩ = some (.int .i64 (hd1 : Int)) := by rw [← hhd1]; exact hro (v + 1) 6 y _ hy rfl
              have q5 : w5.cell? ⟨gl, v * 8 + 5, none⟩ = some (.int .i64 (at1 : Int)) := by rw [← ha1]; exact hro v 5 x _ hx rfl
              have q2 : w5.cell? ⟨gl, v * 8 + 2, none⟩ = some (.int .i64 (pk1 : Int)) := by rw [← hpk1]; exact hro v 2 x _ hx rfl
              have HSX : Bx ((s.map frE)[v]? = some (frE x) ∧ (s.map frE)[v + 1]? = some (frE y) ∧ ((frE y).1.head < (frE x).2 + (frE x).1.packed ↔ hd1 < at1 + pk1)) := bx ⟨by rw [List.getElem?_map, hx]; rfl, by rw [List.getElem?_map, hy]; rfl, by
                rw [hat1]
                show y.1.head < at1 + x.1.packed ↔ _
                rw [hhd1, hpk1]⟩
              have x1 : IntKind.i64.wrap ((v : Int) + 1 - 1) = (v : Int) := by rw [show (v : Int) + 1 - 1 = (v : Int) by omega]; exact IntWalk.i64_in _ (by omega)
              have x2 : IntKind.i64.wrap (v : Int) = (v : Int) := IntWalk.i64_in _ (by omega)
              have x3 : IntKind.i64.wrap ((at1 : Int) + (pk1 : Int)) = (at1 : Int) + (pk1 : Int) := IntWalk.i64_in _ (by omega)
              have x4 : ((v : Int) + 1).toNat = v + 1 := Int.toNat_natCast (v + 1)
              have x5 : (v : Int) < (t : Int) := by omega
              have x6 : (0 : Int) ≤ (v : Int) + 1 := by omega
              clear hx hy ha1 hat1 hpk1 hhd1 hro
              by_cases hov : hd1 < at1 + pk1
              · have hovI : (hd1 : Int) < (at1 : Int) + (pk1 : Int) := by omega
                have hovJ : decide ((hd1 : Int) < (at1 : Int) + (pk1 : Int)) = true := decide_eq_true hovI
                have HRk := bx (show R = .err 16 from by
                  rw [HR4.out]; unfold locK
                  rw [← HOV.out, adj_hit _ v _ _ HSX.out.1 HSX.out.2.1 (HSX.out.2.2.2 hov)]; rfl)
                clear hov
                go_wp2
                go_quiet (fail)
                go_wp2
                go_ret2
                exact DirPost.bad HRk.out (below_drewN (below_drewN HB6.out _) _)
              · have hovI : ¬ (hd1 : Int) < (at1 : Int) + (pk1 : Int) := by omega
                have hovJ : decide ((hd1 : Int) < (at1 : Int) + (pk1 : Int)) = false := decide_eq_false hovI
                have HV2 : Bx (∀ u x y, u < v + 1 → (s.map frE)[u]? = some x → (s.map frE)[u + 1]? = some y → ¬ y.1.head < x.2 + x.1.packed) := bx (fun u x' y' hu h1 h2 => by
                  by_cases e : u = v
                  · subst e
                    rw [HSX.out.1] at h1; rw [HSX.out.2.1] at h2
                    injection h1 with h1; injection h2 with h2
                    rw [← h1, ← h2]
                    exact fun h => hov (HSX.out.2.2.1 h)
                  · exact HV.out u x' y' (by omega) h1 h2)
                clear hov
                go_wp2
                go_quiet (fail)
                go_wp2
                go_roundw
                case rel => exact ⟨v + 1, q + nq, .inr (by omega), by go_num, rfl, HV2⟩
                case measure => simp [intOf]; omega
            · have hvI : ¬ (v : Int) + 1 < (t : Int) := by omega
              have HRk := bx (show R = .ok done from by
                rw [HR4.out]; unfold locK
                rw [← HOV.out, adj_none _ (fun u x y h1 h2 => HV.out u x y (by
                  have := (List.getElem?_eq_some_iff.1 h2).1
                  rw [List.length_map, HLS.out] at this
                  omega) h1 h2)]; rfl)
              go_wp2
              go_ret2
              exact DirPost.good HRk.out (below_drewN HB6.out _) (OwS.drewN (OwS.low HOe.out (by omega)) _)
end Go.Proofs.YtlmcpkomjofcgaaGreatDoor
namespace Go.Proofs.YtlmcpkomjofcgaaGreatDoor
open Go.RowKit
/-- The records and their places, the directory's end checked. -/
def cenR (b : List UInt8) (fr td m : Nat) : Rz (List (Rec × Nat)) := (centA b td m fr []).bind fun x => if x.2 ≠ td then .err 11 else .ok x.1
theorem over_all {l : List (Rec × Nat)} (h : ∀ (i k : Nat) (x y : Rec × Nat), l[i]? = some x → l[k]? = some y → k < i → overA x y = false) : anyOver l = false := by
  rw [anyOver_iff, List.pairwise_iff_getElem]
  intro i j hi hj hij
  rw [overA_comm]
  exact h j i _ _ (List.getElem?_eq_getElem hj) (List.getElem?_eq_getElem hi) hij
theorem over_hit {l : List (Rec × Nat)} {i k : Nat} {x y : Rec × Nat} (hx : l[i]? = some x) (hy : l[k]? = some y) (hk : k < i) (h : overA x y = true) : anyOver l = true := by
  cases ha : anyOver l with
  | true => rfl
  | false =>
    rw [anyOver_iff, List.pairwise_iff_getElem] at ha
    obtain ⟨hi, e1⟩ := List.getElem?_eq_some_iff.1 hx
    obtain ⟨hk2, e2⟩ := List.getElem?_eq_some_iff.1 hy
    have := ha k i hk2 hi hk
    rw [e1, e2, overA_comm, h] at this
    cases this
theorem cenR_pos {b : List UInt8} {fr td m : Nat} {k : Int} (h : cenR b fr td m = .err k) : 11 ≤ k ∧ k ≤ 14 := by
  have key : ∀ (n p : Nat) (acc : List (Rec × Nat)) (k : Int), centA b td n p acc = .err k → 11 ≤ k ∧ k ≤ 14 := by
    intro n
    induction n with
    | zero => intro p acc k h; rw [centA] at h; cases h
    | succ n ih =>
      intro p acc k h
      cases hr : recA b p td (acc.map (·.1.name)) with
      | err e => rw [cent1_err hr] at h; injection h with h; rw [← h]; exact recA_err hr
      | ok x => rw [cent1_ok hr] at h; exact ih _ _ _ h
  unfold cenR at h
  cases hc : centA b td m fr [] with
  | err e => rw [hc] at h; injection h with h; rw [← h]; exact key _ _ _ _ hc
  | ok x =>
    rw [hc] at h
    have h : (if x.2 ≠ td then Rz.err 11 else Rz.ok x.1 : Rz (List (Rec × Nat))) = .err k := h
    split at h
    · injection h with h; omega
    · cases h
theorem cenR_ok {b : List UInt8} {fr td m : Nat} {l : List (Rec × Nat)} (h : cenR b fr td m = .ok l) : centA b td m fr [] = .ok (l, td) := by
  unfold cenR at h
  cases hc : centA b td m fr [] with
  | err e => rw [hc] at h; cases h
  | ok x =>
    rw [hc] at h
    have h : (if x.2 ≠ td then Rz.err 11 else Rz.ok x.1 : Rz (List (Rec × Nat))) = .ok l := h
    split at h
    · cases h
    · rename_i hx
      injection h with h
      rw [← h, show x = (x.1, x.2) from rfl, show x.2 = td by simpa using hx]
theorem book_cenR {b : List UInt8} {fr td m : Nat} : bookA b fr td m = (cenR b fr td m).bind fun l => locR b fr [] l := by
  rw [bookA_dirK]
  unfold cenR
  cases hc : centA b td m fr [] with
  | err e => rfl
  | ok x =>
    obtain ⟨l, q⟩ := x
    show dirK b fr td (l, q) = (if q ≠ td then Rz.err 11 else Rz.ok l).bind _
    by_cases hq : q = td
    · subst hq
      rw [if_neg (by simp), dirK_loc]; rfl
    · rw [if_pos hq]; unfold dirK; rw [if_pos hq]; rfl
end Go.Proofs.YtlmcpkomjofcgaaGreatDoor
namespace Go.Proofs.YtlmcpkomjofcgaaGreatDoor
open Go.RowKit
theorem sapt_kept {α : Type} {fC : α → List Value} {sz : Nat} {w w' : World} {base : Nat} {e : TypeId} {v v1 : Value} {l : List α} (ho : OwS fC sz w base e v l) (ha : Apt v1 v) (g : w.grownBy w' v1.ownBlock) : OwS fC sz w' base e v l := by
  refine World.ownsRow.kept ho g ?_
  rcases ha with h | h | h
  · rw [h]
    cases hv : v.ownBlock with
    | none => exact .inl rfl
    | some b => exact .inr (by simp)
  · exact .inl h
  · exact .inr fun e => h e.symm
theorem sapt_new {α : Type} {fC : α → List Value} {sz : Nat} {w : World} {base : Nat} {e : TypeId} {v v1 v' : Value} {l : List α} (ho : OwS fC sz w base e v l) (ha : Apt v1 v) (k : v'.ownBlock = v1.ownBlock ∨ v'.ownBlock = some w.heap.size) : Apt v' v := by
  rcases k with k | k
  · unfold Apt; rw [k]; exact ha
  · unfold Apt
    rw [k]
    cases hv : v.ownBlock with
    | none => exact .inr (.inl rfl)
    | some b =>
      have := (World.ownsRow.lt ho b hv).2
      exact .inr (.inr (by intro e; injection e with e; omega))
def rec0 (x : Rec × Nat) : Rec × Nat := (x.1, 0)
def plcI (x : Rec × Nat) : Int := (x.2 : Int)
theorem intTyA : ETy Tryz.prog 41 3 (.int .i64 0) 1 8 := ⟨Tryz.underlying41, info_parts (by kernel_rfl), rfl, by decide⟩
theorem rnum_r (A : Option Addr) (n c p : Nat) (ki ni : Int) (k j : Nat) (b : List UInt8) (w wk : World) (hn : b.length = n) (hnc : n ≤ c) (hc : (c : Int) ≤ 9223372036854775807) (hr : RB w w.heap.size A b) (hB : Below w.heap.size w wk)
    (hk : ki = (k : Int)) (hj : ni = (j : Int)) (h1 : 1 ≤ j) (h2 : j ≤ 4) (hp : p + k + j ≤ n) {N : Nat} (hN : numA b (p + k) j = N) :
    Calls Tryz.prog 38 #[.slice A n c, .int .i64 ((p : Int) + ki), .int .i64 ni] wk fun e w' => e = .returned (.int .i64 (N : Int)) ∧ Below w.heap.size w w' := by
  subst hk hj hN
  have := rnum_ok A n c (p + k) j b wk hn hnc hc h1 h2 hp ((hr.below hB (Nat.le_refl _)).more hB.size)
  rw [show ((p + k : Nat) : Int) = (p : Int) + (k : Int) by omega] at this
  exact this.mono fun e w' ⟨he, hb⟩ => ⟨he, hB.trans (hb.mono hB.size)⟩
theorem rsign_r (A : Option Addr) (n c p : Nat) (b : List UInt8) (x y : UInt8) (xi yi : Int) (w wk : World) (hx : xi = (x.toNat : Int)) (hy : yi = (y.toNat : Int)) (hn : b.length = n) (hz : n ≤ 1000000000) (hp : p + 4 ≤ n) (hr : RB w w.heap.size A b) (hB : Below w.heap.size w wk) :
    Calls Tryz.prog 53 #[.slice A n c, .int .i64 (p : Int), .int .u8 xi, .int .u8 yi] wk fun e w' => e = .returned (.bool (signA b p x y)) ∧ w' = wk :=
  rsign_ok A n c p b x y xi yi wk hx hy hn hz hp ((hr.below hB (Nat.le_refl _)).more hB.size)
def CenPost (R : Rz (List (Rec × Nat))) (w : World) (e : Ending) (w' : World) : Prop := Below w.heap.size w w' ∧ match R with
  | .err k => e = .returned (.tuple #[.slice none 0 0, .slice none 0 0, .int .i64 k])
  | .ok l => ∃ v pv, e = .returned (.tuple #[v, pv, .int .i64 0]) ∧ OwS recL 7 w' w.heap.size 71 v (l.map rec0) ∧ OwI w' w.heap.size 3 pv (l.map plcI) ∧ Apt v pv
theorem CenPost.bad {R : Rz (List (Rec × Nat))} {w w' : World} {k : Int} (h : R = .err k) (hb : Below w.heap.size w w') : CenPost R w (.returned (.tuple #[.slice none 0 0, .slice none 0 0, .int .i64 k])) w' := by
  subst h; exact ⟨hb, rfl⟩
theorem CenPost.good {R : Rz (List (Rec × Nat))} {w w' : World} {l : List (Rec × Nat)} {v pv : Value} (h : R = .ok l) (hb : Below w.heap.size w w') (h1 : OwS recL 7 w' w.heap.size 71 v (l.map rec0)) (h2 : OwI w' w.heap.size 3 pv (l.map plcI)) (h3 : Apt v pv) :
    CenPost R w (.returned (.tuple #[v, pv, .int .i64 0])) w' := by
  subst h; exact ⟨hb, v, pv, rfl, h1, h2, h3⟩
theorem cenR_err {b : List UInt8} {fr td m j a : Nat} {acc : List (Rec × Nat)} {k : Int} (h : centA b td m fr [] = centA b td (j + 1) a acc) (hx : recA b a td (acc.map (·.1.name)) = .err k) : cenR b fr td m = .err k := by
  unfold cenR; rw [h, cent1_err hx]; rfl
def flK (v : Nat) : Nat → Nat
  | 0 => v
  | 1 => v - 2 * (v / 2 % 2)
  | 2 => v - 2 * (v / 2 % 2) - 4 * (v / 4 % 2)
  | _ => flagsA v
set_option maxRecDepth 100000 in
set_option maxHeartbeats 16000000 in
theorem rcent_any (A : Option Addr) (n c fr td m : Nat) (b : List UInt8) (w : World) (hn : b.length = n) (hz : n ≤ 70000) (hnc : n ≤ c) (hc : (c : Int) ≤ 9223372036854775807) (hr : RB w w.heap.size A b) (hto : td + 22 ≤ n) (hfr : fr ≤ 9000000000) (hm : m ≤ 64) :
    Calls Tryz.prog 39 #[.slice A n c, .int .i64 (fr : Int), .int .i64 (td : Int), .int .i64 (m : Int)] w (CenPost (cenR b fr td m) w) := by
  obtain ⟨R, hR⟩ : ∃ R, cenR b fr td m = R := ⟨_, rfl⟩
  rw [hR]
  have HR := bx hR.symm
  have HN := bx hn
  have HRB := bx hr
  have HB0 := bx (Below.refl w.heap.size w)
  clear hR hn hr
  go_enter Tryz.func39, Tryz.ntmps39
  go_wp2
  go_loopw [11, 12, 13, 14] (fun lv pv av iv wx => ∃ (i a : Nat) (acc : List (Rec × Nat)), i ≤ m ∧ iv = .int .i64 (i : Int) ∧ av = .int .i64 (a : Int) ∧ a ≤ 9000000000 ∧ Bx (centA b td m fr [] = centA b td (m - i) a acc) ∧ Bx (acc.length = i) ∧ Bx (Below w.heap.size w wx) ∧ Bx (OwS recL 7 wx w.heap.size 71 lv (acc.map rec0)) ∧ Bx (OwI wx w.heap.size 3 pv (acc.map plcI)) ∧ Bx (Apt lv pv)) (fun _ _ _ i _ => m - (intOf i).toNat)
  case atStart => exact ⟨0, fr, [], by omega, rfl, rfl, hfr, bx rfl, bx rfl, HB0, bx OwS.nil, bx OwL.nil, bx (.inl rfl)⟩
  case round =>
    obtain ⟨i, a, acc, hi, rfl, rfl, ha, HC, HL, HW, HO, HP, HA⟩ := hrel
    have hsz := HW.out.size
    by_cases him : i < m
    · have himI : (i : Int) < (m : Int) := by omega
      have hmi : m - i = (m - (i + 1)) + 1 := by omega
      have hC := HC.out
      rw [hmi] at hC
      obtain ⟨X, hX⟩ : ∃ X, recA b a td (acc.map (·.1.name)) = X := ⟨_, rfl⟩
      have HRE : Bx (∀ k, X = .err k → R = .err k) := bx (fun k hk => by rw [HR.out]; exact cenR_err hC (hX.trans hk))
      have HRO : Bx (∀ r q, X = .ok (r, q) → centA b td m fr [] = centA b td (m - (i + 1)) q (acc ++ [(r, a)]) ∧ q ≤ 70000) := bx (fun r q hk => ⟨hC.trans (cent1_ok (hX.trans hk)), by have := (recA_ok (hX.trans hk)).2.1; omega⟩)
      unfold recA at hX
      clear hC hmi HC
      have hwr2 : IntKind.i64.wrap ((td : Int) - (a : Int)) = (td : Int) - (a : Int) := IntWalk.i64_in _ (by omega)
      by_cases c1 : td < a + 46
      · rw [if_pos (.inl c1)] at hX
        have HRk := bx (HRE.out 11 hX.symm)
        have c1I : (td : Int) - (a : Int) < 46 := by omega
        clear hX c1
        go_wp2
        go_ret3
        exact CenPost.bad HRk.out HW.out
      have c1I : ¬ (td : Int) - (a : Int) < 46 := by omega
      have hin : a + 46 ≤ td := by omega
      have hsgn := rsign_r A n c a b 1 2 1 2 w wr rfl rfl HN.out (by omega) (by omega) HRB.out HW.out
      obtain ⟨sg, hsg⟩ : ∃ sg, signA b a 1 2 = sg := ⟨_, rfl⟩
      rw [hsg] at hsgn hX
      have HSG := bx hsgn
      clear hsgn hsg
      cases sg with
      | false =>
        rw [if_pos (.inr rfl)] at hX
        have HRk := bx (HRE.out 11 hX.symm)
        clear hX c1
        go_wp2_with fail
        refine HSG.out.mono ?_
        rintro e1 wr ⟨rfl, rfl⟩
        go_wp2
        go_ret3
        exact CenPost.bad HRk.out HW.out
      | true =>
      rw [if_neg (by rintro (h | h); exact c1 h; cases h)] at hX
      obtain ⟨sz, hsz1⟩ : ∃ sz, numA b (a + 28) 2 = sz := ⟨_, rfl⟩
      obtain ⟨ex, hex⟩ : ∃ sz, numA b (a + 30) 2 = sz := ⟨_, rfl⟩
      obtain ⟨cm, hcm⟩ : ∃ sz, numA b (a + 32) 2 = sz := ⟨_, rfl⟩
      obtain ⟨dk, hdk⟩ : ∃ sz, numA b (a + 34) 2 = sz := ⟨_, rfl⟩
      have l1 : sz < 65536 := by rw [← hsz1]; exact numA_2 _ _
      have l2 : ex < 65536 := by rw [← hex]; exact numA_2 _ _
      have l3 : cm < 65536 := by rw [← hcm]; exact numA_2 _ _
      rw [hsz1, hex, hcm, hdk] at hX
      have hrr : RB wr wr.heap.size A b := (HRB.out.below HW.out (Nat.le_refl _)).more hsz
      have HRR := bx hrr
      have HSZ := bx hsz1
      have HEX := bx hex
      have HCM := bx hcm
      have HDK := bx hdk
      have HX := bx hX
      clear hX hrr hsz1 hex hcm hdk c1
      go_wp2_with fail
      refine HSG.out.mono ?_
      rintro e1 wr ⟨rfl, rfl⟩
      go_wp2_with fail
      refine (rnum_r A n c a 28 2 28 2 b wr wr HN.out hnc hc HRR.out (Below.refl _ _) rfl rfl (by omega) (by omega) (by omega) HSZ.out).mono ?_
      rintro e2 w2 ⟨rfl, hb2⟩
      have HB2 := bx hb2
      clear hb2
      go_wp2_with fail
      refine (rnum_r A n c a 30 2 30 2 b wr w2 HN.out hnc hc HRR.out HB2.out rfl rfl (by omega) (by omega) (by omega) HEX.out).mono ?_
      rintro e3 w3 ⟨rfl, hb3⟩
      have HB3 := bx hb3
      clear hb3 HB2
      go_wp2_with fail
      refine (rnum_r A n c a 32 2 32 2 b wr w3 HN.out hnc hc HRR.out HB3.out rfl rfl (by omega) (by omega) (by omega) HCM.out).mono ?_
      rintro e4 w4 ⟨rfl, hb4⟩
      have HB4 := bx hb4
      have HW4 := bx (HW.out.trans (hb4.mono hsz))
      clear hb4 HB3 HSG
      by_cases c2 : td < a + 46 + sz + ex + cm
      · have HRk := bx (HRE.out 11 (by rw [← HX.out, if_pos (.inl c2)]))
        have c2I : (td : Int) - (a : Int) < 46 + (sz : Int) + (ex : Int) + (cm : Int) := by omega
        clear c2
        go_wp2
        go_ret3
        exact CenPost.bad HRk.out HW4.out
      have c2I : ¬ (td : Int) - (a : Int) < 46 + (sz : Int) + (ex : Int) + (cm : Int) := by omega
      by_cases c3 : dk = 0
      case neg =>
        have HRk := bx (HRE.out 11 (by rw [← HX.out, if_pos (.inr c3)]))
        have hdI : ((dk : Int) != 0) = true := by rw [bne_iff_ne]; omega
        clear c2 c3
        go_wp2_with fail
        refine (rnum_r A n c a 34 2 34 2 b wr w4 HN.out hnc hc HRR.out HB4.out rfl rfl (by omega) (by omega) (by omega) HDK.out).mono ?_
        rintro e5 w5 ⟨rfl, hb5⟩
        have HW5 := bx (HW.out.trans (hb5.mono hsz))
        clear hb5
        go_wp2
        go_ret3
        exact CenPost.bad HRk.out HW5.out
      have hdI : ((dk : Int) != 0) = false := by rw [bne_eq_false_iff_eq]; omega
      have hX := HX.out
      rw [if_neg (by rintro (h | h); exact c2 h; exact h c3)] at hX
      obtain ⟨nm, hnm⟩ : ∃ nm, (b.drop (a + 46)).take sz = nm := ⟨_, rfl⟩
      obtain ⟨me, hme⟩ : ∃ sz, numA b (a + 10) 2 = sz := ⟨_, rfl⟩
      obtain ⟨pk, hpk⟩ : ∃ sz, numA b (a + 20) 4 = sz := ⟨_, rfl⟩
      obtain ⟨si, hsi⟩ : ∃ sz, numA b (a + 24) 4 = sz := ⟨_, rfl⟩
      obtain ⟨su, hsu⟩ : ∃ sz, numA b (a + 16) 4 = sz := ⟨_, rfl⟩
      obtain ⟨hd, hhd⟩ : ∃ sz, numA b (a + 42) 4 = sz := ⟨_, rfl⟩
      obtain ⟨ve, hve⟩ : ∃ sz, numA b (a + 6) 2 = sz := ⟨_, rfl⟩
      obtain ⟨fl, hfl⟩ : ∃ sz, numA b (a + 8) 2 = sz := ⟨_, rfl⟩
      have m1 : me < 65536 := by rw [← hme]; exact numA_2 _ _
      have m2 : fl < 65536 := by rw [← hfl]; exact numA_2 _ _
      rw [hnm, hme, hpk, hsi, hsu, hhd, hve, hfl] at hX
      have hnl : nm.length = sz := by rw [← hnm]; simp; have := HN.out; omega
      have HNM := bx hnm
      have HNL := bx hnl
      have HME := bx hme
      have HPK := bx hpk
      have HSI := bx hsi
      have HSU := bx hsu
      have HHD := bx hhd
      have HVE := bx hve
      have HFL := bx hfl
      have HX0 := bx hX
      clear hnm hme hpk hsi hsu hhd hX hnl hve hfl HX c2 c3
      go_wp2_with fail
      refine (rnum_r A n c a 34 2 34 2 b wr w4 HN.out hnc hc HRR.out HB4.out rfl rfl (by omega) (by omega) (by omega) HDK.out).mono ?_
      rintro e5 w5 ⟨rfl, hb5⟩
      have HB5 := bx hb5
      clear hb5 HB4 HW4
      go_wp2_with fail
      refine (rnum_r A n c a 10 2 10 2 b wr w5 HN.out hnc hc HRR.out HB5.out rfl rfl (by omega) (by omega) (by omega) HME.out).mono ?_
      rintro e6 w6 ⟨rfl, hb6⟩
      have HB6 := bx hb6
      clear hb6 HB5
      go_wp2_with fail
      refine (rnum_r A n c a 8 2 8 2 b wr w6 HN.out hnc hc HRR.out HB6.out rfl rfl (by omega) (by omega) (by omega) HFL.out).mono ?_
      rintro e7 w7 ⟨rfl, hb7⟩
      have HB7 := bx hb7
      clear hb7 HB6
      go_wp2_with fail
      obtain ⟨w8, hw8⟩ : ∃ w8, w7.alloc (.cells #[.int .i64 2, .int .i64 4, .int .i64 2048] 3) = w8 := ⟨_, rfl⟩
      have hz7 : w7.heap.size = w7.heap.size := rfl
      obtain ⟨g7, hg7⟩ : ∃ g7, w7.heap.size = g7 := ⟨_, rfl⟩
      have hk7 : Bk w8 g7 3 #[.int .i64 2, .int .i64 4, .int .i64 2048] := by rw [← hw8]; exact Bk.newAt _ _ _ hg7
      have k0 : w8.cell? ⟨g7, 0, none⟩ = some (.int .i64 2) := (hk7.cell 0).trans rfl
      have k1 : w8.cell? ⟨g7, 1, none⟩ = some (.int .i64 4) := (hk7.cell 1).trans rfl
      have k2 : w8.cell? ⟨g7, 2, none⟩ = some (.int .i64 2048) := (hk7.cell 2).trans rfl
      have HB8 : Bx (Below wr.heap.size wr w8) := by rw [← hw8]; exact bx (bl_alloc HB7.out (Nat.le_refl _) _)
      rw [hg7, hw8]
      clear hw8 hg7 hk7 hz7 HB7
      go_loop [18, 77] (fun ov kv => ∃ k : Nat, k ≤ 3 ∧ kv = .int .i64 (k : Int) ∧ ov = .int .i64 (flK fl k : Int)) (fun _ kv => 3 - (intOf kv).toNat)
      case atStart => exact ⟨0, by omega, rfl, rfl⟩
      case round =>
        obtain ⟨k, hk, rfl, rfl⟩ := hrel
        obtain ⟨flv, hflv⟩ : ∃ flv, flK fl k = flv := ⟨_, rfl⟩
        have hflz : flv < 65536 := by
          have : flK fl k ≤ fl := by
            unfold flK
            split
            · omega
            · omega
            · omega
            · unfold flagsA; omega
          omega
        rw [hflv]
        rcases (by omega : k = 0 ∨ k = 1 ∨ k = 2 ∨ k = 3) with rfl | rfl | rfl | rfl
        · -- DEV{
          by_cases hb : flv / 2 % 2 = 1
          · have hbI : ((flv : Int) / 2 % 2 == 1) = true := by rw [beq_iff_eq]; omega
            have hge : 2 ≤ flv := by omega
            have hn : flK fl 1 = flv - 2 := by rw [← hflv] at hb ⊢; simp only [flK] at hb ⊢; omega
            have HN2 := bx hn
            clear hn hb hflv
            go_wp2
            go_round
            case rel => exact ⟨1, by omega, rfl, by rw [HN2.out]; go_num⟩
            case measure => simp [intOf]
          · have hbI : ((flv : Int) / 2 % 2 == 1) = false := by rw [beq_eq_false_iff_ne]; omega
            have hn : flK fl 1 = flv := by rw [← hflv] at hb ⊢; simp only [flK] at hb ⊢; omega
            have HN2 := bx hn
            clear hn hb hflv
            go_wp2
            go_round
            case rel => exact ⟨1, by omega, rfl, by rw [HN2.out]⟩
            case measure => simp [intOf]
          -- DEV}
        · -- DEV{
          by_cases hb : flv / 4 % 2 = 1
          · have hbI : ((flv : Int) / 4 % 2 == 1) = true := by rw [beq_iff_eq]; omega
            have hge : 4 ≤ flv := by omega
            have hn : flK fl 2 = flv - 4 := by rw [← hflv] at hb ⊢; simp only [flK] at hb ⊢; omega
            have HN2 := bx hn
            clear hn hb hflv
            go_wp2
            go_round
            case rel => exact ⟨2, by omega, rfl, by rw [HN2.out]; go_num⟩
            case measure => simp [intOf]
          · have hbI : ((flv : Int) / 4 % 2 == 1) = false := by rw [beq_eq_false_iff_ne]; omega
            have hn : flK fl 2 = flv := by rw [← hflv] at hb ⊢; simp only [flK] at hb ⊢; omega
            have HN2 := bx hn
            clear hn hb hflv
            go_wp2
            go_round
            case rel => exact ⟨2, by omega, rfl, by rw [HN2.out]⟩
            case measure => simp [intOf]
          -- DEV}
        · -- DEV{
          by_cases hb : flv / 2048 % 2 = 1
          · have hbI : ((flv : Int) / 2048 % 2 == 1) = true := by rw [beq_iff_eq]; omega
            have hge : 2048 ≤ flv := by omega
            have hn : flK fl 3 = flv - 2048 := by rw [← hflv] at hb ⊢; simp only [flK, flagsA] at hb ⊢; omega
            have HN2 := bx hn
            clear hn hb hflv
            go_wp2
            go_round
            case rel => exact ⟨3, by omega, rfl, by rw [HN2.out]; go_num⟩
            case measure => simp [intOf]
          · have hbI : ((flv : Int) / 2048 % 2 == 1) = false := by rw [beq_eq_false_iff_ne]; omega
            have hn : flK fl 3 = flv := by rw [← hflv] at hb ⊢; simp only [flK, flagsA] at hb ⊢; omega
            have HN2 := bx hn
            clear hn hb hflv
            go_wp2
            go_round
            case rel => exact ⟨3, by omega, rfl, by rw [HN2.out]⟩
            case measure => simp [intOf]
          -- DEV}
        have hfa : flagsA fl = flv := hflv
        rw [hfa] at HX0
        clear hfa hflv hk
        obtain ⟨bad, hbad⟩ : ∃ bad, decide (20 < ve ∨ flv ≠ 0 ∨ (me ≠ 0 ∧ me ≠ 8)) = bad := ⟨_, rfl⟩
        have HBAD := bx hbad
        clear k0 k1 k2 HFL
        go_upto_region 21 with (fail)
        go_cut [106] (fun v wx => v = .bool bad ∧ Bx (Below wr.heap.size wr wx))
        case first => -- DEV{
          go_wp2_with fail
          refine (rnum_r A n c a 6 2 6 2 b wr w8 HN.out hnc hc HRR.out HB8.out rfl rfl (by omega) (by omega) (by omega) HVE.out).mono ?_
          rintro e8 w9 ⟨rfl, hb9⟩
          have HB9 := bx hb9
          clear hb9
          by_cases d1 : 20 < ve
          · have d1I : (20 : Int) < (ve : Int) := by omega
            have hbt : bad = true := by rw [← hbad, decide_eq_true (.inl d1)]
            subst hbt
            clear hbad d1
            go_wp2
            go_meet
            case rel => exact ⟨rfl, HB9⟩
          have d1I : ¬ (20 : Int) < (ve : Int) := by omega
          have d1K := bx (decide_eq_false d1I)
          by_cases d2 : flv = 0
          case neg =>
            have hbt : bad = true := by rw [← hbad, decide_eq_true (.inr (.inl d2))]
            have d2I : ((flv : Int) != 0) = true := by rw [bne_iff_ne]; omega
            subst hbt
            clear hbad d2
            go_wp2
            go_meet
            case rel => exact ⟨by first | rfl | rw [d1K.out], HB9⟩
          have d2I : ((flv : Int) != 0) = false := by rw [bne_eq_false_iff_eq]; omega
          by_cases d3 : me = 0
          · have hbt : bad = false := by rw [← hbad]; exact decide_eq_false (by omega)
            have d3I : ((me : Int) != 0) = false := by rw [bne_eq_false_iff_eq]; omega
            subst hbt
            clear hbad d1 d2 d3
            go_wp2
            go_meet
            case rel => exact ⟨by first | rfl | rw [d1K.out], HB9⟩
          have d3I : ((me : Int) != 0) = true := by rw [bne_iff_ne]; omega
          by_cases d4 : me = 8
          · have hbt : bad = false := by rw [← hbad]; exact decide_eq_false (by omega)
            have d4I : ((me : Int) != 8) = false := by rw [bne_eq_false_iff_eq]; omega
            subst hbt
            clear hbad d1 d2 d3 d4
            go_wp2
            go_meet
            case rel => exact ⟨by first | rfl | rw [d1K.out], HB9⟩
          · have hbt : bad = true := by rw [← hbad]; exact decide_eq_true (.inr (.inr ⟨d3, d4⟩))
            have d4I : ((me : Int) != 8) = true := by rw [bne_iff_ne]; omega
            subst hbt
            clear hbad d1 d2 d3 d4
            go_wp2
            go_meet
            case rel => exact ⟨by first | rfl | rw [d1K.out], HB9⟩
          -- DEV}
        case rest =>
        rename World => w9
        obtain ⟨rfl, HB9⟩ := hcut
        have HW9 := bx (HW.out.trans (HB9.out.mono hsz))
        have hX := HX0.out
        clear HB8 HX0 hbad
        cases bad with
        | true =>
          have HRk := bx (HRE.out 12 (by rw [← hX, if_pos (of_decide_eq_true HBAD.out)]))
          clear hX
          go_wp2
          go_ret3
          exact CenPost.bad HRk.out HW9.out
        | false =>
        rw [if_neg (of_decide_eq_false HBAD.out)] at hX
        obtain ⟨nb, hnb⟩ : ∃ nb, nameA nm = nb := ⟨_, rfl⟩
        rw [hnb] at hX
        have HNA := bx hnb
        have hnml : nm.length ≤ 70000 := by have := HNL.out; omega
        have hXn := bx hX
        obtain ⟨sn, hsn⟩ : ∃ s, (⟨nm.toArray⟩ : ByteArray) = s := ⟨_, rfl⟩
        have hsnl : sn.data.toList = nm := by rw [← hsn]
        have hsns : sn.size ≤ 140737488351232 := by rw [← hsn]; show nm.toArray.size ≤ _; simp; omega
        have HSN := bx hsnl
        have HSN' := bx hsn
        have hrr := (HRR.out.below HB9.out (Nat.le_refl _))
        obtain ⟨ad, x0, hAd, _, _, _⟩ := hrr.byte (k := a) (by have := HN.out; omega)
        subst hAd
        have hcv := run_cut_str hrr (i := a + 46) (m := sz) (c := c - (a + 46)) (n := sz) (s := sn) rfl (by have := HN.out; omega) (by rw [HNM.out]; exact hsn)
        rw [show ad.add (a + 46) = ⟨ad.block, ad.off + (a + 45 + 1), none⟩ from add_pos ad (a + 45)] at hcv
        have v5 : ¬ c = a + 46 := by omega
        have v1 : (a : Int) + 46 ≤ (a : Int) + 46 + (sz : Int) := by omega
        have v2 : (a : Int) + 46 + (sz : Int) ≤ (c : Int) := by omega
        have v3 : ((a : Int) + 46).toNat = a + 46 := Int.toNat_natCast (a + 46)
        have v4 : (0 : Int) ≤ (a : Int) + 46 := by omega
        have v6 : (0 : Int) ≤ (a : Int) + 46 + (sz : Int) := by omega
        have v7 : a + 46 ≤ c := by omega
        have v8 : a + 46 ≤ ((a : Int) + 46 + (sz : Int)).toNat := by omega
        have v9 : ((a : Int) + 46 + (sz : Int)).toNat ≤ c := by omega
        have va : ¬ c - (a + 46) = 0 := by omega
        have vb : (a : Int) + 46 ≤ (c : Int) := by omega
        clear hX hnb hsn hsnl hrr HBAD
        go_wp2_with fail
        refine (rname_any sn w9 hsns).mono ?_
        rintro e9 wa ⟨rfl, hba⟩
        rw [HSN.out, HNA.out]
        have HBa := bx (HB9.out.trans (hba.mono HB9.out.size))
        have HWa := bx (HW.out.trans (HBa.out.mono hsz))
        clear hba hcv v1 v2 v3 v4 v5 v6 v7 v8 v9 va vb HB9 HW9
        cases nb with
        | false =>
          have HRk := bx (HRE.out 13 (by rw [← hXn.out, if_pos rfl]))
          go_wp2
          go_ret3
          exact CenPost.bad HRk.out HWa.out
        | true =>
        have hX := hXn.out
        rw [if_neg (by simp)] at hX
        have HX1 := bx hX
        have HOa := bx (HO.out.step HBa.out)
        have HPa : Bx (OwI wa w.heap.size 3 u12 (acc.map plcI)) := bx (HP.out.below HBa.out)
        obtain ⟨lA, lc, hlv, _, _⟩ := HOa.out.rd
        have hlen : (acc.map rec0).length = i := by rw [List.length_map, HL.out]
        rw [hlen] at hlv
        subst hlv
        clear hX hXn hlen
        go_wp2
        go_loop [22] (fun kv => ∃ k : Nat, k ≤ i ∧ kv = .int .i64 (k : Int) ∧ Bx (∀ j x, j < k → acc[j]? = some x → x.1.name ≠ nm)) (fun kv => i - (intOf kv).toNat)
        case atStart => exact ⟨0, by omega, rfl, bx (fun j x h => absurd h (by omega))⟩
        case round =>
          obtain ⟨k, hk, rfl, HNE⟩ := hrel
          by_cases hki : k < i
          · -- DEV{
            have hkI : (k : Int) < (i : Int) := by omega
            have hkK : decide (k < i) = true := decide_eq_true hki
            obtain ⟨x, hx⟩ : ∃ x, acc[k]? = some x := ⟨_, List.getElem?_eq_getElem (by rw [HL.out]; exact hki)⟩
            obtain ⟨gl, cc, hv, _⟩ := HOa.out.form (by rw [List.length_map, HL.out]; omega)
            injection hv with hv1 hv2 hv3
            subst hv1
            have q0 : wa.cell? ⟨gl, k * 7, none⟩ = some (strV x.1.name) := HOa.out.cell recCels (k := k) (j := 0) (x := rec0 x) (by rw [List.getElem?_map, hx]; rfl) rfl
            obtain ⟨sx, hsx⟩ : ∃ s, (⟨x.1.name.toArray⟩ : ByteArray) = s := ⟨_, rfl⟩
            unfold strV at q0
            rw [hsx] at q0
            have hsxl : sx.data.toList = x.1.name := by rw [← hsx]
            clear hv2 hv3 hsx
            by_cases he : x.1.name = nm
            · have hst : (sx.toList == sn.toList) = true := tl_same (by rw [hsxl, HSN.out]; exact he)
              have HRk := bx (HRE.out 14 (by
                rw [← HX1.out, if_pos]
                rw [← he]
                exact List.mem_map_of_mem (f := fun y : Rec × Nat => y.1.name) (List.mem_of_getElem? hx)))
              clear he hsxl hx
              go_wp2
              go_ret3
              exact CenPost.bad HRk.out HWa.out
            · have hst : (sx.toList == sn.toList) = false := tl_diff (by rw [hsxl, HSN.out]; exact he)
              have HNE2 : Bx (∀ j x, j < k + 1 → acc[j]? = some x → x.1.name ≠ nm) := bx (fun j y hj hy => by
                by_cases e : j = k
                · subst e
                  rw [hx] at hy
                  injection hy with hy
                  rw [← hy]; exact he
                · exact HNE.out j y (by omega) hy)
              clear he hsxl hx
              go_wp2
              go_round
              case rel => exact ⟨k + 1, by omega, by go_num, HNE2⟩
              case measure => simp [intOf]; omega
            -- DEV}
          have hkI : ¬ (k : Int) < (i : Int) := by omega
          have hkK : decide (k < i) = false := decide_eq_false hki
          have hkeq : k = i := by omega
          have HRr := bx (HRO.out ⟨nm, me, pk, si, su, hd⟩ (a + 46 + sz + ex + cm) (by
            rw [← HX1.out, if_neg]
            intro hmem
            obtain ⟨x, hxm, hxe⟩ := List.mem_map.1 hmem
            obtain ⟨j, hj, hjx⟩ := List.getElem_of_mem hxm
            exact HNE.out j x (by rw [HL.out] at hj; omega) (by rw [List.getElem?_eq_getElem hj, hjx]) hxe))
          clear hkeq HX1 HNE
          go_wp2_with fail
          refine (rnum_r (some ad) n c a 16 4 16 4 b wr wa HN.out hnc hc HRR.out HBa.out rfl rfl (by omega) (by omega) (by omega) HSU.out).mono ?_
          rintro eb wb ⟨rfl, hbx⟩
          have HBb := bx hbx
          clear hbx
          go_wp2_with fail
          refine (rnum_r (some ad) n c a 20 4 20 4 b wr wb HN.out hnc hc HRR.out HBb.out rfl rfl (by omega) (by omega) (by omega) HPK.out).mono ?_
          rintro eb wc1 ⟨rfl, hbx⟩
          have HBc := bx hbx
          clear hbx
          go_wp2_with fail
          refine (rnum_r (some ad) n c a 24 4 24 4 b wr wc1 HN.out hnc hc HRR.out HBc.out rfl rfl (by omega) (by omega) (by omega) HSI.out).mono ?_
          rintro eb wd1 ⟨rfl, hbx⟩
          have HBd := bx hbx
          clear hbx
          go_wp2_with fail
          refine (rnum_r (some ad) n c a 42 4 42 4 b wr wd1 HN.out hnc hc HRR.out HBd.out rfl rfl (by omega) (by omega) (by omega) HHD.out).mono ?_
          rintro eb we1 ⟨rfl, hbx⟩
          have HBe := bx hbx
          clear hbx
          have HWe := bx (HW.out.trans (HBe.out.mono hsz))
          have hze : w.heap.size ≤ we1.heap.size := HWe.out.size
          have HOe := bx (show OwS recL 7 we1 w.heap.size 71 (.slice lA i lc) (acc.map rec0) from HO.out.step HBe.out)
          have HPe := bx (show OwI we1 w.heap.size 3 u12 (acc.map plcI) from HP.out.below HBe.out)
          obtain ⟨rr, hrr⟩ : ∃ rr : Rec, (⟨nm, me, pk, si, su, hd⟩ : Rec) = rr := ⟨_, rfl⟩
          have HCS : Bx ((#[.string sn, .int .i64 (me : Int), .int .i64 (pk : Int), .int .i64 (si : Int), .int .i64 (su : Int), .int .i64 0, .int .i64 (hd : Int)] : Array Value).toList = recL (rec0 (rr, a))) := bx (by rw [← HSN'.out, ← hrr]; rfl)
          rw [hrr] at HRr
          have HN4 : Bx (((acc.map rec0).length + [rec0 (rr, a)].length) * 64 ≤ 140737488355328) := bx (by have := HL.out; simp; omega)
          have HN5 : Bx (((acc.map plcI).length + [plcI (rr, a)].length) * 8 ≤ 140737488355328) := bx (by have := HL.out; simp; omega)
          have HAt : Bx ((.int .i64 (a : Int) : Value) = iV (plcI (rr, a))) := bx rfl
          clear hrr HBa HBb HBc HBd HWa HSU HPK HSI HHD HME HVE hkI hkK hki hk
          go_wp2_with (first
            | (at_builtin; refine wpList_appS _ recCels rfl (.tmp 132) (.tmp 152) rfl recTy (by decide) w.heap.size (.slice lA i lc) (acc.map rec0) rfl (OwS.alloc HOe.out _) _ _ 1 1 [rec0 (rr, a)] rfl rfl (RS.new _ _ #[.string sn, .int .i64 (me : Int), .int .i64 (pk : Int), .int .i64 (si : Int), .int .i64 (su : Int), .int .i64 0, .int .i64 (hd : Int)] HCS.out _ _) HN4.out (le_alloc0 hze _) ?_; intro v8 w8 own8 g8 k8 hb8
               have HP8 := bx (apt_kept (HPe.out.alloc _) HA.out g8)
               have HA8 := bx (apt_new (HPe.out.alloc _) HA.out k8)
               have HO8 := bx own8
               have hz8 : w.heap.size ≤ w8.heap.size := Nat.le_trans (le_alloc0 hze _) hb8.size
               have HB8 := bx ((bl_alloc HWe.out (Nat.le_refl _) _).trans hb8)
               clear own8 g8 k8 hb8)
            | (at_builtin; refine wpList_appL _ iV_one rfl (.tmp 154) (.tmp 156) rfl intTyA (by decide) w.heap.size u12 (acc.map plcI) rfl (HP8.out.alloc _) _ _ 1 1 [plcI (rr, a)] rfl rfl (RL.freshe _ _ HAt.out _) HN5.out (le_alloc0 hz8 _) ?_; intro v9 wz own9 g9 k9 hb9))
          have HO9 := bx (sapt_kept (HO8.out.alloc _) HA8.out.symm g9)
          have HA9 := bx (sapt_new (HO8.out.alloc _) HA8.out.symm k9)
          have HB9 := bx ((bl_alloc HB8.out (Nat.le_refl _) (.cells #[.int .i64 (a : Int)] 3)).trans hb9)
          have HO10 : Bx (OwS recL 7 wz w.heap.size 71 v8 ((acc ++ [(rr, a)]).map rec0)) := bx (by rw [List.map_append]; exact HO9.out)
          have HP10 : Bx (OwI wz w.heap.size 3 v9 ((acc ++ [(rr, a)]).map plcI)) := bx (by rw [List.map_append]; exact own9)
          have HL10 : Bx ((acc ++ [(rr, a)]).length = i + 1) := bx (by rw [List.length_append, HL.out]; rfl)
          have HC10 := bx HRr.out.1
          have hq9 : a + 46 + sz + ex + cm ≤ 9000000000 := by have := HRr.out.2; omega
          clear own9 g9 k9 hb9 HO9 HP8 HO8 HB8
          go_roundw
          case rel => exact ⟨i + 1, a + 46 + sz + ex + cm, acc ++ [(rr, a)], by omega, by go_num, by go_num, hq9, HC10, HL10, HB9, HO10, HP10, bx HA9.out.symm⟩
          case measure => simp [intOf]; omega
    · have himI : ¬ (i : Int) < (m : Int) := by omega
      obtain rfl : i = m := by omega
      have hC := HC.out
      rw [show i - i = 0 by omega, centA] at hC
      by_cases hap : a = td
      case neg =>
        have HRk := bx (show R = .err 11 from by rw [HR.out]; unfold cenR; rw [hC]; show (if a ≠ td then _ else _) = _; rw [if_pos hap])
        have hapI : ((a : Int) != (td : Int)) = true := by rw [bne_iff_ne]; omega
        clear hC hap
        go_wp2
        go_ret3
        exact CenPost.bad HRk.out HW.out
      have hapI : ((a : Int) != (td : Int)) = false := by rw [bne_eq_false_iff_eq]; omega
      have HRk := bx (show R = .ok acc from by rw [HR.out]; unfold cenR; rw [hC]; show (if a ≠ td then _ else _) = _; rw [if_neg (by simpa using hap)])
      clear hC hap
      go_wp2
      go_ret3
      exact CenPost.good HRk.out HW.out HO.out HP.out HA.out
end Go.Proofs.YtlmcpkomjofcgaaGreatDoor
namespace Go.Proofs.YtlmcpkomjofcgaaGreatDoor
open Go.RowKit
def locI : Option Nat → Int
  | none => -1
  | some a => (a : Int)
theorem piece_ext {b : List UInt8} {i j m : Nat} (h : ∀ k, k < m → b[i + k]? = b[j + k]?) : (b.drop i).take m = (b.drop j).take m := by
  apply List.ext_getElem?
  intro k
  rw [List.getElem?_take, List.getElem?_take]
  split
  · rw [List.getElem?_drop, List.getElem?_drop]; exact h k (by omega)
  · rfl
theorem piece_ne {b : List UInt8} {i j m k : Nat} {x y : UInt8} (hk : k < m) (hx : b[i + k]? = some x) (hy : b[j + k]? = some y) (hne : x ≠ y) : (b.drop i).take m ≠ (b.drop j).take m := fun e => by
  have := congrArg (·[k]?) e
  simp only [List.getElem?_take, List.getElem?_drop, if_pos hk, hx, hy] at this
  injection this with this
  exact hne this
set_option maxRecDepth 100000 in
set_option maxHeartbeats 8000000 in
theorem rloc_any (A : Option Addr) (n c dir p : Nat) (b : List UInt8) (nm : List UInt8) (me pk si su hd : Nat) (at0 : Int) (w : World) (hn : b.length = n) (hz : n ≤ 70000) (hnc : n ≤ c) (hc : (c : Int) ≤ 9223372036854775807) (hr : RB w w.heap.size A b) (hdir : dir + 22 ≤ n) (hp : p + 46 ≤ n)
    (hhead : hd < 4294967296) (_hpk : pk < 4294967296) (hnm : nm.length < 65536) :
    Calls Tryz.prog 40 #[.slice A n c, .agg #[strV nm, .int .i64 (me : Int), .int .i64 (pk : Int), .int .i64 (si : Int), .int .i64 (su : Int), .int .i64 at0, .int .i64 (hd : Int)], .int .i64 (p : Int), .int .i64 (dir : Int)] w
      fun e w' => e = .returned (.int .i64 (locI (localA b dir (⟨nm, me, pk, si, su, hd⟩, p)))) ∧ Below w.heap.size w w' := by
  obtain ⟨R, hR⟩ : ∃ R, localA b dir (⟨nm, me, pk, si, su, hd⟩, p) = R := ⟨_, rfl⟩
  rw [hR]
  obtain ⟨ri, hri⟩ : ∃ ri, locI R = ri := ⟨_, rfl⟩
  rw [hri]
  have HNo : Bx (R = none → ri = -1) := bx (fun h => by rw [← hri, h]; rfl)
  have HSo : Bx (∀ a, R = some a → ri = (a : Int)) := bx (fun a h => by rw [← hri, h]; rfl)
  unfold localA at hR
  dsimp only at hR
  obtain ⟨sn, hsn⟩ : ∃ s, (⟨nm.toArray⟩ : ByteArray) = s := ⟨_, rfl⟩
  obtain ⟨ln, hln⟩ : ∃ ln, nm.length = ln := ⟨_, rfl⟩
  have hss : sn.size = ln := by rw [← hsn, ← hln]; rfl
  have HSN := bx hsn
  rw [hln] at hR hnm
  obtain ⟨w1, hw1⟩ : ∃ w1, w.alloc (.cells #[.string sn, .int .i64 (me : Int), .int .i64 (pk : Int), .int .i64 (si : Int), .int .i64 (su : Int), .int .i64 at0, .int .i64 (hd : Int)] 71) = w1 := ⟨_, rfl⟩
  obtain ⟨g, hg⟩ : ∃ g, w.heap.size = g := ⟨_, rfl⟩
  have hk : Bk w1 g 71 #[.string sn, .int .i64 (me : Int), .int .i64 (pk : Int), .int .i64 (si : Int), .int .i64 (su : Int), .int .i64 at0, .int .i64 (hd : Int)] := by rw [← hw1]; exact Bk.newAt _ _ _ hg
  have k0 : w1.cell? ⟨g, 0, none⟩ = some (.string sn) := (hk.cell 0).trans rfl
  have k2 : w1.cell? ⟨g, 2, none⟩ = some (.int .i64 (pk : Int)) := (hk.cell 2).trans rfl
  have k6 : w1.cell? ⟨g, 6, none⟩ = some (.int .i64 (hd : Int)) := (hk.cell 6).trans rfl
  have HB1 : Bx (Below w.heap.size w w1) := bx (by rw [← hw1]; exact bl_alloc (Below.refl _ _) (Nat.le_refl _) _)
  have HR1 : Bx (RB w1 g A b) := bx (by rw [← hw1, ← hg]; exact hr.alloc (Nat.le_refl _) _)
  have hglt : g < w1.heap.size := hk.lt
  have hg1 : g ≤ w1.heap.size := by rw [← hg]; exact HB1.out.size
  have HW1 := bx hw1
  have HG := bx hg
  have HN := bx hn
  have HR0 := bx hR
  rw [hg] at HB1
  have HSV : Bx (strV nm = .string sn) := bx (by unfold strV; rw [hsn])
  rw [HSV.out]
  clear hR hri hsn hln hk hw1 hg hn hr
  have d9 : IntKind.i64.wrap ((dir : Int) - (hd : Int)) = (dir : Int) - (hd : Int) := IntWalk.i64_in _ (by omega)
  by_cases c1 : dir < hd + 30
  · have HX := bx (HNo.out (by rw [← HR0.out, if_pos (.inl c1)]))
    by_cases c2 : dir < hd
    · have c2I : (dir : Int) < (hd : Int) := by omega
      have c2K : decide (dir < hd) = true := decide_eq_true c2
      clear c1 c2
      go_enter Tryz.func40, Tryz.ntmps40
      go_wp2_with fail
      rw [HW1.out]
      rw [HG.out]
      go_wp2
      go_ret
      exact ⟨ret_v (by rw [HX.out]; rfl), by first | exact HB1.out | (rw [HG.out]; exact HB1.out)⟩
    · have c2I : ¬ (dir : Int) < (hd : Int) := by omega
      have c2K : decide (dir < hd) = false := decide_eq_false c2
      have c3I : (dir : Int) - (hd : Int) < 30 := by omega
      clear c1 c2
      go_enter Tryz.func40, Tryz.ntmps40
      go_wp2_with fail
      rw [HW1.out]
      rw [HG.out]
      go_wp2
      go_ret
      exact ⟨ret_v (by rw [HX.out]; rfl), by first | exact HB1.out | (rw [HG.out]; exact HB1.out)⟩
  have c1I : ¬ (dir : Int) < (hd : Int) := by omega
  have c1K : decide (dir < hd) = false := decide_eq_false (by omega)
  have c1J : ¬ (dir : Int) - (hd : Int) < 30 := by omega
  have c1L : decide ((dir : Int) - (hd : Int) < 30) = false := decide_eq_false c1J
  have hhd : hd + 30 ≤ dir := by omega
  obtain ⟨sg, hsg⟩ : ∃ sg, signA b hd 3 4 = sg := ⟨_, rfl⟩
  have hsgn := rsign_r A n c hd b 3 4 3 4 w1 w1 rfl rfl HN.out (by omega) (by omega) (HR1.out.more hg1) (Below.refl _ _)
  rw [hsg] at hsgn
  have hR1 := HR0.out
  rw [hsg] at hR1
  have HSG := bx hsgn
  clear hsgn hsg HR0
  cases sg with
  | false =>
    have HX := bx (HNo.out (by rw [← hR1, if_pos (.inr (.inl rfl))]))
    clear hR1 c1
    go_enter Tryz.func40, Tryz.ntmps40
    go_wp2_with fail
    rw [HW1.out]
    rw [HG.out]
    go_wp2_with fail
    refine HSG.out.mono ?_
    rintro e1 w2 ⟨rfl, rfl⟩
    go_wp2
    go_ret
    exact ⟨ret_v (by rw [HX.out]; rfl), by first | exact HB1.out | (rw [HG.out]; exact HB1.out)⟩
  | true =>
  have HR2 := bx hR1
  clear hR1 c1
  go_enter Tryz.func40, Tryz.ntmps40
  go_wp2_with fail
  rw [HW1.out]
  rw [HG.out]
  go_wp2_with fail
  refine HSG.out.mono ?_
  rintro e1 w1 ⟨rfl, rfl⟩
  go_wp2_with fail
  clear HSG HW1
  go_loopw [9] (fun iv wx => ∃ k q : Nat, k ≤ 24 ∧ iv = .int .i64 (k : Int) ∧ wx = w1.drewN q ∧ Bx (∀ j, j < k → b[hd + 4 + j]? = b[p + 6 + j]?)) (fun iv _ => 24 - (intOf iv).toNat)
  case atStart => exact ⟨0, 0, by omega, rfl, rfl, bx (fun j h => absurd h (by omega))⟩
  case round =>
    obtain ⟨k, q, hk, rfl, rfl, HEQ⟩ := hrel
    by_cases hk24 : k < 24
    · have hkI : (k : Int) < 24 := by omega
      obtain ⟨ad, x, rfl, _, hx, cx⟩ := HR1.out.byte (k := hd + 4 + k) (by have := HN.out; omega)
      obtain ⟨ad2, y, hA2, _, hy, cy⟩ := HR1.out.byte (k := p + 6 + k) (by have := HN.out; omega)
      injection hA2 with hA2
      subst hA2
      have u1 : IntKind.i64.wrap ((hd : Int) + 4) = (hd : Int) + 4 := IntWalk.i64_in _ (by omega)
      have u2 : IntKind.i64.wrap ((hd : Int) + 4 + (k : Int)) = (hd : Int) + 4 + (k : Int) := IntWalk.i64_in _ (by omega)
      have u3 : IntKind.i64.wrap ((p : Int) + 6) = (p : Int) + 6 := IntWalk.i64_in _ (by omega)
      have u4 : IntKind.i64.wrap ((p : Int) + 6 + (k : Int)) = (p : Int) + 6 + (k : Int) := IntWalk.i64_in _ (by omega)
      have u5 : ((hd : Int) + 4 + (k : Int)).toNat = hd + 4 + k := by omega
      have u6 : ((p : Int) + 6 + (k : Int)).toNat = p + 6 + k := by omega
      have u7 : (0 : Int) ≤ (hd : Int) + 4 + (k : Int) := by omega
      have u8 : (hd : Int) + 4 + (k : Int) < (n : Int) := by omega
      have u9 : (0 : Int) ≤ (p : Int) + 6 + (k : Int) := by omega
      have ua : (p : Int) + 6 + (k : Int) < (n : Int) := by omega
      by_cases hxy : x = y
      · have hb1 : ((x.toNat : Int) != (y.toNat : Int)) = false := by rw [hxy]; simp
        have HEQ2 : Bx (∀ j, j < k + 1 → b[hd + 4 + j]? = b[p + 6 + j]?) := bx (fun j hj => by
          by_cases e : j = k
          · subst e; rw [hx.out, hy.out, hxy]
          · exact HEQ.out j (by omega))
        clear hxy hx hy
        go_wp2
        go_quiet (fail)
        go_wp2
        go_roundw
        case rel => exact ⟨k + 1, q + nq, by omega, by go_num, rfl, HEQ2⟩
        case measure => simp [intOf]; omega
      · have hb1 : ((x.toNat : Int) != (y.toNat : Int)) = true := by rw [bne_iff_ne]; exact u8_ne hxy
        have HX := bx (HNo.out (by rw [← HR2.out, if_pos (.inr (.inr (piece_ne hk24 hx.out hy.out hxy)))]))
        clear hxy hx hy
        go_wp2
        go_quiet (fail)
        go_wp2
        go_ret
        exact ⟨ret_v (by rw [HX.out]; rfl), by rw [HG.out]; exact below_drewN (below_drewN HB1.out _) _⟩
    have hkI : ¬ (k : Int) < 24 := by omega
    obtain rfl : k = 24 := by omega
    have hR2 := HR2.out
    rw [if_neg (by rintro (h | h | h); omega; cases h; exact h (piece_ext HEQ.out))] at hR2
    obtain ⟨w2, hw2⟩ : ∃ w2, w1.drewN q = w2 := ⟨_, rfl⟩
    have hB2 : Bx (Below g w w2) := by rw [← hw2]; exact bx (below_drewN HB1.out _)
    have hR12 : Bx (RB w2 g A b) := by rw [← hw2]; exact bx (HR1.out.drewN q)
    have q0 : w2.cell? ⟨g, 0, none⟩ = some (.string sn) := by rw [← hw2]; exact k0
    have q2 : w2.cell? ⟨g, 2, none⟩ = some (.int .i64 (pk : Int)) := by rw [← hw2]; exact k2
    have q6 : w2.cell? ⟨g, 6, none⟩ = some (.int .i64 (hd : Int)) := by rw [← hw2]; exact k6
    have hgz : g < w2.heap.size := by rw [← hw2]; exact hglt
    rw [hw2]
    obtain ⟨ex, hex⟩ : ∃ ex, numA b (hd + 28) 2 = ex := ⟨_, rfl⟩
    have lex : ex < 65536 := by rw [← hex]; exact numA_2 _ _
    rw [hex] at hR2
    have HEX := bx hex
    have HR3 := bx hR2
    clear hw2 k0 k2 k6 hglt hg1 HB1 HR1 HR2 hR2 hex HEQ hk24 hk hkI c1K c1L c1I c1J d9
    have x1 : IntKind.i64.wrap ((dir : Int) - ((hd : Int) + 30)) = (dir : Int) - ((hd : Int) + 30) := IntWalk.i64_in _ (by omega)
    have x2 : IntKind.i64.wrap ((hd : Int) + 30 + (ln : Int)) = (hd : Int) + 30 + (ln : Int) := IntWalk.i64_in _ (by omega)
    have hF : ∀ a, a = hd + 30 + ln + ex → (dir < a ∨ dir < a + pk ∨ (b.drop (hd + 30)).take ln ≠ nm → ri = -1) ∧ (¬ (dir < a ∨ dir < a + pk ∨ (b.drop (hd + 30)).take ln ≠ nm) → ri = (a : Int)) := fun a ha => by
      subst ha
      exact ⟨fun h => HNo.out (by rw [← HR3.out, if_pos h]), fun h => HSo.out _ (by rw [← HR3.out, if_neg h])⟩
    obtain ⟨av, hav⟩ : ∃ av, av = hd + 30 + ln + ex := ⟨_, rfl⟩
    have HF := bx (hF av hav)
    have HAV := bx hav
    clear hF hav HR3 HNo HSo
    by_cases e1 : dir < hd + 30 + ln
    · have HX := bx (HF.out.1 (.inl (by have := HAV.out; omega)))
      have e1I : (dir : Int) - ((hd : Int) + 30) < (ln : Int) := by omega
      clear e1
      go_wp2
      go_quiet (fail)
      go_wp2
      go_ret
      exact ⟨ret_v (by rw [HX.out]; rfl), by rw [HG.out]; exact below_drewN hB2.out _⟩
    have e1I : ¬ (dir : Int) - ((hd : Int) + 30) < (ln : Int) := by omega
    have e1K : decide ((dir : Int) - ((hd : Int) + 30) < (ln : Int)) = false := decide_eq_false e1I
    obtain ⟨ad, x0, rfl, _, _, _⟩ := hR12.out.byte (k := hd) (by have := HN.out; omega)
    obtain ⟨s3, hs3⟩ : ∃ s, (⟨((b.drop (hd + 30)).take ln).toArray⟩ : ByteArray) = s := ⟨_, rfl⟩
    have hle : hd + 30 + ln ≤ b.length := by have := HN.out; omega
    have hcv3 := fun nq => run_cut_str (hR12.out.drewN nq) (i := hd + 30) (m := ln) (c := c - (hd + 30)) (n := ((hd : Int) + 30 + (ln : Int)).toNat - (hd + 30)) (by omega) hle hs3
    rw [show ad.add (hd + 30) = ⟨ad.block, ad.off + (hd + 29 + 1), none⟩ from add_pos ad (hd + 29)] at hcv3
    have u1 : IntKind.i64.wrap ((hd : Int) + 30) = (hd : Int) + 30 := IntWalk.i64_in _ (by omega)
    have v1 : (0 : Int) ≤ (hd : Int) + 30 := by omega
    have v2 : (hd : Int) + 30 ≤ (hd : Int) + 30 + (ln : Int) := by omega
    have v3 : (hd : Int) + 30 + (ln : Int) ≤ (c : Int) := by omega
    have v4 : ((hd : Int) + 30).toNat = hd + 30 := Int.toNat_natCast (hd + 30)
    have v5 : ¬ c = hd + 30 := by omega
    by_cases e5 : (b.drop (hd + 30)).take ln = nm
    case neg =>
      have hst : (s3.toList == sn.toList) = false := tl_diff (by rw [← hs3, ← HSN.out]; simpa using e5)
      have HX := bx (HF.out.1 (.inr (.inr e5)))
      clear hs3 e5 e1
      go_wp2
      go_quiet (fail)
      go_wp2
      go_ret
      exact ⟨ret_v (by rw [HX.out]; rfl), by rw [HG.out]; exact below_drewN hB2.out _⟩
    have hst : (s3.toList == sn.toList) = true := tl_same (by rw [← hs3, ← HSN.out]; simpa using e5)
    have HNB : Bx ((b.drop (hd + 30)).take ln = nm) := bx e5
    clear hs3 e5 e1
    go_wp2
    go_quiet (fail)
    rename Nat => nq
    go_wp2
    obtain ⟨w3, hw3⟩ : ∃ w3, w2.drewN nq = w3 := ⟨_, rfl⟩
    have hB3 : Bx (Below g w w3) := by rw [← hw3]; exact bx (below_drewN hB2.out _)
    have hR3 : Bx (RB w3 g (some ad) b) := by rw [← hw3]; exact bx (hR12.out.drewN nq)
    have r0 : w3.cell? ⟨g, 0, none⟩ = some (.string sn) := by rw [← hw3]; exact q0
    have r2 : w3.cell? ⟨g, 2, none⟩ = some (.int .i64 (pk : Int)) := by rw [← hw3]; exact q2
    have r6 : w3.cell? ⟨g, 6, none⟩ = some (.int .i64 (hd : Int)) := by rw [← hw3]; exact q6
    have hg3 : g < w3.heap.size := by rw [← hw3]; exact hgz
    rw [hw3]
    have HNUM := bx (rnum_r (some ad) n c hd 28 2 28 2 b w3.drew w3.drew HN.out hnc hc ((hR3.out.drew).more (Nat.le_of_lt hg3)) (Below.refl _ _) rfl rfl (by omega) (by omega) (by omega) HEX.out)
    clear hw3 q0 q2 q6 hgz hB2 hR12 hcv3 hst u1 v1 v2 v3 v4 v5 x1 e1K e1I HEX
    have hS0 : w3.drew.cell? ⟨g, 0, none⟩ = some (.string sn) ∧ w3.drew.cell? ⟨g, 6, none⟩ = some (.int .i64 (hd : Int)) := ⟨r0, r6⟩
    have u2 : IntKind.i64.wrap ((hd : Int) + 28) = (hd : Int) + 28 := IntWalk.i64_in _ (by omega)
    have u3 : IntKind.i64.wrap ((hd : Int) + 30 + (ln : Int)) = (hd : Int) + 30 + (ln : Int) := IntWalk.i64_in _ (by omega)
    have u4 : IntKind.i64.wrap ((hd : Int) + 30 + (ln : Int) + (ex : Int)) = (hd : Int) + 30 + (ln : Int) + (ex : Int) := IntWalk.i64_in _ (by omega)
    go_region_held3 (fun w' => w'.cell? ⟨g, 0, none⟩ = some (.string sn) ∧ w'.cell? ⟨g, 6, none⟩ = some (.int .i64 (hd : Int))) (first | exact hS0 | exact hS1) ((go_at_call 38; refine HNUM.out.mono ?_; rintro e w4 ⟨rfl, hb4⟩; have hS1 : w4.cell? ⟨g, 0, none⟩ = some (.string sn) ∧ w4.cell? ⟨g, 6, none⟩ = some (.int .i64 (hd : Int)) := ⟨(hb4.cell hg3).trans r0, (hb4.cell hg3).trans r6⟩))
    rename World => w4
    rename Below w3.drew.heap.size w3.drew w4 => hb4
    have t2 : w4.cell? ⟨g, 2, none⟩ = some (.int .i64 (pk : Int)) := (hb4.cell hg3).trans r2
    have HB4 : Bx (Below g w w4) := bx (hB3.out.trans ((below_drewN (Below.refl g w3) 1).trans (hb4.mono (Nat.le_of_lt hg3))))
    have hav' : (hd : Int) + 30 + (ln : Int) + (ex : Int) = (av : Int) := by have := HAV.out; omega
    rw [hav']
    clear hb4 hS0 hS1 hav' u2 u3 u4 HNUM r0 r2 r6 hg3 hB3 hR3
    have x5 : IntKind.i64.wrap ((dir : Int) - (av : Int)) = (dir : Int) - (av : Int) := IntWalk.i64_in _ (by have := HAV.out; omega)
    have havb : av ≤ 300000 := by have := HAV.out; omega
    by_cases e3 : dir < av
    · have HX := bx (HF.out.1 (.inl e3))
      have e3I : (dir : Int) < (av : Int) := by omega
      clear e3
      go_wp2
      go_ret
      exact ⟨ret_v (by rw [HX.out]; rfl), by rw [HG.out]; exact HB4.out⟩
    have e3I : ¬ (dir : Int) < (av : Int) := by omega
    by_cases e4 : dir < av + pk
    · have HX := bx (HF.out.1 (.inr (.inl e4)))
      have e4I : (dir : Int) - (av : Int) < (pk : Int) := by omega
      clear e3 e4
      go_wp2
      go_ret
      exact ⟨ret_v (by rw [HX.out]; rfl), by rw [HG.out]; exact HB4.out⟩
    have e4I : ¬ (dir : Int) - (av : Int) < (pk : Int) := by omega
    have HX := bx (HF.out.2 (by rintro (h | h | h); exact e3 h; exact e4 h; exact h HNB.out))
    clear e3 e4
    go_wp2
    go_ret
    exact ⟨ret_v (by rw [HX.out]; rfl), by rw [HG.out]; exact HB4.out⟩
end Go.Proofs.YtlmcpkomjofcgaaGreatDoor
namespace Go.Proofs.YtlmcpkomjofcgaaGreatDoor
open Go.RowKit
theorem numA_split {b : List UInt8} {q : Nat} (h : q + 4 ≤ b.length) : numA b q 4 = numA b q 2 + 65536 * numA b (q + 2) 2 := by
  have e : ∀ i, i < b.length → ∃ x, b[i]? = some x := fun i hi => ⟨_, List.getElem?_eq_getElem hi⟩
  obtain ⟨x0, h0⟩ := e q (by omega)
  obtain ⟨x1, h1⟩ := e (q + 1) (by omega)
  obtain ⟨x2, h2⟩ := e (q + 2) (by omega)
  obtain ⟨x3, h3⟩ := e (q + 3) (by omega)
  have t4 : (b.drop q).take 4 = [x0, x1, x2, x3] := by
    apply List.ext_getElem?
    intro i
    rw [List.getElem?_take, List.getElem?_drop]
    rcases (by omega : i = 0 ∨ i = 1 ∨ i = 2 ∨ i = 3 ∨ 4 ≤ i) with rfl | rfl | rfl | rfl | h
    · simpa using h0
    · simpa using h1
    · simpa using h2
    · simpa using h3
    · rw [if_neg (by omega), List.getElem?_eq_none (by simpa using h)]
  have t2 : (b.drop q).take 2 = [x0, x1] := by
    apply List.ext_getElem?
    intro i
    rw [List.getElem?_take, List.getElem?_drop]
    rcases (by omega : i = 0 ∨ i = 1 ∨ 2 ≤ i) with rfl | rfl | h
    · simpa using h0
    · simpa using h1
    · rw [if_neg (by omega), List.getElem?_eq_none (by simpa using h)]
  have t2' : (b.drop (q + 2)).take 2 = [x2, x3] := by
    apply List.ext_getElem?
    intro i
    rw [List.getElem?_take, List.getElem?_drop]
    rcases (by omega : i = 0 ∨ i = 1 ∨ 2 ≤ i) with rfl | rfl | h
    · simpa using h2
    · simpa [Nat.add_assoc] using h3
    · rw [if_neg (by omega), List.getElem?_eq_none (by simpa using h)]
  unfold numA
  rw [t4, t2, t2']
  simp only [leN]
  omega
theorem rl_at {done l : List (Rec × Nat)} {k : Nat} {x : Rec × Nat} (h : done.length = k) (hx : l[k]? = some x) : (done ++ (l.drop k).map rec0)[k]? = some (rec0 x) := by
  have hk := (List.getElem?_eq_some_iff.1 hx).1
  rw [List.getElem?_append_right (by rw [h]; exact Nat.le_refl _), h, Nat.sub_self, List.getElem?_map, List.getElem?_drop, Nat.add_zero, hx]
  rfl
theorem rl_set {done l : List (Rec × Nat)} {k a : Nat} {x : Rec × Nat} (h : done.length = k) (hx : l[k]? = some x) : (done ++ (l.drop k).map rec0).set k (x.1, a) = (done ++ [(x.1, a)]) ++ (l.drop (k + 1)).map rec0 := by
  have hk := (List.getElem?_eq_some_iff.1 hx).1
  rw [List.set_append_right _ _ (by rw [h]; exact Nat.le_refl _), h, Nat.sub_self, List.drop_eq_getElem_cons hk, List.map_cons, List.set_cons_zero]
  simp
theorem rl_len {done l : List (Rec × Nat)} {k : Nat} (h : done.length = k) (hk : k ≤ l.length) : (done ++ (l.drop k).map rec0).length = l.length := by
  rw [List.length_append, h, List.length_map, List.length_drop]; omega
set_option maxRecDepth 100000 in
set_option maxHeartbeats 16000000 in
theorem rdir_any (A : Option Addr) (n c : Nat) (b : List UInt8) (w : World) (hn : b.length = n) (hzz : n ≤ 140737488351232) (hnc : n ≤ c) (hc : (c : Int) ≤ 9223372036854775807) (hr : RB w w.heap.size A b) :
    Calls Tryz.prog 27 #[.slice A n c] w (DirPost (dirA b) w) := by
  obtain ⟨R, hR⟩ : ∃ R, dirA b = R := ⟨_, rfl⟩
  rw [hR]
  unfold dirA at hR
  by_cases c1 : 65536 < n
  · rw [if_pos (by rw [hn]; exact c1)] at hR
    have HR := bx hR.symm
    have HB := bx (Below.refl w.heap.size w)
    clear hR hn hr
    go_enter Tryz.func27, Tryz.ntmps27
    go_wp2
    go_ret2
    exact DirPost.bad HR.out HB.out
  have hz : n ≤ 70000 := by omega
  rw [if_neg (by rw [hn]; exact c1)] at hR
  have HN := bx hn
  have HR0 := bx hR
  have HRB := bx hr
  have HEND := bx (rend_any A n c b w hn (by omega) hnc hc hr)
  obtain ⟨v, hv⟩ : ∃ v, endI b = v := ⟨_, rfl⟩
  rw [hv] at HEND
  have HV := bx hv
  clear hR hn hr hv
  by_cases hv0 : v < 0
  · have HR := bx (show R = .err 9 from by
      have := HV.out
      unfold endI at this
      rw [← HR0.out]
      cases he : endP b with
      | none => rfl
      | some p => rw [he] at this; dsimp only at this; omega)
    clear HR0 HV
    go_enter Tryz.func27, Tryz.ntmps27
    go_wp2_with fail
    refine HEND.out.mono ?_
    rintro e w1 ⟨rfl, hb1⟩
    have HB1 := bx hb1
    clear hb1
    go_wp2
    go_ret2
    exact DirPost.bad HR.out HB1.out
  obtain ⟨p, hp, hEP⟩ : ∃ p : Nat, v = (p : Int) ∧ endP b = some p := by
    have := HV.out
    unfold endI at this
    cases he : endP b with
    | none => rw [he] at this; dsimp only at this; omega
    | some p => rw [he] at this; exact ⟨p, this.symm, rfl⟩
  subst hp
  have hpe := (endP_some hEP).1
  have HR1 := HR0.out
  rw [hEP] at HR1
  dsimp only at HR1
  rw [HN.out] at hpe
  obtain ⟨d4, hd4⟩ : ∃ d, numA b (p + 4) 2 = d := ⟨_, rfl⟩
  obtain ⟨d6, hd6⟩ : ∃ d, numA b (p + 6) 2 = d := ⟨_, rfl⟩
  obtain ⟨d10, hd10⟩ : ∃ d, numA b (p + 10) 2 = d := ⟨_, rfl⟩
  obtain ⟨m, hm⟩ : ∃ d, numA b (p + 8) 2 = d := ⟨_, rfl⟩
  obtain ⟨fr, hfr⟩ : ∃ d, numA b (p + 16) 4 = d := ⟨_, rfl⟩
  obtain ⟨sz, hsz⟩ : ∃ d, numA b (p + 12) 4 = d := ⟨_, rfl⟩
  have l1 : m < 65536 := by rw [← hm]; exact numA_2 _ _
  have l2 : fr < 4294967296 := by rw [← hfr]; exact numA_4 _ _
  have l3 : sz < 4294967296 := by rw [← hsz]; exact numA_4 _ _
  have hsp := numA_split (b := b) (q := p + 4) (by have := HN.out; omega)
  rw [hd4, show p + 4 + 2 = p + 6 by omega, hd6] at hsp
  rw [hsp, hd10, hm, hfr, hsz] at HR1
  have HR2 := bx HR1
  have H4 := bx hd4
  have H6 := bx hd6
  have H10 := bx hd10
  have H8 := bx hm
  have H16 := bx hfr
  have H12 := bx hsz
  clear hEP hd4 hd6 hd10 hm hfr hsz HR1 HR0 hsp HV hv0
  go_enter Tryz.func27, Tryz.ntmps27
  go_wp2_with fail
  refine HEND.out.mono ?_
  rintro e w1 ⟨rfl, hb1⟩
  have HB1 := bx hb1
  clear hb1 HEND
  go_wp2_with fail
  refine (rnum_r A n c p 8 2 8 2 b w w1 HN.out hnc hc HRB.out HB1.out rfl rfl (by omega) (by omega) (by omega) H8.out).mono ?_
  rintro e w2 ⟨rfl, hb2⟩
  have HB2 := bx hb2
  clear hb2 HB1
  go_wp2_with fail
  refine (rnum_r A n c p 12 4 12 4 b w w2 HN.out hnc hc HRB.out HB2.out rfl rfl (by omega) (by omega) (by omega) H12.out).mono ?_
  rintro e w3 ⟨rfl, hb3⟩
  have HB3 := bx hb3
  clear hb3 HB2
  go_wp2_with fail
  refine (rnum_r A n c p 16 4 16 4 b w w3 HN.out hnc hc HRB.out HB3.out rfl rfl (by omega) (by omega) (by omega) H16.out).mono ?_
  rintro e w4 ⟨rfl, hb4⟩
  have HB4 := bx hb4
  clear hb4 HB3
  go_wp2_with fail
  refine (rnum_r A n c p 4 2 4 2 b w w4 HN.out hnc hc HRB.out HB4.out rfl rfl (by omega) (by omega) (by omega) H4.out).mono ?_
  rintro e w5 ⟨rfl, hb5⟩
  have HB5 := bx hb5
  clear hb5 HB4
  by_cases e4 : d4 = 0
  case neg => -- DEV{
    have HR := bx (show R = .err 10 from by rw [← HR2.out, if_pos (.inl (by omega))])
    have d4I : ((d4 : Int) != 0) = true := by rw [bne_iff_ne]; omega
    clear e4 HR2
    go_wp2
    go_ret2
    exact DirPost.bad HR.out HB5.out
    -- DEV}
  have d4I : ((d4 : Int) != 0) = false := by rw [bne_eq_false_iff_eq]; omega
  go_wp2_with fail
  refine (rnum_r A n c p 6 2 6 2 b w w5 HN.out hnc hc HRB.out HB5.out rfl rfl (by omega) (by omega) (by omega) H6.out).mono ?_
  rintro e w6 ⟨rfl, hb6⟩
  have HB6 := bx hb6
  clear hb6 HB5
  by_cases e6 : d6 = 0
  case neg => -- DEV{
    have HR := bx (show R = .err 10 from by rw [← HR2.out, if_pos (.inl (by omega))])
    have d6I : ((d6 : Int) != 0) = true := by rw [bne_iff_ne]; omega
    clear e4 e6 HR2
    go_wp2
    go_ret2
    exact DirPost.bad HR.out HB6.out
    -- DEV}
  have d6I : ((d6 : Int) != 0) = false := by rw [bne_eq_false_iff_eq]; omega
  go_wp2_with fail
  refine (rnum_r A n c p 10 2 10 2 b w w6 HN.out hnc hc HRB.out HB6.out rfl rfl (by omega) (by omega) (by omega) H10.out).mono ?_
  rintro e w7 ⟨rfl, hb7⟩
  have HB7 := bx hb7
  clear hb7 HB6
  by_cases e10 : d10 = m
  case neg => -- DEV{
    have HR := bx (show R = .err 10 from by rw [← HR2.out, if_pos (.inr (.inl e10))])
    have d10I : ((d10 : Int) != (m : Int)) = true := by rw [bne_iff_ne]; omega
    clear e4 e6 e10 HR2
    go_wp2
    go_ret2
    exact DirPost.bad HR.out HB7.out
    -- DEV}
  have d10I : ((d10 : Int) != (m : Int)) = false := by rw [bne_eq_false_iff_eq]; omega
  by_cases em : 64 < m
  · -- DEV{
    have HR := bx (show R = .err 10 from by rw [← HR2.out, if_pos (.inr (.inr (.inl em)))])
    have emI : (64 : Int) < (m : Int) := by omega
    clear e4 e6 e10 HR2
    go_wp2
    go_ret2
    exact DirPost.bad HR.out HB7.out
    -- DEV}
  have emI : ¬ (64 : Int) < (m : Int) := by omega
  by_cases es : fr + sz = p
  case neg => -- DEV{
    have HR := bx (show R = .err 10 from by rw [← HR2.out, if_pos (.inr (.inr (.inr es)))])
    have esI : ((fr : Int) + (sz : Int) != (p : Int)) = true := by rw [bne_iff_ne]; omega
    clear e4 e6 e10 es HR2
    go_wp2
    go_ret2
    exact DirPost.bad HR.out HB7.out
    -- DEV}
  have esI : ((fr : Int) + (sz : Int) != (p : Int)) = false := by rw [bne_eq_false_iff_eq]; omega
  have HR := bx (show R = (cenR b fr p m).bind (fun l => locR b fr [] l) from by rw [← HR2.out, if_neg (by rintro (h | h | h | h); exact h (by omega); exact h e10; exact em h; exact h es), book_cenR])
  clear HR2 e4 e6 e10 es
  go_wp2_with fail
  have HC := bx (rcent_any A n c fr p m b w7 HN.out hz hnc hc ((HRB.out.below HB7.out (Nat.le_refl _)).more HB7.out.size) hpe (by omega) (by omega))
  obtain ⟨X, hX⟩ : ∃ X, cenR b fr p m = X := ⟨_, rfl⟩
  rw [hX] at HC HR
  cases X with
  | err k => -- DEV{
    have hk := cenR_pos hX
    have HRk := bx (show R = .err k from by rw [HR.out]; rfl)
    have hkI : (k != 0) = true := by rw [bne_iff_ne]; omega
    clear hX
    refine HC.out.mono ?_
    rintro e w8 ⟨hb8, rfl⟩
    have HB8 := bx (HB7.out.trans (hb8.mono HB7.out.size))
    clear hb8
    go_wp2
    go_ret2
    exact DirPost.bad HRk.out HB8.out
    -- DEV}
  | ok l =>
  have hCA := cenR_ok hX
  have hOk := centA_ok m fr [] l p (Nat.le_refl _) ⟨by simp, by simp⟩ hCA
  have hSm := centA_sm m fr [] l p (by simp) hCA
  have HOK := bx hOk.1
  have HSM := bx hSm
  have hfrp : fr ≤ p := hOk.2.2.1
  have hlm : l.length = m := by have := hOk.2.1; simpa using this
  have HLM := bx hlm
  have HR3 := bx (show R = locR b fr [] l from by rw [HR.out]; rfl)
  clear hX hCA hOk hSm hlm HR
  refine HC.out.mono ?_
  rintro e wa ⟨hba, v, pv, rfl, hov, hop, hapt⟩
  obtain ⟨B7, hB7⟩ : ∃ B7, w7.heap.size = B7 := ⟨_, rfl⟩
  rw [hB7] at hba hov hop
  have HBa := bx hba
  have hwB : w.heap.size ≤ B7 := by rw [← hB7]; exact HB7.out.size
  have hB7a : B7 ≤ wa.heap.size := by rw [← hB7]; exact hba.size
  have HOV : Bx (OwS recL 7 wa B7 71 v ([] ++ (l.drop 0).map rec0)) := bx hov
  have HOP := bx hop
  have HAP := bx hapt
  obtain ⟨vA, vc, hv, _, _⟩ := hov.rd
  rw [List.length_map, HLM.out] at hv
  subst hv
  obtain ⟨pA, pc, hpv, _, _, _⟩ := hop.rd
  rw [List.length_map, HLM.out] at hpv
  subst hpv
  clear hba hov hop hapt hB7 HC d4I d6I d10I emI esI
  go_wp2_with fail
  go_loopw [11] (fun iv wx => ∃ (j : Nat) (done : List (Rec × Nat)), j ≤ m ∧ iv = .int .i64 (j : Int) ∧ Bx (R = locR b fr done (l.drop j)) ∧ Bx (done.length = j) ∧ Bx (Below B7 wa wx) ∧ Bx (OwS recL 7 wx B7 71 (.slice vA m vc) (done ++ (l.drop j).map rec0)) ∧ Bx (OwI wx B7 3 (.slice pA m pc) (l.map plcI)) ∧ Bx (∀ y ∈ done, DonOk fr y)) (fun i _ => m - (intOf i).toNat)
  case atStart => exact ⟨0, [], by omega, rfl, HR3, bx rfl, bx (Below.refl _ _), HOV, HOP, bx (by simp)⟩
  case round =>
    obtain ⟨j, done, hj, rfl, HRj, HLj, HWj, HOj, HPj, HTj⟩ := hrel
    have hszj : B7 ≤ wr.heap.size := by have := HWj.out.size; omega
    by_cases hjm : j < m
    · -- DEV{
      have hjI : (j : Int) < (m : Int) := by omega
      obtain ⟨x, hx⟩ : ∃ x, l[j]? = some x := ⟨_, List.getElem?_eq_getElem (by rw [HLM.out]; exact hjm)⟩
      have hxm : x ∈ l := List.mem_of_getElem? hx
      obtain ⟨gl, cc, hv, hglo, hglt⟩ := HOj.out.form (by rw [rl_len HLj.out (by rw [HLM.out]; exact hj), HLM.out]; omega)
      injection hv with hv1 hv2 hv3
      subst hv1
      obtain ⟨ap, xp, hpA, _, hxp, hcp⟩ := HPj.out.rl.num (k := j) (by rw [List.length_map, HLM.out]; exact hjm)
      subst hpA
      have hxp2 : xp = (x.2 : Int) := by
        have := hxp.out
        rw [List.getElem?_map, hx] at this
        injection this with this
        exact this.symm
      subst hxp2
      have hdr : l.drop j = x :: l.drop (j + 1) := by
        rw [List.drop_eq_getElem_cons (by rw [HLM.out]; exact hjm)]
        have hx' := hx
        rw [List.getElem?_eq_getElem (by rw [HLM.out]; exact hjm)] at hx'
        injection hx' with hx'
        rw [hx']
      have hsm := HSM.out x hxm
      have hx2 := (HOK.out.good x hxm).2.2.2
      have hat := rl_at HLj.out hx
      have hset := fun a => rl_set (a := a) HLj.out hx
      have hRn : localA b fr x = none → R = .err 15 := fun h => by rw [HRj.out, hdr, locR_bad h]
      have hRs : ∀ a, localA b fr x = some a → R = locR b fr (done ++ [(x.1, a)]) (l.drop (j + 1)) ∧ (∀ y ∈ done ++ [(x.1, a)], DonOk fr y) := fun a h => ⟨by rw [HRj.out, hdr, locR_good h], fun y hy => by
        have hlo := localA_ok h
        rcases List.mem_append.1 hy with h | h
        · exact HTj.out y h
        · simp at h; subst h
          exact ⟨hsm.1, hsm.2.1, hsm.2.2.2.1, hsm.2.2.2.2.1, hsm.2.2.2.2.2, hsm.2.2.1, by have := hlo.1; show x.1.head + 30 ≤ a; omega, hlo.2.1⟩⟩
      obtain ⟨⟨nm, me, pk, si, su, hd⟩, pl⟩ := x
      have q0 : wr.cell? ⟨gl, j * 7, none⟩ = some (strV nm) := HOj.out.cell recCels (j := 0) hat rfl
      have q1 : wr.cell? ⟨gl, j * 7 + 1, none⟩ = some (.int .i64 (me : Int)) := HOj.out.cell recCels (j := 1) hat rfl
      have q2 : wr.cell? ⟨gl, j * 7 + 2, none⟩ = some (.int .i64 (pk : Int)) := HOj.out.cell recCels (j := 2) hat rfl
      have q3 : wr.cell? ⟨gl, j * 7 + 3, none⟩ = some (.int .i64 (si : Int)) := HOj.out.cell recCels (j := 3) hat rfl
      have q4 : wr.cell? ⟨gl, j * 7 + 4, none⟩ = some (.int .i64 (su : Int)) := HOj.out.cell recCels (j := 4) hat rfl
      have q5 : wr.cell? ⟨gl, j * 7 + 5, none⟩ = some (.int .i64 0) := HOj.out.cell recCels (j := 5) hat rfl
      have q6 : wr.cell? ⟨gl, j * 7 + 6, none⟩ = some (.int .i64 (hd : Int)) := HOj.out.cell recCels (j := 6) hat rfl
      have hfz := HOj.out.frz (j * 7 + 5)
      have HLOC := bx (rloc_any A n c fr pl b nm me pk si su hd 0 wr.drew HN.out hz hnc hc (((HRB.out.below HB7.out (Nat.le_refl _)).below HBa.out (by omega)).below HWj.out (by omega) |>.more (show w.heap.size ≤ wr.heap.size by omega) |>.drew) (by omega) (by have := HN.out; omega) hsm.1 hsm.2.1 hsm.2.2.1)
      obtain ⟨Y, hY⟩ : ∃ Y, localA b fr (⟨nm, me, pk, si, su, hd⟩, pl) = Y := ⟨_, rfl⟩
      rw [hY] at hRn hRs HLOC
      obtain ⟨ri, hri⟩ : ∃ ri, locI Y = ri := ⟨_, rfl⟩
      rw [hri] at HLOC
      have HRN := bx hRn
      have HRS := bx hRs
      have HSET := bx hset
      have HAT := bx hat
      have HRI := bx hri
      have hcp' : wr.cell? (ap.add j) = some (.int .i64 (pl : Int)) := hcp
      clear hY hri hRn hRs hset hat hcp hxp hdr hsm hx2 hx hxm hv2 hv3 HRj HTj
      go_wp2
      go_region_with ((go_at_call 40; refine HLOC.out.mono ?_; rintro e w4 ⟨rfl, hb4⟩; have hf4 : w4.frozen? ⟨gl, j * 7 + 5, none⟩ = false := (hb4.frozen (p := ⟨gl, j * 7 + 5, none⟩) hglt).trans hfz; have hc4 : w4.cell? ⟨gl, j * 7 + 5, none⟩ = some (.int .i64 0) := (hb4.cell (p := ⟨gl, j * 7 + 5, none⟩) hglt).trans q5))
      all_goals
        have hB4 : Below B7 wa w4 := HWj.out.trans ((below_drewN (Below.refl B7 wr) 1).trans (hb4.mono hszj))
        have hO4 := HOj.out.drew.step hb4
        have hP4 := HPj.out.drew.below hb4
        have HB5 := bx (hB4.setCell (p := ⟨gl, j * 7 + 5, none⟩) hglo (.int .i64 ri))
        have HW5 := bx (HB7.out.trans ((HBa.out.trans HB5.out).mono hwB))
        have HP5 := bx (apt_kept hP4 HAP.out (gb_set (g := gl) (gb_below (Below.refl _ _) (some gl)) (j * 7 + 5) (.int .i64 ri)))
        have HO4 := bx hO4
        clear hB4 hO4 hP4 hb4 HLOC q0 q1 q2 q3 q4 q5 q6 hfz hcp' HOj HPj HWj
        cases Y with
        | none =>
          have HRk := bx (HRN.out rfl)
          obtain rfl : ri = -1 := by rw [← HRI.out]; rfl
          clear HRI HRN HRS HO4
          go_wp2
          go_ret2
          exact DirPost.bad HRk.out HW5.out
        | some a =>
          have HRr := HRS.out a rfl
          obtain rfl : ri = (a : Int) := by rw [← HRI.out]; rfl
          have HO5 := bx (HO4.out.set recCels (j := 5) (x' := (⟨nm, me, pk, si, su, hd⟩, a)) HAT.out (by omega) rfl)
          rw [HSET.out] at HO5
          have HRa := bx HRr.1
          have HTa := bx HRr.2
          have HLa : Bx ((done ++ [((⟨nm, me, pk, si, su, hd⟩ : Rec), a)]).length = j + 1) := bx (by rw [List.length_append, HLj.out]; rfl)
          have haI : ¬ (a : Int) < 0 := by omega
          clear HRr HRI HRN HRS HO4 HSET HAT
          go_wp2
          go_roundw
          case rel => exact ⟨j + 1, _, by omega, by go_num, HRa, HLa, HB5, HO5, HP5, HTa⟩
          case measure => simp [intOf]; omega
      -- DEV}
    have hjI : ¬ (j : Int) < (m : Int) := by omega
    obtain rfl : j = m := by omega
    have hOd : OwS recL 7 wr B7 71 (.slice vA j vc) done := by
      have := HOj.out
      rw [List.drop_eq_nil_of_le (Nat.le_of_eq HLM.out), List.map_nil, List.append_nil] at this
      exact this
    have HOd := bx hOd
    have HR4 := bx (show R = locK done from by rw [HRj.out, List.drop_eq_nil_of_le (Nat.le_of_eq HLM.out), locR_nil])
    have HWr := bx (HB7.out.trans ((HBa.out.trans HWj.out).mono hwB))
    clear hOd HOj HPj HRj hjm hj HOV HOP HAP HOK HSM HR3 HBa
    obtain ⟨wb, rfl⟩ : ∃ wb, wb = wr := ⟨_, rfl⟩
    go_wp2_with fail
    go_loopw [12] (fun iv wx => ∃ i q : Nat, i ≤ j ∧ iv = .int .i64 (i : Int) ∧ wx = wb.drewN q ∧ Bx (∀ (s t : Nat) (x y : Rec × Nat), s < i → done[s]? = some x → done[t]? = some y → t < s → overA x y = false)) (fun iv _ => j - (intOf iv).toNat)
    case atStart => exact ⟨0, 0, by omega, rfl, rfl, bx (fun s _ _ _ h => absurd h (by omega))⟩
    case round =>
      obtain ⟨i, q, hi, rfl, rfl, HV⟩ := hrel
      by_cases hij : i < j
      · have hiI : (i : Int) < (j : Int) := by omega
        have hiK : decide (i < j) = true := decide_eq_true hij
        go_wp2_with fail
        go_loopw [13] (fun kv wx => ∃ k q : Nat, k ≤ i ∧ kv = .int .i64 (k : Int) ∧ wx = wb.drewN q ∧ Bx (∀ (t : Nat) (x y : Rec × Nat), t < k → done[i]? = some x → done[t]? = some y → overA x y = false)) (fun kv _ => i - (intOf kv).toNat)
        case atStart => exact ⟨0, q, by omega, rfl, rfl, bx (fun t _ _ h => absurd h (by omega))⟩
        case round =>
          obtain ⟨k, q2, hk, rfl, rfl, HU⟩ := hrel
          by_cases hki : k < i
          · have hkI : (k : Int) < (i : Int) := by omega
            have hkK : decide (k < i) = true := decide_eq_true hki
            obtain ⟨gl, cc, hv, _⟩ := HOd.out.form (by rw [HLj.out]; omega)
            injection hv with hv1 hv2 hv3
            subst hv1
            obtain ⟨x, hx⟩ : ∃ x, done[i]? = some x := ⟨_, List.getElem?_eq_getElem (by rw [HLj.out]; omega)⟩
            obtain ⟨y, hy⟩ : ∃ y, done[k]? = some y := ⟨_, List.getElem?_eq_getElem (by rw [HLj.out]; omega)⟩
            have hX := HTj.out x (List.mem_of_getElem? hx)
            have hY := HTj.out y (List.mem_of_getElem? hy)
            unfold DonOk at hX hY
            obtain ⟨xh, hxh⟩ : ∃ z, x.1.head = z := ⟨_, rfl⟩
            obtain ⟨xp, hxp⟩ : ∃ z, x.1.packed = z := ⟨_, rfl⟩
            obtain ⟨xa, hxa⟩ : ∃ z, x.2 = z := ⟨_, rfl⟩
            obtain ⟨yh, hyh⟩ : ∃ z, y.1.head = z := ⟨_, rfl⟩
            obtain ⟨yp, hyp⟩ : ∃ z, y.1.packed = z := ⟨_, rfl⟩
            obtain ⟨ya, hya⟩ : ∃ z, y.2 = z := ⟨_, rfl⟩
            have p6 : wb.cell? ⟨gl, i * 7 + 6, none⟩ = some (.int .i64 (xh : Int)) := by rw [← hxh]; exact HOd.out.cell recCels (j := 6) hx rfl
            have p5 : wb.cell? ⟨gl, i * 7 + 5, none⟩ = some (.int .i64 (xa : Int)) := by rw [← hxa]; exact HOd.out.cell recCels (j := 5) hx rfl
            have p2 : wb.cell? ⟨gl, i * 7 + 2, none⟩ = some (.int .i64 (xp : Int)) := by rw [← hxp]; exact HOd.out.cell recCels (j := 2) hx rfl
            have r6 : wb.cell? ⟨gl, k * 7 + 6, none⟩ = some (.int .i64 (yh : Int)) := by rw [← hyh]; exact HOd.out.cell recCels (j := 6) hy rfl
            have r5 : wb.cell? ⟨gl, k * 7 + 5, none⟩ = some (.int .i64 (ya : Int)) := by rw [← hya]; exact HOd.out.cell recCels (j := 5) hy rfl
            have r2 : wb.cell? ⟨gl, k * 7 + 2, none⟩ = some (.int .i64 (yp : Int)) := by rw [← hyp]; exact HOd.out.cell recCels (j := 2) hy rfl
            rw [hxh, hxp, hxa] at hX
            rw [hyh, hyp, hya] at hY
            have b1 : xh < 4294967296 := hX.1
            have b2 : xa ≤ 70000 := by have := hX.2.2.2.2.2.2.2; omega
            have b3 : xp < 4294967296 := hX.2.1
            have b4 : yh < 4294967296 := hY.1
            have b5 : ya ≤ 70000 := by have := hY.2.2.2.2.2.2.2; omega
            have b6 : yp < 4294967296 := hY.2.1
            have HOVR : Bx (overA x y = decide (xh < ya + yp ∧ yh < xa + xp)) := bx (by unfold overA; rw [hxh, hxp, hxa, hyh, hyp, hya])
            have HXY := bx (And.intro hx hy)
            have z1 : IntKind.i64.wrap ((ya : Int) + (yp : Int)) = (ya : Int) + (yp : Int) := IntWalk.i64_in _ (by omega)
            have z2 : IntKind.i64.wrap ((xa : Int) + (xp : Int)) = (xa : Int) + (xp : Int) := IntWalk.i64_in _ (by omega)
            have z3 : (k : Int) < (j : Int) := by omega
            have HV2 : overA x y = false → Bx (∀ (t : Nat) (x y : Rec × Nat), t < k + 1 → done[i]? = some x → done[t]? = some y → overA x y = false) := fun ho => bx (fun t x' y' ht h1 h2 => by
              by_cases e : t = k
              · subst e
                rw [HXY.out.1] at h1; rw [HXY.out.2] at h2
                injection h1 with h1; injection h2 with h2
                rw [← h1, ← h2]; exact ho
              · exact HU.out t x' y' (by omega) h1 h2)
            have HV3 := bx HV2
            clear hv2 hv3 hx hy hX hY hxh hxp hxa hyh hyp hya HV2
            by_cases o1 : xh < ya + yp
            · have o1I : (xh : Int) < (ya : Int) + (yp : Int) := by omega
              have o1K : decide ((xh : Int) < (ya : Int) + (yp : Int)) = true := decide_eq_true o1I
              by_cases o2 : yh < xa + xp
              · have o2I : (yh : Int) < (xa : Int) + (xp : Int) := by omega
                have o2K : decide ((yh : Int) < (xa : Int) + (xp : Int)) = true := decide_eq_true o2I
                have HRk := bx (show R = .err 16 from by
                  rw [HR4.out]; unfold locK
                  rw [over_hit HXY.out.1 HXY.out.2 hki (by rw [HOVR.out]; exact decide_eq_true ⟨o1, o2⟩)]; rfl)
                clear o1 o2
                go_wp2
                go_quiet (fail)
                go_wp2
                go_ret2
                exact DirPost.bad HRk.out (below_drewN (below_drewN HWr.out _) _)
              · have o2I : ¬ (yh : Int) < (xa : Int) + (xp : Int) := by omega
                have o2K : decide ((yh : Int) < (xa : Int) + (xp : Int)) = false := decide_eq_false o2I
                have HU2 := HV3.out (by rw [HOVR.out]; exact decide_eq_false (by rintro ⟨_, h⟩; exact o2 h))
                clear o1 o2
                go_wp2
                go_quiet (fail)
                go_wp2
                go_roundw
                case rel => exact ⟨k + 1, q2 + nq, by omega, by go_num, rfl, HU2⟩
                case measure => simp [intOf]; omega
            · have o1I : ¬ (xh : Int) < (ya : Int) + (yp : Int) := by omega
              have o1K : decide ((xh : Int) < (ya : Int) + (yp : Int)) = false := decide_eq_false o1I
              have HU2 := HV3.out (by rw [HOVR.out]; exact decide_eq_false (by rintro ⟨h, _⟩; exact o1 h))
              clear o1
              go_wp2
              go_quiet (fail)
              go_wp2
              go_roundw
              case rel => exact ⟨k + 1, q2 + nq, by omega, by go_num, rfl, HU2⟩
              case measure => simp [intOf]; omega
          · have hkI : ¬ (k : Int) < (i : Int) := by omega
            have hkK : decide (k < i) = false := decide_eq_false hki
            have hke : k = i := by omega
            have HV2 : Bx (∀ (s t : Nat) (x y : Rec × Nat), s < i + 1 → done[s]? = some x → done[t]? = some y → t < s → overA x y = false) := bx (fun s t x y hs h1 h2 hts => by
              by_cases e : s = i
              · subst e; exact HU.out t x y (by omega) h1 h2
              · exact HV.out s t x y (by omega) h1 h2 hts)
            clear hke
            go_wp2
            go_roundw
            case rel => exact ⟨i + 1, q2, by omega, by go_num, rfl, HV2⟩
            case measure => simp [intOf]; omega
      · have hiI : ¬ (i : Int) < (j : Int) := by omega
        have hiK : decide (i < j) = false := decide_eq_false hij
        have HRk := bx (show R = .ok done from by
          rw [HR4.out]; unfold locK
          rw [over_all (fun s t x y h1 h2 h3 => HV.out s t x y (by
            have := (List.getElem?_eq_some_iff.1 h1).1
            rw [HLj.out] at this; omega) h1 h2 h3)]; rfl)
        go_wp2
        go_ret2
        exact DirPost.good HRk.out (below_drewN HWr.out _) (OwS.drewN (OwS.low HOd.out hwB) _)
end Go.Proofs.YtlmcpkomjofcgaaGreatDoor
