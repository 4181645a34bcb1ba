/- Contracts: samovarref17.find and Under. -/
import Derived.Test.YthblilhdjabhnaaDoorVtB
namespace Go.Proofs.YthblilhdjabhnaaDoor
open Go.RowKit

/-- A row of headers. -/
def RH (w : World) (B : Nat) (A : Option Addr) (l : List Hdr) : Prop := Rd w B A (l.flatMap hdrC)
theorem hdrC_get {l : List Hdr} {k : Nat} {a : Hdr} (h : l[k]? = some a) : (l.flatMap hdrC)[k * 4]? = some (.string ⟨a.1.toArray⟩) ∧ (l.flatMap hdrC)[k * 4 + 1]? = some (.string ⟨a.2.1.toArray⟩) ∧ (l.flatMap hdrC)[k * 4 + 2]? = some (.int .i64 a.2.2.1) ∧ (l.flatMap hdrC)[k * 4 + 3]? = some (.slice a.2.2.2.1 a.2.2.2.2.1 a.2.2.2.2.2) := by
  induction l generalizing k with
  | nil => simp at h
  | cons x r ih =>
    cases k with
    | zero => simp at h; subst h; simp [hdrC]
    | succ k =>
      have := ih (k := k) (by simpa using h)
      simp only [List.flatMap_cons, hdrC, List.cons_append, List.nil_append]
      rw [show (k + 1) * 4 = k * 4 + 1 + 1 + 1 + 1 by omega]
      simpa using this
theorem RH.at_ {w : World} {B : Nat} {A : Option Addr} {l : List Hdr} (h : RH w B A l) {k : Nat} (hk : k < l.length) :
    ∃ ad x, A = some ad ∧ ad.block < B ∧ Hid (l[k]? = some x) ∧ w.cell? (ad.add (k * 4)) = some (.string ⟨x.1.toArray⟩) ∧ w.cell? ⟨(ad.add (k * 4)).block, (ad.add (k * 4)).off + 1, none⟩ = some (.string ⟨x.2.1.toArray⟩) ∧
      w.cell? ⟨(ad.add (k * 4)).block, (ad.add (k * 4)).off + 2, none⟩ = some (.int .i64 x.2.2.1) ∧ w.cell? ⟨(ad.add (k * 4)).block, (ad.add (k * 4)).off + 3, none⟩ = some (.slice x.2.2.2.1 x.2.2.2.2.1 x.2.2.2.2.2) := by
  have hx : l[k]? = some l[k] := List.getElem?_eq_getElem hk
  obtain ⟨h1, h2, h3, h4⟩ := hdrC_get hx
  obtain ⟨ad, e, hb, hc⟩ := h (fun e => by rw [e] at h1; simp at h1)
  exact ⟨ad, l[k], e, hb, hx, hc _ _ h1, by rw [← add_pos _ 0, addadd]; exact hc _ _ h2, by rw [← add_pos _ 1, addadd]; exact hc _ _ h3, by rw [← add_pos _ 2, addadd]; exact hc _ _ h4⟩
theorem RH.below {w w' : World} {B B' : Nat} {A : Option Addr} {l : List Hdr} (h : RH w B A l) (hb : Below B' w w') (hB : B ≤ B') : RH w' B A l := Rd.below h hb hB
theorem RH.step {w w' : World} {B : Nat} {A : Option Addr} {l : List Hdr} (h : RH w B A l) (hb : Below w.heap.size w w') : RH w' w'.heap.size A l := Rd.step h hb
theorem RH.top {w : World} {B : Nat} {A : Option Addr} {l : List Hdr} (h : RH w B A l) : RH w w.heap.size A l := Rd.top h
theorem RH.drewN {w : World} {B : Nat} {A : Option Addr} {l : List Hdr} (h : RH w B A l) (k : Nat) : RH (w.drewN k) B A l := h

/-- Where a header of this name stands first. -/
def findN : List Hdr → List UInt8 → Option Nat
  | [], _ => none
  | h :: r, x => if h.1 = x then some 0 else (findN r x).map (· + 1)
def findI (l : List Hdr) (x : List UInt8) : Int := match findN l x with
  | none => -1
  | some k => k
theorem findN_lt {l : List Hdr} {x : List UInt8} {k : Nat} (h : findN l x = some k) : k < l.length ∧ findH l x = l[k]? := by
  induction l generalizing k with
  | nil => cases h
  | cons a r ih =>
    unfold findN at h
    unfold findH
    split at h
    · rename_i h1; injection h with h; subst h; rw [if_pos h1]; simp
    · rename_i h1
      rw [if_neg h1]
      cases hr : findN r x with
      | none => rw [hr] at h; cases h
      | some j =>
        rw [hr] at h; simp at h; subst h
        have := ih hr
        simpa using this
theorem findN_none {l : List Hdr} {x : List UInt8} (h : findN l x = none) : findH l x = none := by
  induction l with
  | nil => rfl
  | cons a r ih =>
    unfold findN at h
    unfold findH
    split at h
    · cases h
    · rename_i h1
      rw [if_neg h1]
      exact ih (by simpa using h)
theorem findN_at {l : List Hdr} {x : List UInt8} {k : Nat} {a : Hdr} (hn : ∀ (j : Nat) (b : Hdr), j < k → l[j]? = some b → ¬ b.1 = x) (ha : l[k]? = some a) (h : a.1 = x) : findN l x = some k := by
  induction l generalizing k with
  | nil => simp at ha
  | cons b r ih =>
    unfold findN
    cases k with
    | zero => simp at ha; subst ha; rw [if_pos h]
    | succ k =>
      rw [if_neg (hn 0 b (by omega) rfl), ih (k := k) (fun j c hj hc => hn (j + 1) c (by omega) (by simpa using hc)) (by simpa using ha)]
      rfl
theorem findN_nowhere {l : List Hdr} {x : List UInt8} (hn : ∀ (j : Nat) (b : Hdr), l[j]? = some b → ¬ b.1 = x) : findN l x = none := by
  induction l with
  | nil => rfl
  | cons b r ih =>
    unfold findN
    rw [if_neg (hn 0 b rfl), ih (fun j c hc => hn (j + 1) c (by simpa using hc))]
    rfl
set_option maxHeartbeats 1000000 in
theorem find_any (A : Option Addr) (n c : Nat) (l : List Hdr) (s : ByteArray) (w : World) (hn : l.length = n) (hz : n ≤ 1000000) (hr : RH w w.heap.size A l) :
    Calls Tryd.prog 24 #[.slice A n c, .string s] w fun e w' => e = .returned (.int .i64 (findI l s.data.toList)) ∧ w = w' := by
  have HN := Lib.hid hn
  clear hn
  go_enter Tryd.func24, Tryd.ntmps24
  go_wp2
  go_loop [5] (fun i => ∃ k : Nat, k ≤ n ∧ i = .int .i64 (k : Int) ∧ Hid (∀ (j : Nat) (b : Hdr), j < k → l[j]? = some b → ¬ b.1 = s.data.toList)) (fun i => n - (intOf i).toNat)
  case atStart => exact ⟨0, by omega, rfl, Lib.hid (fun j b hj => by omega)⟩
  case round =>
    obtain ⟨k, hk, rfl, hgo⟩ := hrel
    by_cases hk0 : k < n
    · obtain ⟨ad, x, rfl, hl, hx, hc0, hc1, hc2, hc3⟩ := hr.at_ (k := k) (by rw [HN.out]; exact hk0)
      obtain ⟨b, hb⟩ : ∃ b : ByteArray, (⟨x.1.toArray⟩ : ByteArray) = b := ⟨_, rfl⟩
      rw [hb] at hc0
      have hbd := Lib.hid (show b.data.toList = x.1 by rw [← hb])
      clear hb hc1 hc2 hc3
      by_cases he : b.data.toList = s.data.toList
      · obtain rfl : b = s := ba_eq he
        have hfin := Lib.hid (findN_at hgo.out hx.out hbd.out.symm)
        clear he
        go_wp2
        go_ret
        exact ⟨ret_v (by unfold findI; rw [hfin.out]; rfl), rfl⟩
      · have he' : (b.toList == s.toList) = false := by rw [Lib.toList_data, Lib.toList_data]; simpa using he
        have he2 : ¬ b = s := fun e => he (by rw [e])
        have HE := Lib.hid he
        clear he
        go_wp2
        go_round
        case rel =>
          refine ⟨k + 1, by omega, by go_num, Lib.hid ?_⟩
          intro j c hj hc
          rcases Nat.lt_or_ge j k with h | h
          · exact hgo.out j c h hc
          · obtain rfl : j = k := by omega
            rw [hx.out] at hc; injection hc with hc; subst hc
            rw [← hbd.out]; exact HE.out
        case measure => simp [intOf]; omega
    · obtain rfl : k = n := by omega
      have hfin := Lib.hid (findN_nowhere (l := l) (x := s.data.toList) (fun j b hb => hgo.out j b (by rw [← HN.out]; exact (List.getElem?_eq_some_iff.1 hb).1) hb))
      go_wp2
      go_ret
      exact ⟨ret_v (by unfold findI; rw [hfin.out]; rfl), rfl⟩
def ElemPost2 (l : List UInt8) (w : World) (e : Ending) (w' : World) : Prop :=
  (∀ a, elem l = some a → e = .returned (.tuple #[.string ⟨a.toArray⟩, .bool false])) ∧ (elem l = none → ∃ q : ByteArray, e = .returned (.tuple #[.string q, .bool true])) ∧ w = w'
theorem elemPost2_some {l : List UInt8} {w : World} {b : ByteArray} (h : elem l = some b.data.toList) : ElemPost2 l w (.returned (.tuple #[.string b, .bool false])) w :=
  ⟨fun a ha => (by rw [h] at ha; injection ha with ha; rw [← ha]), fun h' => (by rw [h] at h'; cases h'), rfl⟩
theorem elemPost2_none {l : List UInt8} {w : World} {q : ByteArray} (h : elem l = none) : ElemPost2 l w (.returned (.tuple #[.string q, .bool true])) w :=
  ⟨fun a ha => (by rw [h] at ha; cases ha), fun _ => ⟨q, rfl⟩, rfl⟩
set_option maxHeartbeats 1000000 in
theorem refElement_any (s : ByteArray) (w : World) (h0 : 0 < s.size) (hs : s.size ≤ 140737488355328) :
    Calls Tryd.prog 23 #[.string s] w (ElemPost2 s.data.toList w) := by
  obtain ⟨t, ht⟩ : ∃ t : ByteArray, s.extract 1 s.size = t := ⟨_, rfl⟩
  have htd : t.data.toList = s.data.toList.drop 1 := by rw [← ht]; exact ext_drop s 1
  have htz : t.size + 1 = s.size := by rw [← ht, ByteArray.size_extract]; omega
  have htb : t.size ≤ 140737488355328 := by omega
  have HT := Lib.hid ht
  cases ha : isArr t.data.toList
  · have HP := Lib.hid ha
    by_cases h1 : 1 < t.size
    · have h0t : 0 < t.size := by omega
      have hlt : t.size - 1 < t.size := by omega
      have s1 : IntKind.i64.wrap ((t.size : Int) - 1) = (t.size : Int) - 1 := IntWalk.i64_in _ (by omega)
      have s3 : ((t.size : Int) - 1).toNat = t.size - 1 := by omega
      have hlast : t.data.toList.getLast? = some t[t.size - 1] := by
        rw [List.getLast?_eq_getElem?, show t.data.toList.length = t.size from rfl]; exact byteAt hlt
      by_cases h76 : t[0] = 76
      · have h76' : (t[0].toNat : Int) = 76 := by rw [h76]; rfl
        by_cases h59 : t[t.size - 1] = 59
        · have h59' : (t[t.size - 1].toNat : Int) = 59 := by rw [h59]; rfl
          have hfin := Lib.hid (show elem s.data.toList = some (t.extract 1 (t.size - 1)).data.toList by
            rw [mid_of htd h1]
            refine elem_cls (by rw [← htd]; exact ha) (by rw [← htd]; exact h1) (by rw [← htd, head_of (by omega), h76]) (by rw [← htd, hlast, h59]))
          clear ht htd ha h59 h76 htz hlast
          go_enter Tryd.func23, Tryd.ntmps23
          go_wp2_with fail
          rw [HT.out]
          refine (array_any _ _).mono ?_
          rintro e w' ⟨rfl, rfl⟩
          rw [HP.out]
          go_wp2
          go_ret2
          exact elemPost2_some hfin.out
        · have h59' : ¬ (t[t.size - 1].toNat : Int) = 59 := u8ne (n := 59) h59 (by omega)
          have hfin := Lib.hid (show elem s.data.toList = none from elem_num (by rw [← htd]; exact ha) (by rw [← htd, hlast]; exact fun h => h59 (by simpa using h.2.2)))
          clear ht htd ha h59 h76 htz hlast
          go_enter Tryd.func23, Tryd.ntmps23
          go_wp2_with fail
          rw [HT.out]
          refine (array_any _ _).mono ?_
          rintro e w' ⟨rfl, rfl⟩
          rw [HP.out]
          go_wp2
          go_ret2
          exact elemPost2_none hfin.out
      · have h76' : ¬ (t[0].toNat : Int) = 76 := u8ne (n := 76) h76 (by omega)
        have hfin := Lib.hid (show elem s.data.toList = none from elem_num (by rw [← htd]; exact ha) (by rw [← htd, head_of (by omega)]; exact fun h => h76 (by simpa using h.2.1)))
        clear ht htd ha h76 htz hlast
        go_enter Tryd.func23, Tryd.ntmps23
        go_wp2_with fail
        rw [HT.out]
        refine (array_any _ _).mono ?_
        rintro e w' ⟨rfl, rfl⟩
        rw [HP.out]
        go_wp2
        go_ret2
        exact elemPost2_none hfin.out
    · have hfin := Lib.hid (show elem s.data.toList = none from elem_num (by rw [← htd]; exact ha) (by rw [← htd]; exact fun h => h1 h.1))
      have h1' : t.size ≤ 1 := by omega
      clear ht htd ha htz
      go_enter Tryd.func23, Tryd.ntmps23
      go_wp2_with fail
      rw [HT.out]
      refine (array_any _ _).mono ?_
      rintro e w' ⟨rfl, rfl⟩
      rw [HP.out]
      go_wp2
      go_ret2
      exact elemPost2_none hfin.out
  · have HP := Lib.hid ha
    have hfin := Lib.hid (show elem s.data.toList = some t.data.toList by rw [htd]; exact elem_arr (by rw [← htd]; exact ha))
    clear ht htd ha htz
    go_enter Tryd.func23, Tryd.ntmps23
    go_wp2_with fail
    rw [HT.out]
    refine (array_any _ _).mono ?_
    rintro e w' ⟨rfl, rfl⟩
    rw [HP.out]
    go_wp2
    go_ret2
    exact elemPost2_some hfin.out
def UPost (r : Bool × List UInt8) (w : World) (e : Ending) (w' : World) : Prop := e = .returned (.tuple #[.bool r.1, .string ⟨r.2.toArray⟩]) ∧ Below w.heap.size w w'
theorem uPost_of {r : Bool × List UInt8} {w w' : World} {b : Bool} {s : ByteArray} (h : r = (b, s.data.toList)) (hb : Below w.heap.size w w') : UPost r w (.returned (.tuple #[.bool b, .string s])) w' := by
  subst h; exact ⟨rfl, hb⟩
theorem underV_true {known : List Hdr} {x y : List UInt8} (h : x = y ∨ y = objL) : underV known x y = (true, []) := by rw [underV_step, if_pos h]
theorem underV_empty {known : List Hdr} {x y : List UInt8} (h : ¬ (x = y ∨ y = objL)) (h2 : x = [] ∨ y = []) : underV known x y = (false, []) := by rw [underV_step, if_neg h, if_pos h2]
theorem underV_arr {known : List Hdr} {x y a b : List UInt8} (h : ¬ (x = y ∨ y = objL)) (h2 : ¬ (x = [] ∨ y = [])) (h3 : isArr x = true) (h4 : isArr y = true) (ha : elem x = some a) (hb : elem y = some b) : underV known x y = underV known a b := by
  rw [underV_step, if_neg h, if_neg h2, if_pos ⟨h3, h4⟩, ha, hb]
theorem underV_num {known : List Hdr} {x y : List UInt8} (h : ¬ (x = y ∨ y = objL)) (h2 : ¬ (x = [] ∨ y = [])) (h3 : isArr x = true) (h4 : isArr y = true) (ha : elem x = none ∨ elem y = none) : underV known x y = (false, []) := by
  rw [underV_step, if_neg h, if_neg h2, if_pos ⟨h3, h4⟩]
  rcases ha with h | h <;> rw [h]
  cases elem x <;> rfl
theorem underV_mixed {known : List Hdr} {x y : List UInt8} (h : ¬ (x = y ∨ y = objL)) (h2 : ¬ (x = [] ∨ y = [])) (h3 : ¬ (isArr x = true ∧ isArr y = true)) (h4 : isArr x = true ∨ isArr y = true) : underV known x y = (false, []) := by
  rw [underV_step, if_neg h, if_neg h2, if_neg h3, if_pos h4]
theorem underV_cls {known : List Hdr} {x y : List UInt8} (h : ¬ (x = y ∨ y = objL)) (h2 : ¬ (x = [] ∨ y = [])) (h3 : isArr x = false) (h4 : isArr y = false) : underV known x y = classU known x y := by
  rw [underV_step, if_neg h, if_neg h2, if_neg (by rw [h3]; simp), if_neg (by rw [h3, h4]; simp)]
end Go.Proofs.YthblilhdjabhnaaDoor
