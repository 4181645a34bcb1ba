/- Contract: bundle.Make. -/
import Derived.Test.YtnkdpchnighkfaaGreatDoorPc14
import Derived.Test.YtnkdpchnighkfaaGreatDoorPc3
import Derived.Deep.RegionHeld3
import Derived.Test.YtnkdpchnighkfaaGreatDoorPc7
import Derived.Test.YtnkdpchnighkfaaGreatDoorPc13
import Derived.Test.YtnkdpchnighkfaaGreatDoorPc11
import Derived.Test.YtnkdpchnighkfaaGreatDoorPc4
import Derived.Deep.DeepCutAuto
import Derived.Deep.CutBlock
import Derived.Deep.RegionWith
namespace Go.Proofs.YtnkdpchnighkfaaGreatDoor
open Go.RowKit
theorem keyI (s : ByteArray) (h : s.size ≤ maxLen) : keyOf Tryz.prog 9 (.string s) = some (.string s.data.toList) := WideMaps.keyOf_string_mk Tryz.underlying9 h
theorem strI : Maps.Keyed Tryz.prog 9 := Maps.string_keyed Tryz.underlying9
theorem strI_inj (x y : ByteArray) (h : Value.string x = Value.string y) : x = y := by injection h
theorem falseI_run (w : World) : (zeroValue 4).run Tryz.prog w = .ok (.bool false) w := by kernel_rfl
/-- What the map of names holds behind the first t items. -/
def seenI (P : List Itm) (t : Nat) (b : ByteArray) : Option Value := if b.data.toList ∈ (P.take t).map (·.name) then some (.bool true) else none
theorem seenI_zero (P : List Itm) (b : ByteArray) : seenI P 0 b = none := by unfold seenI; simp
theorem seenI_next {P : List Itm} {t : Nat} {x : Itm} {sn : ByteArray} (h : P[t]? = some x) (hs : sn.data.toList = x.name) (q : ByteArray) : seenI P (t + 1) q = if q = sn then some (.bool true) else seenI P t q := by
  unfold seenI
  rw [List.take_add_one, h, List.map_append]
  simp only [Option.toList_some, List.map_cons, List.map_nil, List.mem_append, List.mem_singleton]
  by_cases e : q = sn
  · subst e
    rw [if_pos (.inr hs), if_pos rfl]
  · rw [if_neg e]
    have : ¬ q.data.toList = x.name := fun h2 => e (ba_eq (h2.trans hs.symm))
    simp only [this, or_false]
theorem seenI_val {P : List Itm} {t : Nat} {sn : ByteArray} {nm : List UInt8} (hs : sn.data.toList = nm) : (seenI P t sn).getD (.bool false) = .bool (decide (nm ∈ (P.take t).map (·.name))) := by
  unfold seenI
  rw [hs]
  by_cases h : nm ∈ (P.take t).map (·.name)
  · rw [if_pos h, decide_eq_true h]; rfl
  · rw [if_neg h, decide_eq_false h]; rfl
theorem sqzOk {b : List UInt8} {w w' : World} {e : Ending} (h : AllSPost b w e w') (hb : b.length ≤ 32768) : ∃ A k c, e = .returned (.tuple #[.slice A k c, .int .i64 0]) ∧ Bx (k = (sqzP b).length) ∧ RB w' w'.heap.size A (sqzP b) ∧ (∀ q, A = some q → w.heap.size ≤ q.block) ∧ Below w.heap.size w w' := by
  obtain ⟨h1, h2⟩ := h
  rw [if_pos hb] at h2
  obtain ⟨v, rfl, hO⟩ := h2
  have hlo := fun k hk => (World.ownsRow.lt hO k hk).1
  obtain ⟨A, c, rfl, hr, hc, _⟩ := OwL.rd hO
  refine ⟨A, _, c, rfl, ⟨rfl⟩, hr, fun q hq => ?_, h1⟩
  subst hq
  rcases hO.2 with ⟨e, _⟩ | ⟨g, cap, cur, e, hb2, _⟩
  · cases e
  · injection e with e _ _
    injection e with e
    rw [e]; exact hb2
theorem rl_ch {α : Type} {f : α → Value} {w w' : World} {B : Nat} {A : Option Addr} {l : List α} {S : Nat → Prop} (h : RL f w B A l) (hc : Ch w w' S) (hB : B ≤ w.heap.size) (hS : l ≠ [] → ∀ ad, A = some ad → ¬ S ad.block) : RL f w' B A l := by
  intro hne
  exact (RL.ch h hc hB (hS (fun e => hne (by rw [e]; rfl)))) hne
theorem rl_lo {α : Type} {f : α → Value} {w : World} {B : Nat} {A : Option Addr} {l : List α} (h : RL f w B A l) (hne : l ≠ []) : ∀ q, A = some q → q.block < B := by
  intro q hq
  obtain ⟨ad, e, hb, _⟩ := h (fun e => hne (by cases l with | nil => rfl | cons _ _ => cases e))
  rw [hq] at e; injection e with e
  rw [e]; exact hb
def cons26 : Nat → Nat
  | 1 => 4
  | 3 => 4
  | 4 => 15
  | 7 => 8
  | 14 => 15
  | 15 => 20
  | 19 => 20
  | 20 => 21
  | _ => 1000
def dst26 : Nat → Option Tmp
  | 0 => some 72
  | 1 => some 73
  | 2 => some 74
  | 3 => some 75
  | 4 => some 76
  | 5 => some 77
  | 6 => some 78
  | 7 => some 79
  | 8 => some 80
  | 9 => some 81
  | 10 => some 82
  | 11 => some 83
  | 12 => some 84
  | 13 => some 85
  | 14 => some 86
  | 15 => some 87
  | 16 => some 88
  | 17 => some 89
  | 18 => some 90
  | 19 => some 91
  | 20 => some 92
  | 21 => some 14
  | _ => none
def D26 : List (List Nat) := [[], [0], [], [2], [1, 3], [], [5], [6], [7], [], [9], [], [11], [12], [8, 10, 13], [4, 14], [], [16], [17], [18], [15, 19], [20]]
def F26 (T E : TypeId) (B : Nat) (M cr p n q : Int) (gA : Nat) (A : Option Addr) (an ac : Nat) (A' : Option Addr) (ap c' : Nat) (sn : ByteArray) (h1 h2 h3 : List UInt8) : Nat → Value → (Nat → Prop) → World → Prop
  | 0 => fPure (.agg #[.slice none 0 0])
  | 1 => fRws T E B []
  | 2 => fPure (.int .i64 M)
  | 3 => fRow [20, 0, M, 0, 33] 5
  | 4 => fRws T E B h1
  | 5 => fPure (.pointer (some ⟨gA, 1, none⟩))
  | 6 => fPure (.slice A an ac)
  | 7 => fCell (.slice A an ac)
  | 8 => fPure (.int .i64 cr)
  | 9 => fPure (.slice A' ap c')
  | 10 => fPure (.int .i64 p)
  | 11 => fPure (.pointer (some ⟨gA, 1, none⟩))
  | 12 => fPure (.slice A an ac)
  | 13 => fPure (.int .i64 n)
  | 14 => fRow [cr, p, n] 3
  | 15 => fRws T E B h2
  | 16 => fPure (.pointer (some ⟨gA, 0, none⟩))
  | 17 => fPure (.string sn)
  | 18 => fPure (.int .i64 q)
  | 19 => fRow [q, 0] 2
  | 20 => fRws T E B h3
  | 21 => fRws T E B h3
  | _ => fun _ _ _ => True
def dst28 : Nat → Option Tmp
  | 0 => some 96
  | 1 => some 97
  | 2 => some 98
  | 3 => some 99
  | 4 => some 100
  | 5 => some 101
  | 6 => some 102
  | 7 => some 103
  | 8 => some 104
  | 9 => some 105
  | 10 => some 106
  | 11 => some 107
  | 12 => some 108
  | 13 => some 109
  | 14 => some 110
  | 15 => some 111
  | 16 => some 112
  | _ => none
def dst30 : Nat → Option Tmp
  | 0 => some 118
  | 1 => some 119
  | 2 => some 120
  | 3 => some 121
  | 4 => some 122
  | 5 => some 123
  | 6 => some 124
  | 7 => some 125
  | 8 => some 126
  | 9 => some 127
  | 10 => some 128
  | 11 => some 129
  | _ => none
def dst35 : Nat → Option Tmp
  | 0 => some 152
  | 1 => some 153
  | 2 => some 154
  | 3 => some 155
  | 4 => some 156
  | 5 => some 157
  | 6 => some 158
  | 7 => some 159
  | 8 => some 160
  | 9 => some 161
  | 10 => some 162
  | 11 => some 163
  | _ => none
def dst32 : Nat → Option Tmp
  | 0 => some 136
  | 1 => some 137
  | 2 => some 138
  | 3 => some 139
  | 4 => some 140
  | 5 => some 141
  | 6 => some 142
  | 7 => some 143
  | 8 => some 144
  | 9 => some 145
  | _ => none
def cons28 : Nat → Nat
  | 18 => 4
  | 4 => 9
  | 9 => 12
  | 12 => 14
  | 14 => 17
  | _ => 1000
def cons30 : Nat → Nat
  | 13 => 4
  | 4 => 9
  | 9 => 12
  | _ => 1000
def cons32 : Nat → Nat
  | 11 => 4
  | 4 => 7
  | 7 => 10
  | _ => 1000
def D28 : List (List Nat) := [[], [], [1], [2], [3], [], [5], [6], [7], [4, 8], [], [10], [9, 11], [], [12, 13], [0], [15], [14, 16]]
def D30 : List (List Nat) := [[], [], [1], [2], [3], [], [5], [6], [7], [4, 8], [0], [10], [9, 11]]
def D32 : List (List Nat) := [[], [], [1], [2], [3], [], [5], [4, 6], [0], [8], [7, 9]]
def F28 (T E : TypeId) (B gb gh g : Nat) (vb vh sv : Value) (sn : ByteArray) (r0 r1 r2 r3 : List UInt8) : Nat → Value → (Nat → Prop) → World → Prop
  | 0 => fPure (.pointer (some ⟨gb, 0, none⟩))
  | 1 => fPure (.pointer (some ⟨gb, 0, none⟩))
  | 2 => fPure (.pointer (some ⟨gb, 0, none⟩))
  | 3 => fPure (.pointer (some ⟨gb, 0, none⟩))
  | 4 => fMid T E B gb vb r0
  | 5 => fPure (.pointer (some ⟨gh, 0, none⟩))
  | 6 => fPure (.pointer (some ⟨gh, 0, none⟩))
  | 7 => fPure (.pointer (some ⟨gh, 0, none⟩))
  | 8 => fPure vh
  | 9 => fMid T E B gb vb r1
  | 10 => fPure (.pointer (some ⟨g, 0, none⟩))
  | 11 => fPure (.string sn)
  | 12 => fMid T E B gb vb r2
  | 13 => fPure sv
  | 14 => fMid T E B gb vb r3
  | 15 => fPure (.pointer (some ⟨gb, 0, none⟩))
  | 16 => fPure (.pointer (some ⟨gb, 0, none⟩))
  | 17 => fSt T E B gb r3
  | _ => fRwI T E B gb vb r0
def F30 (T E : TypeId) (B gb gh : Nat) (vb vh : Value) (r0 r1 : List UInt8) : Nat → Value → (Nat → Prop) → World → Prop
  | 0 => fPure (.pointer (some ⟨gb, 0, none⟩))
  | 1 => fPure (.pointer (some ⟨gb, 0, none⟩))
  | 2 => fPure (.pointer (some ⟨gb, 0, none⟩))
  | 3 => fPure (.pointer (some ⟨gb, 0, none⟩))
  | 4 => fMid T E B gb vb r0
  | 5 => fPure (.pointer (some ⟨gh, 0, none⟩))
  | 6 => fPure (.pointer (some ⟨gh, 0, none⟩))
  | 7 => fPure (.pointer (some ⟨gh, 0, none⟩))
  | 8 => fPure vh
  | 9 => fMid T E B gb vb r1
  | 10 => fPure (.pointer (some ⟨gb, 0, none⟩))
  | 11 => fPure (.pointer (some ⟨gb, 0, none⟩))
  | 12 => fSt T E B gb r1
  | _ => fRwI T E B gb vb r0
def F32 (T E : TypeId) (B gb g : Nat) (vb : Value) (sn : ByteArray) (r0 r1 : List UInt8) : Nat → Value → (Nat → Prop) → World → Prop
  | 0 => fPure (.pointer (some ⟨gb, 0, none⟩))
  | 1 => fPure (.pointer (some ⟨gb, 0, none⟩))
  | 2 => fPure (.pointer (some ⟨gb, 0, none⟩))
  | 3 => fPure (.pointer (some ⟨gb, 0, none⟩))
  | 4 => fMid T E B gb vb r0
  | 5 => fPure (.pointer (some ⟨g, 0, none⟩))
  | 6 => fPure (.string sn)
  | 7 => fMid T E B gb vb r1
  | 8 => fPure (.pointer (some ⟨gb, 0, none⟩))
  | 9 => fPure (.pointer (some ⟨gb, 0, none⟩))
  | 10 => fSt T E B gb r1
  | _ => fRwI T E B gb vb r0
def dst36 : Nat → Option Tmp
  | 0 => some 164
  | 1 => some 165
  | 2 => some 166
  | 3 => some 167
  | 4 => some 168
  | 5 => some 169
  | 6 => some 170
  | 7 => some 171
  | 8 => some 172
  | 9 => some 173
  | 10 => some 174
  | 11 => some 175
  | 12 => some 176
  | 13 => some 177
  | 14 => some 178
  | 15 => some 179
  | 16 => some 180
  | 17 => some 181
  | 18 => some 182
  | _ => none
def cons36 : Nat → Nat
  | 1 => 2
  | 19 => 2
  | 2 => 8
  | 7 => 8
  | 8 => 16
  | 15 => 16
  | 16 => 18
  | 17 => 18
  | _ => 1000
def D36 : List (List Nat) := [[], [], [0, 1], [], [3], [], [5], [4, 6], [2, 7], [], [9], [10], [11], [12], [], [13, 14], [8, 15], [], [16, 17]]
def F36 (T E : TypeId) (B : Nat) (sl dv vb : Value) (n nd nb : Int) (gb gd : Nat) (l0 l1 l2 l3 l4 : List UInt8) : Nat → Value → (Nat → Prop) → World → Prop
  | 0 => fPure (.pointer (some ⟨gb, 0, none⟩))
  | 1 => fRow [101010256, 0] 2
  | 2 => fRwA T E B gb l1
  | 3 => fPure sl
  | 4 => fPure (.int .i64 n)
  | 5 => fPure sl
  | 6 => fPure (.int .i64 n)
  | 7 => fRow [n, n] 2
  | 8 => fRwA T E B gb l2
  | 9 => fPure (.pointer (some ⟨gd, 0, none⟩))
  | 10 => fPure (.pointer (some ⟨gd, 0, none⟩))
  | 11 => fPure (.pointer (some ⟨gd, 0, none⟩))
  | 12 => fPure dv
  | 13 => fPure (.int .i64 nd)
  | 14 => fPure (.int .i64 nb)
  | 15 => fRow [nd, nb] 2
  | 16 => fRwA T E B gb l3
  | 17 => fRow [0] 1
  | 18 => fRwA T E B gb l4
  | _ => fRwI T E B gb vb l0
theorem sigL : ([67324752] : List Int).flatMap (leB 4) = [80, 75, 3, 4] := by decide
theorem sigC : ([33639248] : List Int).flatMap (leB 4) = [80, 75, 1, 2] := by decide
theorem sig2 : ([20] : List Int).flatMap (leB 2) = [20, 0] := by decide
theorem sigE : ([101010256, 0] : List Int).flatMap (leB 4) = [80, 75, 5, 6, 0, 0, 0, 0] := by decide
theorem fam_two {T E : TypeId} (w : World) {B : Nat} (hB : B ≤ w.heap.size) : Fam T E ((w.alloc (.cells #[.slice none 0 0] T)).alloc (.cells #[.slice none 0 0] T)) B [⟨w.heap.size, .slice none 0 0, []⟩, ⟨w.heap.size + 1, .slice none 0 0, []⟩] := by
  have b1 := Bk.new w T #[.slice none 0 0]
  have b2 := Bk.new (w.alloc (.cells #[.slice none 0 0] T)) T #[.slice none 0 0]
  have h1 : (w.alloc (.cells #[.slice none 0 0] T)).heap.size = w.heap.size + 1 := by simp
  rw [h1] at b2
  have o1 : One T E ((w.alloc (.cells #[.slice none 0 0] T)).alloc (.cells #[.slice none 0 0] T)) B ⟨w.heap.size, .slice none 0 0, []⟩ := ⟨⟨b1.below (bl_alloc (Below.refl _ _) (Nat.le_refl _) _) b1.lt, OwL.nil⟩, hB, by simp [Value.ownBlock]⟩
  have o2 : One T E ((w.alloc (.cells #[.slice none 0 0] T)).alloc (.cells #[.slice none 0 0] T)) B ⟨w.heap.size + 1, .slice none 0 0, []⟩ := ⟨⟨b2, OwL.nil⟩, Nat.le_succ_of_le hB, by simp [Value.ownBlock]⟩
  refine ⟨o1, ?_, o2, (by intro y hy; cases hy), trivial⟩
  intro y hy k hk hk2
  rcases List.mem_cons.1 hy with rfl | hy
  · rcases hk with e | e
    · rcases hk2 with e2 | e2
      · have e2 : k = w.heap.size + 1 := e2
        have e : k = w.heap.size := e
        omega
      · cases e2
    · cases e
  · cases hy
set_option maxRecDepth 100000 in
set_option maxHeartbeats 8000000 in
theorem bmake_any (A : Option Addr) (n c : Nat) (L : List It) (m : Int) (w : World) (hn : L.length = n) (hnc : n ≤ c) (hb : n ≤ 140737488351232) (hs : ∀ x ∈ L, x.name.length ≤ 140737488351232 ∧ x.s.n ≤ 140737488351232) (hr : RIt w w.heap.size A L) (hm : w.cell? ⟨0, 0, none⟩ = some (.int .i64 m)) :
    Calls Tryz.prog 6 #[.slice A n c] w (BookPost (layP (packZ (L.map It.p))) w) := by
  obtain ⟨P, hP⟩ : ∃ P, L.map It.p = P := ⟨_, rfl⟩
  obtain ⟨R, hR⟩ : ∃ R, layP (packZ P) = R := ⟨_, rfl⟩
  obtain ⟨C, hC⟩ : ∃ C, chkP P = C := ⟨_, rfl⟩
  rw [hP, hR]
  have HPL := bx hP
  have HR := bx hR
  have HC := bx hC
  have HL := bx hn
  have HS := bx hs
  have HRW := bx hr
  have HM := bx hm
  have HPn : Bx (P.length = n) := bx (by rw [← hP, List.length_map]; exact hn)
  have hmz : 0 < w.heap.size := World.block_lt_of_cell? w ⟨0, 0, none⟩ hm
  clear hP hR hC hn hs hr hm
  have hmm := @run_makeMap Tryz.prog
  go_enter Tryz.func6, Tryz.ntmps6
  by_cases h64 : 64 < n
  · have hI : (64 : Int) < (n : Int) := by omega
    have HF : Bx (R = .err 17) := bx (by rw [← HR.out]; refine chkP_nz ?_ (by decide); unfold chkP; rw [if_pos (by rw [HPn.out]; exact h64)])
    clear hmm
    go_wp2
    go_ret2
    exact bookPost_err HF.out (Below.refl _ _) (by decide)
  · have hI : ¬ (64 : Int) < (n : Int) := by omega
    have HG : Bx (chkF ((P.take 0).map (·.name)) (P.drop 0) = C) := bx (by rw [← HC.out]; unfold chkP; rw [if_neg (by rw [HPn.out]; exact h64)]; rfl)
    go_wp2_with fail
    obtain ⟨b0, hb0⟩ : ∃ b0, w.heap.size = b0 := ⟨_, rfl⟩
    have hM0 : Bx (MapT Value.string (w.alloc (.map #[] 0)) Tryz.prog 9 b0 0 (seenI P 0)) := bx ((MapT.madeAt w _ _ hb0).ext (fun x => seenI_zero P x))
    have hbl0 : Bx (Below b0 w (w.alloc (.map #[] 0))) := bx (by rw [← hb0]; exact bl_alloc (Below.refl _ _) (Nat.le_refl _) _)
    rw [hb0] at HRW hmz
    rw [hb0]
    have HB0 := bx hb0
    clear hmm hb0
    go_loopw [22] (fun iv wx => ∃ t : Nat, t ≤ n ∧ iv = .int .i64 (t : Int) ∧ Bx (MapT Value.string wx Tryz.prog 9 b0 t (seenI P t)) ∧ Bx (Below b0 w wx) ∧ Bx (chkF ((P.take t).map (·.name)) (P.drop t) = C)) (fun i _ => n - (intOf i).toNat)
    case atStart => exact ⟨0, by omega, rfl, hM0, hbl0, HG⟩
    case round =>
      clear hM0 hbl0 HG
      obtain ⟨t, ht, rfl, HMT, HW, HT⟩ := hrel
      by_cases htn : t < n
      · have htI : (t : Int) < (n : Int) := by omega
        have hrr : RIt wr b0 A L := HRW.out.below HW.out (Nat.le_refl _)
        obtain ⟨ad, x, sn, rfl, hlt, HX, HSN, k0, k1, k2, _⟩ := hrr.itm (k := t) (by rw [HL.out]; exact htn)
        have hxs := HS.out x (List.mem_of_getElem? HX.out)
        have hPx : P[t]? = some x.p := by rw [← HPL.out]; exact itm_map HX.out
        have HPX := bx hPx
        have HAT : Bx (chkF ((P.take t).map (·.name)) (P.drop t) = if nameA x.name = false then 13 else if x.name ∈ (P.take t).map (·.name) then 14 else if 32768 < x.s.l.length then 8 else chkF ((P.take (t + 1)).map (·.name)) (P.drop (t + 1))) := bx (chkF_at hPx)
        have hxl : x.s.l.length = x.s.n := (hrr.2 x (List.mem_of_getElem? HX.out)).1
        have HXL := bx hxl
        have hbz := HMT.out.lt
        have hsz : sn.size ≤ 140737488351232 := sn_len HSN.out hxs.1
        clear hrr hPx hxl
        go_wp2_with fail
        obtain ⟨g, hg⟩ : ∃ g, wr.heap.size = g := ⟨_, rfl⟩
        obtain ⟨cs, hcs⟩ : ∃ cs, (#[.string sn, .slice x.s.A x.s.n x.s.c, .bool x.sq] : Array Value) = cs := ⟨_, rfl⟩
        have HBK : Bx (Bk (wr.alloc (.cells #[.string sn, .slice x.s.A x.s.n x.s.c, .bool x.sq] 35)) g 35 #[.string sn, .slice x.s.A x.s.n x.s.c, .bool x.sq]) := bx (by rw [← hg]; exact Bk.new _ _ _)
        have HWA : Bx (Below b0 w (wr.alloc (.cells #[.string sn, .slice x.s.A x.s.n x.s.c, .bool x.sq] 35))) := bx (bl_alloc HW.out (Nat.le_of_eq HB0.out.symm) _)
        have HMA : Bx (MapT Value.string (wr.alloc (.cells #[.string sn, .slice x.s.A x.s.n x.s.c, .bool x.sq] 35)) Tryz.prog 9 b0 t (seenI P t)) := bx (HMT.out.alloc _)
        rw [hg]
        rw [hg] at hbz
        generalize wr.alloc (.cells #[.string sn, .slice x.s.A x.s.n x.s.c, .bool x.sq] 35) = wA at HBK HWA HMA ⊢
        have HNM := bx (name_any sn m wA hsz ((HWA.out.cell (p := ⟨0, 0, none⟩) hmz).trans HM.out))
        clear hcs hg k0 k1 k2 HW HMT
        refine HNM.out.mono ?_
        rintro e w2 ⟨rfl, hb2⟩
        have HW2 : Bx (Below b0 w w2) := bx (HWA.out.trans (hb2.mono (Nat.le_of_lt HMA.out.lt)))
        have HM2 : Bx (MapT Value.string w2 Tryz.prog 9 b0 t (seenI P t)) := bx (HMA.out.below hb2 HMA.out.lt)
        have HK2 : Bx (Bk w2 g 35 #[.string sn, .slice x.s.A x.s.n x.s.c, .bool x.sq]) := bx (HBK.out.below hb2 HBK.out.lt)
        clear hb2 HWA HMA HBK HNM
        cases hnm : nameA x.name with
        | false =>
          have HF : Bx (R = .err 13) := bx (by rw [← HR.out]; refine chkP_nz ?_ (by decide); rw [HC.out, ← HT.out, HAT.out, if_pos hnm])
          have HNF : Bx (nameA sn.data.toList = false) := bx (by rw [HSN.out]; exact hnm)
          clear hnm
          rw [HNF.out]
          go_wp2
          go_ret2
          exact bookPost_err HF.out (by rw [HB0.out]; exact HW2.out) (by decide)
        | true =>
          have HNF : Bx (nameA sn.data.toList = true) := bx (by rw [HSN.out]; exact hnm)
          have HAT2 : Bx (C = if x.name ∈ (P.take t).map (·.name) then 14 else if 32768 < x.s.l.length then 8 else chkF ((P.take (t + 1)).map (·.name)) (P.drop (t + 1))) := bx (by rw [← HT.out, HAT.out, if_neg (by rw [hnm]; simp)])
          have HKB := bx (keyI sn (by unfold maxLen; omega))
          have hc := HK2.out.cell
          have hf := HK2.out.frz
          have hz := HK2.out.lt
          clear HAT hnm HT
          rw [HNF.out]
          by_cases hmem : x.name ∈ (P.take t).map (·.name)
          · have HV : Bx ((seenI P t sn).getD (.bool false) = .bool true) := bx (by rw [seenI_val HSN.out, decide_eq_true hmem])
            have HF : Bx (R = .err 14) := bx (by rw [← HR.out]; refine chkP_nz ?_ (by decide); rw [HC.out, HAT2.out, if_pos hmem])
            clear hmem HAT2
            go_wp2_with (at_lookup; refine wpList_lookT rfl (.tmp 32) (.tmp 34) _ rfl 4 strI Tryz.underlying40 (.bool false) (falseI_run _) rfl HM2.out sn _ rfl HKB.out ?_; rw [HV.out])
            go_ret2
            exact bookPost_err HF.out (by rw [HB0.out]; exact HW2.out) (by decide)
          · have HV : Bx ((seenI P t sn).getD (.bool false) = .bool false) := bx (by rw [seenI_val HSN.out, decide_eq_false hmem])
            have HAT3 : Bx (C = if 32768 < x.s.l.length then 8 else chkF ((P.take (t + 1)).map (·.name)) (P.drop (t + 1))) := bx (by rw [HAT2.out, if_neg hmem])
            clear hmem HAT2
            by_cases h32 : 32768 < x.s.n
            · have h32I : (32768 : Int) < (x.s.n : Int) := by omega
              have HF : Bx (R = .err 8) := bx (by rw [← HR.out]; refine chkP_nz ?_ (by decide); rw [HC.out, HAT3.out, if_pos (by rw [HXL.out]; exact h32)])
              go_wp2_with (at_lookup; refine wpList_lookT rfl (.tmp 32) (.tmp 34) _ rfl 4 strI Tryz.underlying40 (.bool false) (falseI_run _) rfl HM2.out sn _ rfl HKB.out ?_; rw [HV.out])
              go_ret2
              exact bookPost_err HF.out (by rw [HB0.out]; exact HW2.out) (by decide)
            · have h32I : ¬ (32768 : Int) < (x.s.n : Int) := by omega
              have HF : Bx (chkF ((P.take (t + 1)).map (·.name)) (P.drop (t + 1)) = C) := bx (by rw [HAT3.out, if_neg (by rw [HXL.out]; exact h32)])
              have hmax : t < maxLen := by unfold maxLen; omega
              clear HAT3
              go_wp2_with (first
                | (at_lookup; refine wpList_lookT rfl (.tmp 32) (.tmp 34) _ rfl 4 strI Tryz.underlying40 (.bool false) (falseI_run _) rfl HM2.out sn _ rfl HKB.out ?_; rw [HV.out])
                | (at_mapUpdate; refine wpList_storeT rfl (.tmp 41) (.tmp 43) _ _ rfl 4 strI Tryz.underlying40 rfl HM2.out strI_inj hmax sn (.bool true) _ rfl rfl HKB.out ?_; intro w3 hM3 hg3))
              have HM3 : Bx (MapT Value.string w3 Tryz.prog 9 b0 (t + 1) (seenI P (t + 1))) := bx (hM3.ext (fun q => seenI_next HPX.out HSN.out q))
              have HW3 : Bx (Below b0 w w3) := bx (HW2.out.trans (gb_low hg3 (Nat.le_refl _) HM2.out.lt))
              clear hM3 hg3
              go_wp2
              go_roundw
              case rel => exact ⟨t + 1, by omega, by go_num, HM3, HW3, HF⟩
              case measure => simp [intOf]; omega
      · have htI : ¬ (t : Int) < (n : Int) := by omega
        obtain rfl : t = n := by omega
        have HC0 : Bx (chkP P = 0) := bx (by rw [HC.out, ← HT.out, List.drop_of_length_le (by rw [HPn.out]; exact Nat.le_refl _)]; rfl)
        obtain ⟨Z, hZ⟩ : ∃ Z, packZ P = Z := ⟨_, rfl⟩
        have HZ := bx hZ
        have HR2 : Bx (layP Z = R) := bx (by rw [← hZ]; exact HR.out)
        have HZC : Bx (chkP (Z.map (·.1)) = 0) := bx (by rw [← hZ, packZ_fst]; exact HC0.out)
        have HZl : Bx (Z.length = t) := bx (by rw [← hZ, packZ_len]; exact HPn.out)
        have HZz : Bx (∀ x ∈ P, x.name.length ≤ 64 ∧ x.data.length ≤ 32768) := bx (fun x hx => by
          obtain ⟨h1, h2⟩ := (chkP_ok HC0.out).2.2 x hx
          exact ⟨nameA_len h1, h2⟩)
        have HPART : Bx (∀ k, (locsB (Z.take k)).length ≤ 3206016 ∧ (dirsB 0 (Z.take k)).length ≤ 7040) := bx (part_len (by rw [HZl.out]; omega) (fun z hz => by
          rw [← hZ] at hz
          obtain ⟨h1, h2⟩ := packZ_mem hz
          have h3 := HZz.out _ h1
          rw [h2]
          exact ⟨h3.1, pk_len h3.2⟩))
        have hbz := HMT.out.lt
        clear HT HC HR hZ HMT HM
        obtain ⟨wb, rfl⟩ : ∃ wb, wb = wr := ⟨_, rfl⟩
        go_wp2_with fail
        obtain ⟨gb, hgb⟩ : ∃ g, wb.heap.size = g := ⟨_, rfl⟩
        have HF0 : Bx (Fam 44 5 ((wb.alloc (.cells #[.slice none 0 0] 44)).alloc (.cells #[.slice none 0 0] 44)) b0 [⟨gb, .slice none 0 0, locsB (Z.take 0)⟩, ⟨gb + 1, .slice none 0 0, dirsB 0 (Z.take 0)⟩]) := bx (by
          rw [← hgb]; exact fam_two wb (Nat.le_of_lt hbz))
        have HW0 : Bx (Below b0 w ((wb.alloc (.cells #[.slice none 0 0] 44)).alloc (.cells #[.slice none 0 0] 44))) := bx (bl_alloc (bl_alloc HW.out (Nat.le_of_eq HB0.out.symm) _) (Nat.le_of_eq HB0.out.symm) _)
        rw [hgb]
        rw [hgb] at hbz
        generalize (wb.alloc (.cells #[.slice none 0 0] 44)).alloc (.cells #[.slice none 0 0] 44) = w1 at HF0 HW0 ⊢
        obtain ⟨gd, hgd⟩ : ∃ g, gb + 1 = g := ⟨_, rfl⟩
        rw [hgd] at HF0 ⊢
        have HGD := bx hgd
        have HGB := bx hgb
        clear hgb hgd HW
        go_loopw [51] (fun iv wx => ∃ (k : Nat) (vb vd : Value), k ≤ t ∧ iv = .int .i64 (k : Int) ∧ Bx (Fam 44 5 wx b0 [⟨gb, vb, locsB (Z.take k)⟩, ⟨gd, vd, dirsB 0 (Z.take k)⟩]) ∧ Bx (Below b0 w wx)) (fun i _ => t - (intOf i).toNat)
        case atStart => exact ⟨0, _, _, by omega, rfl, HF0, HW0⟩
        case round =>
          clear HF0 HW0
          obtain ⟨k, vb, vd, hk, rfl, HFM, HW⟩ := hrel
          obtain ⟨Ab, nb, cb, rfl, hnb, _⟩ := OwL.sl HFM.out.one.r.2
          have hnb2 : nb ≤ 3206016 := by rw [hnb.out]; exact (HPART.out k).1
          by_cases hkt : k < t
          · have hkI : (k : Int) < (t : Int) := by omega
            have hrr : RIt wr b0 A L := HRW.out.below HW.out (Nat.le_refl _)
            obtain ⟨ad, x, sn, rfl, hlt, HX, HSN, k0, k1, k2, HSX⟩ := hrr.itm (k := k) (by rw [HL.out]; exact hkt)
            have HPX : Bx (P[k]? = some x.p) := bx (by rw [← HPL.out]; exact itm_map HX.out)
            have HZA : Bx (Z[k]? = some (pkI x.p)) := bx (by rw [← HZ.out]; exact packZ_at HPX.out)
            have hzz := HZz.out _ (List.mem_of_getElem? HPX.out)
            have hxn : x.s.n ≤ 32768 := by rw [← HSX.out.1]; exact hzz.2
            have hsz : sn.size ≤ 64 := sn_len HSN.out hzz.1
            obtain ⟨z, hz⟩ : ∃ z : Pk, pkI x.p = z := ⟨_, rfl⟩
            have HZE := bx hz
            have hzl : z.2.length ≤ 50000 := by rw [← hz]; exact pk_len hzz.2
            have hgz := HFM.out.one.r.1.lt
            obtain ⟨g, hg⟩ : ∃ g, wr.heap.size = g := ⟨_, rfl⟩
            have hbz2 : b0 ≤ g := by rw [← hg]; exact Nat.le_trans (Nat.le_of_eq HB0.out.symm) HW.out.size
            have HBK : Bx (Bk (wr.alloc (.cells #[.string sn, .slice x.s.A x.s.n x.s.c, .bool x.sq] 35)) g 35 #[.string sn, .slice x.s.A x.s.n x.s.c, .bool x.sq]) := bx (by rw [← hg]; exact Bk.new _ _ _)
            have HWA : Bx (Below b0 w (wr.alloc (.cells #[.string sn, .slice x.s.A x.s.n x.s.c, .bool x.sq] 35))) := bx (bl_alloc HW.out (Nat.le_of_eq HB0.out.symm) _)
            have HFA : Bx (Fam 44 5 (wr.alloc (.cells #[.string sn, .slice x.s.A x.s.n x.s.c, .bool x.sq] 35)) b0 [⟨gb, .slice Ab nb cb, locsB (Z.take k)⟩, ⟨gd, vd, dirsB 0 (Z.take k)⟩]) := bx (HFM.out.alloc _)
            have HSA : Bx (SlB (wr.alloc (.cells #[.string sn, .slice x.s.A x.s.n x.s.c, .bool x.sq] 35)) b0 x.s) := bx (HSX.out.below (bl_alloc (Below.refl b0 wr) (by rw [hg]; exact hbz2) _) (Nat.le_refl _))
            have HGA : Bx (∀ y ∈ [(⟨gb, .slice Ab nb cb, locsB (Z.take k)⟩ : RwS), ⟨gd, vd, dirsB 0 (Z.take k)⟩], ∀ q, y.F q → q < g) := bx (fun y hy q hq => by rw [← hg]; exact (HFM.out.at_ y hy).lt hq)
            clear hz hzz hrr
            go_upto_region 19 with (fail)
            generalize wr.alloc (.cells #[.string sn, .slice x.s.A x.s.n x.s.c, .bool x.sq] 35) = wA at HBK HWA HFA HSA ⊢
            obtain ⟨zA, hzA⟩ : ∃ s, wA.heap.size = s := ⟨_, rfl⟩
            have HZS := bx hzA
            have HSQ := bx (sall_any x.s.A x.s.n x.s.c x.s.l wA HSA.out.1 (by omega) HSA.out.2.1 (HSA.out.2.2.2.more (Nat.le_trans hbz2 (Nat.le_of_lt HBK.out.lt))))
            have hc := HBK.out.cell
            have hf := HBK.out.frz
            have hgl := HBK.out.lt
            have hc0 := hc 0
            have hc1 := hc 1
            have hc2 := hc 2
            clear hg HFM HW HSX k0 k1 k2 hzA hc
            go_upto_if 58 with (fail)
            go_cut [11, 12] (fun v11 v12 wx => ∃ (A' : Option Addr) (p c' : Nat), v11 = .slice A' p c' ∧ v12 = .int .i64 (mthI z) ∧ Bx (p = z.2.length) ∧ Bx (RB wx wx.heap.size A' z.2) ∧ Bx (z.2 ≠ [] → ∀ q, A' = some q → q.block < b0 ∨ zA ≤ q.block) ∧ Bx (Below zA wA wx))
            case first =>
              obtain ⟨b, hb⟩ : ∃ b, x.sq = b := ⟨_, rfl⟩
              have HBB := bx hb
              rw [hb] at hc2 ⊢
              clear hb
              cases b
              · have HM0 : Bx (mthI z = 0) := bx (by rw [← HZE.out]; show (if x.sq then 8 else 0 : Int) = 0; rw [HBB.out]; rfl)
                have HZ2 : Bx (z.2 = x.s.l) := bx (by rw [← HZE.out]; show (if x.sq then sqzP x.s.l else x.s.l) = x.s.l; rw [HBB.out]; rfl)
                go_wp2
                go_meet
                case rel => exact ⟨x.s.A, x.s.n, x.s.c, rfl, by rw [HM0.out], bx (by rw [HZ2.out]; exact HSA.out.1.symm), bx (by rw [HZ2.out]; exact HSA.out.2.2.2.more (Nat.le_trans hbz2 (Nat.le_of_lt hgl))), bx (by rw [HZ2.out]; exact fun hne q hq => .inl (rl_lo HSA.out.2.2.2 hne q hq)), bx (Below.refl _ _)⟩
              · have HM0 : Bx (mthI z = 8) := bx (by rw [← HZE.out]; show (if x.sq then 8 else 0 : Int) = 8; rw [HBB.out]; rfl)
                have HZ2 : Bx (z.2 = sqzP x.s.l) := bx (by rw [← HZE.out]; show (if x.sq then sqzP x.s.l else x.s.l) = sqzP x.s.l; rw [HBB.out]; rfl)
                go_wp2_with fail
                refine HSQ.out.mono ?_
                intro e w2 hp
                obtain ⟨A2, p2, c2, rfl, hp2, hr2, ho2, hb2⟩ := sqzOk hp (by rw [HSA.out.1]; exact hxn)
                have HR2' := bx hr2
                have HO2 := bx ho2
                have HB2 := bx hb2
                clear hp hr2 ho2 hb2
                go_wp2
                go_meet
                case rel => exact ⟨A2, p2, c2, rfl, by rw [HM0.out], bx (by rw [HZ2.out]; exact hp2.out), bx (by rw [HZ2.out]; exact HR2'.out), bx (fun _ q hq => .inr (by rw [← HZS.out]; exact HO2.out q hq)), bx (by rw [← HZS.out]; exact HB2.out)⟩
            case rest =>
              obtain ⟨A', p, c', rfl, rfl, HPn', HPR, HPA, HPB⟩ := hcut
              have hAz : zA ≤ wA.heap.size := Nat.le_of_eq HZS.out.symm
              have HWX : Bx (Below b0 w wc) := bx (HWA.out.trans (HPB.out.mono (by rw [← HZS.out]; exact Nat.le_trans hbz2 (Nat.le_of_lt hgl))))
              have HFX : Bx (Fam 44 5 wc b0 [⟨gb, .slice Ab nb cb, locsB (Z.take k)⟩, ⟨gd, vd, dirsB 0 (Z.take k)⟩]) := bx (HFA.out.below (by rw [HZS.out]; exact HPB.out))
              have HBX : Bx (Bk wc g 35 #[.string sn, .slice x.s.A x.s.n x.s.c, .bool x.sq]) := bx (HBK.out.below HPB.out (by rw [← HZS.out]; exact HBK.out.lt))
              have HSX : Bx (SlB wc b0 x.s) := bx (HSA.out.below HPB.out (by rw [← HZS.out]; exact Nat.le_trans hbz2 (Nat.le_of_lt hgl)))
              have HGZ : Bx (g < zA) := bx (by rw [← HZS.out]; exact hgl)
              clear hc0 hc1 hc2 hf hgl HSQ HFA HWA HSA HBK
              have hb0 := HFX.out.one.r.1.cell 0
              have hbl := HFX.out.one.r.1.lt
              by_cases h65 : 65536 < nb
              · have h65I : (65536 : Int) < (nb : Int) := by omega
                have HF : Bx (R = .err 8) := bx (by rw [← HR2.out]; exact layP_early (k := k) HZC.out (by have := hnb.out; simp only at this; rw [← this]; exact h65))
                go_wp2
                go_ret2
                exact bookPost_err HF.out (by rw [HB0.out]; exact HWX.out) (by decide)
              · have h65I : ¬ (65536 : Int) < (nb : Int) := by omega
                go_upto_region 26 with (fail)
                obtain ⟨M, hM⟩ : ∃ M, mthI z = M := ⟨_, rfl⟩
                rw [hM]
                go_cut [14] (fun v14 wx => ∃ gh vh, v14 = .pointer (some ⟨gh, 0, none⟩) ∧ Bx (Fam 44 5 wx b0 [⟨gh, vh, headB z⟩, ⟨gb, .slice Ab nb cb, locsB (Z.take k)⟩, ⟨gd, vd, dirsB 0 (Z.take k)⟩]) ∧ Bx (Ch wc wx fNo) ∧ Bx (∀ q, Fpt gh vh q → wc.heap.size ≤ q))
                case first =>
                  obtain ⟨cr, hcr⟩ : ∃ cr, crcA 0 x.s.l = cr := ⟨_, rfl⟩
                  have HCR := bx hcr
                  have HBZ : Bx (b0 ≤ wc.heap.size) := bx (Nat.le_trans (Nat.le_of_eq HB0.out.symm) HWX.out.size)
                  have HH : Bx (num1H z = [] ++ [20, 0, M, 0, 33].flatMap (leB 2) ∧ num1H z ++ num2H z = num1H z ++ [(cr : Int), (p : Int), (x.s.n : Int)].flatMap (leB 4) ∧ headB z = (num1H z ++ num2H z) ++ [(sn.size : Int), 0].flatMap (leB 2)) := bx (by
                    refine ⟨by unfold num1H n1H; rw [hM]; rfl, ?_, ?_⟩
                    · unfold num2H n2H
                      have e1 : z.1.data = x.s.l := by rw [← HZE.out]; rfl
                      rw [e1, hcr, ← HPn'.out, HSX.out.1]
                    · rw [← headB_nums]
                      unfold num3H n3H
                      have e1 : z.1.name = x.name := by rw [← HZE.out]; rfl
                      rw [e1, ← sn_size HSN.out]
                      rfl)
                  clear hcr hM hb0 hbl
                  refine wp_region_res (by kernel_rfl) dst26 (by kernel_rfl) (F26 44 5 wc.heap.size M (cr : Int) (p : Int) (x.s.n : Int) (sn.size : Int) g x.s.A x.s.n x.s.c A' p c' sn (num1H z) (num1H z ++ num2H z) (headB z)) cons26 fNo D26 [] (by kernel_rfl) undef fNo trivial (fun _ h => h.elim) (fun _ h => h) ⟨?_, ?_, ?_, ?_, ?_, ?_, ?_, ?_, ?_, ?_, ?_, ?_, ?_, ?_, ?_, ?_, ?_, ?_, ?_, ?_, ?_, ?_, trivial⟩ ?_
                  -- DEV{ iterate 22 (next => sorry)
                  · show StepR _ _ _ _ _ _ _ [] [] 0 _
                    intro v S w HC HL HU HD Q hQ
                    simp only [putsF]
                    go_wp2_with fail
                    exact fin_pure hQ rfl ⟨rfl, rfl⟩
                  · show StepR _ _ _ _ _ _ _ [0] [0] 1 _
                    intro v S w HC HL HU HD Q hQ
                    have e0 := Live.pure (HL 0 (by decide))
                    simp only [putsF, dst26, e0]
                    go_wp2_with fail
                    exact fin_box hQ (by simp only [putsF, dst26, e0]; rfl) ⟨_, .slice none 0 0, rfl, rfl, ⟨Bk.new _ _ _, OwL.nil⟩, HC.size, by simp [Value.ownBlock]⟩
                  · show StepR _ _ _ _ _ _ _ [] [] 2 _
                    intro v S w HC HL HU HD Q hQ
                    simp only [putsF]
                    go_wp2_with fail
                    exact fin_pure hQ rfl ⟨rfl, rfl⟩
                  · show StepR _ _ _ _ _ _ _ [2] [2] 3 _
                    intro v S w HC HL HU HD Q hQ
                    have e2 := Live.pure (HL 2 (by decide))
                    simp only [putsF, dst26, e2]
                    go_wp2_with fail
                    exact fin_blk hQ (by simp only [putsF, dst26, e2]; rfl) ⟨_, rfl, rfl, (RL.news w [20, 0, M, 0, 33] _ rfl _ _).more (by simp)⟩
                  · show StepR _ _ _ _ _ _ _ [1, 3] [1, 3] 4 _
                    intro v S w HC HL HU HD Q hQ
                    obtain ⟨g1, v1, e1, s1, O1⟩ := Live.rws (HL 1 (by decide))
                    obtain ⟨g3, e3, s3, R3, Z3⟩ := Live.row (HL 3 (by decide))
                    simp only [putsF, dst26, e1, e3]
                    go_wp2_with fail
                    have hdj : ¬ Fpt g1 v1 g3 := by have := HD 3 (by decide) 1 (by decide) (by decide) g3 (by rw [s3]); rwa [s1] at this
                    refine (rput_any wc.heap.size g1 2 5 5 v1 [] (some ⟨g3, 0, none⟩) [20, 0, M, 0, 33] w O1.out.r HC.size O1.out.ne (by rfl) R3.out (fun ad ha => by injection ha with ha; rw [← ha]; exact hdj) (by decide) (by decide) (by decide) (by simp)).mono ?_
                    rintro e w2 ⟨rfl, v2, hr2, hch, hown⟩
                    go_wp2_with fail
                    exact fin_put hQ (by simp only [putsF, dst26, e1, e3]; rfl) O1.out (fun q hq => ⟨1, by decide, rfl, by rw [s1]; exact hq⟩) hr2 hch hown (fun o1 => ⟨_, _, rfl, rfl, by rw [HH.out.1]; exact o1⟩)
                  · show StepR _ _ _ _ _ _ _ [] [] 5 _
                    intro v S w HC HL HU HD Q hQ
                    simp only [putsF]
                    go_wp2_with fail
                    exact fin_pure hQ rfl ⟨rfl, rfl⟩
                  · show StepR _ _ _ _ _ _ _ [5] [5] 6 _
                    intro v S w HC HL HU HD Q hQ
                    have e5 := Live.pure (HL 5 (by decide))
                    simp only [putsF, dst26, e5]
                    have hbk := HBX.out.ch HC (fun h => h)
                    have hc := hbk.cell
                    have hc0 := hc 0
                    have hc1 := hc 1
                    have hgl := hbk.lt
                    clear hc hbk
                    go_wp2_with fail
                    exact fin_pure hQ (by simp only [putsF, dst26, e5]; rfl) ⟨rfl, rfl⟩
                  · show StepR _ _ _ _ _ _ _ [6] [6] 7 _
                    intro v S w HC HL HU HD Q hQ
                    have e6 := Live.pure (HL 6 (by decide))
                    simp only [putsF, dst26, e6]
                    go_wp2_with fail
                    exact fin_blk hQ (by simp only [putsF, dst26, e6]; rfl) ⟨_, rfl, rfl, ((Bk.new w _ _).cell 0).trans rfl⟩
                  · show StepR _ _ _ _ _ _ _ [7] [7] 8 _
                    intro v S w HC HL HU HD Q hQ
                    obtain ⟨g7, e7, R7⟩ := Live.cell (HL 7 (by decide))
                    simp only [putsF, dst26, e7]
                    go_wp2_with fail
                    refine (of_any g7 1 x.s.A x.s.n x.s.c x.s.l w HSX.out.1 (by omega) ((HSX.out.2.2.2.ch HC HBZ.out (fun _ _ h => h)).more (Nat.le_trans HBZ.out HC.size)) R7.out).mono ?_
                    rintro e w2 ⟨rfl, hb2⟩
                    rw [HCR.out]
                    go_wp2_with fail
                    exact fin_below hQ (by simp only [putsF, dst26, e7]; rfl) ⟨rfl, rfl⟩ hb2
                  · show StepR _ _ _ _ _ _ _ [] [] 9 _
                    intro v S w HC HL HU HD Q hQ
                    simp only [putsF]
                    go_wp2_with fail
                    exact fin_pure hQ rfl ⟨rfl, rfl⟩
                  · show StepR _ _ _ _ _ _ _ [9] [9] 10 _
                    intro v S w HC HL HU HD Q hQ
                    have e9 := Live.pure (HL 9 (by decide))
                    simp only [putsF, dst26, e9]
                    go_wp2_with fail
                    exact fin_pure hQ (by simp only [putsF, dst26, e9]; rfl) ⟨rfl, rfl⟩
                  · show StepR _ _ _ _ _ _ _ [] [] 11 _
                    intro v S w HC HL HU HD Q hQ
                    simp only [putsF]
                    go_wp2_with fail
                    exact fin_pure hQ rfl ⟨rfl, rfl⟩
                  · show StepR _ _ _ _ _ _ _ [11] [11] 12 _
                    intro v S w HC HL HU HD Q hQ
                    have e11 := Live.pure (HL 11 (by decide))
                    simp only [putsF, dst26, e11]
                    have hbk := HBX.out.ch HC (fun h => h)
                    have hc := hbk.cell
                    have hc0 := hc 0
                    have hc1 := hc 1
                    have hgl := hbk.lt
                    clear hc hbk
                    go_wp2_with fail
                    exact fin_pure hQ (by simp only [putsF, dst26, e11]; rfl) ⟨rfl, rfl⟩
                  · show StepR _ _ _ _ _ _ _ [12] [12] 13 _
                    intro v S w HC HL HU HD Q hQ
                    have e12 := Live.pure (HL 12 (by decide))
                    simp only [putsF, dst26, e12]
                    go_wp2_with fail
                    exact fin_pure hQ (by simp only [putsF, dst26, e12]; rfl) ⟨rfl, rfl⟩
                  · show StepR _ _ _ _ _ _ _ [8, 10, 13] [8, 10, 13] 14 _
                    intro v S w HC HL HU HD Q hQ
                    have e8 := Live.pure (HL 8 (by decide))
                    have e10 := Live.pure (HL 10 (by decide))
                    have e13 := Live.pure (HL 13 (by decide))
                    simp only [putsF, dst26, e8, e10, e13]
                    go_wp2_with fail
                    exact fin_blk hQ (by simp only [putsF, dst26, e8, e10, e13]; rfl) ⟨_, rfl, rfl, (RL.news w [(cr : Int), (p : Int), (x.s.n : Int)] _ rfl _ _).more (by simp)⟩
                  · show StepR _ _ _ _ _ _ _ [4, 14] [4, 14] 15 _
                    intro v S w HC HL HU HD Q hQ
                    obtain ⟨g4, v4, e4, s4, O4⟩ := Live.rws (HL 4 (by decide))
                    obtain ⟨g14, e14, s14, R14, Z14⟩ := Live.row (HL 14 (by decide))
                    simp only [putsF, dst26, e4, e14]
                    go_wp2_with fail
                    have hdj : ¬ Fpt g4 v4 g14 := by have := HD 14 (by decide) 4 (by decide) (by decide) g14 (by rw [s14]); rwa [s4] at this
                    refine (rput_any wc.heap.size g4 4 3 3 v4 (num1H z) (some ⟨g14, 0, none⟩) [(cr : Int), (p : Int), (x.s.n : Int)] w O4.out.r HC.size O4.out.ne (by rfl) R14.out (fun ad ha => by injection ha with ha; rw [← ha]; exact hdj) (by decide) (by decide) (by decide) (by rw [num1H_len]; decide)).mono ?_
                    rintro e w2 ⟨rfl, v2, hr2, hch, hown⟩
                    go_wp2_with fail
                    exact fin_put hQ (by simp only [putsF, dst26, e4, e14]; rfl) O4.out (fun q hq => ⟨4, by decide, rfl, by rw [s4]; exact hq⟩) hr2 hch hown (fun o1 => ⟨_, _, rfl, rfl, by rw [HH.out.2.1]; exact o1⟩)
                  · show StepR _ _ _ _ _ _ _ [] [] 16 _
                    intro v S w HC HL HU HD Q hQ
                    simp only [putsF]
                    go_wp2_with fail
                    exact fin_pure hQ rfl ⟨rfl, rfl⟩
                  · show StepR _ _ _ _ _ _ _ [16] [16] 17 _
                    intro v S w HC HL HU HD Q hQ
                    have e16 := Live.pure (HL 16 (by decide))
                    simp only [putsF, dst26, e16]
                    have hbk := HBX.out.ch HC (fun h => h)
                    have hc := hbk.cell
                    have hc0 := hc 0
                    have hc1 := hc 1
                    have hgl := hbk.lt
                    clear hc hbk
                    go_wp2_with fail
                    exact fin_pure hQ (by simp only [putsF, dst26, e16]; rfl) ⟨rfl, rfl⟩
                  · show StepR _ _ _ _ _ _ _ [17] [17] 18 _
                    intro v S w HC HL HU HD Q hQ
                    have e17 := Live.pure (HL 17 (by decide))
                    simp only [putsF, dst26, e17]
                    go_wp2_with fail
                    exact fin_pure hQ (by simp only [putsF, dst26, e17]; rfl) ⟨rfl, rfl⟩
                  · show StepR _ _ _ _ _ _ _ [18] [18] 19 _
                    intro v S w HC HL HU HD Q hQ
                    have e18 := Live.pure (HL 18 (by decide))
                    simp only [putsF, dst26, e18]
                    go_wp2_with fail
                    exact fin_blk hQ (by simp only [putsF, dst26, e18]; rfl) ⟨_, rfl, rfl, (RL.news w [(sn.size : Int), 0] _ rfl _ _).more (by simp)⟩
                  · show StepR _ _ _ _ _ _ _ [15, 19] [15, 19] 20 _
                    intro v S w HC HL HU HD Q hQ
                    obtain ⟨g15, v15, e15, s15, O15⟩ := Live.rws (HL 15 (by decide))
                    obtain ⟨g19, e19, s19, R19, Z19⟩ := Live.row (HL 19 (by decide))
                    simp only [putsF, dst26, e15, e19]
                    go_wp2_with fail
                    have hdj : ¬ Fpt g15 v15 g19 := by have := HD 19 (by decide) 15 (by decide) (by decide) g19 (by rw [s19]); rwa [s15] at this
                    refine (rput_any wc.heap.size g15 2 2 2 v15 (num1H z ++ num2H z) (some ⟨g19, 0, none⟩) [(sn.size : Int), 0] w O15.out.r HC.size O15.out.ne (by rfl) R19.out (fun ad ha => by injection ha with ha; rw [← ha]; exact hdj) (by decide) (by decide) (by decide) (by rw [List.length_append, num1H_len, num2H_len]; decide)).mono ?_
                    rintro e w2 ⟨rfl, v2, hr2, hch, hown⟩
                    go_wp2_with fail
                    exact fin_put hQ (by simp only [putsF, dst26, e15, e19]; rfl) O15.out (fun q hq => ⟨15, by decide, rfl, by rw [s15]; exact hq⟩) hr2 hch hown (fun o1 => ⟨_, _, rfl, rfl, by rw [HH.out.2.2]; exact o1⟩)
                  · show StepR _ _ _ _ _ _ _ [20] [20] 21 _
                    intro v S w HC HL HU HD Q hQ
                    obtain ⟨g20, v20, e20, s20, O20⟩ := Live.rws (HL 20 (by decide))
                    simp only [putsF, dst26, e20]
                    go_wp2_with fail
                    exact fin_pass hQ (by simp only [putsF, dst26, e20]; rfl) ⟨_, _, rfl, rfl, O20.out⟩ O20.out (fun q hq => ⟨20, by decide, rfl, by rw [s20]; exact hq⟩)
                  -- DEV}
                  · intro v S w HC HL HD
                    obtain ⟨⟨gh, vh, eh, sh, OH⟩, hU⟩ : (∃ gh vh, v 21 = .pointer (some ⟨gh, 0, none⟩) ∧ S 21 = Fpt gh vh ∧ Bx (One 44 5 w wc.heap.size ⟨gh, vh, headB z⟩)) ∧ ∀ k, S 21 k → fNo k ∨ wc.heap.size ≤ k := ⟨Live.rws (HL 21 (by decide) (by decide)).1, (HL 21 (by decide) (by decide)).2⟩
                    have HFin : Bx (Fam 44 5 w b0 [⟨gh, vh, headB z⟩, ⟨gb, .slice Ab nb cb, locsB (Z.take k)⟩, ⟨gd, vd, dirsB 0 (Z.take k)⟩]) := bx (HFX.out.push (S := fNo) (OH.out.more HBZ.out) HC (fun _ _ _ _ h => h) (fun q hq => by
                      rcases hU q (by rw [sh]; exact hq) with h | h
                      · exact h.elim
                      · exact h))
                    have HCin := bx HC
                    have HNin : Bx (∀ q, Fpt gh vh q → wc.heap.size ≤ q) := bx (fun q hq => by
                      rcases hU q (by rw [sh]; exact hq) with h | h
                      · exact h.elim
                      · exact h)
                    clear HL HD OH hU HC
                    show Exit.then _ _ Exit.normal (putsF dst26 v _ [21, 20, 19, 18, 17, 16, 15, 14, 13, 12, 11, 10, 9, 8, 7, 6, 5, 4, 3, 2, 1, 0]) w
                    simp only [putsF, dst26, eh, Act.put, List.setIfInBounds_toArray, List.set_cons_succ, List.set_cons_zero]
                    go_wp2_with fail
                    go_meet
                    case rel => exact ⟨gh, vh, rfl, HFin, HCin, HNin⟩
                case rest =>
                  obtain ⟨gh, vh, rfl, HF3, HC3, HN3⟩ := hcut
                  obtain ⟨wd, rfl⟩ : ∃ wd, wd = wc := ⟨_, rfl⟩
                  have HMM := bx hM
                  obtain ⟨AH, nH, cH, rfl, hnH, _⟩ := OwL.sl HF3.out.one.r.2
                  obtain ⟨AD, nD, cD, rfl, _, _⟩ := OwL.sl HF3.out.tail.tail.one.r.2
                  obtain ⟨o, ho⟩ : ∃ o, locsB (Z.take k) = o := ⟨_, rfl⟩
                  obtain ⟨d, hd⟩ : ∃ d, dirsB 0 (Z.take k) = d := ⟨_, rfl⟩
                  have HTL : Bx (locsB (Z.take (k + 1)) = (((o ++ [80, 75, 3, 4]) ++ headB z) ++ z.1.name) ++ z.2) := bx (by rw [locB_nums, ← ho, ← HZE.out]; exact locs_take HZA.out)
                  have HTD : Bx (dirsB 0 (Z.take (k + 1)) = ((((d ++ [80, 75, 1, 2, 20, 0]) ++ headB z) ++ zer3) ++ atH nb) ++ z.1.name) := bx (by rw [dirB_nums, ← hd, ← HZE.out, hnb.out]; exact dirs_take HZA.out)
                  have HP1 := HPART.out k
                  rw [ho, hd] at HP1
                  rw [ho] at HF3 HGA
                  rw [hd] at HF3 HGA
                  have hzn : z.1.name = sn.data.toList := by rw [← HZE.out]; exact HSN.out.symm
                  have HZN := bx hzn
                  have hol : o.length ≤ 3206016 := HP1.1
                  have hdl : d.length ≤ 7040 := HP1.2
                  have hhl : (headB z).length = 26 := headB_len z
                  have hsl : sn.data.toList.length ≤ 64 := hsz
                  have HLN : Bx (o.length ≤ 3206016 ∧ d.length ≤ 7040 ∧ (headB z).length = 26 ∧ sn.data.toList.length ≤ 64 ∧ z.2.length ≤ 50000) := bx ⟨hol, hdl, hhl, hsl, hzl⟩
                  obtain ⟨U, hU⟩ : ∃ U : Nat → Prop, (fun q => ∃ y ∈ [(⟨gh, .slice AH nH cH, headB z⟩ : RwS), ⟨gb, .slice Ab nb cb, o⟩, ⟨gd, .slice AD nD cD, d⟩], y.F q) = U := ⟨_, rfl⟩
                  have hzd : b0 ≤ wd.heap.size := Nat.le_trans (Nat.le_trans (Nat.le_of_eq HB0.out.symm) HWX.out.size) HC3.out.size
                  have HFM : Bx (Fmo 44 5 wd U wd b0 [⟨gh, .slice AH nH cH, headB z⟩, ⟨gb, .slice Ab nb cb, o⟩, ⟨gd, .slice AD nD cD, d⟩]) := bx (by rw [← hU]; exact Fmo.of hzd HF3.out)
                  have HUl : Bx (∀ q, U q → b0 ≤ q ∧ (q < g ∨ wc.heap.size ≤ q)) := bx (by
                    rintro q hq
                    rw [← hU] at hq
                    obtain ⟨y, hy, hyq⟩ := hq
                    refine ⟨(HF3.out.at_ y hy).low hyq, ?_⟩
                    rcases List.mem_cons.1 hy with e | e
                    · subst e; exact .inr (HN3.out q hyq)
                    · exact .inl (HGA.out y e q hyq))
                  have HKC : Bx (∀ wx, Ch wd wx U → Below b0 w wx ∧ Bk wx g 35 #[.string sn, .slice x.s.A x.s.n x.s.c, .bool x.sq] ∧ RB wx wx.heap.size A' z.2) := bx (by
                    intro wx hc
                    have hck : Ch wc wx U := (HC3.out.mono (fun _ _ h => h.elim)).trans hc (fun _ _ h => h)
                    refine ⟨hck.low HWX.out (Nat.le_trans (Nat.le_of_eq HB0.out.symm) HWX.out.size) (fun q hq => (HUl.out q hq).1), HBX.out.ch hck (fun hu => ?_), (rl_ch HPR.out hck (Nat.le_refl _) (fun hne q hq hu => ?_)).more hck.size⟩
                    · have := (HUl.out g hu).2
                      have := HBX.out.lt
                      omega
                    · have h1 := HUl.out _ hu
                      have h2 := HPA.out hne q hq
                      have h3 := rl_lo HPR.out hne q hq
                      have h4 := HGZ.out
                      omega)
                  clear hU hM HF3 HP1 ho hd hzn hol hdl hhl hsl hb0 hbl
                  have HFB := bx HFM.out.swap
                  go_wp2_with fail
                  refine (fput_any 4 1 [67324752] _ wd HFB.out rfl ((RL.news wd [67324752] _ rfl _ _).more (by simp)) (by decide) (by decide) (by decide) (Nat.le_trans HLN.out.1 (by decide))).mono ?_
                  rintro e w2 ⟨rfl, V2, HF2⟩
                  rw [sigL] at HF2
                  obtain ⟨A2, n2, c2, rfl, hn2, _⟩ := OwL.sl HF2.f.one.r.2
                  obtain ⟨r0, hr0⟩ : ∃ r, o ++ [80, 75, 3, 4] = r := ⟨_, rfl⟩
                  rw [hr0] at HF2
                  have hr0l : r0.length ≤ 3206020 := by rw [← hr0]; have := HLN.out; simp; omega
                  have N1 : Bx ((r0.length + (headB z).length) * 1 ≤ 140737488355328) := bx (by have := HLN.out; omega)
                  have N2 : Bx ((r0 ++ headB z).length + sn.size ≤ 140737488355328) := bx (by have := HLN.out; simp only [List.length_append]; omega)
                  have N3 : Bx ((((r0 ++ headB z) ++ sn.data.toList).length + z.2.length) * 1 ≤ 140737488355328) := bx (by have := HLN.out; simp only [List.length_append]; omega)
                  have HFS := bx HF2
                  have HFB := bx HF2.f.one
                  have HBR := bx HF2.z
                  have HHX : Bx (∀ wx, Ch w2 wx (Fpt gb (.slice A2 n2 c2)) → One 44 5 wx b0 ⟨gh, .slice AH nH cH, headB z⟩) := bx (fun wx hc => HFS.out.oth (by simp) hc)
                  have HKX : Bx (∀ wx, Ch w2 wx (Fpt gb (.slice A2 n2 c2)) → Below b0 w wx ∧ Bk wx g 35 #[.string sn, .slice x.s.A x.s.n x.s.c, .bool x.sq] ∧ RB wx wx.heap.size A' z.2) := bx (fun wx hc => HKC.out wx (HFS.out.chx hc))
                  have HR0 := bx hr0
                  clear HF2 hr0 hr0l
                  go_upto_region 28 with (fail)
                  refine wp_region_res (by kernel_rfl) dst28 (by kernel_rfl) (F28 44 5 b0 gb gh g (.slice A2 n2 c2) (.slice AH nH cH) (.slice A' p c') sn r0 (r0 ++ headB z) ((r0 ++ headB z) ++ sn.data.toList) (((r0 ++ headB z) ++ sn.data.toList) ++ z.2)) cons28 (Fpt gb (.slice A2 n2 c2)) D28 [[], [], [], [], [18]] (by kernel_rfl) undef (Fpt gb (.slice A2 n2 c2)) ⟨rfl, HFB.out⟩ (fun q h => HFB.out.lt h) (fun _ h => h) ⟨?_, ?_, ?_, ?_, ?_, ?_, ?_, ?_, ?_, ?_, ?_, ?_, ?_, ?_, ?_, ?_, ?_, ?_, trivial⟩ ?_
                  -- DEV{ iterate 18 (next => sorry)
                  · show StepR _ _ _ _ _ _ _ [] [] 0 _
                    intro v S w HC HL HU HD Q hQ
                    simp only [putsF]
                    go_wp2_with fail
                    exact fin_pure hQ rfl ⟨rfl, rfl⟩
                  · show StepR _ _ _ _ _ _ _ [] [] 1 _
                    intro v S w HC HL HU HD Q hQ
                    simp only [putsF]
                    go_wp2_with fail
                    exact fin_pure hQ rfl ⟨rfl, rfl⟩
                  · show StepR _ _ _ _ _ _ _ [1] [1] 2 _
                    intro v S w HC HL HU HD Q hQ
                    have e1 := Live.pure (HL 1 (by decide))
                    simp only [putsF, dst28, e1]
                    go_wp2_with fail
                    exact fin_pure hQ (by simp only [putsF, dst28, e1]; rfl) ⟨rfl, rfl⟩
                  · show StepR _ _ _ _ _ _ _ [2] [2] 3 _
                    intro v S w HC HL HU HD Q hQ
                    have e2 := Live.pure (HL 2 (by decide))
                    simp only [putsF, dst28, e2]
                    go_wp2_with fail
                    exact fin_pure hQ (by simp only [putsF, dst28, e2]; rfl) ⟨rfl, rfl⟩
                  · show StepR _ _ _ _ _ _ _ [3] [3, 18] 4 _
                    intro v S w HC HL HU HD Q hQ
                    have e3 := Live.pure (HL 3 (by decide))
                    obtain ⟨s18, O18⟩ := Live.rwi (HL 18 (by decide))
                    simp only [putsF, dst28, e3]
                    have hc0 := O18.out.r.1.cell 0
                    have hgl := O18.out.r.1.lt
                    go_wp2_with fail
                    exact fin_lod hQ (by simp only [putsF, dst28, e3]; rfl) O18.out (fun q hq => ⟨18, by decide, rfl, by rw [s18]; exact hq⟩) (fun h => h)
                  · show StepR _ _ _ _ _ _ _ [] [] 5 _
                    intro v S w HC HL HU HD Q hQ
                    simp only [putsF]
                    go_wp2_with fail
                    exact fin_pure hQ rfl ⟨rfl, rfl⟩
                  · show StepR _ _ _ _ _ _ _ [5] [5] 6 _
                    intro v S w HC HL HU HD Q hQ
                    have e5 := Live.pure (HL 5 (by decide))
                    simp only [putsF, dst28, e5]
                    go_wp2_with fail
                    exact fin_pure hQ (by simp only [putsF, dst28, e5]; rfl) ⟨rfl, rfl⟩
                  · show StepR _ _ _ _ _ _ _ [6] [6] 7 _
                    intro v S w HC HL HU HD Q hQ
                    have e6 := Live.pure (HL 6 (by decide))
                    simp only [putsF, dst28, e6]
                    go_wp2_with fail
                    exact fin_pure hQ (by simp only [putsF, dst28, e6]; rfl) ⟨rfl, rfl⟩
                  · show StepR _ _ _ _ _ _ _ [7] [7] 8 _
                    intro v S w HC HL HU HD Q hQ
                    have e7 := Live.pure (HL 7 (by decide))
                    simp only [putsF, dst28, e7]
                    have hk1 := HHX.out w HC
                    have hc0 := hk1.r.1.cell 0
                    have hgl := hk1.r.1.lt
                    clear hk1
                    go_wp2_with fail
                    exact fin_pure hQ (by simp only [putsF, dst28, e7]; rfl) ⟨rfl, rfl⟩
                  · show StepR _ _ _ _ _ _ _ [4, 8] [4, 8] 9 _
                    intro v S w HC HL HU HD Q hQ
                    obtain ⟨s4, o4, k4, n4, B4⟩ := Live.mid (HL 4 (by decide))
                    obtain ⟨V4, hV4⟩ : ∃ V, v 4 = V := ⟨_, rfl⟩
                    rw [hV4] at s4 o4 n4
                    have HV4 := bx hV4
                    clear hV4
                    have e8 := Live.pure (HL 8 (by decide))
                    simp only [putsF, dst28, HV4.out, e8]
                    go_wp2_with (at_builtin; refine wpList_appL _ bV_one rfl (.tmp 100) (.tmp 104) rfl byteTyP (by decide) b0 V4 r0 rfl o4.out w.heap.size AH nH cH (headB z) rfl hnH.out.symm (OwL.rl (HHX.out w HC).r.2) N1.out (Nat.le_trans HBR.out HC.size) ?_; intro v5 w5 hO5 hg5 hv5 _)
                    exact fin_app hQ (by simp only [putsF, dst28, HV4.out, e8]; rfl) k4.out n4 B4 (fun q hq => ⟨4, by decide, rfl, by rw [s4]; exact hq⟩) hO5 (.inl hg5) (grown_ch hg5 hv5).2 (fun h => h)
                  · show StepR _ _ _ _ _ _ _ [] [] 10 _
                    intro v S w HC HL HU HD Q hQ
                    simp only [putsF]
                    go_wp2_with fail
                    exact fin_pure hQ rfl ⟨rfl, rfl⟩
                  · show StepR _ _ _ _ _ _ _ [10] [10] 11 _
                    intro v S w HC HL HU HD Q hQ
                    have e10 := Live.pure (HL 10 (by decide))
                    simp only [putsF, dst28, e10]
                    have hk1 := (HKX.out w HC).2.1
                    have hc0 := hk1.cell 0
                    have hgl := hk1.lt
                    clear hk1
                    go_wp2_with fail
                    exact fin_pure hQ (by simp only [putsF, dst28, e10]; rfl) ⟨rfl, rfl⟩
                  · show StepR _ _ _ _ _ _ _ [9, 11] [9, 11] 12 _
                    intro v S w HC HL HU HD Q hQ
                    obtain ⟨s9, o9, k9, n9, B9⟩ := Live.mid (HL 9 (by decide))
                    obtain ⟨V9, hV9⟩ : ∃ V, v 9 = V := ⟨_, rfl⟩
                    rw [hV9] at s9 o9 n9
                    have HV9 := bx hV9
                    clear hV9
                    have e11 := Live.pure (HL 11 (by decide))
                    simp only [putsF, dst28, HV9.out, e11]
                    go_wp2_with (at_builtin; refine wpList_appStrG _ rfl (.tmp 105) (.tmp 107) rfl byteTyP Tryz.underlying9 b0 V9 (r0 ++ headB z) rfl o9.out sn rfl N2.out (Nat.le_trans HBR.out HC.size) ?_; intro v5 w5 hO5 hc5 hv5)
                    exact fin_app hQ (by simp only [putsF, dst28, HV9.out, e11]; rfl) k9.out n9 B9 (fun q hq => ⟨9, by decide, rfl, by rw [s9]; exact hq⟩) hO5 (.inr hc5) hv5 (fun h => h)
                  · show StepR _ _ _ _ _ _ _ [] [] 13 _
                    intro v S w HC HL HU HD Q hQ
                    simp only [putsF]
                    go_wp2_with fail
                    exact fin_pure hQ rfl ⟨rfl, rfl⟩
                  · show StepR _ _ _ _ _ _ _ [12, 13] [12, 13] 14 _
                    intro v S w HC HL HU HD Q hQ
                    obtain ⟨s12, o12, k12, n12, B12⟩ := Live.mid (HL 12 (by decide))
                    obtain ⟨V12, hV12⟩ : ∃ V, v 12 = V := ⟨_, rfl⟩
                    rw [hV12] at s12 o12 n12
                    have HV12 := bx hV12
                    clear hV12
                    have e13 := Live.pure (HL 13 (by decide))
                    simp only [putsF, dst28, HV12.out, e13]
                    go_wp2_with (at_builtin; refine wpList_appL _ bV_one rfl (.tmp 108) (.tmp 109) rfl byteTyP (by decide) b0 V12 ((r0 ++ headB z) ++ sn.data.toList) rfl o12.out w.heap.size A' p c' z.2 rfl HPn'.out.symm (HKX.out w HC).2.2 N3.out (Nat.le_trans HBR.out HC.size) ?_; intro v5 w5 hO5 hg5 hv5 _)
                    exact fin_app hQ (by simp only [putsF, dst28, HV12.out, e13]; rfl) k12.out n12 B12 (fun q hq => ⟨12, by decide, rfl, by rw [s12]; exact hq⟩) hO5 (.inl hg5) (grown_ch hg5 hv5).2 (fun h => h)
                  · show StepR _ _ _ _ _ _ _ [0] [0] 15 _
                    intro v S w HC HL HU HD Q hQ
                    have e0 := Live.pure (HL 0 (by decide))
                    simp only [putsF, dst28, e0]
                    go_wp2_with fail
                    exact fin_pure hQ (by simp only [putsF, dst28, e0]; rfl) ⟨rfl, rfl⟩
                  · show StepR _ _ _ _ _ _ _ [15] [15] 16 _
                    intro v S w HC HL HU HD Q hQ
                    have e15 := Live.pure (HL 15 (by decide))
                    simp only [putsF, dst28, e15]
                    go_wp2_with fail
                    exact fin_pure hQ (by simp only [putsF, dst28, e15]; rfl) ⟨rfl, rfl⟩
                  · show StepR _ _ _ _ _ _ _ [14, 16] [14, 16] 17 _
                    intro v S w HC HL HU HD Q hQ
                    obtain ⟨s14, o14, k14, n14, B14⟩ := Live.mid (HL 14 (by decide))
                    obtain ⟨V14, hV14⟩ : ∃ V, v 14 = V := ⟨_, rfl⟩
                    rw [hV14] at s14 o14 n14
                    have HV14 := bx hV14
                    clear hV14
                    have e16 := Live.pure (HL 16 (by decide))
                    simp only [putsF, dst28, HV14.out, e16]
                    obtain ⟨AZ, nZ, cZ, rfl, _, _⟩ := OwL.sl o14.out
                    have hc0 := k14.out.cell 0
                    have hf0 := k14.out.frz 0
                    have hgl := k14.out.lt
                    go_wp2_with fail
                    exact fin_sto (u := undef) hQ (by simp only [putsF, dst28, HV14.out, e16]; rfl) o14.out k14.out n14 B14 (fun q hq => ⟨14, by decide, rfl, by rw [s14]; exact hq⟩) (fun h => h)
                  -- DEV}
                  intro v S w3 HC HL HD
                  obtain ⟨v6, s6, O6⟩ := Live.st (HL 17 (by decide) (by decide)).1
                  have hu := (HL 17 (by decide) (by decide)).2
                  obtain ⟨A6, n6, c6, rfl, _, _⟩ := OwL.sl O6.out.r.2
                  have M7 := bx (HFS.out.stepO O6.out HC (fun q hq => hu q (by rw [s6]; exact hq)))
                  clear HL HD HC hu O6 s6 HFS HFB HHX HBR HKX N1 N2 N3
                  show Exit.then _ _ Exit.normal (putsF dst28 v _ [17, 16, 15, 14, 13, 12, 11, 10, 9, 8, 7, 6, 5, 4, 3, 2, 1, 0]) w3
                  simp only [putsF, dst28, Act.put, List.setIfInBounds_toArray, List.set_cons_succ, List.set_cons_zero]
                  have HO2 : Bx (((r0 ++ headB z) ++ sn.data.toList) ++ z.2 = locsB (Z.take (k + 1))) := bx (by rw [HTL.out, HZN.out, ← HR0.out])
                  rw [HO2.out] at M7
                  have HD3 := bx M7.out.swap2.swap
                  obtain ⟨A7, n7, c7, hA7⟩ : ∃ A n c, Value.slice A6 n6 c6 = .slice A n c := ⟨_, _, _, rfl⟩
                  rw [hA7] at HD3
                  clear M7 HR0 hA7
                  go_wp2_with fail
                  refine (fput_any 4 1 [33639248] _ w3 HD3.out rfl ((RL.news w3 [33639248] _ rfl _ _).more (by simp)) (by decide) (by decide) (by decide) (Nat.le_trans HLN.out.2.1 (by decide))).mono ?_
                  rintro e w4 ⟨rfl, D4, HF4⟩
                  rw [sigC] at HF4
                  have HF4 := bx HF4
                  go_wp2_with fail
                  refine (fput_any 2 1 [20] _ w4 HF4.out rfl ((RL.news w4 [20] _ rfl _ _).more (by simp)) (by decide) (by decide) (by decide) (by have := HLN.out.2.1; simp; omega)).mono ?_
                  rintro e w5 ⟨rfl, D5, HF5⟩
                  rw [sig2] at HF5
                  obtain ⟨A5, n5, c5, rfl, hn5, _⟩ := OwL.sl HF5.f.one.r.2
                  obtain ⟨d1, hd1⟩ : ∃ d1, (d ++ [80, 75, 1, 2]) ++ [20, 0] = d1 := ⟨_, rfl⟩
                  have hdl1 : d1.length ≤ 7046 := by rw [← hd1]; have := HLN.out.2.1; simp; omega
                  rw [hd1] at HF5
                  have HD1 : Bx (d1 = d ++ [80, 75, 1, 2, 20, 0]) := bx (by rw [← hd1, List.append_assoc]; rfl)
                  obtain ⟨r0, hr0⟩ : ∃ r, d1 = r := ⟨_, rfl⟩
                  rw [hr0] at HF5 HD1 hdl1
                  have N1 : Bx ((r0.length + (headB z).length) * 1 ≤ 140737488355328) := bx (by have := HLN.out; omega)
                  have HFS := bx HF5
                  have HFB := bx HF5.f.one
                  have HBR := bx HF5.z
                  have HHX : Bx (∀ wx, Ch w5 wx (Fpt gd (.slice A5 n5 c5)) → One 44 5 wx b0 ⟨gh, .slice AH nH cH, headB z⟩) := bx (fun wx hc => HFS.out.oth (by simp) hc)
                  clear HF4 HD3 hd1 HF5 hr0
                  go_upto_region 30 with (fail)
                  refine wp_region_res (by kernel_rfl) dst30 (by kernel_rfl) (F30 44 5 b0 gd gh (.slice A5 n5 c5) (.slice AH nH cH) r0 (r0 ++ headB z)) cons30 (Fpt gd (.slice A5 n5 c5)) D30 [[], [], [], [], [13]] (by kernel_rfl) undef (Fpt gd (.slice A5 n5 c5)) ⟨rfl, HFB.out⟩ (fun q h => HFB.out.lt h) (fun _ h => h) ⟨?_, ?_, ?_, ?_, ?_, ?_, ?_, ?_, ?_, ?_, ?_, ?_, ?_, trivial⟩ ?_
                  -- DEV{ iterate 13 (next => sorry)
                  · show StepR _ _ _ _ _ _ _ [] [] 0 _
                    intro v S w HC HL HU HD Q hQ
                    simp only [putsF]
                    go_wp2_with fail
                    exact fin_pure hQ rfl ⟨rfl, rfl⟩
                  · show StepR _ _ _ _ _ _ _ [] [] 1 _
                    intro v S w HC HL HU HD Q hQ
                    simp only [putsF]
                    go_wp2_with fail
                    exact fin_pure hQ rfl ⟨rfl, rfl⟩
                  · show StepR _ _ _ _ _ _ _ [1] [1] 2 _
                    intro v S w HC HL HU HD Q hQ
                    have e1 := Live.pure (HL 1 (by decide))
                    simp only [putsF, dst30, e1]
                    go_wp2_with fail
                    exact fin_pure hQ (by simp only [putsF, dst30, e1]; rfl) ⟨rfl, rfl⟩
                  · show StepR _ _ _ _ _ _ _ [2] [2] 3 _
                    intro v S w HC HL HU HD Q hQ
                    have e2 := Live.pure (HL 2 (by decide))
                    simp only [putsF, dst30, e2]
                    go_wp2_with fail
                    exact fin_pure hQ (by simp only [putsF, dst30, e2]; rfl) ⟨rfl, rfl⟩
                  · show StepR _ _ _ _ _ _ _ [3] [3, 13] 4 _
                    intro v S w HC HL HU HD Q hQ
                    have e3 := Live.pure (HL 3 (by decide))
                    obtain ⟨s13, O13⟩ := Live.rwi (HL 13 (by decide))
                    simp only [putsF, dst30, e3]
                    have hc0 := O13.out.r.1.cell 0
                    have hgl := O13.out.r.1.lt
                    go_wp2_with fail
                    exact fin_lod hQ (by simp only [putsF, dst30, e3]; rfl) O13.out (fun q hq => ⟨13, by decide, rfl, by rw [s13]; exact hq⟩) (fun h => h)
                  · show StepR _ _ _ _ _ _ _ [] [] 5 _
                    intro v S w HC HL HU HD Q hQ
                    simp only [putsF]
                    go_wp2_with fail
                    exact fin_pure hQ rfl ⟨rfl, rfl⟩
                  · show StepR _ _ _ _ _ _ _ [5] [5] 6 _
                    intro v S w HC HL HU HD Q hQ
                    have e5 := Live.pure (HL 5 (by decide))
                    simp only [putsF, dst30, e5]
                    go_wp2_with fail
                    exact fin_pure hQ (by simp only [putsF, dst30, e5]; rfl) ⟨rfl, rfl⟩
                  · show StepR _ _ _ _ _ _ _ [6] [6] 7 _
                    intro v S w HC HL HU HD Q hQ
                    have e6 := Live.pure (HL 6 (by decide))
                    simp only [putsF, dst30, e6]
                    go_wp2_with fail
                    exact fin_pure hQ (by simp only [putsF, dst30, e6]; rfl) ⟨rfl, rfl⟩
                  · show StepR _ _ _ _ _ _ _ [7] [7] 8 _
                    intro v S w HC HL HU HD Q hQ
                    have e7 := Live.pure (HL 7 (by decide))
                    simp only [putsF, dst30, e7]
                    have hk1 := HHX.out w HC
                    have hc0 := hk1.r.1.cell 0
                    have hgl := hk1.r.1.lt
                    clear hk1
                    go_wp2_with fail
                    exact fin_pure hQ (by simp only [putsF, dst30, e7]; rfl) ⟨rfl, rfl⟩
                  · show StepR _ _ _ _ _ _ _ [4, 8] [4, 8] 9 _
                    intro v S w HC HL HU HD Q hQ
                    obtain ⟨s4, o4, k4, n4, B4⟩ := Live.mid (HL 4 (by decide))
                    obtain ⟨V4, hV4⟩ : ∃ V, v 4 = V := ⟨_, rfl⟩
                    rw [hV4] at s4 o4 n4
                    have HV4 := bx hV4
                    clear hV4
                    have e8 := Live.pure (HL 8 (by decide))
                    simp only [putsF, dst30, HV4.out, e8]
                    go_wp2_with (at_builtin; refine wpList_appL _ bV_one rfl (.tmp 122) (.tmp 126) rfl byteTyP (by decide) b0 V4 r0 rfl o4.out w.heap.size AH nH cH (headB z) rfl hnH.out.symm (OwL.rl (HHX.out w HC).r.2) N1.out (Nat.le_trans HBR.out HC.size) ?_; intro v5 w5 hO5 hg5 hv5 _)
                    exact fin_app hQ (by simp only [putsF, dst30, HV4.out, e8]; rfl) k4.out n4 B4 (fun q hq => ⟨4, by decide, rfl, by rw [s4]; exact hq⟩) hO5 (.inl hg5) (grown_ch hg5 hv5).2 (fun h => h)
                  · show StepR _ _ _ _ _ _ _ [0] [0] 10 _
                    intro v S w HC HL HU HD Q hQ
                    have e0 := Live.pure (HL 0 (by decide))
                    simp only [putsF, dst30, e0]
                    go_wp2_with fail
                    exact fin_pure hQ (by simp only [putsF, dst30, e0]; rfl) ⟨rfl, rfl⟩
                  · show StepR _ _ _ _ _ _ _ [10] [10] 11 _
                    intro v S w HC HL HU HD Q hQ
                    have e10 := Live.pure (HL 10 (by decide))
                    simp only [putsF, dst30, e10]
                    go_wp2_with fail
                    exact fin_pure hQ (by simp only [putsF, dst30, e10]; rfl) ⟨rfl, rfl⟩
                  · show StepR _ _ _ _ _ _ _ [9, 11] [9, 11] 12 _
                    intro v S w HC HL HU HD Q hQ
                    obtain ⟨s9, o9, k9, n9, B9⟩ := Live.mid (HL 9 (by decide))
                    obtain ⟨V9, hV9⟩ : ∃ V, v 9 = V := ⟨_, rfl⟩
                    rw [hV9] at s9 o9 n9
                    have HV9 := bx hV9
                    clear hV9
                    have e11 := Live.pure (HL 11 (by decide))
                    simp only [putsF, dst30, HV9.out, e11]
                    obtain ⟨AZ, nZ, cZ, rfl, _, _⟩ := OwL.sl o9.out
                    have hc0 := k9.out.cell 0
                    have hf0 := k9.out.frz 0
                    have hgl := k9.out.lt
                    go_wp2_with fail
                    exact fin_sto (u := undef) hQ (by simp only [putsF, dst30, HV9.out, e11]; rfl) o9.out k9.out n9 B9 (fun q hq => ⟨9, by decide, rfl, by rw [s9]; exact hq⟩) (fun h => h)
                  -- DEV}
                  intro v S w7 HC HL HD
                  obtain ⟨v6, s6, O6⟩ := Live.st (HL 12 (by decide) (by decide)).1
                  have hu := (HL 12 (by decide) (by decide)).2
                  obtain ⟨A6, n6, c6, rfl, _, _⟩ := OwL.sl O6.out.r.2
                  have M7 := bx (HFS.out.stepO O6.out HC (fun q hq => hu q (by rw [s6]; exact hq)))
                  clear HL HD HC hu O6 s6 HFS HFB HHX HBR N1
                  show Exit.then _ _ Exit.normal (putsF dst30 v _ [12, 11, 10, 9, 8, 7, 6, 5, 4, 3, 2, 1, 0]) w7
                  simp only [putsF, dst30, Act.put, List.setIfInBounds_toArray, List.set_cons_succ, List.set_cons_zero]
                  have hdl2 : (r0 ++ headB z).length ≤ 7072 := by rw [List.length_append]; have := HLN.out; omega
                  have HDL2 := bx hdl2
                  clear hdl1 hdl2
                  go_wp2_with fail
                  refine (fput_any 2 3 [0, 0, 0] _ w7 M7.out rfl ((RL.news w7 [0, 0, 0] _ rfl _ _).more (by simp)) (by decide) (by decide) (by decide) (Nat.le_trans HDL2.out (by decide))).mono ?_
                  rintro e w8 ⟨rfl, D8, HF8⟩
                  have HF8 := bx HF8
                  go_wp2_with fail
                  refine (fput_any 4 2 [0, (nb : Int)] _ w8 HF8.out rfl ((RL.news w8 [0, (nb : Int)] _ rfl _ _).more (by simp)) (by decide) (by decide) (by decide) (show ((r0 ++ headB z) ++ ([0, 0, 0] : List Int).flatMap (leB 2)).length ≤ 4000000 from by rw [List.length_append, putL_len]; have := HDL2.out; simp only [List.length_cons, List.length_nil]; omega)).mono ?_
                  rintro e w9 ⟨rfl, D9, HF9⟩
                  obtain ⟨A9, n9, c9, rfl, hn9, _⟩ := OwL.sl HF9.f.one.r.2
                  obtain ⟨d2, hd2⟩ : ∃ d2, (r0 ++ headB z) ++ ([0, 0, 0] : List Int).flatMap (leB 2) ++ ([0, (nb : Int)] : List Int).flatMap (leB 4) = d2 := ⟨_, rfl⟩
                  have hd2l : d2.length ≤ 7090 := by rw [← hd2, List.length_append, List.length_append, putL_len, putL_len]; have := HDL2.out; simp only [List.length_cons, List.length_nil]; omega
                  have HD2 : Bx (d2 ++ sn.data.toList = dirsB 0 (Z.take (k + 1))) := bx (by rw [HTD.out, HZN.out, ← hd2, HD1.out]; rfl)
                  rw [hd2] at HF9
                  obtain ⟨r0, hr0⟩ : ∃ r, d2 = r := ⟨_, rfl⟩
                  rw [hr0] at HF9 HD2 hd2l
                  have N1 : Bx (r0.length + sn.size ≤ 140737488355328) := bx (by omega)
                  have HFS := bx HF9
                  have HFB := bx HF9.f.one
                  have HBR := bx HF9.z
                  have HHX := bx (Nat.le_refl 0)
                  have HKX : Bx (∀ wx, Ch w9 wx (Fpt gd (.slice A9 n9 c9)) → Below b0 w wx ∧ Bk wx g 35 #[.string sn, .slice x.s.A x.s.n x.s.c, .bool x.sq] ∧ RB wx wx.heap.size A' z.2) := bx (fun wx hc => HKC.out wx (HFS.out.chx hc))
                  clear HF8 M7 HF9 hd2 hd2l HD1 hr0 hn9
                  go_upto_region 32 with (fail)
                  refine wp_region_res (by kernel_rfl) dst32 (by kernel_rfl) (F32 44 5 b0 gd g (.slice A9 n9 c9) sn r0 (r0 ++ sn.data.toList)) cons32 (Fpt gd (.slice A9 n9 c9)) D32 [[], [], [], [], [11]] (by kernel_rfl) undef (Fpt gd (.slice A9 n9 c9)) ⟨rfl, HFB.out⟩ (fun q h => HFB.out.lt h) (fun _ h => h) ⟨?_, ?_, ?_, ?_, ?_, ?_, ?_, ?_, ?_, ?_, ?_, trivial⟩ ?_
                  -- DEV{ iterate 11 (next => sorry)
                  · show StepR _ _ _ _ _ _ _ [] [] 0 _
                    intro v S w HC HL HU HD Q hQ
                    simp only [putsF]
                    go_wp2_with fail
                    exact fin_pure hQ rfl ⟨rfl, rfl⟩
                  · show StepR _ _ _ _ _ _ _ [] [] 1 _
                    intro v S w HC HL HU HD Q hQ
                    simp only [putsF]
                    go_wp2_with fail
                    exact fin_pure hQ rfl ⟨rfl, rfl⟩
                  · show StepR _ _ _ _ _ _ _ [1] [1] 2 _
                    intro v S w HC HL HU HD Q hQ
                    have e1 := Live.pure (HL 1 (by decide))
                    simp only [putsF, dst32, e1]
                    go_wp2_with fail
                    exact fin_pure hQ (by simp only [putsF, dst32, e1]; rfl) ⟨rfl, rfl⟩
                  · show StepR _ _ _ _ _ _ _ [2] [2] 3 _
                    intro v S w HC HL HU HD Q hQ
                    have e2 := Live.pure (HL 2 (by decide))
                    simp only [putsF, dst32, e2]
                    go_wp2_with fail
                    exact fin_pure hQ (by simp only [putsF, dst32, e2]; rfl) ⟨rfl, rfl⟩
                  · show StepR _ _ _ _ _ _ _ [3] [3, 11] 4 _
                    intro v S w HC HL HU HD Q hQ
                    have e3 := Live.pure (HL 3 (by decide))
                    obtain ⟨s11, O11⟩ := Live.rwi (HL 11 (by decide))
                    simp only [putsF, dst32, e3]
                    have hc0 := O11.out.r.1.cell 0
                    have hgl := O11.out.r.1.lt
                    go_wp2_with fail
                    exact fin_lod hQ (by simp only [putsF, dst32, e3]; rfl) O11.out (fun q hq => ⟨11, by decide, rfl, by rw [s11]; exact hq⟩) (fun h => h)
                  · show StepR _ _ _ _ _ _ _ [] [] 5 _
                    intro v S w HC HL HU HD Q hQ
                    simp only [putsF]
                    go_wp2_with fail
                    exact fin_pure hQ rfl ⟨rfl, rfl⟩
                  · show StepR _ _ _ _ _ _ _ [5] [5] 6 _
                    intro v S w HC HL HU HD Q hQ
                    have e5 := Live.pure (HL 5 (by decide))
                    simp only [putsF, dst32, e5]
                    have hk1 := (HKX.out w HC).2.1
                    have hc0 := hk1.cell 0
                    have hgl := hk1.lt
                    clear hk1
                    go_wp2_with fail
                    exact fin_pure hQ (by simp only [putsF, dst32, e5]; rfl) ⟨rfl, rfl⟩
                  · show StepR _ _ _ _ _ _ _ [4, 6] [4, 6] 7 _
                    intro v S w HC HL HU HD Q hQ
                    obtain ⟨s4, o4, k4, n4, B4⟩ := Live.mid (HL 4 (by decide))
                    obtain ⟨V4, hV4⟩ : ∃ V, v 4 = V := ⟨_, rfl⟩
                    rw [hV4] at s4 o4 n4
                    have HV4 := bx hV4
                    clear hV4
                    have e6 := Live.pure (HL 6 (by decide))
                    simp only [putsF, dst32, HV4.out, e6]
                    go_wp2_with (at_builtin; refine wpList_appStrG _ rfl (.tmp 140) (.tmp 142) rfl byteTyP Tryz.underlying9 b0 V4 r0 rfl o4.out sn rfl N1.out (Nat.le_trans HBR.out HC.size) ?_; intro v5 w5 hO5 hc5 hv5)
                    exact fin_app hQ (by simp only [putsF, dst32, HV4.out, e6]; rfl) k4.out n4 B4 (fun q hq => ⟨4, by decide, rfl, by rw [s4]; exact hq⟩) hO5 (.inr hc5) hv5 (fun h => h)
                  · show StepR _ _ _ _ _ _ _ [0] [0] 8 _
                    intro v S w HC HL HU HD Q hQ
                    have e0 := Live.pure (HL 0 (by decide))
                    simp only [putsF, dst32, e0]
                    go_wp2_with fail
                    exact fin_pure hQ (by simp only [putsF, dst32, e0]; rfl) ⟨rfl, rfl⟩
                  · show StepR _ _ _ _ _ _ _ [8] [8] 9 _
                    intro v S w HC HL HU HD Q hQ
                    have e8 := Live.pure (HL 8 (by decide))
                    simp only [putsF, dst32, e8]
                    go_wp2_with fail
                    exact fin_pure hQ (by simp only [putsF, dst32, e8]; rfl) ⟨rfl, rfl⟩
                  · show StepR _ _ _ _ _ _ _ [7, 9] [7, 9] 10 _
                    intro v S w HC HL HU HD Q hQ
                    obtain ⟨s7, o7, k7, n7, B7⟩ := Live.mid (HL 7 (by decide))
                    obtain ⟨V7, hV7⟩ : ∃ V, v 7 = V := ⟨_, rfl⟩
                    rw [hV7] at s7 o7 n7
                    have HV7 := bx hV7
                    clear hV7
                    have e9 := Live.pure (HL 9 (by decide))
                    simp only [putsF, dst32, HV7.out, e9]
                    obtain ⟨AZ, nZ, cZ, rfl, _, _⟩ := OwL.sl o7.out
                    have hc0 := k7.out.cell 0
                    have hf0 := k7.out.frz 0
                    have hgl := k7.out.lt
                    go_wp2_with fail
                    exact fin_sto (u := undef) hQ (by simp only [putsF, dst32, HV7.out, e9]; rfl) o7.out k7.out n7 B7 (fun q hq => ⟨7, by decide, rfl, by rw [s7]; exact hq⟩) (fun h => h)
                  -- DEV}
                  intro v S wE HC HL HD
                  obtain ⟨v6, s6, O6⟩ := Live.st (HL 10 (by decide) (by decide)).1
                  have hu := (HL 10 (by decide) (by decide)).2
                  obtain ⟨A6, n6, c6, rfl, _, _⟩ := OwL.sl O6.out.r.2
                  have M7 := bx (HFS.out.stepO O6.out HC (fun q hq => hu q (by rw [s6]; exact hq)))
                  clear HL HD HC hu O6 s6 HFS HFB HHX HBR HKX N1
                  show Exit.inBlock _ _ Exit.normal (putsF dst32 v _ [10, 9, 8, 7, 6, 5, 4, 3, 2, 1, 0]) wE
                  simp only [putsF, dst32, Act.put, List.setIfInBounds_toArray, List.set_cons_succ, List.set_cons_zero]
                  rw [HD2.out] at M7
                  have HEND : Bx (Fam 44 5 wE b0 [⟨gb, .slice A7 n7 c7, locsB (Z.take (k + 1))⟩, ⟨gd, .slice A6 n6 c6, dirsB 0 (Z.take (k + 1))⟩]) := bx M7.out.swap2.swap.tail.swap.f
                  have HBEND := bx (HKC.out _ M7.out.c).1
                  clear M7
                  go_wp2
                  go_roundw
                  case rel => exact ⟨k + 1, _, _, by omega, by go_num, HEND, HBEND⟩
                  case measure => simp [intOf]; omega
          · have hkI : ¬ (k : Int) < (t : Int) := by omega
            obtain rfl : k = t := by omega
            have HTK : Bx (Z.take k = Z) := bx (List.take_of_length_le (by rw [HZl.out]; exact Nat.le_refl _))
            have HP1 := HPART.out k
            rw [HTK.out] at HFM hnb HP1
            obtain ⟨AD, nD, cD, rfl, hnD, _⟩ := OwL.sl HFM.out.tail.one.r.2
            have HAN := HFM.out.one.r.1.lt
            obtain ⟨o, ho⟩ : ∃ o, locsB Z = o := ⟨_, rfl⟩
            obtain ⟨d, hd⟩ : ∃ d, dirsB 0 Z = d := ⟨_, rfl⟩
            have HBKZ : Bx (((((o ++ d) ++ [80, 75, 5, 6, 0, 0, 0, 0]) ++ ([(k : Int), (k : Int)] : List Int).flatMap (leB 2)) ++ ([(nD : Int), (nb : Int)] : List Int).flatMap (leB 4)) ++ ([0] : List Int).flatMap (leB 2) = bookB Z) := bx (by
              rw [← book_nums Z, ← ho, ← hd, hnD.out, hnb.out, HZl.out]; rfl)
            rw [ho] at HFM hnb HP1
            rw [hd] at HFM hnD HP1
            have hol : o.length ≤ 3206016 := HP1.1
            have hdl : d.length ≤ 7040 := HP1.2
            have hnDl : nD = d.length := hnD.out
            have HFO := bx (Fmo.of (T := 44) (E := 5) (Nat.le_trans (Nat.le_of_eq HB0.out.symm) HW.out.size) HFM.out)
            obtain ⟨U, hU⟩ : ∃ U : Nat → Prop, (fun q => ∃ y ∈ [(⟨gb, .slice Ab nb cb, o⟩ : RwS), ⟨gd, .slice AD nD cD, d⟩], y.F q) = U := ⟨_, rfl⟩
            rw [hU] at HFO
            have HUB : Bx (∀ wx, Ch wr wx U → Below b0 w wx) := bx (fun wx hc => hc.low HW.out (Nat.le_trans (Nat.le_of_eq HB0.out.symm) HW.out.size) (fun q hq => by
              rw [← hU] at hq
              obtain ⟨y, hy, hyq⟩ := hq
              exact (HFM.out.at_ y hy).low hyq))
            have hc0 := HFM.out.one.r.1.cell 0
            obtain ⟨r0, hr0⟩ : ∃ r, o = r := ⟨_, rfl⟩
            rw [hr0] at HFO HBKZ hol hnb
            have N1 : Bx ((r0.length + d.length) * 1 ≤ 140737488355328) := bx (by omega)
            have HFS := bx HFO.out
            have HFB := bx HFO.out.f.one
            have HBR := bx HFO.out.z
            have HHX : Bx (∀ wx, Ch wr wx (Fpt gb (.slice Ab nb cb)) → One 44 5 wx b0 ⟨gd, .slice AD nD cD, d⟩) := bx (fun wx hc => HFS.out.oth (by simp) hc)
            have HOL := bx hol
            have HDL := bx hdl
            clear HP1 ho hd hU hol hdl HTK hnDl HFO
            go_upto_region 35 with (fail)
            refine wp_region_res (by kernel_rfl) dst35 (by kernel_rfl) (F30 44 5 b0 gb gd (.slice Ab nb cb) (.slice AD nD cD) r0 (r0 ++ d)) cons30 (Fpt gb (.slice Ab nb cb)) D30 [[], [], [], [], [13]] (by kernel_rfl) undef (Fpt gb (.slice Ab nb cb)) ⟨rfl, HFB.out⟩ (fun q h => HFB.out.lt h) (fun _ h => h) ⟨?_, ?_, ?_, ?_, ?_, ?_, ?_, ?_, ?_, ?_, ?_, ?_, ?_, trivial⟩ ?_
            -- DEV{ iterate 13 (next => sorry)
            · show StepR _ _ _ _ _ _ _ [] [] 0 _
              intro v S w HC HL HU HD Q hQ
              simp only [putsF]
              go_wp2_with fail
              exact fin_pure hQ rfl ⟨rfl, rfl⟩
            · show StepR _ _ _ _ _ _ _ [] [] 1 _
              intro v S w HC HL HU HD Q hQ
              simp only [putsF]
              go_wp2_with fail
              exact fin_pure hQ rfl ⟨rfl, rfl⟩
            · show StepR _ _ _ _ _ _ _ [1] [1] 2 _
              intro v S w HC HL HU HD Q hQ
              have e1 := Live.pure (HL 1 (by decide))
              simp only [putsF, dst35, e1]
              go_wp2_with fail
              exact fin_pure hQ (by simp only [putsF, dst35, e1]; rfl) ⟨rfl, rfl⟩
            · show StepR _ _ _ _ _ _ _ [2] [2] 3 _
              intro v S w HC HL HU HD Q hQ
              have e2 := Live.pure (HL 2 (by decide))
              simp only [putsF, dst35, e2]
              go_wp2_with fail
              exact fin_pure hQ (by simp only [putsF, dst35, e2]; rfl) ⟨rfl, rfl⟩
            · show StepR _ _ _ _ _ _ _ [3] [3, 13] 4 _
              intro v S w HC HL HU HD Q hQ
              have e3 := Live.pure (HL 3 (by decide))
              obtain ⟨s13, O13⟩ := Live.rwi (HL 13 (by decide))
              simp only [putsF, dst35, e3]
              have hc0 := O13.out.r.1.cell 0
              have hgl := O13.out.r.1.lt
              go_wp2_with fail
              exact fin_lod hQ (by simp only [putsF, dst35, e3]; rfl) O13.out (fun q hq => ⟨13, by decide, rfl, by rw [s13]; exact hq⟩) (fun h => h)
            · show StepR _ _ _ _ _ _ _ [] [] 5 _
              intro v S w HC HL HU HD Q hQ
              simp only [putsF]
              go_wp2_with fail
              exact fin_pure hQ rfl ⟨rfl, rfl⟩
            · show StepR _ _ _ _ _ _ _ [5] [5] 6 _
              intro v S w HC HL HU HD Q hQ
              have e5 := Live.pure (HL 5 (by decide))
              simp only [putsF, dst35, e5]
              go_wp2_with fail
              exact fin_pure hQ (by simp only [putsF, dst35, e5]; rfl) ⟨rfl, rfl⟩
            · show StepR _ _ _ _ _ _ _ [6] [6] 7 _
              intro v S w HC HL HU HD Q hQ
              have e6 := Live.pure (HL 6 (by decide))
              simp only [putsF, dst35, e6]
              go_wp2_with fail
              exact fin_pure hQ (by simp only [putsF, dst35, e6]; rfl) ⟨rfl, rfl⟩
            · show StepR _ _ _ _ _ _ _ [7] [7] 8 _
              intro v S w HC HL HU HD Q hQ
              have e7 := Live.pure (HL 7 (by decide))
              simp only [putsF, dst35, e7]
              have hk1 := HHX.out w HC
              have hc0 := hk1.r.1.cell 0
              have hgl := hk1.r.1.lt
              clear hk1
              go_wp2_with fail
              exact fin_pure hQ (by simp only [putsF, dst35, e7]; rfl) ⟨rfl, rfl⟩
            · show StepR _ _ _ _ _ _ _ [4, 8] [4, 8] 9 _
              intro v S w HC HL HU HD Q hQ
              obtain ⟨s4, o4, k4, n4, B4⟩ := Live.mid (HL 4 (by decide))
              obtain ⟨V4, hV4⟩ : ∃ V, v 4 = V := ⟨_, rfl⟩
              rw [hV4] at s4 o4 n4
              have HV4 := bx hV4
              clear hV4
              have e8 := Live.pure (HL 8 (by decide))
              simp only [putsF, dst35, HV4.out, e8]
              go_wp2_with (at_builtin; refine wpList_appL _ bV_one rfl (.tmp 156) (.tmp 160) rfl byteTyP (by decide) b0 V4 r0 rfl o4.out w.heap.size AD nD cD d rfl hnD.out.symm (OwL.rl (HHX.out w HC).r.2) N1.out (Nat.le_trans HBR.out HC.size) ?_; intro v5 w5 hO5 hg5 hv5 _)
              exact fin_app hQ (by simp only [putsF, dst35, HV4.out, e8]; rfl) k4.out n4 B4 (fun q hq => ⟨4, by decide, rfl, by rw [s4]; exact hq⟩) hO5 (.inl hg5) (grown_ch hg5 hv5).2 (fun h => h)
            · show StepR _ _ _ _ _ _ _ [0] [0] 10 _
              intro v S w HC HL HU HD Q hQ
              have e0 := Live.pure (HL 0 (by decide))
              simp only [putsF, dst35, e0]
              go_wp2_with fail
              exact fin_pure hQ (by simp only [putsF, dst35, e0]; rfl) ⟨rfl, rfl⟩
            · show StepR _ _ _ _ _ _ _ [10] [10] 11 _
              intro v S w HC HL HU HD Q hQ
              have e10 := Live.pure (HL 10 (by decide))
              simp only [putsF, dst35, e10]
              go_wp2_with fail
              exact fin_pure hQ (by simp only [putsF, dst35, e10]; rfl) ⟨rfl, rfl⟩
            · show StepR _ _ _ _ _ _ _ [9, 11] [9, 11] 12 _
              intro v S w HC HL HU HD Q hQ
              obtain ⟨s9, o9, k9, n9, B9⟩ := Live.mid (HL 9 (by decide))
              obtain ⟨V9, hV9⟩ : ∃ V, v 9 = V := ⟨_, rfl⟩
              rw [hV9] at s9 o9 n9
              have HV9 := bx hV9
              clear hV9
              have e11 := Live.pure (HL 11 (by decide))
              simp only [putsF, dst35, HV9.out, e11]
              obtain ⟨AZ, nZ, cZ, rfl, _, _⟩ := OwL.sl o9.out
              have hc0 := k9.out.cell 0
              have hf0 := k9.out.frz 0
              have hgl := k9.out.lt
              go_wp2_with fail
              exact fin_sto (u := undef) hQ (by simp only [putsF, dst35, HV9.out, e11]; rfl) o9.out k9.out n9 B9 (fun q hq => ⟨9, by decide, rfl, by rw [s9]; exact hq⟩) (fun h => h)
            -- DEV}
            intro v S w7 HC HL HD
            obtain ⟨v6, s6, O6⟩ := Live.st (HL 12 (by decide) (by decide)).1
            have hu := (HL 12 (by decide) (by decide)).2
            obtain ⟨A6, n6, c6, rfl, _, _⟩ := OwL.sl O6.out.r.2
            have M7 := bx (HFS.out.stepO O6.out HC (fun q hq => hu q (by rw [s6]; exact hq)))
            clear HL HD HC hu O6 s6 HFS HFB HHX HBR N1 hc0
            show Exit.then _ _ Exit.normal (putsF dst35 v _ [12, 11, 10, 9, 8, 7, 6, 5, 4, 3, 2, 1, 0]) w7
            simp only [putsF, dst35, Act.put, List.setIfInBounds_toArray, List.set_cons_succ, List.set_cons_zero]
            obtain ⟨l0, hl0⟩ : ∃ l0, r0 ++ d = l0 := ⟨_, rfl⟩
            rw [hl0] at M7 HBKZ
            obtain ⟨vb2, hvb2⟩ : ∃ v, Value.slice A6 n6 c6 = v := ⟨_, rfl⟩
            rw [hvb2] at M7
            have hll0 : l0.length ≤ 3213056 := by rw [← hl0, List.length_append]; have := HOL.out; have := HDL.out; omega
            obtain ⟨l1, hl1⟩ : ∃ l1, l0 ++ ([101010256, 0] : List Int).flatMap (leB 4) = l1 := ⟨_, rfl⟩
            obtain ⟨l2, hl2⟩ : ∃ l2, l1 ++ ([(k : Int), (k : Int)] : List Int).flatMap (leB 2) = l2 := ⟨_, rfl⟩
            obtain ⟨l3, hl3⟩ : ∃ l3, l2 ++ ([(nD : Int), (nb : Int)] : List Int).flatMap (leB 4) = l3 := ⟨_, rfl⟩
            obtain ⟨l4, hl4⟩ : ∃ l4, l3 ++ ([0] : List Int).flatMap (leB 2) = l4 := ⟨_, rfl⟩
            have HL4 : Bx (l4 = bookB Z) := bx (by rw [← HBKZ.out, ← hl4, ← hl3, ← hl2, ← hl1, sigE])
            have hll1 : l1.length ≤ 3213064 := by rw [← hl1, List.length_append, putL_len]; simp only [List.length_cons, List.length_nil]; omega
            have hll2 : l2.length ≤ 3213068 := by rw [← hl2, List.length_append, putL_len]; simp only [List.length_cons, List.length_nil]; omega
            have hll3 : l3.length ≤ 3213076 := by rw [← hl3, List.length_append, putL_len]; simp only [List.length_cons, List.length_nil]; omega
            have HLL : Bx (l0.length ≤ 4000000 ∧ l1.length ≤ 4000000 ∧ l2.length ≤ 4000000 ∧ l3.length ≤ 4000000) := bx ⟨by omega, by omega, by omega, by omega⟩
            have HH : Bx (l1 = l0 ++ ([101010256, 0] : List Int).flatMap (leB 4) ∧ l2 = l1 ++ ([(k : Int), (k : Int)] : List Int).flatMap (leB 2) ∧ l3 = l2 ++ ([(nD : Int), (nb : Int)] : List Int).flatMap (leB 4) ∧ l4 = l3 ++ ([0] : List Int).flatMap (leB 2)) := bx ⟨hl1.symm, hl2.symm, hl3.symm, hl4.symm⟩
            have HBZ : Bx (b0 ≤ w7.heap.size) := bx M7.out.z
            have HFB : Bx (One 44 5 w7 b0 ⟨gb, vb2, l0⟩) := bx M7.out.f.one
            have HFD : Bx (One 44 5 w7 b0 ⟨gd, .slice AD nD cD, d⟩) := bx M7.out.f.tail.one
            have HAP : Bx (∀ q, Fpt gb vb2 q → ¬ Fpt gd (.slice AD nD cD) q) := bx (fun q hq hq2 => M7.out.f.2.1 ⟨gd, .slice AD nD cD, d⟩ (by simp) q hq hq2)
            have HWD : Bx (∀ wx, Ch w7 wx (Fpt gb vb2) → Below b0 w wx) := bx (fun wx hc => hc.low (HUB.out _ M7.out.c) M7.out.z (fun q hq => M7.out.f.one.low hq))
            clear hr0 hl0 hvb2 hl1 hl2 hl3 hl4 hll0 hll1 hll2 hll3 M7 HBKZ HFM HAN HUB
            go_upto_region 36 with (fail)
            refine wp_region_res (by kernel_rfl) dst36 (by kernel_rfl) (F36 44 5 b0 (.slice A k c) (.slice AD nD cD) vb2 (k : Int) (nD : Int) (nb : Int) gb gd l0 l1 l2 l3 l4) cons36 (Fpt gb vb2) D36 [[], [], [19]] (by kernel_rfl) undef (Fpt gb vb2) ⟨rfl, HFB.out⟩ (fun q h => HFB.out.lt h) (fun _ h => h) ⟨?_, ?_, ?_, ?_, ?_, ?_, ?_, ?_, ?_, ?_, ?_, ?_, ?_, ?_, ?_, ?_, ?_, ?_, ?_, trivial⟩ ?_
            -- DEV{ iterate 19 (next => sorry)
            · show StepR _ _ _ _ _ _ _ [] [] 0 _
              intro v S w HC HL HU HD Q hQ
              simp only [putsF]
              go_wp2_with fail
              exact fin_pure hQ rfl ⟨rfl, rfl⟩
            · show StepR _ _ _ _ _ _ _ [] [] 1 _
              intro v S w HC HL HU HD Q hQ
              simp only [putsF]
              go_wp2_with fail
              exact fin_blk hQ rfl ⟨_, rfl, rfl, (RL.news w [101010256, 0] _ rfl _ _).more (by simp)⟩
            · show StepR _ _ _ _ _ _ _ [0, 1] [0, 1, 19] 2 _
              intro v S w HC HL HU HD Q hQ
              have e0 := Live.pure (HL 0 (by decide))
              obtain ⟨g1, e1, s1, R1, Z1⟩ := Live.row (HL 1 (by decide))
              obtain ⟨s19, O19⟩ := Live.rwi (HL 19 (by decide))
              simp only [putsF, dst36, e0, e1]
              go_wp2_with fail
              have hdj : ¬ Fpt gb vb2 g1 := by have := HD 1 (by decide) 19 (by decide) (by decide) g1 (by rw [s1]); rwa [s19] at this
              refine (rput_any b0 gb 4 2 2 vb2 l0 (some ⟨g1, 0, none⟩) [101010256, 0] w O19.out.r (Nat.le_trans HBZ.out HC.size) O19.out.ne (by rfl) R1.out (fun ad ha => by injection ha with ha; rw [← ha]; exact hdj) (by decide) (by decide) (by decide) HLL.out.1).mono ?_
              rintro e w2 ⟨rfl, v2, hr2, hch, hown⟩
              go_wp2_with fail
              exact fin_put hQ (by simp only [putsF, dst36, e0, e1]; rfl) O19.out (fun q hq => ⟨19, by decide, rfl, by rw [s19]; exact hq⟩) hr2 hch hown (fun o1 => ⟨_, rfl, rfl, by rw [HH.out.1]; exact o1⟩)
            · show StepR _ _ _ _ _ _ _ [] [] 3 _
              intro v S w HC HL HU HD Q hQ
              simp only [putsF]
              go_wp2_with fail
              exact fin_pure hQ rfl ⟨rfl, rfl⟩
            · show StepR _ _ _ _ _ _ _ [3] [3] 4 _
              intro v S w HC HL HU HD Q hQ
              have e3 := Live.pure (HL 3 (by decide))
              simp only [putsF, dst36, e3]
              go_wp2_with fail
              exact fin_pure hQ (by simp only [putsF, dst36, e3]; rfl) ⟨rfl, rfl⟩
            · show StepR _ _ _ _ _ _ _ [] [] 5 _
              intro v S w HC HL HU HD Q hQ
              simp only [putsF]
              go_wp2_with fail
              exact fin_pure hQ rfl ⟨rfl, rfl⟩
            · show StepR _ _ _ _ _ _ _ [5] [5] 6 _
              intro v S w HC HL HU HD Q hQ
              have e5 := Live.pure (HL 5 (by decide))
              simp only [putsF, dst36, e5]
              go_wp2_with fail
              exact fin_pure hQ (by simp only [putsF, dst36, e5]; rfl) ⟨rfl, rfl⟩
            · show StepR _ _ _ _ _ _ _ [4, 6] [4, 6] 7 _
              intro v S w HC HL HU HD Q hQ
              have e4 := Live.pure (HL 4 (by decide))
              have e6 := Live.pure (HL 6 (by decide))
              simp only [putsF, dst36, e4, e6]
              go_wp2_with fail
              exact fin_blk hQ (by simp only [putsF, dst36, e4, e6]; rfl) ⟨_, rfl, rfl, (RL.news w [(k : Int), (k : Int)] _ rfl _ _).more (by simp)⟩
            · show StepR _ _ _ _ _ _ _ [2, 7] [2, 7] 8 _
              intro v S w HC HL HU HD Q hQ
              obtain ⟨v2', e2, s2, O2⟩ := Live.rwa (HL 2 (by decide))
              obtain ⟨g7, e7, s7, R7, Z7⟩ := Live.row (HL 7 (by decide))
              simp only [putsF, dst36, e2, e7]
              go_wp2_with fail
              have hdj : ¬ Fpt gb v2' g7 := by have := HD 7 (by decide) 2 (by decide) (by decide) g7 (by rw [s7]); rwa [s2] at this
              refine (rput_any b0 gb 2 2 2 v2' l1 (some ⟨g7, 0, none⟩) [(k : Int), (k : Int)] w O2.out.r (Nat.le_trans HBZ.out HC.size) O2.out.ne (by rfl) R7.out (fun ad ha => by injection ha with ha; rw [← ha]; exact hdj) (by decide) (by decide) (by decide) HLL.out.2.1).mono ?_
              rintro e w2 ⟨rfl, v2, hr2, hch, hown⟩
              go_wp2_with fail
              exact fin_put hQ (by simp only [putsF, dst36, e2, e7]; rfl) O2.out (fun q hq => ⟨2, by decide, rfl, by rw [s2]; exact hq⟩) hr2 hch hown (fun o1 => ⟨_, rfl, rfl, by rw [HH.out.2.1]; exact o1⟩)
            · show StepR _ _ _ _ _ _ _ [] [] 9 _
              intro v S w HC HL HU HD Q hQ
              simp only [putsF]
              go_wp2_with fail
              exact fin_pure hQ rfl ⟨rfl, rfl⟩
            · show StepR _ _ _ _ _ _ _ [9] [9] 10 _
              intro v S w HC HL HU HD Q hQ
              have e9 := Live.pure (HL 9 (by decide))
              simp only [putsF, dst36, e9]
              go_wp2_with fail
              exact fin_pure hQ (by simp only [putsF, dst36, e9]; rfl) ⟨rfl, rfl⟩
            · show StepR _ _ _ _ _ _ _ [10] [10] 11 _
              intro v S w HC HL HU HD Q hQ
              have e10 := Live.pure (HL 10 (by decide))
              simp only [putsF, dst36, e10]
              go_wp2_with fail
              exact fin_pure hQ (by simp only [putsF, dst36, e10]; rfl) ⟨rfl, rfl⟩
            · show StepR _ _ _ _ _ _ _ [11] [11] 12 _
              intro v S w HC HL HU HD Q hQ
              have e11 := Live.pure (HL 11 (by decide))
              simp only [putsF, dst36, e11]
              have hbk := (HFD.out.ch HC (fun q hq hu => HAP.out q hu hq))
              have hc0 := (hbk.r.1.cell 0)
              have hgl := hbk.r.1.lt
              clear hbk
              go_wp2_with fail
              exact fin_pure hQ (by simp only [putsF, dst36, e11]; rfl) ⟨rfl, rfl⟩
            · show StepR _ _ _ _ _ _ _ [12] [12] 13 _
              intro v S w HC HL HU HD Q hQ
              have e12 := Live.pure (HL 12 (by decide))
              simp only [putsF, dst36, e12]
              go_wp2_with fail
              exact fin_pure hQ (by simp only [putsF, dst36, e12]; rfl) ⟨rfl, rfl⟩
            · show StepR _ _ _ _ _ _ _ [] [] 14 _
              intro v S w HC HL HU HD Q hQ
              simp only [putsF]
              go_wp2_with fail
              exact fin_pure hQ rfl ⟨rfl, rfl⟩
            · show StepR _ _ _ _ _ _ _ [13, 14] [13, 14] 15 _
              intro v S w HC HL HU HD Q hQ
              have e13 := Live.pure (HL 13 (by decide))
              have e14 := Live.pure (HL 14 (by decide))
              simp only [putsF, dst36, e13, e14]
              go_wp2_with fail
              exact fin_blk hQ (by simp only [putsF, dst36, e13, e14]; rfl) ⟨_, rfl, rfl, (RL.news w [(nD : Int), (nb : Int)] _ rfl _ _).more (by simp)⟩
            · show StepR _ _ _ _ _ _ _ [8, 15] [8, 15] 16 _
              intro v S w HC HL HU HD Q hQ
              obtain ⟨v8, e8, s8, O8⟩ := Live.rwa (HL 8 (by decide))
              obtain ⟨g15, e15, s15, R15, Z15⟩ := Live.row (HL 15 (by decide))
              simp only [putsF, dst36, e8, e15]
              go_wp2_with fail
              have hdj : ¬ Fpt gb v8 g15 := by have := HD 15 (by decide) 8 (by decide) (by decide) g15 (by rw [s15]); rwa [s8] at this
              refine (rput_any b0 gb 4 2 2 v8 l2 (some ⟨g15, 0, none⟩) [(nD : Int), (nb : Int)] w O8.out.r (Nat.le_trans HBZ.out HC.size) O8.out.ne (by rfl) R15.out (fun ad ha => by injection ha with ha; rw [← ha]; exact hdj) (by decide) (by decide) (by decide) HLL.out.2.2.1).mono ?_
              rintro e w2 ⟨rfl, v2, hr2, hch, hown⟩
              go_wp2_with fail
              exact fin_put hQ (by simp only [putsF, dst36, e8, e15]; rfl) O8.out (fun q hq => ⟨8, by decide, rfl, by rw [s8]; exact hq⟩) hr2 hch hown (fun o1 => ⟨_, rfl, rfl, by rw [HH.out.2.2.1]; exact o1⟩)
            · show StepR _ _ _ _ _ _ _ [] [] 17 _
              intro v S w HC HL HU HD Q hQ
              simp only [putsF]
              go_wp2_with fail
              exact fin_blk hQ rfl ⟨_, rfl, rfl, (RL.news w [0] _ rfl _ _).more (by simp)⟩
            · show StepR _ _ _ _ _ _ _ [16, 17] [16, 17] 18 _
              intro v S w HC HL HU HD Q hQ
              obtain ⟨v16, e16, s16, O16⟩ := Live.rwa (HL 16 (by decide))
              obtain ⟨g17, e17, s17, R17, Z17⟩ := Live.row (HL 17 (by decide))
              simp only [putsF, dst36, e16, e17]
              go_wp2_with fail
              have hdj : ¬ Fpt gb v16 g17 := by have := HD 17 (by decide) 16 (by decide) (by decide) g17 (by rw [s17]); rwa [s16] at this
              refine (rput_any b0 gb 2 1 1 v16 l3 (some ⟨g17, 0, none⟩) [0] w O16.out.r (Nat.le_trans HBZ.out HC.size) O16.out.ne (by rfl) R17.out (fun ad ha => by injection ha with ha; rw [← ha]; exact hdj) (by decide) (by decide) (by decide) HLL.out.2.2.2).mono ?_
              rintro e w2 ⟨rfl, v2, hr2, hch, hown⟩
              go_wp2_with fail
              exact fin_put hQ (by simp only [putsF, dst36, e16, e17]; rfl) O16.out (fun q hq => ⟨16, by decide, rfl, by rw [s16]; exact hq⟩) hr2 hch hown (fun o1 => ⟨_, rfl, rfl, by rw [HH.out.2.2.2]; exact o1⟩)
            -- DEV}
            · intro v S w' HC HL HD
              obtain ⟨vz, ez, sz, OZ⟩ : ∃ vz, v 18 = .pointer (some ⟨gb, 0, none⟩) ∧ S 18 = Fpt gb vz ∧ Bx (One 44 5 w' b0 ⟨gb, vz, l4⟩) := Live.rwa (HL 18 (by decide) (by decide)).1
              have HBE := bx (HWD.out _ HC)
              rw [HL4.out] at OZ
              obtain ⟨AZ, nZ, cZ, rfl, hnZ, _⟩ := OwL.sl OZ.out.r.2
              have hcz := OZ.out.r.1.cell 0
              have hzl := OZ.out.r.1.lt
              clear HL HD HC HLL HH HBZ HFD HAP HWD
              show Exit.then _ _ Exit.normal (putsF dst36 v _ [18, 17, 16, 15, 14, 13, 12, 11, 10, 9, 8, 7, 6, 5, 4, 3, 2, 1, 0]) w'
              simp only [putsF, dst36, ez, Act.put, List.setIfInBounds_toArray, List.set_cons_succ, List.set_cons_zero]
              by_cases h65 : 65536 < nZ
              · have h65I : (65536 : Int) < (nZ : Int) := by omega
                have HF : Bx (R = .err 8) := bx (by rw [← HR2.out]; exact layP_long HZC.out (by have := hnZ.out; simp only at this; rw [← this]; exact h65))
                go_wp2
                go_ret2
                exact bookPost_err HF.out (by rw [HB0.out]; exact HBE.out) (by decide)
              · have h65I : ¬ (65536 : Int) < (nZ : Int) := by omega
                have HF : Bx (R = .ok (bookB Z)) := bx (by rw [← HR2.out]; exact layP_made HZC.out (by have := hnZ.out; simp only at this; rw [← this]; exact h65))
                have HZZ : Bx ((bookB Z).length ≤ 65536) := bx (by have := hnZ.out; simp only at this; rw [← this]; omega)
                go_wp2
                go_ret2
                exact bookPost_ok HF.out (by rw [HB0.out]; exact HBE.out) (by rw [HB0.out]; exact OZ.out.r.2) HZZ.out
end Go.Proofs.YtnkdpchnighkfaaGreatDoor
