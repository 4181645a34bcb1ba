/- Contract: (*archive.book).record. -/
import Derived.Test.YtokojichjliieaaDoorArcC
import Derived.Test.YtokojichjliieaaDoorBytes
import Derived.Test.YtokojichjliieaaDoorSetR
import Derived.Test.YtokojichjliieaaDoorQs
import Derived.Test.YtokojichjliieaaDoorMapR
import Derived.Test.YtokojichjliieaaDoorMapE
import Derived.Laws.BitsAllLaws
import Derived.Laws.BitsLemmas
namespace Go.Proofs.YtokojichjliieaaDoor
open Go.RowKit

def strV (x : List UInt8) : Value := .string ⟨x.toArray⟩
def seenG (seen : List (List UInt8)) (x : List UInt8) : Option Value := if x ∈ seen then some (.bool true) else none
theorem numA_2 (b : List UInt8) (p : Nat) : numA b p 2 < 65536 := by
  have : numA b p 2 < 256 ^ 2 := leN_lt_of _ (by simp; omega)
  have e : (256 : Nat) ^ 2 = 65536 := by decide
  omega
theorem numA_4 (b : List UInt8) (p : Nat) : numA b p 4 < 4294967296 := by
  have : numA b p 4 < 256 ^ 4 := leN_lt_of _ (by simp; omega)
  have e : (256 : Nat) ^ 4 = 4294967296 := by decide
  omega
theorem BookD.below {w w' : World} {g : Nat} {b : List UInt8} (h : BookD w g b) (hb : Below w.heap.size w w') : BookD w' g b := by
  obtain ⟨A, c, m, n, h1, h2, h3, h4, r⟩ := h
  exact ⟨A, c, m, n, h1.below hb h1.lt, (RL.below h2 hb (Nat.le_refl _)).more hb.size, h3, h4.below hb h4.lt, r⟩
/-- A record's eight cells. -/
def fndC (r : Rec) (at_ : Int) (p : Nat) : Array Value := #[strV r.name, .int .i64 r.method, .int .i64 r.packed, .int .i64 r.size, .int .i64 r.sum, .int .i64 at_, .int .i64 r.head, .int .i64 p]
def z8 : Array Value := #[.string ⟨#[]⟩, .int .i64 0, .int .i64 0, .int .i64 0, .int .i64 0, .int .i64 0, .int .i64 0, .int .i64 0]
theorem z8_eq : (#[.string ⟨#[]⟩, .int .i64 0, .int .i64 0, .int .i64 0, .int .i64 0, .int .i64 0, .int .i64 0, .int .i64 0] : Array Value) = z8 := rfl
theorem z8_one : z8.all (·.oneCell') = true := by simp [z8, Value.oneCell']
theorem z8_size : z8.size = 8 := rfl
theorem info_found : (Tryd.prog.info? 57).map (·.size) = some 8 := by kernel_rfl
theorem results_record (tmps : Array Value) (w : World) (g : Nat) (cs : Array Value) (h8 : tmps.getD 8 undef = .pointer (some ⟨g, 0, none⟩)) (hk : Bk w g 57 cs) (hs : cs.size = 8) :
    (results Tryd.f30 tmps).run Tryd.prog w = .ok (.tuple #[.agg cs, tmps.getD 9 undef, tmps.getD 10 undef]) w := by
  have h8' : tmps[8]?.getD undef = .pointer (some ⟨g, 0, none⟩) := by simpa using h8
  have hl := run_loadVar_row (P := Tryd.prog) w g 57 57 cs (0, 0) _ hk Tryd.underlying57 rfl (by rw [hs]; exact info_found)
  simp only [results, Tryd.results30]
  simp [h8', asAddr, hl, Result.andThen]
theorem fndC_size (r : Rec) (a : Int) (p : Nat) : (fndC r a p).size = 8 := rfl
theorem fndC_one (r : Rec) (a : Int) (p : Nat) : (fndC r a p).all (·.oneCell') = true := by simp [fndC, strV, Value.oneCell']
/-- What record answers. -/
def RecPost (R : Rz (Rec × Nat)) (p : Nat) (w : World) (m n : Nat) (seen : List (List UInt8)) (e : Ending) (w' : World) : Prop := match R with
  | .err k => e = .returned (.tuple #[.agg z8, .int .i64 0, .int .i64 k]) ∧ Below w.heap.size w w'
  | .ok x => e = .returned (.tuple #[.agg (fndC x.1 0 p), .int .i64 (x.2 : Int), .int .i64 0]) ∧
      w.grownBy w' (some m) ∧ MapT strV w' Tryd.prog 9 m (n + 1) (seenG (seen ++ [x.1.name]))
theorem RecPost.bad {R : Rz (Rec × Nat)} {p : Nat} {w w' : World} {m n : Nat} {seen : List (List UInt8)} {k : Int} (h : R = .err k) (hb : Below w.heap.size w w') : RecPost R p w m n seen (.returned (.tuple #[.agg z8, .int .i64 0, .int .i64 k])) w' := by
  subst h; exact ⟨rfl, hb⟩
theorem RecPost.good {R : Rz (Rec × Nat)} {p : Nat} {w w' : World} {m n q : Nat} {seen : List (List UInt8)} {r : Rec} (h : R = .ok (r, q)) (hg : w.grownBy w' (some m)) (hm : MapT strV w' Tryd.prog 9 m (n + 1) (seenG (seen ++ [r.name]))) :
    RecPost R p w m n seen (.returned (.tuple #[.agg (fndC r 0 p), .int .i64 (q : Int), .int .i64 0])) w' := by
  subst h; exact ⟨rfl, hg, hm⟩
theorem gb_setRow {a w : World} {row : Option Nat} (h : a.grownBy w row) {g : Nat} (hg : a.heap.size ≤ g) (cs : Array Value) : a.grownBy (w.setRow g cs) row :=
  ⟨h.os, h.tape, h.output, by simpa using h.size, fun k hk hr => (heap_setRow w g cs k (by omega)).trans (h.block k hk hr)⟩
theorem MapT.setRow {κ : Type} {f : κ → Value} {P : Program} {k : TypeId} {w : World} {b n : Nat} {G : κ → Option Value} (h : MapT f w P k b n G) {g : Nat} (hg : b ≠ g) (cs : Array Value) : MapT f (w.setRow g cs) P k b n G := by
  obtain ⟨F, h, r⟩ := h
  exact ⟨F, h.same (heap_setRow w g cs b hg), r⟩
theorem MapT.seen {w : World} {m n : Nat} {seen : List (List UInt8)} {nm x : List UInt8} (h : MapT strV w Tryd.prog 9 m n (fun q => if q = nm then some (.bool true) else seenG seen q)) (hx : nm = x) : MapT strV w Tryd.prog 9 m n (seenG (seen ++ [x])) := by
  subst hx
  refine h.ext fun q => ?_
  unfold seenG
  by_cases h1 : q = nm
  · rw [if_pos h1, if_pos (by simp [h1])]
  · rw [if_neg h1]
    by_cases h2 : q ∈ seen
    · rw [if_pos h2, if_pos (by simp [h2])]
    · rw [if_neg h2, if_neg (by simp [h1, h2])]
theorem num_at (g : Nat) (b : List UInt8) (p : Nat) (ki ni : Int) (k n : Nat) (w : World) (h : BookD w g b) (hk : ki = (k : Int)) (hn : ni = (n : Int)) (h1 : 1 ≤ n) (h2 : n ≤ 4) (hp : p + k + n ≤ b.length) {N : Nat} (hN : numA b (p + k) n = N) :
    Calls Tryd.prog 29 #[.pointer (some ⟨g, 0, none⟩), .int .i64 ((p : Int) + ki), .int .i64 ni] w fun e w' => e = .returned (.int .i64 (N : Int)) ∧ w' = w := by
  subst hk hn hN
  have := num_ok g b (p + k) n w h h1 h2 hp
  rwa [show ((p + k : Nat) : Int) = (p : Int) + (k : Int) by omega] at this
/-- The same at any place: for a region's one arm. -/
def numI (b : List UInt8) (x n : Int) : Int := (numA b x.toNat n.toNat : Int)
theorem num_int (g : Nat) (b : List UInt8) (x n : Int) (w : World) (h : BookD w g b) (h0 : 0 ≤ x) (h1 : 1 ≤ n) (h2 : n ≤ 4) (hp : x + n ≤ b.length) :
    Calls Tryd.prog 29 #[.pointer (some ⟨g, 0, none⟩), .int .i64 x, .int .i64 n] w fun e w' => e = .returned (.int .i64 (numI b x n)) ∧ w' = w := by
  have := num_ok g b x.toNat n.toNat w h (by omega) (by omega) (by omega)
  rwa [show ((x.toNat : Nat) : Int) = x by omega, show ((n.toNat : Nat) : Int) = n by omega] at this
theorem and_split (k a b c d : Nat) (hb : b < 2 ^ k) (hd : d < 2 ^ k) : (2 ^ k * a + b) &&& (2 ^ k * c + d) = 2 ^ k * (a &&& c) + (b &&& d) := by
  apply Nat.eq_of_testBit_eq
  intro j
  rw [Nat.testBit_and, Nat.testBit_two_pow_mul_add a hb, Nat.testBit_two_pow_mul_add c hd, Nat.testBit_two_pow_mul_add (a &&& c) (Nat.and_lt_two_pow _ hd)]
  split
  · rw [Nat.testBit_and]
  · rw [Nat.testBit_and]
theorem and_30 (x : Nat) (h : x < 32) : x &&& 30 = x - x % 2 := by
  have : ∀ x : Fin 32, x.1 &&& 30 = x.1 - x.1 % 2 := by decide
  exact this ⟨x, h⟩
theorem and_63481 (v : Nat) (h : v < 65536) : v &&& 63481 = v - 2 * (v / 2 % 2) - 4 * (v / 4 % 2) - 2048 * (v / 2048 % 2) := by
  have e1 := and_split 11 (v / 2048) (v % 2048) 30 2041 (by omega) (by omega)
  have e2 := and_split 3 (v % 2048 / 8) (v % 8) 255 1 (by omega) (by omega)
  rw [show 2 ^ 11 * (v / 2048) + v % 2048 = v by omega, show 2 ^ 11 * 30 + 2041 = 63481 by decide, and_30 _ (by omega)] at e1
  rw [show 2 ^ 3 * (v % 2048 / 8) + v % 8 = v % 2048 by omega, show 2 ^ 3 * 255 + 1 = 2041 by decide, show (255 : Nat) = 2 ^ 8 - 1 by decide, Nat.and_two_pow_sub_one_eq_mod, show (1 : Nat) = 2 ^ 1 - 1 by decide, Nat.and_two_pow_sub_one_eq_mod] at e2
  rw [e1, e2]
  omega
theorem and_65527 (v : Nat) (h : v < 65536) : v &&& 65527 = v - 8 * (v / 8 % 2) := by
  have e1 := and_split 4 (v / 16) (v % 16) 4095 7 (by omega) (by omega)
  rw [show 2 ^ 4 * (v / 16) + v % 16 = v by omega, show 2 ^ 4 * 4095 + 7 = 65527 by decide, show (4095 : Nat) = 2 ^ 12 - 1 by decide, Nat.and_two_pow_sub_one_eq_mod, show (7 : Nat) = 2 ^ 3 - 1 by decide, Nat.and_two_pow_sub_one_eq_mod] at e1
  rw [e1]
  omega
theorem i64_andNot (v c : Nat) (h : v < 65536) (hc : c < 65536) : bits .andNot .i64 (v : Int) (c : Int) = ((v &&& (65535 - c) : Nat) : Int) := by
  have hx : v &&& (65535 - c) < 2 ^ 16 := Nat.and_lt_two_pow _ (by omega)
  show IntKind.i64.wrap ((BitVec.ofInt 64 (v : Int) &&& ~~~BitVec.ofInt 64 (c : Int)).toNat : Int) = _
  have e1 : (BitVec.ofInt 64 (v : Int)).toNat = v := by rw [BitVec.ofInt_natCast, BitVec.toNat_ofNat]; omega
  have e2 : (BitVec.ofInt 64 (c : Int)).toNat = c := by rw [BitVec.ofInt_natCast, BitVec.toNat_ofNat]; omega
  rw [BitVec.toNat_and, BitVec.toNat_not, e1, e2]
  have e3 : v &&& (2 ^ 64 - 1 - c) = v &&& (65535 - c) := by
    have := and_split 16 0 v (2 ^ 48 - 1) (65535 - c) (by omega) (by omega)
    rw [show 2 ^ 16 * 0 + v = v by omega, show 2 ^ 16 * (2 ^ 48 - 1) + (65535 - c) = 2 ^ 64 - 1 - c by omega, Nat.zero_and] at this
    rw [this]; omega
  rw [e3, IntKind.wrap_i64]
  omega
theorem flags_bits (v : Nat) (h : v < 65536) : bits .andNot .i64 (v : Int) 2054 = (flagsA v : Int) := by
  have := i64_andNot v 2054 h (by omega)
  rw [show (65535 - 2054 : Nat) = 63481 by decide, and_63481 v h] at this
  exact this
theorem method_bits (v : Nat) (h : v < 65536) : bits .andNot .i64 (v : Int) 8 = ((v - 8 * (v / 8 % 2) : Nat) : Int) := by
  have := i64_andNot v 8 h (by omega)
  rw [show (65535 - 8 : Nat) = 65527 by decide, and_65527 v h] at this
  exact this
theorem keyV (x : List UInt8) (h : x.length ≤ 70000) : keyOf Tryd.prog 9 (strV x) = some (.string x) := by
  have := WideMaps.keyOf_string_mk (P := Tryd.prog) (s := ⟨x.toArray⟩) Tryd.underlying9 (by unfold maxLen; show x.toArray.size ≤ _; simp; omega)
  simpa [strV] using this
theorem strVK : Maps.Keyed Tryd.prog 9 := Maps.string_keyed Tryd.underlying9
theorem strV_inj (x y : List UInt8) (h : strV x = strV y) : x = y := by
  unfold strV at h
  injection h with h
  injection h with h
  simpa using congrArg Array.toList h
theorem zeroBl_run (w : World) : (zeroValue 4).run Tryd.prog w = .ok (.bool false) w := by kernel_rfl
set_option maxRecDepth 100000 in
set_option maxHeartbeats 8000000 in
theorem record_long (g m n : Nat) (b : List UInt8) (p border : Nat) (seen : List (List UInt8)) (w : World) (mx : Int) (h : BookD w g b) (hm : MapT strV w Tryd.prog 9 m n (seenG seen)) (hmx : w.cell? ⟨0, 0, none⟩ = some (.int .i64 mx)) (hn : n ≤ 1000) (hb : border + 22 ≤ b.length) (hz : b.length ≤ 70000)
    (hin : p + 46 ≤ border) (hsg : signA b p 1 2 = true) (c2 : ¬ border < p + 46 + numA b (p + 28) 2 + numA b (p + 30) 2 + numA b (p + 32) 2) (c3 : numA b (p + 34) 2 = 0) :
    Calls Tryd.prog 30 #[.pointer (some ⟨g, 0, none⟩), .int .i64 (p : Int), .int .i64 (border : Int), .map (some m)] w (RecPost (recA b p border seen) p w m n seen) := by
  obtain ⟨R, hR⟩ : ∃ R, recA b p border seen = R := ⟨_, rfl⟩
  rw [hR]
  unfold recA at hR
  rw [if_neg (by rintro (h | h); omega; rw [hsg] at h; cases h), if_neg (by rintro (h | h); exact c2 h; exact h c3)] at hR
  obtain ⟨wz, hwz⟩ : ∃ wz, (w.alloc (.cells z8 57)).alloc (.cells z8 57) = wz := ⟨_, rfl⟩
  have hbl : Below w.heap.size w wz := by rw [← hwz]; exact bl_alloc (bl_alloc (Below.refl w.heap.size w) (Nat.le_refl _) _) (by simp) _
  have hZ0 : Bk wz w.heap.size 57 z8 := by rw [← hwz]; exact (Bk.new w _ z8).alloc _
  have hZ1 : Bk wz (w.heap.size + 1) 57 z8 := by rw [← hwz]; exact Bk.newAt _ _ _ (by simp)
  have hD : BookD wz g b := h.below hbl
  have his := is_any g b p 46 border 2 1 2 wz hD (.inr (.inl ⟨rfl, rfl, rfl⟩)) (by omega) (by omega) (by omega) (by omega)
  rw [hsg, decide_eq_true hin] at his
  have HIS := bx his
  have HM := bx hm
  have HMX := bx hmx
  have HWZ := bx hwz
  have HBL := bx hbl
  have HZ0 := bx hZ0
  have HZ1 := bx hZ1
  clear hwz hbl hZ0 hZ1 his hm hmx
  obtain ⟨sz, hsz⟩ : ∃ sz, numA b (p + 28) 2 = sz := ⟨_, rfl⟩
  obtain ⟨ex, hex⟩ : ∃ sz, numA b (p + 30) 2 = sz := ⟨_, rfl⟩
  obtain ⟨cm, hcm⟩ : ∃ sz, numA b (p + 32) 2 = sz := ⟨_, rfl⟩
  have l1 : sz < 65536 := by rw [← hsz]; exact numA_2 _ _
  have l2 : ex < 65536 := by rw [← hex]; exact numA_2 _ _
  have l3 : cm < 65536 := by rw [← hcm]; exact numA_2 _ _
  have HSZ := bx hsz
  have HEX := bx hex
  have HCM := bx hcm
  have HDK := bx c3
  rw [hsz, hex, hcm] at c2
  rw [hsz, hex, hcm] at hR
  have HDD := bx hD
  have hcI : ¬ (border : Int) < (p : Int) + 46 + (sz : Int) + (ex : Int) + (cm : Int) := by omega
  clear hsg hsz hex hcm hD c3
  obtain ⟨nm, hnm⟩ : ∃ nm, (b.drop (p + 46)).take sz = nm := ⟨_, rfl⟩
  obtain ⟨me, hme⟩ : ∃ sz, numA b (p + 10) 2 = sz := ⟨_, rfl⟩
  obtain ⟨pk, hpk⟩ : ∃ sz, numA b (p + 20) 4 = sz := ⟨_, rfl⟩
  obtain ⟨si, hsi⟩ : ∃ sz, numA b (p + 24) 4 = sz := ⟨_, rfl⟩
  obtain ⟨su, hsu⟩ : ∃ sz, numA b (p + 16) 4 = sz := ⟨_, rfl⟩
  obtain ⟨hd, hhd⟩ : ∃ sz, numA b (p + 42) 4 = sz := ⟨_, rfl⟩
  obtain ⟨ve, hve⟩ : ∃ sz, numA b (p + 6) 2 = sz := ⟨_, rfl⟩
  obtain ⟨fl, hfl⟩ : ∃ sz, numA b (p + 8) 2 = sz := ⟨_, rfl⟩
  have m1 : me < 65536 := by rw [← hme]; exact numA_2 _ _
  have m2 : fl < 65536 := by rw [← hfl]; exact numA_2 _ _
  have hnl : nm.length = sz := by rw [← hnm]; simp; omega
  rw [hnm, hme, hpk, hsi, hsu, hhd, hve, hfl] at hR
  have HNM := bx hnm
  have HNL := bx hnl
  have HME := bx hme
  have HPK := bx hpk
  have HSI := bx hsi
  have HSU := bx hsu
  have HHD := bx hhd
  have HVE := bx hve
  have HFL := bx hfl
  have HR0 := bx hR
  clear hnm hme hpk hsi hsu hhd hR hnl hve hfl
  go_enter Tryd.func30, Tryd.ntmps30
  go_wp2_with fail
  rw [z8_eq, HWZ.out]
  refine HIS.out.mono ?_
  rintro e w1 ⟨rfl, hb1⟩
  have hK0 := HZ0.out.below hb1 HZ0.out.lt
  have hK1 := HZ1.out.below hb1 HZ1.out.lt
  have HD1 := bx (HDD.out.below hb1)
  have HB1 := bx (HBL.out.trans (hb1.mono HBL.out.size))
  clear hb1
  go_wp2_with fail
  refine (num_at g b p 28 2 28 2 w1 HD1.out rfl rfl (by omega) (by omega) (by omega) HSZ.out).mono ?_
  rintro e w2 ⟨rfl, rfl⟩
  go_wp2_with fail
  refine (num_at g b p 30 2 30 2 w2 HD1.out rfl rfl (by omega) (by omega) (by omega) HEX.out).mono ?_
  rintro e w3 ⟨rfl, rfl⟩
  go_wp2_with fail
  refine (num_at g b p 32 2 32 2 w3 HD1.out rfl rfl (by omega) (by omega) (by omega) HCM.out).mono ?_
  rintro e w4 ⟨rfl, rfl⟩
  go_wp2_with fail
  refine (num_at g b p 34 2 34 2 w4 HD1.out rfl rfl (by omega) (by omega) (by omega) HDK.out).mono ?_
  rintro e w5 ⟨rfl, rfl⟩
  go_wp2
  have HM5 := bx (HM.out.below (HB1.out) HM.out.lt)
  have HX5 := bx ((HB1.out.cell (p := ⟨0, 0, none⟩) (World.block_lt_of_cell? w ⟨0, 0, none⟩ HMX.out)).trans HMX.out)
  have HK0 := bx hK0
  have HK1 := bx hK1
  clear hK0 hK1
  obtain ⟨A, c, mk, q, hB, hr, hc, hM, hl, hcl⟩ := HD1.out
  obtain ⟨ad, x0, rfl, _, _, _⟩ := hr.byte (k := p) (by omega)
  have hrs : RB w5 w5.heap.size (some (ad.add (p + 46))) nm := by
    have := (hr.drop (p + 46)).take sz
    rw [HNM.out] at this
    exact this
  obtain ⟨rc, hrc⟩ : ∃ rc : Rec, (⟨nm, me, pk, si, su, hd⟩ : Rec) = rc := ⟨_, rfl⟩
  have HRC := bx hrc
  obtain ⟨F, hF⟩ : ∃ F, rowF w5.drew 57 z8 (fndC rc 0 p) = F := ⟨_, rfl⟩
  have hF0 : w5.drew = F 0 := by rw [← hF]; rfl
  have hF1 : (F 0).alloc (.cells z8 57) = F 1 := by rw [← hF]; rfl
  have hF2 : (F 1).setRow w5.heap.size (fndC rc 0 p) = F 2 := by rw [← hF]; rfl
  have hFb : ∀ n, Below w5.heap.size w5 (F n) := fun n => by rw [← hF]; exact (below_drewN (Below.refl w5.heap.size w5) 1).trans (rowF_below w5.drew _ _ _ n)
  have hFz : (F 0).heap.size = w5.heap.size := by rw [← hF0]; rfl
  have hFk : Bk (F 1) w5.heap.size 57 z8 := by rw [← hF1]; exact Bk.newAt _ _ _ hFz
  have hFk2 : Bk (F 2) w5.heap.size 57 (fndC rc 0 p) := by rw [← hF2]; exact hFk.setRow _
  have hFD : ∀ n, BookD (F n) g b := fun n => HD1.out.below (hFb n)
  have hFc : ∀ n, (F n).cell? ⟨g, 0, none⟩ = some (.slice (some ad) b.length c) := fun n => ((hFb n).cell hB.lt).trans ((hB.cell 0).trans rfl)
  have hcv : ∀ n, _ := fun n => run_conv_str (P := Tryd.prog) (w := F n) (B := w5.heap.size) (A := some (ad.add (p + 46))) (l := nm) (n := ((p : Int) + 46 + (sz : Int)).toNat - (p + 46)) (c := c - (p + 46)) Tryd.underlying22 Tryd.underlying5 Tryd.underlying9 (by rw [HNL.out]; omega) (RL.below hrs (hFb n) (Nat.le_refl _))
  rw [show ad.add (p + 46) = ⟨ad.block, ad.off + (p + 45 + 1), none⟩ from add_pos ad (p + 45)] at hcv
  have HF0 := bx hF0
  have HF1 := bx hF1
  have HF2 := bx hF2
  have HFB := bx hFb
  have HFK := bx hFk
  have HFK2 := bx hFk2
  have HFD := bx hFD
  clear hF hF0 hF1 hF2 hFb hFk hFk2 hFD hB hr hM hrs hrc
  have wk10 : IntKind.i64.wrap ((p : Int) + 10) = (p : Int) + 10 := IntWalk.i64_in _ (by omega)
  have wk20 : IntKind.i64.wrap ((p : Int) + 20) = (p : Int) + 20 := IntWalk.i64_in _ (by omega)
  have wk24 : IntKind.i64.wrap ((p : Int) + 24) = (p : Int) + 24 := IntWalk.i64_in _ (by omega)
  have wk16 : IntKind.i64.wrap ((p : Int) + 16) = (p : Int) + 16 := IntWalk.i64_in _ (by omega)
  have wk42 : IntKind.i64.wrap ((p : Int) + 42) = (p : Int) + 42 := IntWalk.i64_in _ (by omega)
  have wr1 : IntKind.i64.wrap ((p : Int) + 46) = (p : Int) + 46 := IntWalk.i64_in _ (by omega)
  have wr2 : IntKind.i64.wrap ((p : Int) + 46 + (sz : Int)) = (p : Int) + 46 + (sz : Int) := IntWalk.i64_in _ (by omega)
  have a1 : p + 10 + 2 ≤ b.length := by omega
  have a2 : p + 20 + 4 ≤ b.length := by omega
  have a3 : p + 24 + 4 ≤ b.length := by omega
  have a4 : p + 16 + 4 ≤ b.length := by omega
  have a5 : p + 42 + 4 ≤ b.length := by omega
  have hh7 : (p : Int) + 46 ≤ (c : Int) := by omega
  have hh8 : p + 46 ≤ ((p : Int) + 46 + (sz : Int)).toNat := by omega
  have hh9 : ((p : Int) + 46 + (sz : Int)).toNat ≤ c := by omega
  have hh0 : (0 : Int) ≤ (p : Int) + 46 + (sz : Int) := by omega
  have hh5 : ((p : Int) + 46).toNat = p + 46 := by omega
  have hh6 : p + 46 ≤ c := by omega
  have hh1 : (0 : Int) ≤ (p : Int) + 46 := by omega
  have hh2 : (p : Int) + 46 + (sz : Int) ≤ (c : Int) := by omega
  have hh3 : (p : Int) + 46 ≤ (p : Int) + 46 + (sz : Int) := by omega
  have hh4 : ¬ c = p + 46 := by omega
  have hha : ¬ c - (p + 46) = 0 := by omega
  refine wp_region_same 35 F (by kernel_rfl) (by kernel_rfl) (by kernel_rfl) (by kernel_rfl) (by decide) HF0.out (fun _ _ _ d _ h => by cases d <;> exact h) ?_
  simp only [List.take_succ_cons, List.take_zero, List.drop_succ_cons, List.drop_zero]
  repeat (
    refine wpSame_step (fun K hK => ?_)
    simp only [SameAt]
    go_simp
    first
      | (refine hK _ ?_; clear hK K)
      | (apply Exists.intro
         refine ⟨fun _ => ?_, hK _ ?_⟩
         (first
           | (with_reducible exact num_at g b p 10 2 10 2 _ (HFD.out _) rfl rfl (by omega) (by omega) a1 HME.out)
           | (with_reducible exact num_at g b p 20 4 20 4 _ (HFD.out _) rfl rfl (by omega) (by omega) a2 HPK.out)
           | (with_reducible exact num_at g b p 24 4 24 4 _ (HFD.out _) rfl rfl (by omega) (by omega) a3 HSI.out)
           | (with_reducible exact num_at g b p 16 4 16 4 _ (HFD.out _) rfl rfl (by omega) (by omega) a4 HSU.out)
           | (with_reducible exact num_at g b p 42 4 42 4 _ (HFD.out _) rfl rfl (by omega) (by omega) a5 HHD.out))
         clear hK K))
  refine wpSame_nil ?_
  refine wpChain_step rfl (fun K hK => ?_)
  go_simp
  rw [z8_eq, HF1.out]
  refine hK _ _ ⟨1, rfl⟩ ?_
  clear hK K
  refine wpChain_step rfl (fun K hK => ?_)
  refine wp_store_row 57 (.tmp 14) (.tmp 85) rfl w5.heap.size (fndC rc 0 p) rfl ?hv 57 z8 HFK.out (by rw [fndC_size]; exact info_found) rfl (fndC_one _ _ _) ?_
  case hv => rw [← HRC.out]; rfl
  rw [HF2.out]
  refine hK _ _ ⟨2, rfl⟩ ?_
  clear hK K
  refine wpChain_nil ?_
  have HB2 := bx (HB1.out.trans ((HFB.out 2).mono HB1.out.size))
  have HD2 := bx (HFD.out 2)
  have HM2 := bx (HM5.out.below (HFB.out 2) HM5.out.lt)
  have HX2 := bx (((HFB.out 2).cell (p := ⟨0, 0, none⟩) (World.block_lt_of_cell? w5 ⟨0, 0, none⟩ HX5.out)).trans HX5.out)
  have HJ0 := bx (HK0.out.below (HFB.out 2) HK0.out.lt)
  have HJ1 := bx (HK1.out.below (HFB.out 2) HK1.out.lt)
  have HKR := HFK2
  obtain ⟨wf, hwf⟩ : ∃ wf, F 2 = wf := ⟨_, rfl⟩
  obtain ⟨g2, hg2⟩ : ∃ g2, w5.heap.size = g2 := ⟨_, rfl⟩
  have hg2' : w.heap.size ≤ g2 := by rw [← hg2]; exact HB1.out.size
  rw [hwf] at HB2 HD2 HM2 HX2 HJ0 HJ1 HKR
  rw [hwf, hg2]
  rw [hg2] at HKR
  clear hwf hg2 HFD HFB HF0 HF1 HF2 HFK HFK2 HK0 HK1 HM5 HX5 HB1 hcv hFc hFz HD1 wk10 wk20 wk24 wk16 wk42 wr1 wr2 a1 a2 a3 a4 a5 hh0 hh1 hh2 hh3 hh4 hh5 hh6 hh7 hh8 hh9 hha
  obtain ⟨fa, hfa⟩ : ∃ fa, flagsA fl = fa := ⟨_, rfl⟩
  obtain ⟨mb, hmb⟩ : ∃ mb, me - 8 * (me / 8 % 2) = mb := ⟨_, rfl⟩
  have hmb' : mb ≠ 0 ↔ (me ≠ 0 ∧ me ≠ 8) := by rw [← hmb]; omega
  have hR := HR0.out
  rw [hfa] at hR
  simp only [← hmb'] at hR
  have hbf := flags_bits fl m2
  rw [hfa] at hbf
  have hbm := method_bits me m1
  rw [hmb] at hbm
  clear hfa hmb hmb' HR0
  have k1 : wf.cell? ⟨g2, 1, none⟩ = some (.int .i64 (me : Int)) := by rw [HKR.out.cell 1, ← HRC.out]; rfl
  have k0 : wf.cell? ⟨g2, 0, none⟩ = some (.string ⟨nm.toArray⟩) := by rw [HKR.out.cell 0, ← HRC.out]; rfl
  by_cases d1 : 20 < ve
  · rw [if_pos (.inl d1)] at hR
    have HR := bx hR.symm
    have d1I : (20 : Int) < (ve : Int) := by omega
    clear hR d1 hbm hbf
    go_wp2_with fail
    refine (num_at g b p 6 2 6 2 wf HD2.out rfl rfl (by omega) (by omega) (by omega) HVE.out).mono ?_
    rintro e w6 ⟨rfl, rfl⟩
    go_wp2_with (first
      | (refine wpList_load_row rfl 57 (.tmp 11) rfl (w.heap.size + 1) rfl _ z8 _ _ HJ1.out Tryd.underlying57 rfl (by rw [z8_size]; exact info_found) ?_)
      | (refine wpList_store_row rfl 57 (.tmp 8) (.tmp 106) rfl w.heap.size z8 rfl rfl 57 z8 HJ0.out (by rw [z8_size]; exact info_found) rfl z8_one ?_))
    exact bodyPost_ret (v := .tuple #[.agg z8, .int .i64 0, .int .i64 12]) (results_record _ _ w.heap.size z8 rfl ((HJ0.out).setRow z8) rfl) rfl (RecPost.bad HR.out (bl_setRow HB2.out (Nat.le_refl _) z8))
  have d1I : ¬ (20 : Int) < (ve : Int) := by omega
  by_cases d2 : fa = 0
  case neg =>
    rw [if_pos (.inr (.inl d2))] at hR
    have HR := bx hR.symm
    have d2I : ((fa : Int) != 0) = true := by rw [bne_iff_ne]; omega
    clear hR d2 hbm
    go_wp2_with fail
    refine (num_at g b p 6 2 6 2 wf HD2.out rfl rfl (by omega) (by omega) (by omega) HVE.out).mono ?_
    rintro e w6 ⟨rfl, rfl⟩
    go_wp2_with fail
    refine (num_at g b p 8 2 8 2 w6 HD2.out rfl rfl (by omega) (by omega) (by omega) HFL.out).mono ?_
    rintro e w6 ⟨rfl, rfl⟩
    go_wp2_with (first
      | (refine wpList_load_row rfl 57 (.tmp 11) rfl (w.heap.size + 1) rfl _ z8 _ _ HJ1.out Tryd.underlying57 rfl (by rw [z8_size]; exact info_found) ?_)
      | (refine wpList_store_row rfl 57 (.tmp 8) (.tmp 106) rfl w.heap.size z8 rfl rfl 57 z8 HJ0.out (by rw [z8_size]; exact info_found) rfl z8_one ?_))
    exact bodyPost_ret (v := .tuple #[.agg z8, .int .i64 0, .int .i64 12]) (results_record _ _ w.heap.size z8 rfl ((HJ0.out).setRow z8) rfl) rfl (RecPost.bad HR.out (bl_setRow HB2.out (Nat.le_refl _) z8))
  have d2I : ((fa : Int) != 0) = false := by rw [bne_eq_false_iff_eq]; omega
  by_cases d3 : mb = 0
  case neg =>
    rw [if_pos (.inr (.inr d3))] at hR
    have HR := bx hR.symm
    have d3I : ((mb : Int) != 0) = true := by rw [bne_iff_ne]; omega
    clear hR d2 d3
    go_wp2_with fail
    refine (num_at g b p 6 2 6 2 wf HD2.out rfl rfl (by omega) (by omega) (by omega) HVE.out).mono ?_
    rintro e w6 ⟨rfl, rfl⟩
    go_wp2_with fail
    refine (num_at g b p 8 2 8 2 w6 HD2.out rfl rfl (by omega) (by omega) (by omega) HFL.out).mono ?_
    rintro e w6 ⟨rfl, rfl⟩
    go_wp2_with (first
      | (refine wpList_load_row rfl 57 (.tmp 11) rfl (w.heap.size + 1) rfl _ z8 _ _ HJ1.out Tryd.underlying57 rfl (by rw [z8_size]; exact info_found) ?_)
      | (refine wpList_store_row rfl 57 (.tmp 8) (.tmp 106) rfl w.heap.size z8 rfl rfl 57 z8 HJ0.out (by rw [z8_size]; exact info_found) rfl z8_one ?_))
    exact bodyPost_ret (v := .tuple #[.agg z8, .int .i64 0, .int .i64 12]) (results_record _ _ w.heap.size z8 rfl ((HJ0.out).setRow z8) rfl) rfl (RecPost.bad HR.out (bl_setRow HB2.out (Nat.le_refl _) z8))
  have d3I : ((mb : Int) != 0) = false := by rw [bne_eq_false_iff_eq]; omega
  rw [if_neg (by rintro (h | h | h); exact d1 h; exact h d2; exact h d3)] at hR
  clear d1 d2 d3
  obtain ⟨nb, hnb⟩ : ∃ nb, nameA nm = nb := ⟨_, rfl⟩
  rw [hnb] at hR
  have HNA := bx hnb
  have hnml : nm.length ≤ 70000 := by have := HNL.out; omega
  have HR0 := bx hR
  clear hR hnb
  go_wp2_with fail
  refine (num_at g b p 6 2 6 2 wf HD2.out rfl rfl (by omega) (by omega) (by omega) HVE.out).mono ?_
  rintro e w6 ⟨rfl, rfl⟩
  go_wp2_with fail
  refine (num_at g b p 8 2 8 2 w6 HD2.out rfl rfl (by omega) (by omega) (by omega) HFL.out).mono ?_
  rintro e w6 ⟨rfl, rfl⟩
  go_wp2_with fail
  refine (name_any ⟨nm.toArray⟩ mx w6 (by show nm.toArray.size ≤ _; simp; omega) HX2.out).mono ?_
  rintro e w7 ⟨rfl, hb7⟩
  rw [show (⟨nm.toArray⟩ : ByteArray).data.toList = nm by simp, HNA.out]
  have HJ03 := bx (HJ0.out.below hb7 HJ0.out.lt)
  have HJ13 := bx (HJ1.out.below hb7 HJ1.out.lt)
  have HKR3 := bx (HKR.out.below hb7 HKR.out.lt)
  have HM3 := bx (HM2.out.below hb7 HM2.out.lt)
  have HB3 := bx (HB2.out.trans (hb7.mono HB2.out.size))
  have k03 : w7.cell? ⟨g2, 0, none⟩ = some (.string ⟨nm.toArray⟩) := by rw [HKR3.out.cell 0, ← HRC.out]; rfl
  clear hb7 k0 k1 HJ0 HJ1 HKR HM2 HB2 HX2 HD2 hbf hbm
  cases nb with
  | false =>
    have HR := bx (show R = .err 13 from by rw [← HR0.out]; rfl)
    go_wp2_with (first
      | (refine wpList_load_row rfl 57 (.tmp 11) rfl (w.heap.size + 1) rfl _ z8 _ _ HJ13.out Tryd.underlying57 rfl (by rw [z8_size]; exact info_found) ?_)
      | (refine wpList_store_row rfl 57 (.tmp 8) (.tmp 112) rfl w.heap.size z8 rfl rfl 57 z8 HJ03.out (by rw [z8_size]; exact info_found) rfl z8_one ?_))
    exact bodyPost_ret (v := .tuple #[.agg z8, .int .i64 0, .int .i64 13]) (results_record _ _ w.heap.size z8 rfl ((HJ03.out).setRow z8) rfl) rfl (RecPost.bad HR.out (bl_setRow HB3.out (Nat.le_refl _) z8))
  | true =>
  have HKY := bx (keyV nm hnml)
  by_cases d5 : nm ∈ seen
  · have HR := bx (show R = .err 14 from by rw [← HR0.out, if_neg (by simp), if_pos d5])
    have HG1 := bx (show (seenG seen nm).getD (.bool false) = .bool true from by unfold seenG; rw [if_pos d5]; rfl)
    clear d5
    go_wp2_with (first
      | (at_lookup; refine wpList_lookT rfl (.tmp 113) (.tmp 116) _ rfl 4 strVK Tryd.underlying55 (.bool false) (zeroBl_run _) rfl HM3.out nm _ rfl HKY.out ?_; rw [HG1.out])
      | (refine wpList_load_row rfl 57 (.tmp 11) rfl (w.heap.size + 1) rfl _ z8 _ _ HJ13.out Tryd.underlying57 rfl (by rw [z8_size]; exact info_found) ?_)
      | (refine wpList_store_row rfl 57 (.tmp 8) (.tmp 118) rfl w.heap.size z8 rfl rfl 57 z8 HJ03.out (by rw [z8_size]; exact info_found) rfl z8_one ?_))
    exact bodyPost_ret (v := .tuple #[.agg z8, .int .i64 0, .int .i64 14]) (results_record _ _ w.heap.size z8 rfl ((HJ03.out).setRow z8) rfl) rfl (RecPost.bad HR.out (bl_setRow HB3.out (Nat.le_refl _) z8))
  have HR := bx (show R = .ok (rc, p + 46 + sz + ex + cm) from by rw [← HR0.out, if_neg (by simp), if_neg d5, HRC.out])
  have HG1 := bx (show (seenG seen nm).getD (.bool false) = .bool false from by unfold seenG; rw [if_neg d5]; rfl)
  clear d5 HNA HR0 HJ13
  go_wp2_with (first
    | (at_lookup; refine wpList_lookT rfl (.tmp 113) (.tmp 116) _ rfl 4 strVK Tryd.underlying55 (.bool false) (zeroBl_run _) rfl HM3.out nm _ rfl HKY.out ?_; rw [HG1.out])
    | (at_mapUpdate; refine wpList_storeT rfl (.tmp 119) (.tmp 122) _ _ rfl 4 strVK Tryd.underlying55 rfl HM3.out strV_inj (by unfold maxLen; omega) nm (.bool true) _ rfl rfl HKY.out ?_; intro w8 hM8 hg8
       have HJ08 := bx (HJ03.out.grown hg8 (by have := HM.out.lt; intro e; injection e with e; omega))
       have HKR8 := bx (HKR3.out.grown hg8 (by have := HM.out.lt; intro e; injection e with e; omega))
       have HB8 := bx hg8
       have HM8 := bx hM8
       clear hg8 hM8)
    | (refine wpList_load_row rfl 57 (.tmp 14) rfl g2 rfl _ (fndC rc 0 p) _ _ HKR8.out Tryd.underlying57 rfl (by rw [fndC_size]; exact info_found) ?_)
    | (refine wpList_store_row rfl 57 (.tmp 8) (.tmp 123) rfl w.heap.size (fndC rc 0 p) rfl rfl 57 z8 HJ08.out (by rw [fndC_size]; exact info_found) rfl (fndC_one _ _ _) ?_))
  exact bodyPost_ret (v := .tuple #[.agg (fndC rc 0 p), .int .i64 ((p + 46 + sz + ex + cm : Nat) : Int), .int .i64 0]) (results_record _ _ w.heap.size (fndC rc 0 p) rfl (HJ08.out.setRow _) (fndC_size _ _ _)) rfl (RecPost.good HR.out (gb_setRow (gb_trans (gb_below HB3.out _) HB8.out) (Nat.le_refl _) _) (MapT.seen (HM8.out.setRow (by have := HM.out.lt; omega) _) (by rw [← HRC.out])))
end Go.Proofs.YtokojichjliieaaDoor
