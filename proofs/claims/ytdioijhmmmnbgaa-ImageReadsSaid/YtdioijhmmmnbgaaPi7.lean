/- Class files in memory: rows of rows. Nothing here speaks of the program. Contracts: samovarref14.SameAttrs, SameMembers: they read alone. Class files in memory: what lies beside a growing row of attributes or members. Nothing here speaks of the program. -/
import Derived.Test.YtdioijhmmmnbgaaPi1
import Derived.Test.YtdioijhmmmnbgaaPi2
import Derived.Test.YtdioijhmmmnbgaaPi6
namespace Go.Proofs.Ytdioijhmmmnbgaa
open Go.RowKit
/-- An attribute as it lies. -/
structure AtE where
  name : Int
  s : Sl
def AtE.p (x : AtE) : Att := ⟨x.name, x.s.l⟩
def attC (x : AtE) : List Value := [.int .i64 x.name, .slice x.s.A x.s.n x.s.c]
theorem attCels : Cels attC 2 := ⟨fun _ => rfl, fun x u hu => by
  simp only [attC, List.mem_cons, List.not_mem_nil, or_false] at hu
  rcases hu with rfl | rfl <;> rfl, by omega⟩
def RA (w : World) (B : Nat) (A : Option Addr) (L : List AtE) : Prop := RS attC w B A L ∧ ∀ x ∈ L, SlB w B x.s
/-- A field or a method as it lies. -/
structure MmE where
  access : Int
  name : Int
  desc : Int
  A : Option Addr
  n : Nat
  c : Nat
  L : List AtE
def MmE.p (x : MmE) : Mem := ⟨x.access, x.name, x.desc, x.L.map AtE.p⟩
def memC (x : MmE) : List Value := [.int .i64 x.access, .int .i64 x.name, .int .i64 x.desc, .slice x.A x.n x.c]
theorem memCels : Cels memC 4 := ⟨fun _ => rfl, fun x u hu => by
  simp only [memC, List.mem_cons, List.not_mem_nil, or_false] at hu
  rcases hu with rfl | rfl | rfl | rfl <;> rfl, by omega⟩
def MmB (w : World) (B : Nat) (x : MmE) : Prop := x.L.length = x.n ∧ x.n ≤ x.c ∧ (x.c : Int) ≤ 9223372036854775807 ∧ RA w B x.A x.L
def RM (w : World) (B : Nat) (A : Option Addr) (L : List MmE) : Prop := RS memC w B A L ∧ ∀ x ∈ L, MmB w B x
def cstC (x : Cst) : List Value := [.int .i64 x.tag, .int .i64 x.a, .int .i64 x.b, .int .i64 x.num, .string ⟨x.text.toArray⟩]
theorem cstCels : Cels cstC 5 := ⟨fun _ => rfl, fun x u hu => by
  simp only [cstC, List.mem_cons, List.not_mem_nil, or_false] at hu
  rcases hu with rfl | rfl | rfl | rfl | rfl <;> rfl, by omega⟩
section
variable {w w' : World} {B B' : Nat} {A : Option Addr}
theorem RA.below {L : List AtE} (h : RA w B A L) (hb : Below B' w w') (hB : B ≤ B') : RA w' B A L := ⟨h.1.below hb hB, fun x hx => (h.2 x hx).below hb hB⟩
theorem RA.more {L : List AtE} (h : RA w B A L) (hB : B ≤ B') : RA w B' A L := ⟨h.1.more hB, fun x hx => (h.2 x hx).more hB⟩
theorem RA.nil : RA w B none [] := ⟨RS.nil, fun x hx => by cases hx⟩
theorem MmB.below {x : MmE} (h : MmB w B x) (hb : Below B' w w') (hB : B ≤ B') : MmB w' B x := ⟨h.1, h.2.1, h.2.2.1, h.2.2.2.below hb hB⟩
theorem MmB.more {x : MmE} (h : MmB w B x) (hB : B ≤ B') : MmB w B' x := ⟨h.1, h.2.1, h.2.2.1, h.2.2.2.more hB⟩
theorem RM.below {L : List MmE} (h : RM w B A L) (hb : Below B' w w') (hB : B ≤ B') : RM w' B A L := ⟨h.1.below hb hB, fun x hx => (h.2 x hx).below hb hB⟩
theorem RM.more {L : List MmE} (h : RM w B A L) (hB : B ≤ B') : RM w B' A L := ⟨h.1.more hB, fun x hx => (h.2 x hx).more hB⟩
theorem RM.nil : RM w B none [] := ⟨RS.nil, fun x hx => by cases hx⟩
end
/-- An image as it lies. -/
structure ImE where
  minor : Int
  major : Int
  pA : Option Addr
  pn : Nat
  pc : Nat
  pool : List Cst
  access : Int
  this : Int
  super : Int
  iA : Option Addr
  i_n : Nat
  ic : Nat
  ifs : List Int
  fA : Option Addr
  fn : Nat
  fc : Nat
  fs : List MmE
  mA : Option Addr
  mn : Nat
  mc : Nat
  ms : List MmE
  aA : Option Addr
  an : Nat
  ac : Nat
  as_ : List AtE
def ImE.p (x : ImE) : Img := ⟨x.minor, x.major, x.pool, x.access, x.this, x.super, x.ifs, x.fs.map MmE.p, x.ms.map MmE.p, x.as_.map AtE.p⟩
def imC (x : ImE) : Array Value := #[.int .i64 x.minor, .int .i64 x.major, .slice x.pA x.pn x.pc, .int .i64 x.access, .int .i64 x.this, .int .i64 x.super, .slice x.iA x.i_n x.ic, .slice x.fA x.fn x.fc, .slice x.mA x.mn x.mc, .slice x.aA x.an x.ac]
structure RIm (w : World) (B : Nat) (x : ImE) : Prop where
  pool : RS cstC w B x.pA x.pool
  pl : x.pool.length = x.pn ∧ x.pn ≤ x.pc ∧ (x.pc : Int) ≤ 9223372036854775807
  ifs : RL iV w B x.iA x.ifs
  il : x.ifs.length = x.i_n ∧ x.i_n ≤ x.ic ∧ (x.ic : Int) ≤ 9223372036854775807
  fs : RM w B x.fA x.fs
  fl : x.fs.length = x.fn ∧ x.fn ≤ x.fc ∧ (x.fc : Int) ≤ 9223372036854775807
  ms : RM w B x.mA x.ms
  ml : x.ms.length = x.mn ∧ x.mn ≤ x.mc ∧ (x.mc : Int) ≤ 9223372036854775807
  as_ : RA w B x.aA x.as_
  al : x.as_.length = x.an ∧ x.an ≤ x.ac ∧ (x.ac : Int) ≤ 9223372036854775807
section
variable {w w' : World} {B B' : Nat} {x : ImE}
theorem RIm.below (h : RIm w B x) (hb : Below B' w w') (hB : B ≤ B') : RIm w' B x := ⟨h.pool.below hb hB, h.pl, h.ifs.below hb hB, h.il, h.fs.below hb hB, h.fl, h.ms.below hb hB, h.ml, h.as_.below hb hB, h.al⟩
theorem RIm.more (h : RIm w B x) (hB : B ≤ B') : RIm w B' x := ⟨h.pool.more hB, h.pl, h.ifs.more hB, h.il, h.fs.more hB, h.fl, h.ms.more hB, h.ml, h.as_.more hB, h.al⟩
end
end Go.Proofs.Ytdioijhmmmnbgaa
namespace Go.Proofs.Ytdioijhmmmnbgaa
open Go.RowKit
theorem RA.at_ {w : World} {B : Nat} {A : Option Addr} {L : List AtE} (h : RA w B A L) {k : Nat} (hk : k < L.length) :
    ∃ ad x, A = some ad ∧ ad.block < B ∧ Bx (L[k]? = some x) ∧ w.cell? (ad.add (k * 2)) = some (.int .i64 x.name) ∧ w.cell? ⟨(ad.add (k * 2)).block, (ad.add (k * 2)).off + 1, none⟩ = some (.slice x.s.A x.s.n x.s.c) ∧ Bx (SlB w B x.s) := by
  obtain ⟨ad, x, hA, hlt, hx, hc, hcs⟩ := h.1.at_ attCels hk
  exact ⟨ad, x, hA, hlt, bx hx.out, hc _ rfl, hcs 0 _ rfl, bx (h.2 x (List.mem_of_getElem? hx.out))⟩
theorem RA.drewN {w : World} {B : Nat} {A : Option Addr} {L : List AtE} (h : RA w B A L) (n : Nat) : RA (w.drewN n) B A L := ⟨h.1, h.2⟩
theorem att_same {L M : List AtE} {k : Nat} {x y : AtE} (h : (L.take k).map AtE.p = (M.take k).map AtE.p) (hx : L[k]? = some x) (hy : M[k]? = some y) (hn : x.name = y.name) (hd : x.s.l = y.s.l) : (L.take (k + 1)).map AtE.p = (M.take (k + 1)).map AtE.p := by
  rw [List.take_add_one, List.take_add_one, hx, hy, List.map_append, List.map_append, h]
  show _ ++ [(⟨x.name, x.s.l⟩ : Att)] = _ ++ [⟨y.name, y.s.l⟩]
  rw [hn, hd]
theorem map_diff {α β : Type} {f : α → β} {L M : List α} {k : Nat} {x y : α} (hx : L[k]? = some x) (hy : M[k]? = some y) (h : f x ≠ f y) : L.map f ≠ M.map f := fun e => by
  have h1 := congrArg (fun l => l[k]?) e
  simp only [List.getElem?_map, hx, hy, Option.map_some] at h1
  injection h1 with h1
  exact h h1
set_option maxRecDepth 100000 in
set_option maxHeartbeats 2000000 in
theorem sameAtts_quiet (A1 A2 : Option Addr) (n1 c1 n2 c2 : Nat) (L1 L2 : List AtE) (w : World) (h1 : L1.length = n1) (h2 : L2.length = n2) (hb1 : (n1 : Int) ≤ 140737488355328) (_hb2 : (n2 : Int) ≤ 140737488355328) (hs1 : ∀ x ∈ L1, x.s.n ≤ 140737488355328) (hs2 : ∀ x ∈ L2, x.s.n ≤ 140737488355328)
    (r1 : RA w w.heap.size A1 L1) (r2 : RA w w.heap.size A2 L2) :
    Calls Try.prog 40 #[.slice A1 n1 c1, .slice A2 n2 c2] w fun e w' => e = .returned (.bool (decide (L1.map AtE.p = L2.map AtE.p))) ∧ ∃ q, w' = w.drewN q := by
  have HL1 := bx h1
  have HL2 := bx h2
  have HS1 := bx hs1
  have HS2 := bx hs2
  have HR1 := bx r1
  have HR2 := bx r2
  clear h1 h2 hs1 hs2 r1 r2
  by_cases he : n1 = n2
  · have he1 : ((n1 : Int) != (n2 : Int)) = false := by simp [he]
    have HE := bx he
    obtain ⟨R, hR⟩ : ∃ R, decide (L1.map AtE.p = L2.map AtE.p) = R := ⟨_, rfl⟩
    rw [hR]
    have HR := bx hR
    have HQ0 : Bx ((L1.take 0).map AtE.p = (L2.take 0).map AtE.p) := bx rfl
    have HW0 : Bx (∃ m, w = w.drewN m) := bx ⟨0, rfl⟩
    clear he hR
    go_enter Try.func40, Try.ntmps40
    go_wp2
    go_loopw [5] (fun i wr => ∃ k : Nat, k ≤ n1 ∧ i = .int .i64 (k : Int) ∧ Bx ((L1.take k).map AtE.p = (L2.take k).map AtE.p) ∧ Bx (∃ m, wr = w.drewN m)) (fun i _ => n1 - (intOf i).toNat)
    case atStart => exact ⟨0, by omega, rfl, HQ0, HW0⟩
    case round =>
      clear HQ0 HW0
      obtain ⟨k, hk, rfl, HQ, HW⟩ := hrel
      by_cases hk0 : k < n1
      · have hk1 : k < n2 := by have := HE.out; omega
        have hkI : (k : Int) < (n1 : Int) := by omega
        have hkI2 : (k : Int) < (n2 : Int) := by omega
        have hRR : RA wr wr.heap.size A1 L1 ∧ RA wr wr.heap.size A2 L2 := by
          obtain ⟨m, e⟩ := HW.out
          rw [e]; exact ⟨HR1.out.drewN m, HR2.out.drewN m⟩
        obtain ⟨ad, x, rfl, _, HX, p0, p1, HSX⟩ := hRR.1.at_ (k := k) (by rw [HL1.out]; exact hk0)
        obtain ⟨bd, y, rfl, _, HY, q0, q1, HSY⟩ := hRR.2.at_ (k := k) (by rw [HL2.out]; exact hk1)
        have hx9 := HS1.out x (List.mem_of_getElem? HX.out)
        have hy9 := HS2.out y (List.mem_of_getElem? HY.out)
        have HSM := bx (fun m => same_quiet x.s.A y.s.A x.s.n x.s.c y.s.n y.s.c (wr.drewN m) x.s.l y.s.l HSX.out.1 HSY.out.1 (by omega) (by omega) (RL.drewN HSX.out.2.2.2 m) (RL.drewN HSY.out.2.2.2 m))
        clear hRR hx9 hy9
        by_cases hn : x.name = y.name
        · have hb1 : (x.name != y.name) = false := by simp [hn]
          by_cases hd : x.s.l = y.s.l
          · have HQ2 := bx (att_same HQ.out HX.out HY.out hn hd)
            rw [decide_eq_true hd] at HSM
            clear hn hd HQ
            go_wp2
            go_quiet ((go_at_call 13; exact Calls.quiet_of (HSM.out _)))
            have HW2 : Bx (∀ nq, ∃ m, wr.drewN nq = w.drewN m) := bx (fun nq => by
              obtain ⟨m, e⟩ := HW.out
              rw [e]; exact ⟨m + nq, World.drewN_drewN _ _ _⟩)
            go_wp2
            go_roundw
            case rel => exact ⟨k + 1, by omega, by go_num, HQ2, bx (HW2.out _)⟩
            case measure => simp [intOf]; omega
          · have HN : Bx (R = false) := bx (by
              rw [← HR.out]; exact decide_eq_false (map_diff HX.out HY.out (fun e => hd (congrArg Att.data e))))
            rw [decide_eq_false hd] at HSM
            clear hn hd HQ
            go_wp2
            go_quiet ((go_at_call 13; exact Calls.quiet_of (HSM.out _)))
            have HW2 : Bx (∀ nq, ∃ m, wr.drewN nq = w.drewN m) := bx (fun nq => by
              obtain ⟨m, e⟩ := HW.out
              rw [e]; exact ⟨m + nq, World.drewN_drewN _ _ _⟩)
            go_wp2
            go_ret
            exact ⟨by rw [HN.out]; rfl, HW2.out _⟩
        · have hb1 : (x.name != y.name) = true := by simp [hn]
          have HN : Bx (R = false) := bx (by
            rw [← HR.out]; exact decide_eq_false (map_diff HX.out HY.out (fun e => hn (congrArg Att.name e))))
          clear hn HQ
          go_wp2
          go_quiet (fail)
          have HW2 : Bx (∀ nq, ∃ m, wr.drewN nq = w.drewN m) := bx (fun nq => by
            obtain ⟨m, e⟩ := HW.out
            rw [e]; exact ⟨m + nq, World.drewN_drewN _ _ _⟩)
          go_wp2
          go_ret
          exact ⟨by rw [HN.out]; rfl, HW2.out _⟩
      · obtain rfl : n1 = k := by omega
        have hkI : ¬ (n1 : Int) < (n1 : Int) := by omega
        have HN : Bx (R = true) := bx (by
          have h9 := HQ.out
          rw [List.take_of_length_le (by rw [HL1.out]; exact Nat.le_refl _), List.take_of_length_le (by rw [HL2.out, ← HE.out]; exact Nat.le_refl _)] at h9
          rw [← HR.out]; exact decide_eq_true h9)
        clear HQ
        go_wp2
        go_ret
        exact ⟨by rw [HN.out]; rfl, HW.out⟩
  · have he1 : ((n1 : Int) != (n2 : Int)) = true := by simp; omega
    have hne : decide (L1.map AtE.p = L2.map AtE.p) = false := decide_eq_false (fun e => he (by have := congrArg List.length e; rw [List.length_map, List.length_map, HL1.out, HL2.out] at this; exact this))
    rw [hne]
    clear he hne
    go_enter Try.func40, Try.ntmps40
    go_wp2
    go_ret
    exact ⟨rfl, 0, rfl⟩
end Go.Proofs.Ytdioijhmmmnbgaa
namespace Go.Proofs.Ytdioijhmmmnbgaa
open Go.RowKit
/-- A row of attributes in blocks that X allows. -/
def RAX (w : World) (X : Nat → Prop) (A : Option Addr) (L : List AtE) : Prop := Rx w X A (L.flatMap attC) ∧ ∀ x ∈ L, SlX w X x.s
/-- A member's rows in blocks that X allows. -/
def MmX (w : World) (X : Nat → Prop) (x : MmE) : Prop := x.L.length = x.n ∧ x.n ≤ x.c ∧ (x.c : Int) ≤ 9223372036854775807 ∧ RAX w X x.A x.L
/-- Blocks from B on that stand, but for the row's own. -/
def Bel (B : Nat) (w : World) (v : Value) (k : Nat) : Prop := B ≤ k ∧ k < w.heap.size ∧ v.ownBlock ≠ some k
def SubsA (B : Nat) (w : World) (v : Value) (L : List AtE) : Prop := ∀ x ∈ L, SlX w (Bel B w v) x.s
def SubsM (B : Nat) (w : World) (v : Value) (L : List MmE) : Prop := ∀ x ∈ L, MmX w (Bel B w v) x
section
variable {w w' : World} {X Y : Nat → Prop} {A : Option Addr} {L N : List AtE} {M K : List MmE} {x : MmE} {v v' : Value} {B : Nat} {e : TypeId}
theorem RAX.step (h : RAX w X A L) (hs : ∀ k, X k → w'.heap[k]? = w.heap[k]?) (hY : ∀ k, X k → Y k) : RAX w' Y A L := ⟨h.1.step hs hY, fun x hx => (h.2 x hx).step hs hY⟩
theorem MmX.step (h : MmX w X x) (hs : ∀ k, X k → w'.heap[k]? = w.heap[k]?) (hY : ∀ k, X k → Y k) : MmX w' Y x := ⟨h.1, h.2.1, h.2.2.1, h.2.2.2.step hs hY⟩
theorem RAX.ra (h : RAX w X A L) (hX : ∀ k, X k → k < B) : RA w B A L := ⟨fun hn => by
  obtain ⟨ad, e, hx, hc⟩ := h.1 hn
  exact ⟨ad, e, hX _ hx, hc⟩, fun x hx => (h.2 x hx).slB hX⟩
theorem MmX.mmB (h : MmX w X x) (hX : ∀ k, X k → k < B) : MmB w B x := ⟨h.1, h.2.1, h.2.2.1, h.2.2.2.ra hX⟩
/-- What turns is the row's own block, or lies below B, or is new. -/
theorem bel_own (hg : w.grownBy w' v.ownBlock) : ∀ k, Bel B w v k → w'.heap[k]? = w.heap[k]? := fun k hk => hg.block k hk.2.1 (fun e => hk.2.2 e.symm)
theorem bel_next (hg : w.grownBy w' v.ownBlock) (hv : v'.ownBlock = v.ownBlock ∨ v'.ownBlock = some w.heap.size) : ∀ k, Bel B w v k → Bel B w' v' k := fun k hk => ⟨hk.1, Nat.lt_of_lt_of_le hk.2.1 hg.size, by
  rcases hv with e | e
  · rw [e]; exact hk.2.2
  · rw [e]; intro e2; injection e2 with e2; have := hk.2.1; omega⟩
theorem bel_ch {S : Nat → Prop} (c : Ch w w' S) (hS : ∀ k, S k → k < B) : (∀ k, Bel B w v k → w'.heap[k]? = w.heap[k]?) ∧ ∀ k, Bel B w v k → Bel B w' v k :=
  ⟨fun k hk => c.same k hk.2.1 (fun h => Nat.lt_irrefl _ (Nat.lt_of_lt_of_le (hS k h) hk.1)), fun _ hk => ⟨hk.1, Nat.lt_of_lt_of_le hk.2.1 c.size, hk.2.2⟩⟩
theorem SubsA.nil : SubsA B w v [] := fun _ h => by cases h
theorem SubsM.nil : SubsM B w v [] := fun _ h => by cases h
theorem SubsA.ch {S : Nat → Prop} (h : SubsA B w v L) (c : Ch w w' S) (hS : ∀ k, S k → k < B) : SubsA B w' v L := fun x hx => (h x hx).step (bel_ch c hS).1 (bel_ch c hS).2
theorem SubsM.ch {S : Nat → Prop} (h : SubsM B w v M) (c : Ch w w' S) (hS : ∀ k, S k → k < B) : SubsM B w' v M := fun x hx => (h x hx).step (bel_ch c hS).1 (bel_ch c hS).2
theorem SubsA.below (h : SubsA B w v L) (hb : Below w.heap.size w w') : SubsA B w' v L := h.ch (Ch.of_below (S := fun _ => False) hb) (fun _ h => h.elim)
theorem SubsM.below (h : SubsM B w v M) (hb : Below w.heap.size w w') : SubsM B w' v M := h.ch (Ch.of_below (S := fun _ => False) hb) (fun _ h => h.elim)
theorem SubsA.app (h : SubsA B w v L) (hn : SubsA B w v N) (hg : w.grownBy w' v.ownBlock) (hv : v'.ownBlock = v.ownBlock ∨ v'.ownBlock = some w.heap.size) : SubsA B w' v' (L ++ N) := fun x hx => by
  have h0 : SlX w (Bel B w v) x.s := by
    rcases List.mem_append.1 hx with e | e
    · exact h x e
    · exact hn x e
  exact h0.step (bel_own hg) (bel_next hg hv)
theorem SubsM.app (h : SubsM B w v M) (hn : SubsM B w v K) (hg : w.grownBy w' v.ownBlock) (hv : v'.ownBlock = v.ownBlock ∨ v'.ownBlock = some w.heap.size) : SubsM B w' v' (M ++ K) := fun x hx => by
  have h0 : MmX w (Bel B w v) x := by
    rcases List.mem_append.1 hx with e | e
    · exact h x e
    · exact hn x e
  exact h0.step (bel_own hg) (bel_next hg hv)
theorem SubsA.one {x : AtE} (h : SlX w (Bel B w v) x.s) : SubsA B w v [x] := fun y hy => by
  rcases List.mem_cons.1 hy with e | e
  · rw [e]; exact h
  · cases e
theorem SubsM.one (h : MmX w (Bel B w v) x) : SubsM B w v [x] := fun y hy => by
  rcases List.mem_cons.1 hy with e | e
  · rw [e]; exact h
  · cases e
/-- A new row of bytes. -/
theorem SlX.fresh {y : Sl} (h : SlB w w.heap.size y) {S : Nat} (hS : B ≤ S) (hA : ∀ q, y.A = some q → S ≤ q.block) (hv : ∀ k, v.ownBlock = some k → k < S) : SlX w (Bel B w v) y := ⟨h.1, h.2.1, h.2.2.1, fun hn => by
  obtain ⟨ad, e, hx, hc⟩ := h.2.2.2 hn
  exact ⟨ad, e, ⟨Nat.le_trans hS (hA _ e), hx, fun e2 => by have := hv _ e2; have := hA _ e; omega⟩, hc⟩⟩
/-- A new row of attributes as a member's. -/
theorem MmX.fresh {S : Nat} {V : Value} (ho : OwS attC 2 w S e V L) (hs : SubsA S w V L) {n c : Nat} (hV : V = .slice A n c) (hS : B ≤ S) (hv : ∀ k, v.ownBlock = some k → k < S) {a b d : Int} : MmX w (Bel B w v) ⟨a, b, d, A, n, c, L⟩ := by
  subst hV
  have hn : L.length = n := by have := OwS.len ho; omega
  refine ⟨hn, ?_, ?_, fun hne => ?_, fun x hx => (hs x hx).step (fun _ _ => rfl) (fun k hk => ⟨Nat.le_trans hS hk.1, hk.2.1, fun e => by have := hv k e; have := hk.1; omega⟩)⟩
  · rcases ho.2 with ⟨e, h0⟩ | ⟨g, cap, cur, e, _, _, hc, hm, _⟩
    · injection e with _ e1 e2; show n ≤ c; omega
    · injection e with _ e1 e2; show n ≤ c; omega
  · rcases ho.2 with ⟨e, h0⟩ | ⟨g, cap, cur, e, _, _, hc, hm, _⟩
    · injection e with _ e1 e2; show (c : Int) ≤ _; omega
    · injection e with _ e1 e2; show (c : Int) ≤ _; unfold maxLen at hm; omega
  · obtain ⟨A', c', e, hr, _⟩ := OwS.rd ho
    injection e with e1 _ _
    subst e1
    obtain ⟨ad, e2, hx, hc⟩ := hr hne
    subst e2
    rcases ho.2 with ⟨e, h0⟩ | ⟨g, cap, cur, e, hb, _⟩
    · injection e with e _ _; cases e
    · injection e with e _ _
      injection e with e
      subst e
      exact ⟨_, rfl, ⟨Nat.le_trans hS hb, hx, fun e => by have := hv g e; omega⟩, hc⟩
end
end Go.Proofs.Ytdioijhmmmnbgaa
