/- Class files in memory: rows of rows. Nothing here speaks of the program. -/
import Derived.Test.YtdioijhmmmnbgaaPi1
import Derived.Test.YtdioijhmmmnbgaaPi2
namespace Go.Proofs.Ytdioijhmmmnbgaa
open Go.RowKit
/-- An attribute as it lies. -/
structure AtE where
  name : Int
  s : Sl
def AtE.p (x : AtE) : Att := ⟨x.name, x.s.l⟩
def attC (x : AtE) : List Value := [.int .i64 x.name, .slice x.s.A x.s.n x.s.c]
theorem attCels : Cels attC 2 := ⟨fun _ => rfl, fun x u hu => by
  simp only [attC, List.mem_cons, List.not_mem_nil, or_false] at hu
  rcases hu with rfl | rfl <;> rfl, by omega⟩
def RA (w : World) (B : Nat) (A : Option Addr) (L : List AtE) : Prop := RS attC w B A L ∧ ∀ x ∈ L, SlB w B x.s
/-- A field or a method as it lies. -/
structure MmE where
  access : Int
  name : Int
  desc : Int
  A : Option Addr
  n : Nat
  c : Nat
  L : List AtE
def MmE.p (x : MmE) : Mem := ⟨x.access, x.name, x.desc, x.L.map AtE.p⟩
def memC (x : MmE) : List Value := [.int .i64 x.access, .int .i64 x.name, .int .i64 x.desc, .slice x.A x.n x.c]
theorem memCels : Cels memC 4 := ⟨fun _ => rfl, fun x u hu => by
  simp only [memC, List.mem_cons, List.not_mem_nil, or_false] at hu
  rcases hu with rfl | rfl | rfl | rfl <;> rfl, by omega⟩
def MmB (w : World) (B : Nat) (x : MmE) : Prop := x.L.length = x.n ∧ x.n ≤ x.c ∧ (x.c : Int) ≤ 9223372036854775807 ∧ RA w B x.A x.L
def RM (w : World) (B : Nat) (A : Option Addr) (L : List MmE) : Prop := RS memC w B A L ∧ ∀ x ∈ L, MmB w B x
def cstC (x : Cst) : List Value := [.int .i64 x.tag, .int .i64 x.a, .int .i64 x.b, .int .i64 x.num, .string ⟨x.text.toArray⟩]
theorem cstCels : Cels cstC 5 := ⟨fun _ => rfl, fun x u hu => by
  simp only [cstC, List.mem_cons, List.not_mem_nil, or_false] at hu
  rcases hu with rfl | rfl | rfl | rfl | rfl <;> rfl, by omega⟩
section
variable {w w' : World} {B B' : Nat} {A : Option Addr}
theorem RA.below {L : List AtE} (h : RA w B A L) (hb : Below B' w w') (hB : B ≤ B') : RA w' B A L := ⟨h.1.below hb hB, fun x hx => (h.2 x hx).below hb hB⟩
theorem RA.more {L : List AtE} (h : RA w B A L) (hB : B ≤ B') : RA w B' A L := ⟨h.1.more hB, fun x hx => (h.2 x hx).more hB⟩
theorem RA.nil : RA w B none [] := ⟨RS.nil, fun x hx => by cases hx⟩
theorem MmB.below {x : MmE} (h : MmB w B x) (hb : Below B' w w') (hB : B ≤ B') : MmB w' B x := ⟨h.1, h.2.1, h.2.2.1, h.2.2.2.below hb hB⟩
theorem MmB.more {x : MmE} (h : MmB w B x) (hB : B ≤ B') : MmB w B' x := ⟨h.1, h.2.1, h.2.2.1, h.2.2.2.more hB⟩
theorem RM.below {L : List MmE} (h : RM w B A L) (hb : Below B' w w') (hB : B ≤ B') : RM w' B A L := ⟨h.1.below hb hB, fun x hx => (h.2 x hx).below hb hB⟩
theorem RM.more {L : List MmE} (h : RM w B A L) (hB : B ≤ B') : RM w B' A L := ⟨h.1.more hB, fun x hx => (h.2 x hx).more hB⟩
theorem RM.nil : RM w B none [] := ⟨RS.nil, fun x hx => by cases hx⟩
end
/-- An image as it lies. -/
structure ImE where
  minor : Int
  major : Int
  pA : Option Addr
  pn : Nat
  pc : Nat
  pool : List Cst
  access : Int
  this : Int
  super : Int
  iA : Option Addr
  i_n : Nat
  ic : Nat
  ifs : List Int
  fA : Option Addr
  fn : Nat
  fc : Nat
  fs : List MmE
  mA : Option Addr
  mn : Nat
  mc : Nat
  ms : List MmE
  aA : Option Addr
  an : Nat
  ac : Nat
  as_ : List AtE
def ImE.p (x : ImE) : Img := ⟨x.minor, x.major, x.pool, x.access, x.this, x.super, x.ifs, x.fs.map MmE.p, x.ms.map MmE.p, x.as_.map AtE.p⟩
def imC (x : ImE) : Array Value := #[.int .i64 x.minor, .int .i64 x.major, .slice x.pA x.pn x.pc, .int .i64 x.access, .int .i64 x.this, .int .i64 x.super, .slice x.iA x.i_n x.ic, .slice x.fA x.fn x.fc, .slice x.mA x.mn x.mc, .slice x.aA x.an x.ac]
structure RIm (w : World) (B : Nat) (x : ImE) : Prop where
  pool : RS cstC w B x.pA x.pool
  pl : x.pool.length = x.pn ∧ x.pn ≤ x.pc ∧ (x.pc : Int) ≤ 9223372036854775807
  ifs : RL iV w B x.iA x.ifs
  il : x.ifs.length = x.i_n ∧ x.i_n ≤ x.ic ∧ (x.ic : Int) ≤ 9223372036854775807
  fs : RM w B x.fA x.fs
  fl : x.fs.length = x.fn ∧ x.fn ≤ x.fc ∧ (x.fc : Int) ≤ 9223372036854775807
  ms : RM w B x.mA x.ms
  ml : x.ms.length = x.mn ∧ x.mn ≤ x.mc ∧ (x.mc : Int) ≤ 9223372036854775807
  as_ : RA w B x.aA x.as_
  al : x.as_.length = x.an ∧ x.an ≤ x.ac ∧ (x.ac : Int) ≤ 9223372036854775807
section
variable {w w' : World} {B B' : Nat} {x : ImE}
theorem RIm.below (h : RIm w B x) (hb : Below B' w w') (hB : B ≤ B') : RIm w' B x := ⟨h.pool.below hb hB, h.pl, h.ifs.below hb hB, h.il, h.fs.below hb hB, h.fl, h.ms.below hb hB, h.ml, h.as_.below hb hB, h.al⟩
theorem RIm.more (h : RIm w B x) (hB : B ≤ B') : RIm w B' x := ⟨h.pool.more hB, h.pl, h.ifs.more hB, h.il, h.fs.more hB, h.fl, h.ms.more hB, h.ml, h.as_.more hB, h.al⟩
end
end Go.Proofs.Ytdioijhmmmnbgaa
