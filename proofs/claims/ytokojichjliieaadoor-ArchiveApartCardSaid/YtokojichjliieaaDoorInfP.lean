/- Plain facts on unpacking: what squeezed bytes are unpacked to. -/
import Derived.Test.YtokojichjliieaaDoorBitP
import Derived.Test.YtokojichjliieaaDoorPfxP
namespace Go.Proofs.YtokojichjliieaaDoor

/-- An answer, or an error's number. -/
inductive Rz (α : Type) where
  | ok (a : α) : Rz α
  | err (e : Int) : Rz α
def Rz.bind {α β : Type} : Rz α → (α → Rz β) → Rz β
  | .ok a, f => f a
  | .err e, _ => .err e
/-- The next n bits at p. -/
def tk (b : List UInt8) (p n : Nat) : Rz (Nat × Nat) := if p + n ≤ 8 * b.length then .ok (takeN b p n, p + n) else .err 2
/-- The next symbol. -/
def nextF (l : List Nat) (b : List UInt8) : Nat → Nat → Nat → Nat → Rz (Nat × Nat)
  | 0, _, _, _ => .err 6
  | f + 1, n, c, p => if p + 1 ≤ 8 * b.length then (match symAt l (n + 1) (2 * c + bitAt b p) with
      | some s => .ok (s, p + 1)
      | none => nextF l b f (n + 1) (2 * c + bitAt b p) (p + 1)) else .err 2
def nextP (l : List Nat) (b : List UInt8) (p : Nat) : Rz (Nat × Nat) := nextF l b (mostP l) 0 0 p
/-- Lengths and distances. -/
def spreadP (c per : Nat) : Nat × Nat := if c < 2 * per then (c, 0) else ((per + c % per) * 2 ^ (c / per - 1), c / per - 1)
def lenP (s : Nat) : Nat × Nat := if s = 285 then (258, 0) else ((spreadP (s - 257) 4).1 + 3, (spreadP (s - 257) 4).2)
def dstP (t : Nat) : Nat × Nat := ((spreadP t 2).1 + 1, (spreadP t 2).2)
def copyN (far : Nat) : Nat → List UInt8 → List UInt8
  | 0, out => out
  | n + 1, out => copyN far n (out ++ [out.getD (out.length - far) 0])
/-- A block's symbols. -/
def symF (lit dist : List Nat) (b : List UInt8) (lim : Nat) : Nat → Nat → List UInt8 → Rz (List UInt8 × Nat)
  | 0, _, _ => .err 0
  | f + 1, p, out => (nextP lit b p).bind fun x =>
      if x.1 = 256 then .ok (out, x.2)
      else if x.1 < 256 then (if lim ≤ out.length then .err 8 else symF lit dist b lim f x.2 (out ++ [UInt8.ofNat x.1]))
      else if 285 < x.1 then .err 6
      else (tk b x.2 (lenP x.1).2).bind fun y => (nextP dist b y.2).bind fun z =>
        if 29 < z.1 then .err 6
        else (tk b z.2 (dstP z.1).2).bind fun u =>
          if out.length < (dstP z.1).1 + u.1 then .err 7
          else if lim < out.length + ((lenP x.1).1 + y.1) then .err 8
          else symF lit dist b lim f u.2 (copyN ((dstP z.1).1 + u.1) ((lenP x.1).1 + y.1) out)
/-- The lengths that a block tells. -/
def ordL : List Nat := [16, 17, 18, 0, 8, 7, 9, 6, 10, 5, 11, 4, 12, 3, 13, 2, 14, 1, 15]
def lensF (b : List UInt8) : List Nat → List Nat → Nat → Rz (List Nat × Nat)
  | [], l, p => .ok (l, p)
  | k :: r, l, p => (tk b p 3).bind fun x => lensF b r (l.set k x.1) x.2
def runP (s : Nat) (all : List Nat) : Nat × Nat × Nat :=
  if s = 16 then (all.getLastD 0, 3, 2) else if s = 17 then (0, 3, 3) else if s = 18 then (0, 11, 7) else (s, 1, 0)
def allF (lens : List Nat) (b : List UInt8) (total : Nat) : Nat → Nat → List Nat → Rz (List Nat × Nat)
  | 0, _, _ => .err 0
  | f + 1, p, all => if total ≤ all.length then .ok (all, p) else (nextP lens b p).bind fun x =>
      if x.1 = 16 ∧ all = [] then .err 6
      else (tk b x.2 (runP x.1 all).2.2).bind fun y =>
        if total < all.length + ((runP x.1 all).2.1 + y.1) then .err 6
        else allF lens b total f y.2 (all ++ List.replicate ((runP x.1 all).2.1 + y.1) (runP x.1 all).1)
def allP0 (lens : List Nat) (total : Nat) (b : List UInt8) (p : Nat) : Rz (List Nat × Nat) := allF lens b total (8 * b.length + 1) p []
def toldP (b : List UInt8) (p : Nat) : Rz ((List Nat × List Nat) × Nat) :=
  (tk b p 5).bind fun x => (tk b x.2 5).bind fun y => (tk b y.2 4).bind fun z =>
    if 286 < x.1 + 257 ∨ 30 < y.1 + 1 then .err 5
    else (lensF b (ordL.take (z.1 + 4)) (List.replicate 19 0) z.2).bind fun u =>
      if codeB u.1 false = false then .err 5
      else (allP0 u.1 (x.1 + 257 + (y.1 + 1)) b u.2).bind fun v =>
        if v.1.getD 256 0 = 0 then .err 5 else .ok ((v.1.take (x.1 + 257), v.1.drop (x.1 + 257)), v.2)
def fixLit : List Nat := List.replicate 144 8 ++ List.replicate 112 9 ++ List.replicate 24 7 ++ List.replicate 8 8
def fixDist : List Nat := List.replicate 32 5
/-- A stored block. -/
def byteN (b : List UInt8) (k : Nat) : Nat := (b.getD k 0).toNat
def storedP (b : List UInt8) (lim p : Nat) (out : List UInt8) : Rz (List UInt8 × Nat) :=
  if b.length < (p + 7) / 8 + 4 then .err 2
  else if byteN b ((p + 7) / 8) + 256 * byteN b ((p + 7) / 8 + 1) + (byteN b ((p + 7) / 8 + 2) + 256 * byteN b ((p + 7) / 8 + 3)) ≠ 65535 then .err 4
  else if lim < out.length + (byteN b ((p + 7) / 8) + 256 * byteN b ((p + 7) / 8 + 1)) then .err 8
  else if b.length < (p + 7) / 8 + 4 + (byteN b ((p + 7) / 8) + 256 * byteN b ((p + 7) / 8 + 1)) then .err 2
  else .ok (out ++ (b.drop ((p + 7) / 8 + 4)).take (byteN b ((p + 7) / 8) + 256 * byteN b ((p + 7) / 8 + 1)), 8 * ((p + 7) / 8 + 4 + (byteN b ((p + 7) / 8) + 256 * byteN b ((p + 7) / 8 + 1))))
def symP (lit dist : List Nat) (lim : Nat) (out : List UInt8) (b : List UInt8) (p : Nat) : Rz (List UInt8 × Nat) := symF lit dist b lim (8 * b.length + 1) p out
def codedP (lim : Nat) (out : List UInt8) (lit dist : List Nat) (b : List UInt8) (p : Nat) : Rz (List UInt8 × Nat) :=
  if codeB lit false = false then .err 5 else if codeB dist true = false then .err 5 else symP lit dist lim out b p
/-- What stands in one block, of the kind k. -/
def bodyP (lim : Nat) (out : List UInt8) (k : Nat) (b : List UInt8) (p : Nat) : Rz (List UInt8 × Nat) :=
  if k = 0 then storedP b lim p out else if k = 3 then .err 3
  else if k = 2 then (toldP b p).bind fun u => codedP lim out u.1.1 u.1.2 b u.2
  else codedP lim out fixLit fixDist b p
/-- One block: is it the last? -/
def blkP (lim : Nat) (out : List UInt8) (b : List UInt8) (p : Nat) : Rz ((Bool × List UInt8) × Nat) :=
  (tk b p 1).bind fun x => (tk b x.2 2).bind fun y => (bodyP lim out y.1 b y.2).bind fun z => .ok ((decide (x.1 = 1), z.1), z.2)
def allB (lim : Nat) (b : List UInt8) : Nat → Nat → List UInt8 → Rz (List UInt8 × Nat)
  | 0, _, _ => .err 0
  | f + 1, p, out => (blkP lim out b p).bind fun x => if x.1.1 = true then .ok (x.1.2, x.2) else allB lim b f x.2 x.1.2
/-- All blocks, and the bits that they take. -/
def allP (lim : Nat) (b : List UInt8) (p : Nat) : Rz (List UInt8 × Nat) := allB lim b (8 * b.length + 1) p []
/-- All that bytes begin with. -/
def inflP (b : List UInt8) (lim : Int) : Rz (List UInt8 × Nat) := if lim < 0 ∨ 32768 < lim then .err 1 else (allP lim.toNat b 0).bind fun x => .ok (x.1, (x.2 + 7) / 8)
end Go.Proofs.YtokojichjliieaaDoor
