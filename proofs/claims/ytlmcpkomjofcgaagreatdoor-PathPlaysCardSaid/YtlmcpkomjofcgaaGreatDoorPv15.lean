/- Plain: which errors unpacking has: none of a look's own. Plain: files, and a row of archives in which names are looked up. files.Files in memory. Contracts of files: New, Put, Size, Fail, Reads. Contract of files: Put. Contracts of files: Fail, Read. Contract of files: Read. path.Path in memory. Plain laws of looking names up in a row of archives. Contract of path: learn. Contract of path: among. Contracts of path: New, Find, First. What bundle.Make and Lay answered, taken apart. Nothing here speaks of the program. Contract: samovarref11.Make. Plain: a look during which a read failed, and the look behind it. -/
import Derived.Test.YtlmcpkomjofcgaaGreatDoorPv3
import Derived.Test.YtlmcpkomjofcgaaGreatDoorPv4
import Derived.Test.YtlmcpkomjofcgaaGreatDoorPv7
import Derived.Test.YtlmcpkomjofcgaaGreatDoorShelf
import Derived.Deep.RegionHeld3
import Derived.Deep.RegionWith
import Derived.BigRegion
import Derived.Test.YtlmcpkomjofcgaaGreatDoorPv8
import Derived.Test.YtlmcpkomjofcgaaGreatDoorPv9
import Derived.DeepKeys4
import Derived.Test.YtlmcpkomjofcgaaGreatDoorPv12
import Derived.Test.YtlmcpkomjofcgaaGreatDoorPv13
import Derived.Test.YtlmcpkomjofcgaaGreatDoorPv14
namespace Go.Proofs.YtlmcpkomjofcgaaGreatDoor
/-- An error of no look. -/
def Sm {α : Type} (r : Rz α) : Prop := ∀ k, r = .err k → k < 20
section
variable {α β : Type} {r : Rz α} {f : α → Rz β} {c : Prop} [Decidable c] {s t : Rz α}
end
end Go.Proofs.YtlmcpkomjofcgaaGreatDoor
namespace Go.Proofs.YtlmcpkomjofcgaaGreatDoor
/-- Files: rows of bytes under names, how many there are; how many reads there were; which were told to fail, and how often. -/
structure FS where
  rows : List UInt8 → Option (List UInt8)
  cnt : Nat
  reads : Nat
  fails : Nat → Bool
  nf : Nat
def FS.new : FS := ⟨fun _ => none, 0, 0, fun _ => false, 0⟩
def fnOk (s : List UInt8) : Bool := !s.isEmpty && decide (s.length ≤ 64) && !s.contains 0
def putFS (F : FS) (nm data : List UInt8) : Int × FS :=
  if fnOk nm = false then (13, F)
  else if 65536 < data.length then (8, F)
  else if F.rows nm = none ∧ 16 ≤ F.cnt then (17, F)
  else (0, { F with rows := fun q => if q = nm then some data else F.rows q, cnt := if (F.rows nm).isSome = true then F.cnt else F.cnt + 1 })
def nextFS (F : FS) : FS := { F with reads := F.reads + 1 }
/-- A range of a file. -/
def readFS (F : FS) (nm : List UInt8) (at_ n : Nat) : Rz (List UInt8) × FS :=
  match F.rows nm with
  | none => (.err 21, F)
  | some b => if b.length < at_ ∨ b.length - at_ < n then (.err 2, F)
    else if F.fails (F.reads + 1) = true then (.err 20, nextFS F)
    else (.ok ((b.drop at_).take n), nextFS F)
def failFS (F : FS) (k : Int) : Int × FS :=
  if k < 1 ∨ 65536 < k then (1, F) else (0, { F with fails := fun q => if q = F.reads + k.toNat then true else F.fails q, nf := F.nf + 1 })
/-- What is known of the files of a row. -/
abbrev Kn := Nat → Option (List (Rec × Nat))
def Kn.set (K : Kn) (i : Nat) (l : List (Rec × Nat)) : Kn := fun q => if q = i then some l else K q
/-- A file's directory is learned, unless it is known: the error, the files, what is known. -/
def learnP (nms : List (List UInt8)) (F : FS) (K : Kn) (i : Nat) : Int × FS × Kn :=
  match K i with
  | some _ => (0, F, K)
  | none => match F.rows (nms.getD i []) with
    | none => (36, F, K)
    | some b => match readFS F (nms.getD i []) 0 b.length with
      | (.err k, F') => (k, F', K)
      | (.ok b', F') => match dirA b' with
        | .err k => (k, F', K)
        | .ok l => (0, F', K.set i l)
def recOf (K : Kn) (i : Nat) (nm : List UInt8) : Option (Rec × Nat) := (K i).bind fun l => l.find? fun x => decide (x.1.name = nm)
/-- A record's bytes are read and unpacked. -/
def takeP (nms : List (List UInt8)) (F : FS) (i : Nat) (x : Rec × Nat) : Rz (List UInt8) × FS :=
  match readFS F (nms.getD i []) x.2 x.1.packed with
  | (.err k, F') => (.err k, F')
  | (.ok b, F') => (unpA x.1.method x.1.packed x.1.size x.1.sum b, F')
/-- A name is looked up in the files from the i-th on, so many of them. -/
def amongP (nms : List (List UInt8)) (nm : List UInt8) : Nat → Nat → FS → Kn → Rz (List UInt8) × FS × Kn
  | 0, _, F, K => (.err 21, F, K)
  | f + 1, i, F, K => match learnP nms F K i with
    | (k, F', K') => if k ≠ 0 then (.err k, F', K') else match recOf K' i nm with
      | none => amongP nms nm f (i + 1) F' K'
      | some x => ((takeP nms F' i x).1, (takeP nms F' i x).2, K')
end Go.Proofs.YtlmcpkomjofcgaaGreatDoor
namespace Go.Proofs.YtlmcpkomjofcgaaGreatDoor
open Go.RowKit
def intN (k : Nat) : Value := .int .i64 (k : Int)
theorem intN_inj (x y : Nat) (h : intN x = intN y) : x = y := by
  unfold intN at h
  simp only [Value.int.injEq, true_and] at h
  omega
theorem intK10 : Maps.Keyed Tryz.prog 3 := Maps.int_keyed Tryz.underlying3
theorem keyN (k : Nat) (h : (k : Int) ≤ 9223372036854775807) : keyOf Tryz.prog 3 (intN k) = some (.int .i64 (k : Int)) :=
  Maps.keyOf_int_mk Tryz.underlying3 (Go.WalkArith.wf_i64 (by omega))
theorem strV_inj10 (x y : List UInt8) (h : strV x = strV y) : x = y := by
  unfold strV at h
  simp only [Value.string.injEq, ByteArray.mk.injEq] at h
  have := congrArg Array.toList h
  simpa using this
theorem keyT (x : List UInt8) (h : x.length ≤ maxLen) : keyOf Tryz.prog 9 (strV x) = some (.string x) := by
  have := WideMaps.keyOf_string_mk (P := Tryz.prog) (s := ⟨x.toArray⟩) Tryz.underlying9 (by show x.toArray.size ≤ _; simpa using h)
  simpa [strV] using this
theorem strK10 : Maps.Keyed Tryz.prog 9 := Maps.string_keyed Tryz.underlying9
/-- The files in block gf, their maps in bR and bF; what M says are blocks that turn. -/
structure FsM (w : World) (M : Nat → Prop) (gf bR bF : Nat) (F : FS) : Prop where
  box : Bk w gf 60 #[.map (some bR), .int .i64 (F.reads : Int), .map (some bF)]
  rows : ∃ R : List UInt8 → Option Sl, MapZ strV w Tryz.prog 9 bR F.cnt (fun nm => (R nm).map slV) ∧ (∀ nm, (R nm).map (·.l) = F.rows nm) ∧ ∀ nm s, R nm = some s → SlX w (fun k => k < w.heap.size ∧ ¬ M k) s ∧ s.n ≤ 65536
  fails : ∃ n, n ≤ F.nf ∧ MapZ intN w Tryz.prog 3 bF n (fun k => if F.reads < k ∧ F.fails k = true then some (.bool true) else none)
  own : M gf ∧ M bR ∧ M bF
  ne : gf ≠ bR ∧ gf ≠ bF ∧ bR ≠ bF
  small : F.cnt ≤ 16 ∧ F.reads ≤ 1000000 ∧ F.nf ≤ 1000000
  all : ∀ k, M k → k < w.heap.size
section
variable {w w' : World} {M N S : Nat → Prop} {gf bR bF : Nat} {F : FS}
theorem FsM.lt (h : FsM w M gf bR bF F) : gf < w.heap.size ∧ bR < w.heap.size ∧ bF < w.heap.size := ⟨h.all _ h.own.1, h.all _ h.own.2.1, h.all _ h.own.2.2⟩
/-- What else turned. -/
theorem FsM.keep (h : FsM w M gf bR bF F) (c : Ch w w' S) (hS : ∀ k, k < w.heap.size → S k → M k ∧ k ≠ gf ∧ k ≠ bR ∧ k ≠ bF) : FsM w' M gf bR bF F := by
  have hs : ∀ k, k < w.heap.size → (k = gf ∨ k = bR ∨ k = bF ∨ ¬ M k) → w'.heap[k]? = w.heap[k]? := fun k hk hc => c.same k hk (fun e => by
    have := hS k hk e
    rcases hc with e | e | e | e
    · exact this.2.1 e
    · exact this.2.2.1 e
    · exact this.2.2.2 e
    · exact e this.1)
  have hl := h.lt
  obtain ⟨R, hR, hd, hsl⟩ := h.rows
  obtain ⟨n, hn, hF⟩ := h.fails
  exact ⟨(hs gf hl.1 (.inl rfl)).trans h.box, ⟨R, hR.same (hs bR hl.2.1 (.inr (.inl rfl))), hd, fun nm s hs' => ⟨(hsl nm s hs').1.step (fun k hk => hs k hk.1 (.inr (.inr (.inr hk.2)))) (fun k hk => ⟨Nat.lt_of_lt_of_le hk.1 c.size, hk.2⟩), (hsl nm s hs').2⟩⟩, ⟨n, hn, hF.same (hs bF hl.2.2 (.inr (.inr (.inl rfl))))⟩, h.own, h.ne, h.small, fun k hk => Nat.lt_of_lt_of_le (h.all k hk) c.size⟩
theorem FsM.below (h : FsM w M gf bR bF F) (hb : Below w.heap.size w w') : FsM w' M gf bR bF F := h.keep (S := fun _ => False) (Ch.of_below hb) (fun _ _ e => e.elim)
/-- More blocks that turn: new ones. -/
theorem FsM.more (h : FsM w M gf bR bF F) (hb : Below w.heap.size w w') (hN : ∀ k, M k → N k) (hN2 : ∀ k, N k → M k ∨ w.heap.size ≤ k) (hN3 : ∀ k, N k → k < w'.heap.size) : FsM w' N gf bR bF F := by
  have h2 := h.below hb
  obtain ⟨R, hR, hd, hsl⟩ := h.rows
  refine ⟨h2.box, ⟨R, hR.same (hb.block bR h.lt.2.1), hd, fun nm s hs' => ⟨(hsl nm s hs').1.step (fun k hk => hb.block k hk.1) (fun k hk => ⟨Nat.lt_of_lt_of_le hk.1 hb.size, fun e => ?_⟩), (hsl nm s hs').2⟩⟩, h2.fails, ⟨hN _ h.own.1, hN _ h.own.2.1, hN _ h.own.2.2⟩, h.ne, h.small, hN3⟩
  rcases hN2 k e with e | e
  · exact hk.2 e
  · have := hk.1; omega
end
/-- A row of the call's own as a file's bytes. -/
theorem slX_own {w : World} {B : Nat} {M : Nat → Prop} {e : TypeId} {A : Option Addr} {n c : Nat} {l : List UInt8} (h : OwB w B e (.slice A n c) l) (hM : ∀ k, M k → k < B) : SlX w (fun k => k < w.heap.size ∧ ¬ M k) ⟨A, n, c, l⟩ := by
  obtain ⟨A', c', e1, hr, h1, h2⟩ := OwL.rd h
  injection e1 with e1 e2 e3
  subst e1; subst e3
  refine ⟨e2.symm, by show n ≤ c; omega, h2, fun hn => ?_⟩
  obtain ⟨ad, e4, hb, hc⟩ := hr hn
  subst e4
  refine ⟨ad, rfl, ⟨hb, fun hm => ?_⟩, hc⟩
  have h3 := (World.ownsRow.lt h ad.block rfl).1
  have := hM _ hm
  omega
section
variable {P : Program} {ops : Array Oper} {o : Oper} {a : Act} {w w' : World} {K : Act → World → Prop} {Q : Exit → Act → World → Prop}
theorem wp_runMapU (m x v : Operand) (t : TypeId) (hop : o.op = Op.mapUpdate t m x v) (mv xv vv : Value) (hm : a.eval m = mv) (hx : a.eval x = xv) (hv : a.eval v = vv) (hrun : (Instr.mapUpdate t mv xv vv).run P w = .ok () w') (hK : K (a.put o.dst undef) w') : Oper.wp P o a w K Q := by
  unfold Oper.wp
  simp [execOp, hop, hm, hx, hv, hrun, Result.andThen]
  exact hK
theorem wp_runDel (m x : Operand) (t k : TypeId) (hop : o.op = Op.call { callee := Callee.builtin Builtin.delete, args := #[m, x], argTypes := #[t, k] }) (mv xv : Value) (hm : a.eval m = mv) (hx : a.eval x = xv) (hrun : (Builtin.delete_ #[t, k] o.type #[mv, xv]).run P w = .ok (.tuple #[]) w') (hK : K (a.put o.dst (.tuple #[])) w') : Oper.wp P o a w K Q := by
  unfold Oper.wp
  simp [execOp, hop, resolve, invoke, builtin, hm, hx, hrun, Result.andThen]
  exact hK
theorem step_runMapU {E : Prop} (hgd : o.guard = none) (m x v : Operand) (t : TypeId) (hop : o.op = Op.mapUpdate t m x v) (mv xv vv : Value) (hm : a.eval m = mv) (hx : a.eval x = xv) (hv : a.eval v = vv) (hrun : (Instr.mapUpdate t mv xv vv).run P w = .ok () w') (hK : K (a.put o.dst undef) w') :
    if Region.wanted o (yielded ops a.tmps) = true then Oper.wp P o a w K Q else E := by
  have hw : Region.wanted o (yielded ops a.tmps) = true := by simp [Region.wanted, hgd]
  rw [if_pos hw]
  exact wp_runMapU m x v t hop mv xv vv hm hx hv hrun hK
end
end Go.Proofs.YtlmcpkomjofcgaaGreatDoor
namespace Go.Proofs.YtlmcpkomjofcgaaGreatDoor
open Go.RowKit
theorem zeroSl_run (w : World) : (zeroValue 22).run Tryz.prog w = .ok (.slice none 0 0) w := by kernel_rfl
theorem zeroBo_run (w : World) : (zeroValue 4).run Tryz.prog w = .ok (.bool false) w := by kernel_rfl
theorem fs_new {w w1 w2 w3 : World} {N : Nat → Prop} (hN : ∀ k, N k → k < w.heap.size) (e1 : w.alloc (.map #[] 0) = w1) (e2 : w1.alloc (.map #[] 0) = w2) (e3 : w2.alloc (.cells #[.map (some w.heap.size), .int .i64 0, .map (some (w.heap.size + 1))] 60) = w3) :
    Below w.heap.size w w3 ∧ FsM w3 (fun k => N k ∨ k = w.heap.size + 2 ∨ k = w.heap.size ∨ k = w.heap.size + 1) (w.heap.size + 2) w.heap.size (w.heap.size + 1) FS.new := by
  have z1 : w1.heap.size = w.heap.size + 1 := by rw [← e1]; simp
  have z2 : w2.heap.size = w.heap.size + 2 := by rw [← e2]; simp [z1]
  have z3 : w3.heap.size = w.heap.size + 3 := by rw [← e3]; simp [z2]
  have h1 := MapZ.made (f := strV) w Tryz.prog 9 rfl
  have h2 := MapZ.made (f := intN) w1 Tryz.prog 3 z1
  have h3 := Bk.newAt w2 60 #[.map (some w.heap.size), .int .i64 0, .map (some (w.heap.size + 1))] z2
  have b1 : Below w.heap.size w w1 := by rw [← e1]; exact bl_alloc (Below.refl _ _) (Nat.le_refl _) _
  have b2 : Below w1.heap.size w1 w2 := by rw [← e2]; exact bl_alloc (Below.refl _ _) (Nat.le_refl _) _
  have b3 : Below w2.heap.size w2 w3 := by rw [← e3]; exact bl_alloc (Below.refl _ _) (Nat.le_refl _) _
  rw [e1] at h1
  rw [e2] at h2
  rw [e3] at h3
  refine ⟨(b1.trans (b2.mono (by omega))).trans (b3.mono (by omega)), h3, ⟨fun _ => none, (h1.same (b2.block _ (by omega))).same (b3.block _ (by omega)), fun _ => rfl, fun _ _ h => by cases h⟩, ⟨0, Nat.le_refl _, (h2.same (b3.block _ (by omega))).ext (fun k => if_neg (fun h => by cases h.2))⟩,
      ⟨.inr (.inl rfl), .inr (.inr (.inl rfl)), .inr (.inr (.inr rfl))⟩, ⟨by omega, by omega, by omega⟩, ⟨by decide, by decide, by decide⟩, fun k hk => ?_⟩
  rcases hk with e | e | e | e
  · have := hN k e; omega
  · omega
  · omega
  · omega
set_option maxRecDepth 100000 in
set_option maxHeartbeats 1000000 in
theorem fnew_any (w : World) (N : Nat → Prop) (hN : ∀ k, N k → k < w.heap.size) :
    Calls Tryz.prog 6 #[] w fun e w' => ∃ gf bR bF, e = .returned (.pointer (some ⟨gf, 0, none⟩)) ∧ w.heap.size ≤ gf ∧ w.heap.size ≤ bR ∧ w.heap.size ≤ bF ∧ Below w.heap.size w w' ∧ FsM w' (fun k => N k ∨ k = gf ∨ k = bR ∨ k = bF) gf bR bF FS.new := by
  have HN := bx hN
  clear hN
  have hmm := @run_makeMap Tryz.prog
  go_enter Tryz.func6, Tryz.ntmps6
  go_wp2
  clear hmm
  go_ret
  obtain ⟨h1, h2⟩ := fs_new (w := w) HN.out rfl rfl rfl
  exact ⟨w.heap.size + 2, w.heap.size, w.heap.size + 1, rfl, by omega, by omega, by omega, h1, h2⟩
section
variable {w : World} {M : Nat → Prop} {gf bR bF : Nat} {F : FS}
theorem FsM.cells (h : FsM w M gf bR bF F) : w.cell? ⟨gf, 0, none⟩ = some (.map (some bR)) ∧ w.cell? ⟨gf, 1, none⟩ = some (.int .i64 (F.reads : Int)) ∧ w.cell? ⟨gf, 2, none⟩ = some (.map (some bF)) ∧ w.frozen? ⟨gf, 1, none⟩ = false ∧ gf < w.heap.size :=
  ⟨(h.box.cell 0).trans rfl, (h.box.cell 1).trans rfl, (h.box.cell 2).trans rfl, h.box.frz 1, h.box.lt⟩
end
set_option maxRecDepth 100000 in
set_option maxHeartbeats 1000000 in
theorem freads_any (w : World) (M : Nat → Prop) (gf bR bF : Nat) (F : FS) (h : FsM w M gf bR bF F) :
    Calls Tryz.prog 23 #[.pointer (some ⟨gf, 0, none⟩)] w fun e w' => e = .returned (.int .i64 (F.reads : Int)) ∧ w' = w := by
  obtain ⟨_, c1, _, _, hl⟩ := h.cells
  clear h
  go_enter Tryz.func23, Tryz.ntmps23
  go_wp2
  go_ret
  exact ⟨rfl, rfl⟩
set_option maxRecDepth 100000 in
set_option maxHeartbeats 1000000 in
theorem fsize_any (s : ByteArray) (w : World) (M : Nat → Prop) (gf bR bF : Nat) (F : FS) (h : FsM w M gf bR bF F) (hs : s.size ≤ maxLen) :
    Calls Tryz.prog 49 #[.pointer (some ⟨gf, 0, none⟩), .string s] w fun e w' => e = .returned (match F.rows s.data.toList with
      | none => .tuple #[.int .i64 0, .int .i64 21]
      | some b => .tuple #[.int .i64 (b.length : Int), .int .i64 0]) ∧ w' = w := by
  obtain ⟨c0, _, _, _, hl⟩ := h.cells
  obtain ⟨R, hR, hd, hsl⟩ := h.rows
  have HR := bx hR
  have hkey := keyT s.data.toList (by rw [size_len]; exact hs)
  have hdn := hd s.data.toList
  have hx : strV s.data.toList = .string s := rfl
  cases hrn : R s.data.toList with
  | none =>
    rw [hrn] at hdn
    rw [← hdn]
    have HRN := bx hrn
    clear h hR hd hsl hdn hrn
    go_enter Tryz.func49, Tryz.ntmps49
    go_wp2_with (refine wpList_lookZ_ok rfl (.tmp 14) (.tmp 15) _ rfl _ strK10 Tryz.underlying57 _ (zeroSl_run _) rfl HR.out s.data.toList _ rfl hkey (.slice none 0 0) false (by rw [HRN.out]; rfl) (by rw [HRN.out]; rfl) ?_)
    go_ret2
    exact ⟨rfl, rfl⟩
  | some x =>
    rw [hrn] at hdn
    rw [← hdn]
    have HRN := bx hrn
    obtain ⟨hlx, _⟩ := hsl _ _ hrn
    have HLX := bx hlx.1
    obtain ⟨xA, xn, xc, xl⟩ := x
    clear h hR hd hsl hdn hrn hlx
    go_enter Tryz.func49, Tryz.ntmps49
    go_wp2_with (refine wpList_lookZ_ok rfl (.tmp 14) (.tmp 15) _ rfl _ strK10 Tryz.underlying57 _ (zeroSl_run _) rfl HR.out s.data.toList _ rfl hkey (.slice xA xn xc) true (by rw [HRN.out]; rfl) (by rw [HRN.out]; rfl) ?_)
    go_ret2
    exact ⟨by rw [show xl.length = xn from HLX.out]; rfl, rfl⟩
end Go.Proofs.YtlmcpkomjofcgaaGreatDoor
namespace Go.Proofs.YtlmcpkomjofcgaaGreatDoor
open Go.RowKit
def OneK (b k : Nat) : Prop := k = b
/-- A row is stored under a name. -/
theorem FsM.stored {w w7 w8 : World} {M : Nat → Prop} {gf bR bF : Nat} {F : FS} {R : List UInt8 → Option Sl} {nm b : List UInt8} {A7 : Option Addr} {n7 c7 : Nat} (h : FsM w M gf bR bF F) (hd : ∀ nm, (R nm).map (·.l) = F.rows nm) (hsl : ∀ nm s, R nm = some s → SlX w (fun k => k < w.heap.size ∧ ¬ M k) s ∧ s.n ≤ 65536)
    (hb : Below w.heap.size w w7) (ho : OwB w7 w.heap.size 5 (.slice A7 n7 c7) b) (hl : b.length ≤ 65536) (hg : w7.grownBy w8 (some bR)) (hm : MapZ strV w8 Tryz.prog 9 bR (if ((R nm).map slV).isSome = true then F.cnt else F.cnt + 1) (fun q => if q = nm then some (.slice A7 n7 c7) else (R q).map slV)) (hc : ¬ (F.rows nm = none ∧ 16 ≤ F.cnt)) :
    FsM w8 M gf bR bF { F with rows := fun q => if q = nm then some b else F.rows q, cnt := if (F.rows nm).isSome = true then F.cnt else F.cnt + 1 } ∧ Ch w w8 (OneK bR) := by
  have hl0 := h.lt
  have hlen : b.length = n7 := by
    obtain ⟨_, _, _, e, hn, _⟩ := OwL.sl ho
    injection e with _ e2 _
    rw [e2, hn.out]
  have hsm : ((R nm).map slV).isSome = (F.rows nm).isSome := by rw [← hd nm]; cases R nm <;> rfl
  rw [hsm] at hm
  have hch : Ch w w8 (OneK bR) := (Ch.of_below hb).trans (Ch.of_grown hg (fun k e => by injection e with e; exact e.symm)) (fun _ _ e => e)
  have hz7 := hb.size
  have hs : ∀ k, k < w.heap.size → k ≠ bR → w8.heap[k]? = w.heap[k]? := fun k hk hne => hch.same k hk hne
  obtain ⟨nF, hnF, hF⟩ := h.fails
  refine ⟨⟨(hs gf hl0.1 h.ne.1).trans h.box, ⟨fun q => if q = nm then some ⟨A7, n7, c7, b⟩ else R q, hm.ext (fun q => ?_), fun q => ?_, fun q s hq => ?_⟩, ⟨nF, hnF, hF.same (hs bF hl0.2.2 (fun e => h.ne.2.2 e.symm))⟩, h.own, h.ne, ⟨?_, h.small.2⟩, fun k hk => Nat.lt_of_lt_of_le (h.all k hk) hch.size⟩, hch⟩
  · dsimp only
    split <;> rfl
  · dsimp only
    split
    · rfl
    · exact hd q
  · dsimp only at hq
    split at hq
    · injection hq with hq
      subst hq
      refine ⟨?_, by show n7 ≤ 65536; omega⟩
      have h1 := slX_own ho h.all
      exact h1.step (fun k hk => hg.block k hk.1 (fun e => by injection e with e; exact hk.2 (by rw [e]; exact h.own.2.1))) (fun k hk => ⟨Nat.lt_of_lt_of_le hk.1 hg.size, hk.2⟩)
    · obtain ⟨h1, h2⟩ := hsl q s hq
      exact ⟨h1.step (fun k hk => hs k hk.1 (fun e => hk.2 (by rw [e]; exact h.own.2.1))) (fun k hk => ⟨Nat.lt_of_lt_of_le hk.1 hch.size, hk.2⟩), h2⟩
  · dsimp only
    have h1 := h.small.1
    cases hr : F.rows nm with
    | none => rw [hr] at hc; simp only [true_and] at hc; show (if (none : Option (List UInt8)).isSome = true then _ else _) ≤ 16; rw [if_neg (by decide)]; omega
    | some x => show (if (some x).isSome = true then _ else _) ≤ 16; rw [if_pos (show (some x).isSome = true from rfl)]; exact h1
set_option maxRecDepth 100000 in
set_option maxHeartbeats 4000000 in
theorem fput_any (s : ByteArray) (A : Option Addr) (n c : Nat) (b : List UInt8) (w : World) (M : Nat → Prop) (gf bR bF : Nat) (F : FS) (h : FsM w M gf bR bF F) (hn : b.length = n) (hz : n ≤ 1000000000) (hr : RB w w.heap.size A b) (hs : s.size ≤ maxLen) :
    Calls Tryz.prog 7 #[.pointer (some ⟨gf, 0, none⟩), .string s, .slice A n c] w fun e w' => e = .returned (.int .i64 (putFS F s.data.toList b).1) ∧ FsM w' M gf bR bF (putFS F s.data.toList b).2 ∧ Ch w w' (OneK bR) := by
  have HH := bx h
  have HN := bx hn
  have HRB := bx hr
  by_cases he : s.data.toList = []
  · have hp : putFS F s.data.toList b = (13, F) := by unfold putFS; rw [if_pos (by unfold fnOk; rw [he]; rfl)]
    rw [hp]
    have h1 := tl_none he
    have h2 := size_zero he
    clear he hp h hn hr
    go_enter Tryz.func7, Tryz.ntmps7
    go_wp2
    go_ret
    exact ⟨rfl, HH.out, Ch.refl _⟩
  have h1 := tl_some he
  have hem : s.data.toList.isEmpty = false := by rw [List.isEmpty_eq_false_iff]; exact he
  by_cases hl : 64 < s.size
  · have hp : putFS F s.data.toList b = (13, F) := by
      unfold putFS
      rw [if_pos (by unfold fnOk; rw [show decide (s.data.toList.length ≤ 64) = false by rw [size_len]; simp; omega]; simp)]
    rw [hp]
    have hlI : (64 : Int) < (s.size : Int) := by omega
    clear he hem hp h hn hr hl
    go_enter Tryz.func7, Tryz.ntmps7
    go_wp2
    go_ret
    exact ⟨rfl, HH.out, Ch.refl _⟩
  have hd64 : decide (s.data.toList.length ≤ 64) = true := by rw [size_len]; simp; omega
  have hlI : ¬ (64 : Int) < (s.size : Int) := by omega
  cases hc0 : s.data.toList.contains 0 with
  | true =>
    have hp : putFS F s.data.toList b = (13, F) := by
      unfold putFS
      rw [if_pos (by unfold fnOk; rw [hc0]; simp)]
    rw [hp]
    have hge := idx_has hc0
    clear he hem hp h hn hr hl hd64 hc0
    go_enter Tryz.func7, Tryz.ntmps7
    go_wp2_with fail
    refine (Tryz.strings_IndexByte _ _ _).mono ?_
    rintro e w' ⟨rfl, hww⟩; obtain rfl : w = w' := hww.symm
    rw [show (0 : Int).toNat.toUInt8 = 0 from rfl]
    go_wp2
    go_ret
    exact ⟨rfl, HH.out, Ch.refl _⟩
  | false =>
    have hlt := idx_lacks hc0
    have hfn : fnOk s.data.toList = true := by unfold fnOk; rw [hem, hd64, hc0]; rfl
    by_cases hbig : 65536 < n
    · have hp : putFS F s.data.toList b = (8, F) := by
        unfold putFS
        rw [if_neg (by rw [hfn]; decide), if_pos (by omega)]
      rw [hp]
      have hbI : (65536 : Int) < (n : Int) := by omega
      clear he hem hp h hn hr hl hd64 hc0 hfn hbig
      go_enter Tryz.func7, Tryz.ntmps7
      go_wp2_with fail
      refine (Tryz.strings_IndexByte _ _ _).mono ?_
      rintro e w' ⟨rfl, hww⟩; obtain rfl : w = w' := hww.symm
      rw [show (0 : Int).toNat.toUInt8 = 0 from rfl, hlt]
      go_wp2
      go_ret
      exact ⟨rfl, HH.out, Ch.refl _⟩
    have hbI : ¬ (65536 : Int) < (n : Int) := by omega
    have HNB : Bx (n ≤ 65536) := bx (by omega)
    obtain ⟨c0, _, _, _, hgl⟩ := h.cells
    obtain ⟨R, hR, hd, hsl⟩ := h.rows
    have HR := bx hR
    have HD := bx hd
    have HSL := bx hsl
    have hkey := keyT s.data.toList (by rw [size_len]; exact hs)
    have hdn := hd s.data.toList
    by_cases hfull : F.rows s.data.toList = none ∧ 16 ≤ F.cnt
    · have hp : putFS F s.data.toList b = (17, F) := by
        unfold putFS
        rw [if_neg (by rw [hfn]; decide), if_neg (by omega), if_pos hfull]
      rw [hp]
      have hRN : R s.data.toList = none := by
        rw [hfull.1] at hdn
        cases hq : R s.data.toList with
        | none => rfl
        | some x => rw [hq] at hdn; cases hdn
      have HRN := bx hRN
      have hlen := fun ty => hR.lenRun (t := 57) Tryz.underlying57 ty
      have hcI : (16 : Int) ≤ (F.cnt : Int) := by omega
      clear he hem hp h hn hr hl hd64 hc0 hfn hbig hR hd hsl hdn hfull hRN
      go_enter Tryz.func7, Tryz.ntmps7
      go_wp2_with fail
      refine (Tryz.strings_IndexByte _ _ _).mono ?_
      rintro e w' ⟨rfl, hww⟩; obtain rfl : w = w' := hww.symm
      rw [show (0 : Int).toNat.toUInt8 = 0 from rfl, hlt]
      go_wp2_with (refine wpList_lookZ_ok rfl (.tmp 30) (.tmp 31) _ rfl _ strK10 Tryz.underlying57 _ (zeroSl_run _) rfl HR.out s.data.toList _ rfl hkey (.slice none 0 0) false (by rw [HRN.out]; rfl) (by rw [HRN.out]; rfl) ?_)
      go_ret
      exact ⟨rfl, HH.out, Ch.refl _⟩
    · have hp : putFS F s.data.toList b = (0, { F with rows := fun q => if q = s.data.toList then some b else F.rows q, cnt := if (F.rows s.data.toList).isSome = true then F.cnt else F.cnt + 1 }) := by
        unfold putFS
        rw [if_neg (by rw [hfn]; decide), if_neg (by omega), if_neg hfull]
      obtain ⟨P, hP⟩ : ∃ P, putFS F s.data.toList b = P := ⟨_, rfl⟩
      rw [hP]
      have HPP := bx (hP.symm.trans hp)
      clear hP
      have HFULL := bx hfull
      have HB1 : Bx (b.length ≤ 65536) := bx (by omega)
      have HNN : Bx ((([] : List UInt8).length + b.length) * 1 ≤ 140737488355328) := bx (by simp only [List.length_nil]; omega)
      have hz1 := le_alloc0 (w := w.drew) (Nat.le_refl w.drew.heap.size) (.cells #[] 5)
      have hxs : strV s.data.toList = .string s := rfl
      have HKEY := bx hkey
      have HCN : Bx (F.cnt < maxLen) := bx (by have := h.small.1; unfold maxLen; omega)
      have HGL := bx h.lt
      have HNE := bx h.ne
      -- the name's own row, or none
      obtain ⟨q0, hq0⟩ : ∃ v, ((R s.data.toList).map slV).getD (.slice none 0 0) = v := ⟨_, rfl⟩
      obtain ⟨k0, hk0⟩ : ∃ v, ((R s.data.toList).map slV).isSome = v := ⟨_, rfl⟩
      have HQ0 := bx hq0
      have HK0 := bx hk0
      have hS0 : w.drew.cell? ⟨gf, 0, none⟩ = some (.map (some bR)) := c0
      have hS1 : (w.drew.alloc (.cells #[] 5)).cell? ⟨gf, 0, none⟩ = some (.map (some bR)) := ((bl_alloc (Below.refl w.drew.heap.size w.drew) (Nat.le_refl _) (.cells #[] 5)).cell (p := ⟨gf, 0, none⟩) hgl).trans hS0
      have hlen := fun ty => hR.lenRun (t := 57) Tryz.underlying57 ty
      have hcI : k0 = false → ¬ (16 : Int) ≤ (F.cnt : Int) := fun e => by
        rw [← hk0, ← hd s.data.toList] at *
        cases hq : R s.data.toList with
        | none => rw [hq] at hfull; simp only [Option.map_none, true_and] at hfull; omega
        | some x => rw [hq] at e; cases e
      have HCI := bx hcI
      clear he hem hp h hn hr hl hd64 hc0 hfn hbig hR hd hsl hdn hfull hq0 hk0 hcI
      go_enter Tryz.func7, Tryz.ntmps7
      go_wp2_with fail
      refine (Tryz.strings_IndexByte _ _ _).mono ?_
      rintro e w' ⟨rfl, hww⟩; obtain rfl : w = w' := hww.symm
      rw [show (0 : Int).toNat.toUInt8 = 0 from rfl, hlt]
      cases k0 with
      | true =>
        go_upto_region 10 with (refine wpList_lookZ_ok rfl (.tmp 30) (.tmp 31) _ rfl _ strK10 Tryz.underlying57 _ (zeroSl_run _) rfl HR.out s.data.toList _ rfl hkey q0 true HQ0.out HK0.out ?_)
        go_region_law ((first
          | (refine step_appL (w.drew.alloc (.cells #[] 5)) bV_one rfl (.tmp 50) (.tmp 51) rfl byteTy (by decide) w.drew.heap.size _ [] rfl (OwL.lit0 w.drew (Nat.le_refl _)) _ A n c b rfl HN.out ((RL.drew HRB.out).alloc (Nat.le_refl _) _) HNN.out hz1 ?_; intro V7 w7 hO7 hg7 hv7 hb7; rw [List.nil_append] at hO7; obtain ⟨A7, n7, c7, rfl, hn7, hr7⟩ := OwL.sl hO7; have HBB := bx ((bl_alloc (Below.refl w.drew.heap.size w.drew) (Nat.le_refl _) (.cells #[] 5)).trans hb7); have hm7 : MapZ strV w7 Tryz.prog 9 bR F.cnt (fun nm => (R nm).map slV) := HR.out.same (HBB.out.block bR HGL.out.2.1); have hS3 : w7.cell? ⟨gf, 0, none⟩ = some (.map (some bR)) := (HBB.out.cell (p := ⟨gf, 0, none⟩) HGL.out.1).trans hS0; have HO7 := bx hO7; obtain ⟨w8, hrun8, hg8, hm8⟩ := hm7.storeRun (t := 57) strK10 Tryz.underlying57 strV_inj10 HCN.out s.data.toList (.slice A7 n7 c7) HKEY.out; rw [hxs] at hrun8; have HG8 := bx hg8; have HM8 := bx hm8; clear hO7 hg7 hv7 hb7 hn7 hr7 hm7 hg8 hm8)
          | (refine step_runMapU rfl (.tmp 48) (.tmp 49) (.tmp 52) _ rfl _ _ _ rfl rfl rfl hrun8 ?_)))
        all_goals (
          have HFIN := bx (FsM.stored HH.out HD.out HSL.out ((Below.refl w.heap.size w).drew.trans HBB.out) HO7.out HB1.out HG8.out HM8.out HFULL.out)
          clear hrun8 hS3 hS0 hS1
          go_wp2
          go_ret
          exact ⟨by rw [HPP.out]; rfl, by rw [HPP.out]; exact HFIN.out.1, HFIN.out.2⟩)
      | false =>
        have hcJ := HCI.out rfl
        go_upto_region 10 with (refine wpList_lookZ_ok rfl (.tmp 30) (.tmp 31) _ rfl _ strK10 Tryz.underlying57 _ (zeroSl_run _) rfl HR.out s.data.toList _ rfl hkey q0 false HQ0.out HK0.out ?_)
        go_region_law ((first
          | (refine step_appL (w.drew.alloc (.cells #[] 5)) bV_one rfl (.tmp 50) (.tmp 51) rfl byteTy (by decide) w.drew.heap.size _ [] rfl (OwL.lit0 w.drew (Nat.le_refl _)) _ A n c b rfl HN.out ((RL.drew HRB.out).alloc (Nat.le_refl _) _) HNN.out hz1 ?_; intro V7 w7 hO7 hg7 hv7 hb7; rw [List.nil_append] at hO7; obtain ⟨A7, n7, c7, rfl, hn7, hr7⟩ := OwL.sl hO7; have HBB := bx ((bl_alloc (Below.refl w.drew.heap.size w.drew) (Nat.le_refl _) (.cells #[] 5)).trans hb7); have hm7 : MapZ strV w7 Tryz.prog 9 bR F.cnt (fun nm => (R nm).map slV) := HR.out.same (HBB.out.block bR HGL.out.2.1); have hS3 : w7.cell? ⟨gf, 0, none⟩ = some (.map (some bR)) := (HBB.out.cell (p := ⟨gf, 0, none⟩) HGL.out.1).trans hS0; have HO7 := bx hO7; obtain ⟨w8, hrun8, hg8, hm8⟩ := hm7.storeRun (t := 57) strK10 Tryz.underlying57 strV_inj10 HCN.out s.data.toList (.slice A7 n7 c7) HKEY.out; rw [hxs] at hrun8; have HG8 := bx hg8; have HM8 := bx hm8; clear hO7 hg7 hv7 hb7 hn7 hr7 hm7 hg8 hm8)
          | (refine step_runMapU rfl (.tmp 48) (.tmp 49) (.tmp 52) _ rfl _ _ _ rfl rfl rfl hrun8 ?_)))
        all_goals (
          have HFIN := bx (FsM.stored HH.out HD.out HSL.out ((Below.refl w.heap.size w).drew.trans HBB.out) HO7.out HB1.out HG8.out HM8.out HFULL.out)
          clear hrun8 hS3 hS0 hS1
          go_wp2
          go_ret
          exact ⟨by rw [HPP.out]; rfl, by rw [HPP.out]; exact HFIN.out.1, HFIN.out.2⟩)
end Go.Proofs.YtlmcpkomjofcgaaGreatDoor
namespace Go.Proofs.YtlmcpkomjofcgaaGreatDoor
open Go.RowKit
def TwoK (a b k : Nat) : Prop := k = a ∨ k = b
theorem ite_succ_le {c : Prop} [Decidable c] {n m : Nat} (h : n ≤ m) : (if c then n else n + 1) ≤ m + 1 := by split <;> omega
def pairF (a b : World) : Nat → World
  | 0 => a
  | _ + 1 => b
theorem FsM.turn {w w' : World} {M : Nat → Prop} {gf bR bF : Nat} {F F' : FS} (h : FsM w M gf bR bF F) (hr : F'.rows = F.rows ∧ F'.cnt = F.cnt) (c : Ch w w' (TwoK gf bF)) (hb : Bk w' gf 60 #[.map (some bR), .int .i64 (F'.reads : Int), .map (some bF)])
    (hF : ∃ n, n ≤ F'.nf ∧ MapZ intN w' Tryz.prog 3 bF n (fun k => if F'.reads < k ∧ F'.fails k = true then some (.bool true) else none)) (hs : F'.reads ≤ 1000000 ∧ F'.nf ≤ 1000000) : FsM w' M gf bR bF F' := by
  have hl := h.lt
  have hs2 : ∀ k, k < w.heap.size → k ≠ gf → k ≠ bF → w'.heap[k]? = w.heap[k]? := fun k hk h1 h2 => c.same k hk (fun e => by rcases e with e | e; exact h1 e; exact h2 e)
  obtain ⟨R, hR, hd, hsl⟩ := h.rows
  refine ⟨hb, ⟨R, by rw [hr.2]; exact hR.same (hs2 bR hl.2.1 (fun e => h.ne.1 e.symm) h.ne.2.2), fun nm => by rw [hr.1]; exact hd nm, fun nm s hq => ⟨(hsl nm s hq).1.step (fun k hk => hs2 k hk.1 (fun e => hk.2 (by rw [e]; exact h.own.1)) (fun e => hk.2 (by rw [e]; exact h.own.2.2))) (fun k hk => ⟨Nat.lt_of_lt_of_le hk.1 c.size, hk.2⟩), (hsl nm s hq).2⟩⟩, hF, h.own, h.ne, ⟨by rw [hr.2]; exact h.small.1, hs⟩, fun k hk => Nat.lt_of_lt_of_le (h.all k hk) c.size⟩
set_option maxRecDepth 100000 in
set_option maxHeartbeats 2000000 in
theorem ffail_any (k : Int) (w : World) (M : Nat → Prop) (gf bR bF : Nat) (F : FS) (h : FsM w M gf bR bF F) (hnf : F.nf < 1000000) :
    Calls Tryz.prog 14 #[.pointer (some ⟨gf, 0, none⟩), .int .i64 k] w fun e w' => e = .returned (.int .i64 (failFS F k).1) ∧ FsM w' M gf bR bF (failFS F k).2 ∧ Ch w w' (TwoK gf bF) := by
  have HH := bx h
  obtain ⟨P, hP⟩ : ∃ P, failFS F k = P := ⟨_, rfl⟩
  rw [hP]
  unfold failFS at hP
  by_cases h1 : k < 1
  · rw [if_pos (.inl h1)] at hP
    have HP := bx hP
    clear h hP hnf
    go_enter Tryz.func14, Tryz.ntmps14
    go_wp2
    go_ret
    rw [← HP.out]
    exact ⟨rfl, HH.out, Ch.refl _⟩
  by_cases h2 : 65536 < k
  · rw [if_pos (.inr h2)] at hP
    have HP := bx hP
    clear h hP hnf
    go_enter Tryz.func14, Tryz.ntmps14
    go_wp2
    go_ret
    rw [← HP.out]
    exact ⟨rfl, HH.out, Ch.refl _⟩
  rw [if_neg (by omega)] at hP
  have HP := bx hP
  obtain ⟨j, rfl⟩ : ∃ j : Nat, k = (j : Int) := ⟨k.toNat, by omega⟩
  obtain ⟨_, c1, c2, _, hgl⟩ := h.cells
  obtain ⟨nF, hnF, hF⟩ := h.fails
  have hsm := h.small
  have hkey := keyN (F.reads + j) (by omega)
  obtain ⟨w3, hrun, hg3, hm3⟩ := (show MapZ intN w.drew Tryz.prog 3 bF nF _ from hF).storeRun (t := 58) intK10 Tryz.underlying58 intN_inj (by unfold maxLen; omega) (F.reads + j) (.bool true) hkey
  have hrun' : (Instr.mapUpdate 58 (.map (some bF)) (.int .i64 ((F.reads : Int) + (j : Int))) (.bool true)).run Tryz.prog (pairF w.drew w3 0) = .ok () (pairF w.drew w3 1) := by
    have e : intN (F.reads + j) = .int .i64 ((F.reads : Int) + (j : Int)) := by unfold intN; rw [Int.natCast_add]
    rw [e] at hrun; exact hrun
  obtain ⟨Fw, hFw⟩ : ∃ Fw, pairF w.drew w3 = Fw := ⟨_, rfl⟩
  rw [hFw] at hrun'
  have hF0 : w.drew = Fw 0 := by rw [← hFw]; rfl
  have hc1 : ∀ n, (Fw n).cell? ⟨gf, 1, none⟩ = some (.int .i64 (F.reads : Int)) := fun n => by
    rw [← hFw]
    cases n with
    | zero => exact c1
    | succ n => exact (cell_same (p := ⟨gf, 1, none⟩) (hg3.block gf hgl (fun e => by injection e with e; exact h.ne.2.1 e))).trans c1
  have hc2 : ∀ n, (Fw n).cell? ⟨gf, 2, none⟩ = some (.map (some bF)) := fun n => by
    rw [← hFw]
    cases n with
    | zero => exact c2
    | succ n => exact (cell_same (p := ⟨gf, 2, none⟩) (hg3.block gf hgl (fun e => by injection e with e; exact h.ne.2.1 e))).trans c2
  have HADD : Bx (IntKind.i64.wrap ((F.reads : Int) + (j : Int)) = (F.reads : Int) + (j : Int)) := bx (IntWalk.i64_in _ (by omega))
  have HF0 := bx hF0
  have HRUN := bx hrun'
  have HFW1 : Bx (Fw 1 = w3) := bx (by rw [← hFw]; rfl)
  have hch : Ch w w3 (TwoK gf bF) := ((Ch.refl w).drewN 1).trans (Ch.of_grown (S := TwoK gf bF) hg3 (fun k e => by injection e with e; exact .inr e.symm)) (fun _ _ e => e)
  have HFIN : Bx (FsM w3 M gf bR bF { F with fails := fun q => if q = F.reads + (j : Int).toNat then true else F.fails q, nf := F.nf + 1 }) := bx (h.turn ⟨rfl, rfl⟩ hch ((hg3.block gf hgl (fun e => by injection e with e; exact h.ne.2.1 e)).trans h.box) ⟨_, ite_succ_le hnF, hm3.ext (fun q => by
    show (if F.reads < q ∧ (if q = F.reads + (j : Int).toNat then true else F.fails q) = true then some (Value.bool true) else none) = (if q = F.reads + j then some (Value.bool true) else if F.reads < q ∧ F.fails q = true then some (Value.bool true) else none)
    rw [Int.toNat_natCast]
    by_cases e : q = F.reads + j
    · rw [if_pos e, if_pos e, if_pos ⟨by omega, rfl⟩]
    · rw [if_neg e, if_neg e])⟩ ⟨hsm.2.1, by show F.nf + 1 ≤ 1000000; omega⟩)
  have HCH := bx hch
  clear h hP hF hnF hkey hrun hrun' hg3 hm3 hFw hF0 hch c1 c2 hnf
  go_enter Tryz.func14, Tryz.ntmps14
  go_upto_region 3 with (fail)
  refine wp_region_same 10 Fw (by kernel_rfl) (by kernel_rfl) (by kernel_rfl) (by kernel_rfl) (by decide) HF0.out (fun _ _ _ d _ h => by cases d <;> exact h) ?_
  simp only [List.take_succ_cons, List.take_zero, List.drop_succ_cons, List.drop_zero]
  repeat (
    refine wpSame_step (fun K hK => ?_)
    simp only [SameAt]
    go_simp
    refine hK _ ?_
    clear hK K)
  refine wpSame_nil ?_
  refine wpChain_step rfl (fun K hK => ?_)
  refine wp_runMapU (.tmp 18) (.tmp 24) (.const (.bool true)) _ rfl (.map (some bF)) (.int .i64 ((F.reads : Int) + (j : Int))) (.bool true) rfl (congrArg (Value.int .i64) HADD.out) rfl HRUN.out ?_
  refine hK _ _ ⟨1, rfl⟩ ?_
  clear hK K
  refine wpChain_nil ?_
  clear hc1 hc2
  rw [HFW1.out]
  go_wp2
  go_ret
  rw [← HP.out]
  exact ⟨rfl, HFIN.out, HCH.out⟩
end Go.Proofs.YtlmcpkomjofcgaaGreatDoor
namespace Go.Proofs.YtlmcpkomjofcgaaGreatDoor
open Go.RowKit
/-- What Read answers. -/
def RdPost (R : Rz (List UInt8)) (B : Nat) (e : Ending) (w' : World) : Prop := match R with
  | .ok l => ∃ v, e = .returned (.tuple #[v, .int .i64 0]) ∧ OwB w' B 5 v l
  | .err k => e = .returned (.tuple #[.slice none 0 0, .int .i64 k]) ∧ k ≠ 0
theorem RdPost.bad {R : Rz (List UInt8)} {B : Nat} {w' : World} {k : Int} (h : R = .err k) (hk : k ≠ 0) : RdPost R B (.returned (.tuple #[.slice none 0 0, .int .i64 k])) w' := by subst h; exact ⟨rfl, hk⟩
theorem RdPost.good {R : Rz (List UInt8)} {B : Nat} {w' : World} {l : List UInt8} {v : Value} (h : R = .ok l) (ho : OwB w' B 5 v l) : RdPost R B (.returned (.tuple #[v, .int .i64 0])) w' := by subst h; exact ⟨v, rfl, ho⟩
/-- One read more, and none that fails. -/
theorem FsM.next {w w' : World} {M : Nat → Prop} {gf bR bF : Nat} {F : FS} (h : FsM w M gf bR bF F) (hq : F.fails (F.reads + 1) = false) (hr : F.reads < 1000000) (c : Ch w w' (TwoK gf bF)) (hb : Bk w' gf 60 #[.map (some bR), .int .i64 ((F.reads + 1 : Nat) : Int), .map (some bF)]) (hs : w'.heap[bF]? = w.heap[bF]?) : FsM w' M gf bR bF (nextFS F) := by
  obtain ⟨nF, hnF, hF⟩ := h.fails
  refine h.turn ⟨rfl, rfl⟩ c hb ⟨nF, hnF, (hF.same hs).ext (fun k => ?_)⟩ ⟨hr, h.small.2.2⟩
  show (if F.reads + 1 < k ∧ F.fails k = true then some (Value.bool true) else none) = (if F.reads < k ∧ F.fails k = true then some (Value.bool true) else none)
  by_cases e : k = F.reads + 1
  · subst e
    rw [if_neg (by omega), if_neg (fun e => by rw [hq] at e; cases e.2)]
  · by_cases e2 : F.reads < k ∧ F.fails k = true
    · rw [if_pos e2, if_pos ⟨by omega, e2.2⟩]
    · rw [if_neg e2, if_neg (fun e3 => e2 ⟨by omega, e3.2⟩)]
/-- One read more, that fails. -/
theorem FsM.hit {w w' : World} {M : Nat → Prop} {gf bR bF n : Nat} {F : FS} (h : FsM w M gf bR bF F) (hr : F.reads < 1000000) (c : Ch w w' (TwoK gf bF)) (hb : Bk w' gf 60 #[.map (some bR), .int .i64 ((F.reads + 1 : Nat) : Int), .map (some bF)])
    (hn : n ≤ F.nf) (hm : MapZ intN w' Tryz.prog 3 bF n (fun q => if q = F.reads + 1 then none else if F.reads < q ∧ F.fails q = true then some (.bool true) else none)) : FsM w' M gf bR bF (nextFS F) := by
  refine h.turn ⟨rfl, rfl⟩ c hb ⟨n, hn, hm.ext (fun k => ?_)⟩ ⟨hr, h.small.2.2⟩
  show (if F.reads + 1 < k ∧ F.fails k = true then some (Value.bool true) else none) = (if k = F.reads + 1 then none else if F.reads < k ∧ F.fails k = true then some (Value.bool true) else none)
  by_cases e : k = F.reads + 1
  · rw [if_pos e, if_neg (by omega)]
  · rw [if_neg e]
    by_cases e2 : F.reads < k ∧ F.fails k = true
    · rw [if_pos e2, if_pos ⟨by omega, e2.2⟩]
    · rw [if_neg e2, if_neg (fun e3 => e2 ⟨by omega, e3.2⟩)]
theorem ite_pred_le {c : Prop} [Decidable c] {n m : Nat} (h : n ≤ m) : (if c then n - 1 else n) ≤ m := by split <;> omega
set_option maxRecDepth 100000 in
set_option maxHeartbeats 4000000 in
theorem fread_any (s : ByteArray) (a n : Nat) (w : World) (M : Nat → Prop) (gf bR bF : Nat) (F : FS) (h : FsM w M gf bR bF F) (hs : s.size ≤ maxLen) (hrd : F.reads < 1000000) (ha : a ≤ 100000000000) (hn : n ≤ 100000000000) :
    Calls Tryz.prog 35 #[.pointer (some ⟨gf, 0, none⟩), .string s, .int .i64 (a : Int), .int .i64 (n : Int)] w fun e w' => RdPost (readFS F s.data.toList a n).1 w.heap.size e w' ∧ FsM w' M gf bR bF (readFS F s.data.toList a n).2 ∧ Ch w w' (TwoK gf bF) := by
  have HH := bx h
  obtain ⟨P, hP⟩ : ∃ P, readFS F s.data.toList a n = P := ⟨_, rfl⟩
  rw [hP]
  unfold readFS at hP
  obtain ⟨c0, c1, c2, z1, hgl⟩ := h.cells
  obtain ⟨R, hR, hd, hsl⟩ := h.rows
  have HR := bx hR
  have hkey := keyT s.data.toList (by rw [size_len]; exact hs)
  have hdn := hd s.data.toList
  have ha0 : ¬ (a : Int) < 0 := by omega
  have hn0 : ¬ (n : Int) < 0 := by omega
  cases hrn : R s.data.toList with
  | none =>
    rw [hrn] at hdn
    rw [← hdn] at hP
    have HP := bx hP
    have HRN := bx hrn
    clear h hR hd hsl hdn hrn hP
    go_enter Tryz.func35, Tryz.ntmps35
    go_wp2_with (refine wpList_lookZ_ok rfl (.tmp 24) (.tmp 25) _ rfl _ strK10 Tryz.underlying57 _ (zeroSl_run _) rfl HR.out s.data.toList _ rfl hkey (.slice none 0 0) false (by rw [HRN.out]; rfl) (by rw [HRN.out]; rfl) ?_)
    go_ret2
    rw [← HP.out]
    exact ⟨RdPost.bad rfl (by decide), HH.out, Ch.refl _⟩
  | some x =>
    rw [hrn] at hdn
    rw [← hdn] at hP
    dsimp only [Option.map_some] at hP
    have HRN := bx hrn
    obtain ⟨hlx, hx6⟩ := hsl _ _ hrn
    obtain ⟨xA, xn, xc, xl⟩ := x
    have HLX : Bx (xl.length = xn) := bx hlx.1
    have hxc : xn ≤ xc := hlx.2.1
    have hxm : (xc : Int) ≤ 9223372036854775807 := hlx.2.2.1
    have hx6 : xn ≤ 65536 := hx6
    have HRX : Bx (RB w w.heap.size xA xl) := bx ((hlx.slB (fun k hk => hk.1)).2.2.2)
    replace hP : (if xl.length < a ∨ xl.length - a < n then (Rz.err 2, F) else if F.fails (F.reads + 1) = true then (.err 20, nextFS F) else (.ok ((xl.drop a).take n), nextFS F)) = P := hP
    by_cases hsh : xl.length < a ∨ xl.length - a < n
    · rw [if_pos hsh] at hP
      have HP := bx hP
      by_cases h1 : xn < a
      · have h1I : (xn : Int) < (a : Int) := by omega
        clear h hR hd hsl hdn hrn hP hsh hlx h1
        go_enter Tryz.func35, Tryz.ntmps35
        go_wp2_with (refine wpList_lookZ_ok rfl (.tmp 24) (.tmp 25) _ rfl _ strK10 Tryz.underlying57 _ (zeroSl_run _) rfl HR.out s.data.toList _ rfl hkey (.slice xA xn xc) true (by rw [HRN.out]; rfl) (by rw [HRN.out]; rfl) ?_)
        go_ret2
        rw [← HP.out]
        exact ⟨RdPost.bad rfl (by decide), HH.out, Ch.refl _⟩
      · have h1I : ¬ (xn : Int) < (a : Int) := by omega
        have h2I : (xn : Int) - (a : Int) < (n : Int) := by have := HLX.out; omega
        clear h hR hd hsl hdn hrn hP hsh hlx h1
        go_enter Tryz.func35, Tryz.ntmps35
        go_wp2_with (refine wpList_lookZ_ok rfl (.tmp 24) (.tmp 25) _ rfl _ strK10 Tryz.underlying57 _ (zeroSl_run _) rfl HR.out s.data.toList _ rfl hkey (.slice xA xn xc) true (by rw [HRN.out]; rfl) (by rw [HRN.out]; rfl) ?_)
        go_ret2
        rw [← HP.out]
        exact ⟨RdPost.bad rfl (by decide), HH.out, Ch.refl _⟩
    rw [if_neg hsh] at hP
    have h1I : ¬ (xn : Int) < (a : Int) := by have := HLX.out; omega
    have h2I : ¬ (xn : Int) - (a : Int) < (n : Int) := by have := HLX.out; omega
    have HAN : Bx (a + n ≤ xl.length) := bx (by omega)
    obtain ⟨nF, hnF, hF⟩ := h.fails
    have hsm := h.small
    have hb1 : Bk (w.setCell ⟨gf, 1, none⟩ (.int .i64 ((F.reads : Int) + 1))) gf 60 #[.map (some bR), .int .i64 ((F.reads : Int) + 1), .map (some bF)] := by simpa using h.box.set 1 (.int .i64 ((F.reads : Int) + 1))
    have hh1 : ∀ k, k ≠ gf → (w.setCell ⟨gf, 1, none⟩ (.int .i64 ((F.reads : Int) + 1))).heap[k]? = w.heap[k]? := fun k hk => Below.heap_setCell w ⟨gf, 1, none⟩ _ k hk
    have hch1 : Ch w (w.setCell ⟨gf, 1, none⟩ (.int .i64 ((F.reads : Int) + 1))) (TwoK gf bF) := Ch.setCell (S := TwoK gf bF) (p := ⟨gf, 1, none⟩) (Ch.refl w) (fun _ => .inl rfl) _
    have hz1 : (w.setCell ⟨gf, 1, none⟩ (.int .i64 ((F.reads : Int) + 1))).heap.size = w.heap.size := by simp [World.setCell]
    have hrx1 : RB (w.setCell ⟨gf, 1, none⟩ (.int .i64 ((F.reads : Int) + 1))) w.heap.size xA xl := (hlx.step (fun k hk => hh1 k (fun e => hk.2 (by rw [e]; exact h.own.1))) (fun k hk => hk) |>.slB (fun k hk => hk.1)).2.2.2
    have HSET := bx hb1
    have HH1 := bx hh1
    have HCH1 := bx hch1
    have HZ1 := bx hz1
    have HRX1 := bx hrx1
    have HF := bx hF
    have HNF := bx hnF
    have HNE := bx h.ne
    have HRD := bx hrd
    have HXA := bx (And.intro hxc (And.intro hxm hx6))
    clear h hR hd hsl hdn hrn hsh hlx hb1 hh1 hch1 hz1 hrx1 hF hnF HRX hsm
    go_enter Tryz.func35, Tryz.ntmps35
    go_upto_region 11 with (refine wpList_lookZ_ok rfl (.tmp 24) (.tmp 25) _ rfl _ strK10 Tryz.underlying57 _ (zeroSl_run _) rfl HR.out s.data.toList _ rfl hkey (.slice xA xn xc) true (by rw [HRN.out]; rfl) (by rw [HRN.out]; rfl) ?_)
    clear c0 c1 c2 z1
    generalize w.setCell ⟨gf, 1, none⟩ (.int .i64 ((F.reads : Int) + 1)) = w1 at HSET HH1 HCH1 HZ1 HRX1 ⊢
    have c1 : w1.cell? ⟨gf, 1, none⟩ = some (.int .i64 ((F.reads : Int) + 1)) := (HSET.out.cell 1).trans rfl
    have c2 : w1.cell? ⟨gf, 2, none⟩ = some (.map (some bF)) := (HSET.out.cell 2).trans rfl
    have hF1 : MapZ intN w1 Tryz.prog 3 bF nF (fun k => if F.reads < k ∧ F.fails k = true then some (.bool true) else none) := HF.out.same (HH1.out bF (fun e => HNE.out.2.1 e.symm))
    have hkN := keyN (F.reads + 1) (by have := HRD.out; omega)
    have ekN : intN (F.reads + 1) = .int .i64 ((F.reads : Int) + 1) := by unfold intN; rw [Int.natCast_add]; rfl
    obtain ⟨qf, hqf⟩ : ∃ q, F.fails (F.reads + 1) = q := ⟨_, rfl⟩
    have hlook : ∀ q, (Instr.lookup 58 (.map (some bF)) (.int .i64 ((F.reads : Int) + 1)) false).run Tryz.prog (w1.drewN q) = .ok (.bool qf) (w1.drewN q) := fun q => by
      have e := (show MapZ intN (w1.drewN q) Tryz.prog 3 bF nF _ from hF1).lookRun (t := 58) intK10 Tryz.underlying58 (zeroBo_run _) hkN
      rw [ekN] at e
      rw [e]
      cases qf with
      | true => rw [if_pos ⟨by omega, hqf⟩]; rfl
      | false => rw [if_neg (fun e => by rw [hqf] at e; cases e.2)]; rfl
    have hg1 := HSET.out.lt
    have HQF := bx hqf
    have HF1 := bx hF1
    have HKN := bx hkN
    rw [hqf] at hP
    have HP := bx hP
    clear hF1 hkN hqf hP
    go_quiet (fail)
    clear c1 c2 hlook
    have HSETq := bx (HSET.out.drewN nq)
    have HF1q : Bx (MapZ intN (w1.drewN nq) Tryz.prog 3 bF nF (fun k => if F.reads < k ∧ F.fails k = true then some (.bool true) else none)) := HF1
    have HCHq := bx (HCH1.out.drewN nq)
    have HRXq : Bx (RB (w1.drewN nq) w.heap.size xA xl) := HRX1
    have HZq : Bx ((w1.drewN nq).heap.size = w.heap.size) := HZ1
    have HHq : Bx (∀ k, k ≠ gf → (w1.drewN nq).heap[k]? = w.heap[k]?) := HH1
    clear HSET HF1 HCH1 HRX1 HZ1 HH1
    generalize w1.drewN nq = w2 at HSETq HF1q HCHq HRXq HZq HHq ⊢
    have hg2 := HSETq.out.lt
    have c1 : w2.cell? ⟨gf, 1, none⟩ = some (.int .i64 ((F.reads : Int) + 1)) := (HSETq.out.cell 1).trans rfl
    have c2 : w2.cell? ⟨gf, 2, none⟩ = some (.map (some bF)) := (HSETq.out.cell 2).trans rfl
    cases qf with
    | true =>
      rw [if_pos rfl] at HP
      obtain ⟨w3, hrun, hg3, hm3⟩ := (show MapZ intN w2.drew Tryz.prog 3 bF nF _ from HF1q.out).delRun (t := 58) intK10 Tryz.underlying58 intN_inj (F.reads + 1) HKN.out 22
      rw [ekN] at hrun
      obtain ⟨Fw, hFw⟩ : ∃ Fw, pairF w2.drew w3 = Fw := ⟨_, rfl⟩
      have hrun' : ∀ ty, (Builtin.delete_ #[58, 3] ty #[.map (some bF), .int .i64 ((F.reads : Int) + 1)]).run Tryz.prog (Fw 0) = .ok (.tuple #[]) (Fw 1) := fun ty => by rw [← hFw]; exact hrun
      have hc1 : ∀ n, (Fw n).cell? ⟨gf, 1, none⟩ = some (.int .i64 ((F.reads : Int) + 1)) := fun n => by
        rw [← hFw]
        cases n with
        | zero => exact c1
        | succ n => exact (cell_same (p := ⟨gf, 1, none⟩) (hg3.block gf hg2 (fun e => by injection e with e; exact HNE.out.2.1 e))).trans c1
      have hc2 : ∀ n, (Fw n).cell? ⟨gf, 2, none⟩ = some (.map (some bF)) := fun n => by
        rw [← hFw]
        cases n with
        | zero => exact c2
        | succ n => exact (cell_same (p := ⟨gf, 2, none⟩) (hg3.block gf hg2 (fun e => by injection e with e; exact HNE.out.2.1 e))).trans c2
      have HF0 : Bx (w2.drew = Fw 0) := bx (by rw [← hFw]; rfl)
      have HFW1 : Bx (Fw 1 = w3) := bx (by rw [← hFw]; rfl)
      have HRUN := bx hrun'
      have HCH3 : Bx (Ch w w3 (TwoK gf bF)) := bx ((HCHq.out.drewN 1).trans (Ch.of_grown (S := TwoK gf bF) hg3 (fun k e => by injection e with e; exact .inr e.symm)) (fun _ _ e => e))
      have HFIN : Bx (FsM w3 M gf bR bF (nextFS F)) := bx (HH.out.hit HRD.out HCH3.out ((hg3.block gf hg2 (fun e => by injection e with e; exact HNE.out.2.1 e)).trans (by have := HSETq.out; rw [Int.natCast_add]; exact this)) (ite_pred_le HNF.out) hm3)
      clear hrun hrun' hg3 hm3 hFw c1 c2
      go_upto_region 12 with (fail)
      refine wp_region_same 8 Fw (by kernel_rfl) (by kernel_rfl) (by kernel_rfl) (by kernel_rfl) (by decide) HF0.out (fun _ _ _ d _ h => by cases d <;> exact h) ?_
      simp only [List.take_succ_cons, List.take_zero, List.drop_succ_cons, List.drop_zero]
      repeat (
        refine wpSame_step (fun K hK => ?_)
        simp only [SameAt]
        go_simp
        refine hK _ ?_
        clear hK K)
      refine wpSame_nil ?_
      refine wpChain_step rfl (fun K hK => ?_)
      refine wp_runDel (.tmp 62) (.tmp 66) _ _ rfl _ _ rfl rfl (HRUN.out _) ?_
      refine hK _ _ ⟨1, rfl⟩ ?_
      clear hK K
      refine wpChain_nil ?_
      clear hc1 hc2
      rw [HFW1.out]
      go_wp2
      go_ret2
      rw [← HP.out]
      exact ⟨RdPost.bad rfl (by decide), HFIN.out, HCH3.out⟩
    | false =>
      rw [if_neg (by decide)] at HP
      have HFIN : Bx (FsM w2 M gf bR bF (nextFS F)) := bx (HH.out.next HQF.out HRD.out HCHq.out (by have := HSETq.out; rw [Int.natCast_add]; exact this) (HHq.out bF (fun e => HNE.out.2.1 e.symm)))
      have hxc := HXA.out.1
      have hxm := HXA.out.2.1
      have hx6 := HXA.out.2.2
      have hAN := HAN.out
      have hLX := HLX.out
      have s1 : (0 : Int) ≤ a := by omega
      have s2 : (a : Int) ≤ (a : Int) + (n : Int) := by omega
      have s3 : (a : Int) + (n : Int) ≤ xc := by omega
      have HNN : Bx ((([] : List UInt8).length + ((xl.drop a).take n).length) * 1 ≤ 140737488355328) := bx (by simp only [List.length_nil, List.length_take, List.length_drop]; omega)
      have hz2 := le_alloc0 (w := w2) (Nat.le_refl w2.heap.size) (.cells #[] 5)
      have HR2 : Bx (RB w2 w2.heap.size xA xl) := bx (HRXq.out.more (by rw [HZq.out]; exact Nat.le_refl _))
      have hln : ((xl.drop a).take n).length = a + n - a := by simp; omega
      have HLN := bx hln
      have HRS : Bx (RB (w2.alloc (.cells #[] 5)) w2.heap.size (if xc = a then xA else xA.map (·.add a)) ((xl.drop a).take n)) := bx (((HR2.out.cut (by omega)).take n).alloc (Nat.le_refl _) _)
      clear hAN hLX hx6 hln
      go_wp2_with (at_builtin; refine wpList_appL _ bV_one rfl (.tmp 67) (.tmp 73) rfl byteTy (by decide) w2.heap.size _ [] rfl (OwL.lit0 w2 (Nat.le_refl _)) _ (if xc = a then xA else xA.map (·.add a)) (a + n - a) (xc - a) ((xl.drop a).take n) rfl HLN.out HRS.out HNN.out hz2 ?_; intro v4 w4 own4 _ _ hb4; rw [List.nil_append] at own4; have HO4 := bx own4; have HB4 := bx ((bl_alloc (Below.refl w2.heap.size w2) (Nat.le_refl _) (.cells #[] 5)).trans hb4); clear own4 hb4)
      all_goals (
        go_ret2
        rw [← HP.out]
        exact ⟨RdPost.good rfl (by have := HO4.out; rw [HZq.out] at this; exact this), HFIN.out.below HB4.out, HCHq.out.trans (Ch.of_below (S := TwoK gf bF) HB4.out) (fun _ _ e => e)⟩)
end Go.Proofs.YtlmcpkomjofcgaaGreatDoor
namespace Go.Proofs.YtlmcpkomjofcgaaGreatDoor
open Go.RowKit
/-- A name in one of the files. -/
abbrev Plc := Nat × List UInt8
def plV (x : Plc) : Value := .agg #[.int .i64 (x.1 : Int), strV x.2]
theorem plV_inj (x y : Plc) (h : plV x = plV y) : x = y := by
  unfold plV at h
  simp only [Value.agg.injEq, Array.mk.injEq, List.cons.injEq, Value.int.injEq, and_true, true_and] at h
  exact Prod.ext (by omega) (strV_inj10 _ _ h.2)
theorem plLaw : WideMaps.KeyLaw Tryz.prog 87 := deep_law_laid laidOut (m := 2) (by omega) (of_decide_eq_true (by kernel_rfl)) (by kernel_rfl) (by rw [Tryz.underlying87])
theorem plK : Maps.Keyed Tryz.prog 87 := Maps.Keyed.of_law plLaw
theorem pl_key (x : Plc) (h1 : (x.1 : Int) ≤ 9223372036854775807) (h2 : x.2.length ≤ maxLen) : ∃ kl, keyOf Tryz.prog 87 (plV x) = some kl := by
  have hk : Tryz.prog.keyType 87 = true := by kernel_rfl
  have hc : Tryz.prog.cellsOf 87 = 2 := by kernel_rfl
  have hc1 : Tryz.prog.cellsOf 3 = 1 := by kernel_rfl
  have hc2 : Tryz.prog.cellsOf 9 = 1 := by kernel_rfl
  have hpos : 0 < Tryz.prog.types.size := of_decide_eq_true (by kernel_rfl)
  obtain ⟨m, hm⟩ : ∃ m, Tryz.prog.types.size = m + 1 := ⟨Tryz.prog.types.size - 1, by omega⟩
  have w1 : (Lit.int .i64 (x.1 : Int)).wf = true := Go.WalkArith.wf_i64 (by omega)
  have w2 : (⟨x.2.toArray⟩ : ByteArray).size ≤ maxLen := by show x.2.toArray.size ≤ _; simpa using h2
  have hcl : (Value.agg #[.int .i64 (x.1 : Int), .string ⟨x.2.toArray⟩]).cells.toList = [.int .i64 (x.1 : Int), .string ⟨x.2.toArray⟩] := rfl
  unfold keyOf plV strV
  rw [hcl, Tryz.underlying87]
  simp [hk, Value.formed, Tryz.underlying87, hc, hm, Program.keyLits, hc1, hc2, Tryz.underlying3, Tryz.underlying9, w1, w2]
def recV (x : Rec × Nat) : Value := .agg (recL x).toArray
/-- A path in block gp over the files in gf, its maps in bK and bC; rd: more reads than files that were learned. -/
structure PtM (w : World) (M : Nat → Prop) (gp gf bK bC : Nat) (nms : List (List UInt8)) (K : Kn) (rd : Nat) : Prop where
  box : ∃ A c, Bk w gp 65 #[.pointer (some ⟨gf, 0, none⟩), .slice A nms.length c, .map (some bK), .map (some bC)] ∧ nms.length ≤ c ∧ (c : Int) ≤ 9223372036854775807 ∧ Rx w (fun k => k < w.heap.size ∧ ¬ M k) A (nms.map strV)
  known : ∃ n, n ≤ rd ∧ MapZ intN w Tryz.prog 3 bK n (fun i => if (K i).isSome = true then some (.bool true) else none)
  recs : ∃ n, n ≤ 64 * rd ∧ MapZ plV w Tryz.prog 87 bC n (fun x => (recOf K x.1 x.2).map recV)
  own : M gp ∧ M bK ∧ M bC
  ne : gp ≠ bK ∧ gp ≠ bC ∧ bK ≠ bC
  good : ∀ i l, K i = some l → ∃ b, dirA b = .ok l
  len : 1 ≤ nms.length ∧ nms.length ≤ 8
  short : ∀ n ∈ nms, n.length ≤ maxLen
  all : ∀ k, M k → k < w.heap.size
section
variable {w w' : World} {M N S : Nat → Prop} {gp gf bK bC rd : Nat} {nms : List (List UInt8)} {K : Kn}
theorem PtM.lt (h : PtM w M gp gf bK bC nms K rd) : gp < w.heap.size ∧ bK < w.heap.size ∧ bC < w.heap.size := ⟨h.all _ h.own.1, h.all _ h.own.2.1, h.all _ h.own.2.2⟩
theorem PtM.keep (h : PtM w M gp gf bK bC nms K rd) (c : Ch w w' S) (hS : ∀ k, k < w.heap.size → S k → M k ∧ k ≠ gp ∧ k ≠ bK ∧ k ≠ bC) {rd' : Nat} (hr : rd ≤ rd') : PtM w' M gp gf bK bC nms K rd' := by
  have hs : ∀ k, k < w.heap.size → (k = gp ∨ k = bK ∨ k = bC ∨ ¬ M k) → w'.heap[k]? = w.heap[k]? := fun k hk hc => c.same k hk (fun e => by
    have := hS k hk e
    rcases hc with e | e | e | e
    · exact this.2.1 e
    · exact this.2.2.1 e
    · exact this.2.2.2 e
    · exact e this.1)
  have hl := h.lt
  obtain ⟨A, c', hB, h1, h2, h3⟩ := h.box
  obtain ⟨n, hn, hK⟩ := h.known
  obtain ⟨n2, hn2, hC⟩ := h.recs
  exact ⟨⟨A, c', (hs gp hl.1 (.inl rfl)).trans hB, h1, h2, h3.step (fun k hk => hs k hk.1 (.inr (.inr (.inr hk.2)))) (fun k hk => ⟨Nat.lt_of_lt_of_le hk.1 c.size, hk.2⟩)⟩, ⟨n, by omega, hK.same (hs bK hl.2.1 (.inr (.inl rfl)))⟩, ⟨n2, by omega, hC.same (hs bC hl.2.2 (.inr (.inr (.inl rfl))))⟩, h.own, h.ne, h.good, h.len, h.short, fun k hk => Nat.lt_of_lt_of_le (h.all k hk) c.size⟩
theorem PtM.below (h : PtM w M gp gf bK bC nms K rd) (hb : Below w.heap.size w w') : PtM w' M gp gf bK bC nms K rd := h.keep (S := fun _ => False) (Ch.of_below hb) (fun _ _ e => e.elim) (Nat.le_refl _)
end
end Go.Proofs.YtlmcpkomjofcgaaGreatDoor
namespace Go.Proofs.YtlmcpkomjofcgaaGreatDoor
/-- No read to come is told to fail. -/
def Quiet (F : FS) : Prop := ∀ k, F.reads < k → F.fails k = false
section
variable {F G : FS} {K : Kn} {nm b : List UInt8} {nms : List (List UInt8)} {i f : Nat}
theorem find_some {l : List (Rec × Nat)} {x : Rec × Nat} (h : l.find? (fun x => decide (x.1.name = nm)) = some x) : x ∈ l ∧ findL b nm l = unpA x.1.method x.1.packed x.1.size x.1.sum ((b.drop x.2).take x.1.packed) := by
  induction l with
  | nil => cases h
  | cons y r ih =>
    rw [List.find?_cons] at h
    unfold findL
    cases hx : decide (y.1.name = nm) with
    | true =>
      rw [hx] at h
      injection h with h
      subst h
      rw [if_pos (by simpa using hx)]
      exact ⟨List.mem_cons_self, rfl⟩
    | false =>
      rw [hx] at h
      rw [if_neg (by simpa using hx)]
      exact ⟨List.mem_cons_of_mem _ (ih h).1, (ih h).2⟩
theorem set_same {l : List (Rec × Nat)} : (K.set i l) i = some l := by unfold Kn.set; rw [if_pos rfl]
theorem set_other {l : List (Rec × Nat)} {j : Nat} (h : j ≠ i) : (K.set i l) j = K j := by unfold Kn.set; rw [if_neg h]
end
end Go.Proofs.YtlmcpkomjofcgaaGreatDoor
namespace Go.Proofs.YtlmcpkomjofcgaaGreatDoor
open Go.RowKit
def PathS (gf bF bK bC k : Nat) : Prop := k = gf ∨ k = bF ∨ k = bK ∨ k = bC
/-- A path over files, apart from each other; cell 0 is the program's. -/
structure PsM (w : World) (M : Nat → Prop) (gf bR bF gp bK bC : Nat) (nms : List (List UInt8)) (F : FS) (K : Kn) (mx : Int) : Prop where
  fs : FsM w M gf bR bF F
  pt : PtM w M gp gf bK bC nms K F.reads
  ne : (gf ≠ gp ∧ gf ≠ bK ∧ gf ≠ bC) ∧ (bR ≠ gp ∧ bR ≠ bK ∧ bR ≠ bC) ∧ (bF ≠ gp ∧ bF ≠ bK ∧ bF ≠ bC)
  zero : w.cell? ⟨0, 0, none⟩ = some (.int .i64 mx) ∧ ¬ M 0 ∧ 0 < w.heap.size
section
variable {w w' : World} {M S : Nat → Prop} {gf bR bF gp bK bC : Nat} {nms : List (List UInt8)} {F F' : FS} {K : Kn} {mx : Int}
theorem zero_ch (h : w.cell? ⟨0, 0, none⟩ = some (.int .i64 mx) ∧ ¬ M 0 ∧ 0 < w.heap.size) (c : Ch w w' S) (hS : ∀ k, S k → M k) : w'.cell? ⟨0, 0, none⟩ = some (.int .i64 mx) ∧ ¬ M 0 ∧ 0 < w'.heap.size :=
  ⟨(cell_same (p := ⟨0, 0, none⟩) (c.same 0 h.2.2 (fun e => h.2.1 (hS 0 e)))).trans h.1, h.2.1, Nat.lt_of_lt_of_le h.2.2 c.size⟩
theorem PsM.below (h : PsM w M gf bR bF gp bK bC nms F K mx) (hb : Below w.heap.size w w') : PsM w' M gf bR bF gp bK bC nms F K mx :=
  ⟨h.fs.below hb, h.pt.below hb, h.ne, zero_ch h.zero (S := fun _ => False) (Ch.of_below hb) (fun _ e => e.elim)⟩
theorem readFS_reads (F : FS) (nm : List UInt8) (a n : Nat) : F.reads ≤ (readFS F nm a n).2.reads ∧ (readFS F nm a n).2.reads ≤ F.reads + 1 := by
  unfold readFS
  split
  · exact ⟨Nat.le_refl _, Nat.le_succ _⟩
  · split
    · exact ⟨Nat.le_refl _, Nat.le_succ _⟩
    · split
      · exact ⟨Nat.le_succ _, Nat.le_refl _⟩
      · exact ⟨Nat.le_succ _, Nat.le_refl _⟩
/-- The files turned by a read. -/
theorem PsM.read (h : PsM w M gf bR bF gp bK bC nms F K mx) (hf : FsM w' M gf bR bF F') (c : Ch w w' (TwoK gf bF)) (hr : F.reads ≤ F'.reads) : PsM w' M gf bR bF gp bK bC nms F' K mx :=
  ⟨hf, h.pt.keep c (fun k _ e => by
    rcases e with e | e
    · subst e; exact ⟨h.fs.own.1, h.ne.1⟩
    · subst e; exact ⟨h.fs.own.2.2, h.ne.2.2⟩) hr, h.ne, zero_ch h.zero c (fun k e => by rcases e with e | e <;> subst e; exact h.fs.own.1; exact h.fs.own.2.2)⟩
/-- A name's cell. -/
theorem PtM.name {rd : Nat} (h : PtM w M gp gf bK bC nms K rd) {i : Nat} (hi : i < nms.length) : ∃ ad c s, Bk w gp 65 #[.pointer (some ⟨gf, 0, none⟩), .slice (some ad) nms.length c, .map (some bK), .map (some bC)] ∧ nms.length ≤ c ∧ (c : Int) ≤ 9223372036854775807 ∧ w.cell? (ad.add i) = some (.string s) ∧ s.data.toList = nms.getD i [] ∧ s.size ≤ maxLen ∧ ad.block < w.heap.size ∧ ¬ M ad.block := by
  obtain ⟨A, c, hB, h1, h2, h3⟩ := h.box
  have hne : nms.map strV ≠ [] := fun e => by
    have := congrArg List.length e
    simp at this
    subst this; cases hi
  obtain ⟨ad, rfl, hbl, hc⟩ := h3 hne
  have hx : nms[i]? = some nms[i] := List.getElem?_eq_getElem hi
  have hsz := h.short _ (List.getElem_mem hi)
  refine ⟨ad, c, ⟨nms[i].toArray⟩, hB, h1, h2, hc i (strV nms[i]) (by rw [List.getElem?_map, hx]; rfl), ?_, by show nms[i].toArray.size ≤ _; simpa using hsz, hbl.1, hbl.2⟩
  rw [List.getD_eq_getElem?_getD, hx]; rfl
end
theorem OwS.chp {α : Type} {fC : α → List Value} {sz : Nat} {w w' : World} {base : Nat} {e : TypeId} {v : Value} {l : List α} {S : Nat → Prop} (h : OwS fC sz w base e v l) (c : Ch w w' S) (hS : ∀ k, S k → k < base) : OwS fC sz w' base e v l := by
  have hs : ∀ k, v.ownBlock = some k → w'.heap[k]? = w.heap[k]? := fun k hk => by
    have := World.ownsRow.lt h k hk
    exact c.same k this.2 (fun h9 => by have := hS k h9; omega)
  refine ⟨h.1, ?_⟩
  rcases h.2 with hn | ⟨g, cap, cur, rfl, hb, hgg, rest⟩
  · exact .inl hn
  · exact .inr ⟨g, cap, cur, rfl, hb, (hs g rfl).trans hgg, rest⟩
/-- One record more. -/
theorem rec_step {b : List UInt8} {l : List (Rec × Nat)} {t i : Nat} {x : Rec × Nat} (ho : ApOk b l) (hx : l[t]? = some x) (G : Plc → Option Value) (q : Plc) :
    (if q.1 = i then ((l.take (t + 1)).find? fun y => decide (y.1.name = q.2)).map recV else G q) = (if q = (i, x.1.name) then some (recV x) else if q.1 = i then ((l.take t).find? fun y => decide (y.1.name = q.2)).map recV else G q) := by
  obtain ⟨qi, qn⟩ := q
  have ht : l.take (t + 1) = l.take t ++ [x] := by rw [List.take_add_one, hx]; rfl
  by_cases h1 : qi = i
  · subst h1
    rw [if_pos rfl, if_pos rfl, ht, List.find?_append]
    by_cases h2 : qn = x.1.name
    · subst h2
      rw [if_pos rfl]
      have hno : (l.take t).find? (fun y => decide (y.1.name = x.1.name)) = none := by
        rw [List.find?_eq_none]
        intro y hy
        obtain ⟨k, hk⟩ := List.mem_iff_getElem?.1 hy
        rw [List.getElem?_take] at hk
        split at hk
        · rename_i hkt
          have := (ho.two k t y x hkt hk hx).1
          simpa using this
        · cases hk
      show ((((l.take t).find? (fun y => decide (y.1.name = x.1.name))).or ([x].find? fun y => decide (y.1.name = x.1.name))).map recV) = _
      rw [hno]
      simp
    · rw [if_neg (fun e => h2 (congrArg Prod.snd e))]
      show ((((l.take t).find? (fun y => decide (y.1.name = qn))).or ([x].find? fun y => decide (y.1.name = qn))).map recV) = _
      have : [x].find? (fun y => decide (y.1.name = qn)) = none := by simp; exact fun e => h2 e.symm
      rw [this, Option.or_none]
  · rw [if_neg h1, if_neg (fun e => h1 (congrArg Prod.fst e)), if_neg h1]
theorem read_back {F F2 : FS} {nm b b' : List UInt8} (hr : F.rows nm = some b) (h : readFS F nm 0 b.length = (.ok b', F2)) : b' = b ∧ F2 = nextFS F := by
  unfold readFS at h
  rw [hr] at h
  dsimp only at h
  rw [if_neg (by omega)] at h
  split at h
  · cases h
  · injection h with h1 h2
    injection h1 with h1
    rw [List.drop_zero, List.take_length] at h1
    exact ⟨h1.symm, h2.symm⟩
theorem rd_form {R : Rz (List UInt8)} {B : Nat} {e : Ending} {w' : World} (h : RdPost R B e w') : ∃ v k, e = .returned (.tuple #[v, .int .i64 k]) := by
  cases R with
  | err j => exact ⟨_, _, h.1⟩
  | ok l => obtain ⟨v, rfl, _⟩ := h; exact ⟨_, _, rfl⟩
/-- What learn leaves. -/
def LrnPost (w : World) (M : Nat → Prop) (gf bR bF gp bK bC : Nat) (nms : List (List UInt8)) (R : Int × FS × Kn) (mx : Int) (e : Ending) (w' : World) : Prop :=
  e = .returned (.int .i64 R.1) ∧ PsM w' M gf bR bF gp bK bC nms R.2.1 R.2.2 mx ∧ Ch w w' (PathS gf bF bK bC)
set_option maxRecDepth 100000 in
set_option maxHeartbeats 8000000 in
theorem plearn_any (i : Nat) (w : World) (M : Nat → Prop) (gf bR bF gp bK bC : Nat) (nms : List (List UInt8)) (F : FS) (K : Kn) (mx : Int) (h : PsM w M gf bR bF gp bK bC nms F K mx) (hi : i < nms.length) (hrd : F.reads + 1 < 1000000) :
    Calls Tryz.prog 34 #[.pointer (some ⟨gp, 0, none⟩), .int .i64 (i : Int)] w (LrnPost w M gf bR bF gp bK bC nms (learnP nms F K i) mx) := by
  have HH := bx h
  obtain ⟨R, hR⟩ : ∃ R, learnP nms F K i = R := ⟨_, rfl⟩
  rw [hR]
  have hi8 : i < 8 := by have := h.pt.len.2; omega
  obtain ⟨ad, cN, sN, hB, hnc, hcm, hcell, hsn, hsm, had1, had2⟩ := h.pt.name hi
  have HAD := bx (And.intro had1 had2)
  obtain ⟨nK, hnK, hKM⟩ := h.pt.known
  have HKM := bx hKM
  have HB := bx hB
  have HCN := bx hcell
  have HSN := bx hsn
  have HSM := bx hsm
  clear had1 had2
  have hkI := keyN i (by omega)
  have HKI := bx hkI
  have hlp := h.pt.lt.1
  have hilen : (i : Int) < (nms.length : Int) := by omega
  obtain ⟨nL, hnL⟩ : ∃ nL, nms.length = nL := ⟨_, rfl⟩
  rw [hnL] at HB hnc hilen
  have HNC := bx (And.intro hnc hcm)
  have m0 : w.cell? ⟨gp, 0, none⟩ = some (.pointer (some ⟨gf, 0, none⟩)) := (HB.out.cell 0).trans rfl
  have m1 : w.cell? ⟨gp, 1, none⟩ = some (.slice (some ad) nL cN) := (HB.out.cell 1).trans rfl
  have m2 : w.cell? ⟨gp, 2, none⟩ = some (.map (some bK)) := (HB.out.cell 2).trans rfl
  have HI := bx hi
  have HRD := bx hrd
  have HR := bx hR
  have hKv : ∀ v, (K i).isSome = v → ((if (K i).isSome = true then some (Value.bool true) else none) : Option Value).getD (.bool false) = .bool v := fun v e => by
    cases v with
    | true => rw [if_pos e]; rfl
    | false => rw [if_neg (by rw [e]; decide)]; rfl
  have HKV := bx hKv
  clear h hR hi hKM hB hcell hsn hsm hnK hkI hnL hnc hrd hKv
  cases hK : K i with
  | some l0 =>
    have HP : Bx (R = (0, F, K)) := bx (by rw [← HR.out]; unfold learnP; rw [hK])
    have hkv := HKV.out true (by rw [hK]; rfl)
    clear hK HKV
    go_enter Tryz.func34, Tryz.ntmps34
    go_wp2_with (refine wpList_lookZ rfl (.tmp 14) (.tmp 15) _ rfl _ intK10 Tryz.underlying58 _ (zeroBo_run _) rfl HKM.out i _ rfl HKI.out (.bool true) hkv ?_)
    go_ret
    exact ⟨by rw [HP.out]; rfl, by rw [HP.out]; exact HH.out, Ch.refl _⟩
  | none =>
    have hkv := HKV.out false (by rw [hK]; rfl)
    have HKN := bx hK
    have hsz : ∀ nq, Calls Tryz.prog 49 #[.pointer (some ⟨gf, 0, none⟩), .string sN] (w.drewN nq) fun e w' => e = .returned (match F.rows (nms.getD i []) with
      | none => .tuple #[.int .i64 0, .int .i64 21]
      | some b => .tuple #[.int .i64 (b.length : Int), .int .i64 0]) ∧ ∃ n, w' = (w.drewN nq).drewN n := fun nq => by
      have := fsize_any sN (w.drewN nq) M gf bR bF F (HH.out.fs.below (below_drewN (Below.refl _ _) nq)) HSM.out
      rw [HSN.out] at this
      exact this.mono (fun e w' h => ⟨h.1, 0, h.2⟩)
    have HSZ := bx hsz
    clear hK HKV
    go_enter Tryz.func34, Tryz.ntmps34
    go_upto_region 3 with (refine wpList_lookZ rfl (.tmp 14) (.tmp 15) _ rfl _ intK10 Tryz.underlying58 _ (zeroBo_run _) rfl HKM.out i _ rfl HKI.out (.bool false) hkv ?_)
    have hcell := HCN.out
    cases hrow : F.rows (nms.getD i []) with
    | none =>
      have HP : Bx (R = (36, F, K)) := bx (by rw [← HR.out]; unfold learnP; rw [HKN.out]; dsimp only; rw [hrow])
      have hsz := HSZ.out
      rw [hrow] at hsz
      have HSY : Bx (∀ nq, Calls Tryz.prog 49 #[.pointer (some ⟨gf, 0, none⟩), .string sN] (w.drewN nq) fun e w' => e = .returned (.tuple #[.int .i64 0, .int .i64 21]) ∧ ∃ n, w' = (w.drewN nq).drewN n) := bx hsz
      clear hrow hsz HSZ m2 hkv
      go_quiet ((go_at_call 49; exact Calls.quiet_of (HSY.out _)))
      go_wp2
      go_ret
      exact ⟨by rw [HP.out]; rfl, by rw [HP.out]; exact HH.out.below (below_drewN (Below.refl _ _) nq), (Ch.refl w).drewN nq⟩
    | some b =>
      have hsz := HSZ.out
      rw [hrow] at hsz
      have HSY : Bx (∀ nq, Calls Tryz.prog 49 #[.pointer (some ⟨gf, 0, none⟩), .string sN] (w.drewN nq) fun e w' => e = .returned (.tuple #[.int .i64 (b.length : Int), .int .i64 0]) ∧ ∃ n, w' = (w.drewN nq).drewN n) := bx hsz
      have HROW := bx hrow
      clear hrow hsz HSZ m2 hkv
      go_quiet ((go_at_call 49; exact Calls.quiet_of (HSY.out _)))
      have HH1 : Bx (PsM (w.drewN nq) M gf bR bF gp bK bC nms F K mx) := bx (HH.out.below (below_drewN (Below.refl _ _) nq))
      have HCH1 : Bx (Ch w (w.drewN nq) (PathS gf bF bK bC)) := bx ((Ch.refl w).drewN nq)
      have HB1 : Bx (Bk (w.drewN nq) gp 65 #[.pointer (some ⟨gf, 0, none⟩), .slice (some ad) nL cN, .map (some bK), .map (some bC)]) := bx HB.out
      have HCN1 : Bx ((w.drewN nq).cell? (ad.add i) = some (.string sN)) := bx HCN.out
      have HAD1 : Bx (ad.block < (w.drewN nq).heap.size ∧ ¬ M ad.block) := bx HAD.out
      have hbl : b.length ≤ 65536 := by
        obtain ⟨Rr, _, hd, hsl⟩ := HH.out.fs.rows
        have e1 := hd (nms.getD i [])
        rw [HROW.out] at e1
        cases hq : Rr (nms.getD i []) with
        | none => rw [hq] at e1; cases e1
        | some x =>
          rw [hq] at e1
          injection e1 with e1
          have h2 := hsl _ _ hq
          rw [← e1, show x.l.length = x.n from h2.1.1]; exact h2.2
      have HBL := bx hbl
      have hg1 : gp < (w.drewN nq).heap.size := hlp
      clear HSY m0 m1 hlp hbl HB HCN HAD hcell
      generalize w.drewN nq = w1 at HH1 HCH1 HB1 HCN1 HAD1 hg1 ⊢
      have m0 : w1.cell? ⟨gp, 0, none⟩ = some (.pointer (some ⟨gf, 0, none⟩)) := (HB1.out.cell 0).trans rfl
      have m1 : w1.cell? ⟨gp, 1, none⟩ = some (.slice (some ad) nL cN) := (HB1.out.cell 1).trans rfl
      have hcell := HCN1.out
      have HRC := bx (fread_any sN 0 b.length w1.drew M gf bR bF F (HH1.out.fs.below (below_drewN (Below.refl _ _) 1)) HSM.out (by have := HRD.out; omega) (by omega) (by have := HBL.out; omega))
      rw [HSN.out] at HRC
      obtain ⟨Rr, F2, hP⟩ : ∃ Rr F2, readFS F (nms.getD i []) 0 b.length = (Rr, F2) := ⟨_, _, rfl⟩
      have hrr2 := readFS_reads F (nms.getD i []) 0 b.length
      rw [hP] at HRC hrr2
      have HPR := bx hP
      have HRR2 := bx hrr2
      clear hP hrr2
      have hS5 : w1.drew.cell? ⟨gp, 0, none⟩ = some (.pointer (some ⟨gf, 0, none⟩)) ∧ w1.drew.cell? ⟨gp, 1, none⟩ = some (.slice (some ad) nL cN) ∧ w1.drew.cell? (ad.add i) = some (.string sN) := ⟨m0, m1, hcell⟩
      have HNEP := bx HH1.out.ne
      have HMO := bx (And.intro HH1.out.fs.own.1 HH1.out.fs.own.2.2)
      have HH2 : Bx (PsM w1.drew M gf bR bF gp bK bC nms F K mx) := bx (HH1.out.below (below_drewN (Below.refl _ _) 1))
      have HCH2 : Bx (Ch w w1.drew (PathS gf bF bK bC)) := bx (HCH1.out.drewN 1)
      clear HH1 HCH1 HCN1
      go_upto_region 6 with (fail)
      go_region_held3 (fun w' => w'.cell? ⟨gp, 0, none⟩ = some (.pointer (some ⟨gf, 0, none⟩)) ∧ w'.cell? ⟨gp, 1, none⟩ = some (.slice (some ad) nL cN) ∧ w'.cell? (ad.add i) = some (.string sN)) (first | exact hS5 | exact hS6 | fail) ((go_at_call 35; refine HRC.out.mono ?_; intro e w2 hp2; obtain ⟨v2, k2, rfl⟩ := rd_form hp2.1; have hS6 : w2.cell? ⟨gp, 0, none⟩ = some (.pointer (some ⟨gf, 0, none⟩)) ∧ w2.cell? ⟨gp, 1, none⟩ = some (.slice (some ad) nL cN) ∧ w2.cell? (ad.add i) = some (.string sN) := ⟨(cell_same (p := ⟨gp, 0, none⟩) (hp2.2.2.same gp hg1 (fun e => by rcases e with e | e; exact HNEP.out.1.1 e.symm; exact HNEP.out.2.2.1 e.symm))).trans hS5.1, (cell_same (p := ⟨gp, 1, none⟩) (hp2.2.2.same gp hg1 (fun e => by rcases e with e | e; exact HNEP.out.1.1 e.symm; exact HNEP.out.2.2.1 e.symm))).trans hS5.2.1, (cell_same (p := ad.add i) (by rw [blk_add]; exact hp2.2.2.same ad.block HAD1.out.1 (fun e => by rcases e with e | e <;> rw [e] at HAD1; exact HAD1.out.2 HMO.out.1; exact HAD1.out.2 HMO.out.2))).trans hS5.2.2⟩))
      obtain ⟨hpp, hf2, hc2⟩ := hp2
      clear hS5 hS6 m0 m1 hcell HRC
      cases Rr with
      | err k =>
        have HP : Bx (R = (k, F2, K)) := bx (by rw [← HR.out]; unfold learnP; rw [HKN.out]; dsimp only; rw [HROW.out]; dsimp only; rw [HPR.out])
        obtain ⟨he, hk0⟩ := hpp
        injection he with he
        simp only [Value.tuple.injEq, Array.mk.injEq, List.cons.injEq, Value.int.injEq, and_true, true_and] at he
        obtain ⟨rfl, rfl⟩ := he
        have HH3 := bx (HH2.out.read hf2 hc2 HRR2.out.1)
        have HCH3 := bx (HCH2.out.trans hc2 (fun k _ e => by rcases e with e | e; exact .inl e; exact .inr (.inl e)))
        have hkI : (k2 != 0) = true := by rw [bne_iff_ne]; exact hk0
        clear hf2 hc2 hk0
        go_wp2
        go_ret
        exact ⟨by rw [HP.out]; rfl, by rw [HP.out]; exact HH3.out, HCH3.out⟩
      | ok b' =>
        obtain ⟨rfl, rfl⟩ : b' = b ∧ F2 = nextFS F := read_back HROW.out HPR.out
        obtain ⟨v, he, ho⟩ := hpp
        injection he with he
        simp only [Value.tuple.injEq, Array.mk.injEq, List.cons.injEq, Value.int.injEq, and_true, true_and] at he
        obtain ⟨rfl, rfl⟩ := he
        have HH3 := bx (HH2.out.read hf2 hc2 HRR2.out.1)
        have HPT3 := bx (HH2.out.pt.keep hc2 (fun k _ e => by
          rcases e with e | e
          · subst e; exact ⟨HH2.out.fs.own.1, HH2.out.ne.1⟩
          · subst e; exact ⟨HH2.out.fs.own.2.2, HH2.out.ne.2.2⟩) (Nat.le_refl F.reads))
        have HCH3 := bx (HCH2.out.trans hc2 (fun k _ e => by rcases e with e | e; exact .inl e; exact .inr (.inl e)))
        obtain ⟨A7, c7, rfl, hr7, hc7, hm7⟩ := OwL.rd ho
        obtain ⟨n7, hn7⟩ : ∃ n, b'.length = n := ⟨_, rfl⟩
        have HD := bx (dir_any A7 n7 c7 b' w2 mx hn7 (by have := HBL.out; omega) (by omega) hm7 hr7 HH3.out.zero.1)
        rw [hn7]
        clear ho hf2 hc2 hr7 hc7 hm7 hn7 HH2 HCH2
        go_wp2_with fail
        refine HD.out.mono ?_
        intro e w3 hp
        obtain ⟨hb3, hp⟩ := hp
        have HH4 := bx (HH3.out.below hb3)
        have HCH4 := bx (HCH3.out.trans (Ch.of_below (S := PathS gf bF bK bC) hb3) (fun _ _ e => e))
        have HLT2 := bx HH3.out.pt.lt
        have HPT4 := bx (HPT3.out.below hb3)
        clear hb3 HD
        cases hd : dirA b' with
        | err k =>
          rw [hd] at hp
          have hp : e = .returned (.tuple #[.slice none 0 0, .int .i64 k]) := hp
          subst hp
          have hkI : (k != 0) = true := by rw [bne_iff_ne]; have := (dirA_pos hd).1; omega
          have HP : Bx (R = (k, nextFS F, K)) := bx (by rw [← HR.out]; unfold learnP; rw [HKN.out]; dsimp only; rw [HROW.out]; dsimp only; rw [HPR.out]; dsimp only; rw [hd])
          clear hd
          go_wp2
          go_ret
          exact ⟨by rw [HP.out]; rfl, by rw [HP.out]; exact HH4.out, HCH4.out⟩
        | ok l =>
          rw [hd] at hp
          have hp : ∃ v, e = .returned (.tuple #[v, .int .i64 0]) ∧ OwS recL 7 w3 w2.heap.size 71 v l := hp
          obtain ⟨v, rfl, hol⟩ := hp
          have HP : Bx (R = (0, nextFS F, K.set i l)) := bx (by rw [← HR.out]; unfold learnP; rw [HKN.out]; dsimp only; rw [HROW.out]; dsimp only; rw [HPR.out]; dsimp only; rw [hd])
          have HOK := bx (apOk hd)
          have HDI := bx hd
          obtain ⟨A8, c8, rfl, _, hc8⟩ := OwS.rd hol
          have HOL := bx hol
          obtain ⟨n8, hn8⟩ : ∃ n, l.length = n := ⟨_, rfl⟩
          have HN8 := bx hn8
          rw [hn8]
          rw [hn8] at HOL hc8
          have hn64 : n8 ≤ 64 := by rw [← hn8]; exact HOK.out.len
          obtain ⟨mC, hmC, hMC⟩ := HPT4.out.recs
          have HC0 : Bx (MapZ plV w3 Tryz.prog 87 bC mC (fun x => if x.1 = i then ((l.take 0).find? fun y => decide (y.1.name = x.2)).map recV else (recOf K x.1 x.2).map recV)) := bx (hMC.ext (fun x => by
            split
            · rename_i e
              have : recOf K x.1 x.2 = none := by unfold recOf; rw [e, HKN.out]; rfl
              rw [this]; rfl
            · rfl))
          have HM0 : Bx (mC ≤ 64 * F.reads) := bx hmC
          have HC00 : Bx (Ch w3 w3 (OneK bC)) := bx (Ch.refl _)
          obtain ⟨BB, hBB⟩ : ∃ BB, w2.heap.size = BB := ⟨_, rfl⟩
          have HBB := bx hBB
          rw [hBB] at HOL
          have HLT4 := bx HH4.out.pt.lt
          have HOW4 := bx HH4.out.pt.own
          have HNE4 := bx HH4.out.pt.ne
          have HB4 : Bx (∃ A c, Bk w3 gp 65 #[.pointer (some ⟨gf, 0, none⟩), .slice A nms.length c, .map (some bK), .map (some bC)]) := bx (by obtain ⟨A, c, h1, _⟩ := HH4.out.pt.box; exact ⟨A, c, h1⟩)
          have HI8 := bx hi8
          clear hol hmC hMC hd hn8 hBB
          go_wp2_with fail
          go_loopw [63] (fun iv wx => ∃ (t m : Nat), t ≤ n8 ∧ iv = .int .i64 (t : Int) ∧ Bx (Ch w3 wx (OneK bC) ∧ MapZ plV wx Tryz.prog 87 bC m (fun x => if x.1 = i then ((l.take t).find? fun y => decide (y.1.name = x.2)).map recV else (recOf K x.1 x.2).map recV) ∧ m ≤ mC + t)) (fun iv _ => n8 - (intOf iv).toNat)
          case atStart => exact ⟨0, mC, by omega, rfl, bx ⟨HC00.out, HC0.out, Nat.le_refl _⟩⟩
          case round =>
            clear HC0 HC00
            obtain ⟨t, m, ht, rfl, HST⟩ := hrel
            have HCW := bx HST.out.1
            have HMW := bx HST.out.2.1
            have HMB := bx HST.out.2.2
            clear HST
            obtain ⟨AQ, cQ, hBQ⟩ := HB4.out
            have hBw : Bk wr gp 65 #[.pointer (some ⟨gf, 0, none⟩), .slice AQ nms.length cQ, .map (some bK), .map (some bC)] := (HCW.out.same gp HLT4.out.1 (fun e => HNE4.out.2.1 e)).trans hBQ
            have HBW := bx hBw
            clear hBQ hBw
            by_cases htn : t < n8
            · have htI : (t : Int) < (n8 : Int) := by omega
              have hol : OwS recL 7 wr BB 71 (.slice A8 n8 c8) l := HOL.out.chp HCW.out (fun k e => by rw [show k = bC from e, ← HBB.out]; exact HLT2.out.2.2)
              obtain ⟨A8', c8', e8, hrr, _⟩ := OwS.rd hol
              injection e8 with e81 e82 e83
              subst e81; subst e83
              clear e82
              obtain ⟨ad8, x, hA, _, hx, hc, hcs⟩ := hrr.at_ recCels (k := t) (by rw [HN8.out]; exact htn)
              subst hA
              have HX := bx hx.out
              obtain ⟨⟨nm, me, pk, si, su, hd⟩, at2⟩ := x
              obtain ⟨sn, hsn⟩ : ∃ s : ByteArray, (⟨nm.toArray⟩ : ByteArray) = s := ⟨_, rfl⟩
              have HSV : Bx (strV nm = .string sn) := bx (by unfold strV; rw [hsn])
              have hnl : nm.length ≤ maxLen := by
                have h1 := (HOK.out.one t _ hx.out).2.2.1
                have h2 := (HOK.out.one t _ hx.out).2.2.2.1
                have h3 := HBL.out
                dsimp only at h1 h2
                unfold maxLen; omega
              have HNL := bx hnl
              have k0 := hc _ rfl
              have k1 := hcs 0 _ rfl
              have k2 := hcs 1 _ rfl
              have k3 := hcs 2 _ rfl
              have k4 := hcs 3 _ rfl
              have k5 := hcs 4 _ rfl
              have k6 := hcs 5 _ rfl
              rw [Nat.zero_add] at k1
              rw [HSV.out] at k0
              obtain ⟨gi, hgi⟩ : ∃ gi, wr.heap.size = gi := ⟨_, rfl⟩
              obtain ⟨w4, hw4⟩ : ∃ w4, (wr.alloc (.cells z7 71)).setRow wr.heap.size #[.string sn, .int .i64 (me : Int), .int .i64 (pk : Int), .int .i64 (si : Int), .int .i64 (su : Int), .int .i64 (at2 : Int), .int .i64 (hd : Int)] = w4 := ⟨_, rfl⟩
              have hK4 : Bk w4 gi 71 #[.string sn, .int .i64 (me : Int), .int .i64 (pk : Int), .int .i64 (si : Int), .int .i64 (su : Int), .int .i64 (at2 : Int), .int .i64 (hd : Int)] := by rw [← hw4, ← hgi]; exact ((Bk.new wr _ z7).setRow _)
              have hB4 : Below wr.heap.size wr w4 := by rw [← hw4]; exact bl_setRow (bl_alloc (Below.refl wr.heap.size wr) (Nat.le_refl _) _) (Nat.le_refl _) _
              have hone : (#[.string sn, .int .i64 (me : Int), .int .i64 (pk : Int), .int .i64 (si : Int), .int .i64 (su : Int), .int .i64 (at2 : Int), .int .i64 (hd : Int)] : Array Value).all (·.oneCell') = true := by simp [Value.oneCell']
              have HONE := bx hone
              have HK4 := bx hK4
              have HBE := bx hB4
              have HW4e := bx hw4
              have HGI := bx hgi
              have htc : (t : Int) ≤ (c8 : Int) := by omega
              clear hw4 hK4 hB4 hone hc hcs hx hrr hsn hgi hol hnl
              go_upto_region 15 with (refine wpList_store_row rfl 71 (.tmp 10) (.tmp 66) rfl wr.heap.size #[.string sn, .int .i64 (me : Int), .int .i64 (pk : Int), .int .i64 (si : Int), .int .i64 (su : Int), .int .i64 (at2 : Int), .int .i64 (hd : Int)] rfl rfl 71 z7 (Bk.new _ _ _) info_rec rfl HONE.out ?_; rw [z7_eq, HW4e.out, HGI.out])
              clear k0 k1 k2 k3 k4 k5 k6
              have hszw : gp < wr.heap.size := HBW.out.lt
              have hszC : bC < wr.heap.size := HMW.out.lt
              have HBW4 : Bx (Bk w4 gp 65 #[.pointer (some ⟨gf, 0, none⟩), .slice AQ nms.length cQ, .map (some bK), .map (some bC)]) := bx (HBW.out.below HBE.out hszw)
              have hm4 : MapZ plV w4.drew Tryz.prog 87 bC m _ := HMW.out.same (HBE.out.block bC hszC)
              obtain ⟨kl, hkl⟩ := pl_key (i, nm) (by have := HI8.out; show (i : Int) ≤ _; omega) HNL.out
              obtain ⟨w5, hrun, hg5, hm5⟩ := hm4.storeRun (t := 63) plK Tryz.underlying63 plV_inj (by have h1 := HMB.out; have h2 := HM0.out; have h3 := HRD.out; unfold maxLen; omega) (i, nm) (.agg #[.string sn, .int .i64 (me : Int), .int .i64 (pk : Int), .int .i64 (si : Int), .int .i64 (su : Int), .int .i64 (at2 : Int), .int .i64 (hd : Int)]) hkl
              have hpl : plV (i, nm) = .agg #[.int .i64 (i : Int), .string sn] := by unfold plV; rw [← HSV.out]
              rw [hpl] at hrun
              obtain ⟨Fw, hFw⟩ : ∃ Fw, pairF w4.drew w5 = Fw := ⟨_, rfl⟩
              have hrun' : (Instr.mapUpdate 63 (.map (some bC)) (.agg #[.int .i64 (i : Int), .string sn]) (.agg #[.string sn, .int .i64 (me : Int), .int .i64 (pk : Int), .int .i64 (si : Int), .int .i64 (su : Int), .int .i64 (at2 : Int), .int .i64 (hd : Int)])).run Tryz.prog (Fw 0) = .ok () (Fw 1) := by rw [← hFw]; exact hrun
              have hBkF : ∀ n, Bk (Fw n) gi 71 #[.string sn, .int .i64 (me : Int), .int .i64 (pk : Int), .int .i64 (si : Int), .int .i64 (su : Int), .int .i64 (at2 : Int), .int .i64 (hd : Int)] := fun n => by
                rw [← hFw]
                cases n with
                | zero => exact HK4.out
                | succ n => exact (hg5.block gi HK4.out.lt (fun e => by injection e with e; have := HGI.out; omega)).trans HK4.out
              have q0 : ∀ n, (Fw n).cell? ⟨gi, 0, none⟩ = some (.string sn) := fun n => ((hBkF n).cell 0).trans rfl
              have q1 : ∀ n, (Fw n).cell? ⟨gi, 1, none⟩ = some (.int .i64 (me : Int)) := fun n => ((hBkF n).cell 1).trans rfl
              have q2 : ∀ n, (Fw n).cell? ⟨gi, 2, none⟩ = some (.int .i64 (pk : Int)) := fun n => ((hBkF n).cell 2).trans rfl
              have q3 : ∀ n, (Fw n).cell? ⟨gi, 3, none⟩ = some (.int .i64 (si : Int)) := fun n => ((hBkF n).cell 3).trans rfl
              have q4 : ∀ n, (Fw n).cell? ⟨gi, 4, none⟩ = some (.int .i64 (su : Int)) := fun n => ((hBkF n).cell 4).trans rfl
              have q5 : ∀ n, (Fw n).cell? ⟨gi, 5, none⟩ = some (.int .i64 (at2 : Int)) := fun n => ((hBkF n).cell 5).trans rfl
              have q6 : ∀ n, (Fw n).cell? ⟨gi, 6, none⟩ = some (.int .i64 (hd : Int)) := fun n => ((hBkF n).cell 6).trans rfl
              have q7 : ∀ n, (Fw n).cell? ⟨gp, 3, none⟩ = some (.map (some bC)) := fun n => by
                rw [← hFw]
                cases n with
                | zero => exact (HBW4.out.cell 3).trans rfl
                | succ n => exact (cell_same (p := ⟨gp, 3, none⟩) (hg5.block gp HBW4.out.lt (fun e => by injection e with e; exact HNE4.out.2.1 e))).trans ((HBW4.out.cell 3).trans rfl)
              have HF0 : Bx (w4.drew = Fw 0) := bx (by rw [← hFw]; rfl)
              have HFW1 : Bx (Fw 1 = w5) := bx (by rw [← hFw]; rfl)
              have HRUN := bx hrun'
              have HC5 : Bx (Ch w3 w5 (OneK bC)) := bx (((HCW.out.trans (Ch.of_below (S := OneK bC) HBE.out) (fun _ _ e => e)).drewN 1).trans (Ch.of_grown (S := OneK bC) hg5 (fun k e => by injection e with e; exact e.symm)) (fun _ _ e => e))
              have HM5 := bx (hm5.ext (G' := fun x => if x.1 = i then ((l.take (t + 1)).find? fun y => decide (y.1.name = x.2)).map recV else (recOf K x.1 x.2).map recV) (fun x => by
                rw [rec_step HOK.out HX.out (fun x => (recOf K x.1 x.2).map recV) x]
                have hv : recV (⟨nm, me, pk, si, su, hd⟩, at2) = .agg #[.string sn, .int .i64 (me : Int), .int .i64 (pk : Int), .int .i64 (si : Int), .int .i64 (su : Int), .int .i64 (at2 : Int), .int .i64 (hd : Int)] := by unfold recV recL; rw [← HSV.out]
                rw [hv]))
              have HMB5 : Bx ((if (((if (i, nm).1 = i then ((l.take t).find? fun y => decide (y.1.name = (i, nm).2)).map recV else (recOf K (i, nm).1 (i, nm).2).map recV) : Option Value)).isSome = true then m else m + 1) ≤ mC + (t + 1)) := bx (by have := ite_succ_le (c := (((if (i, nm).1 = i then ((l.take t).find? fun y => decide (y.1.name = (i, nm).2)).map recV else (recOf K (i, nm).1 (i, nm).2).map recV) : Option Value)).isSome = true) HMB.out; omega)
              clear hrun hrun' hg5 hm5 hFw hBkF hm4 hkl hpl
              refine wp_region_same 9 Fw (by kernel_rfl) (by kernel_rfl) (by kernel_rfl) (by kernel_rfl) (by decide) HF0.out (fun _ _ _ d _ h => by cases d <;> exact h) ?_
              simp only [List.take_succ_cons, List.take_zero, List.drop_succ_cons, List.drop_zero]
              repeat (
                refine wpSame_step (fun K hK => ?_)
                simp only [SameAt]
                go_simp
                refine hK _ ?_
                clear hK K)
              refine wpSame_nil ?_
              refine wpChain_step rfl (fun K hK => ?_)
              refine wp_runMapU (.tmp 70) (.tmp 74) (.tmp 75) _ rfl _ _ _ rfl rfl rfl HRUN.out ?_
              refine hK _ _ ⟨1, rfl⟩ ?_
              clear hK K
              refine wpChain_nil ?_
              clear q0 q1 q2 q3 q4 q5 q6 q7
              rw [HFW1.out]
              go_wp2
              go_roundw
              case rel => first | exact ⟨t + 1, _, by omega, by go_num, bx ⟨HC5.out, HM5.out, HMB5.out⟩⟩ | exact ⟨t + 1, by omega, by go_num, _, bx ⟨HC5.out, HM5.out, HMB5.out⟩⟩ | (trace_state; fail)
              case measure => simp [intOf]; omega
            · obtain rfl : t = n8 := by omega
              have htI : ¬ (t : Int) < (t : Int) := by omega
              have hTK : l.take t = l := by rw [← HN8.out]; exact List.take_length
              rw [hTK] at HMW
              have m2 : wr.cell? ⟨gp, 2, none⟩ = some (.map (some bK)) := (HBW.out.cell 2).trans rfl
              obtain ⟨nK4, hnK4, hK4⟩ := HPT4.out.known
              have HKW : Bx (MapZ intN wr Tryz.prog 3 bK nK4 (fun i => if (K i).isSome = true then some (.bool true) else none)) := bx (hK4.same (HCW.out.same bK HLT4.out.2.1 (fun e => HNE4.out.2.2 e)))
              have HNK4 := bx hnK4
              have hxi : Value.int .i64 (i : Int) = intN i := rfl
              clear hK4 hnK4
              go_wp2_with (refine wpList_storeZ rfl (.tmp 80) (.tmp 81) (.const (.bool true)) _ rfl _ intK10 Tryz.underlying58 rfl HKW.out intN_inj (by have h1 := HNK4.out; have h2 := HRD.out; unfold maxLen; omega) i (.bool true) _ rfl rfl HKI.out ?_; intro w6 hm6 hg6; have HM6 := bx hm6; have HG6 := bx hg6; clear hm6 hg6)
              go_ret
              have HC6 : Bx (Ch w3 w6 (PathS gf bF bK bC)) := bx ((HCW.out.mono (fun k _ e => .inr (.inr (.inr e)))).trans (Ch.of_grown (S := PathS gf bF bK bC) HG6.out (fun k e => by injection e with e; exact .inr (.inr (.inl e.symm)))) (fun _ _ e => e))
              have HC6b : Bx (Ch w3 w6 (fun k => k = bK ∨ k = bC)) := bx ((HCW.out.mono (S' := fun k => k = bK ∨ k = bC) (fun k _ e => .inr e)).trans (Ch.of_grown (S := fun k => k = bK ∨ k = bC) HG6.out (fun k e => by injection e with e; exact .inl e.symm)) (fun _ _ e => e))
              have hne6 := HH4.out.ne
              have hown := HH4.out.pt.own
              refine ⟨by rw [HP.out]; rfl, ?_, HCH4.out.trans HC6.out (fun _ _ e => e)⟩
              rw [HP.out]
              show PsM w6 M gf bR bF gp bK bC nms (nextFS F) (K.set i l) mx
              have hfs : FsM w6 M gf bR bF (nextFS F) := HH4.out.fs.keep HC6b.out (fun k _ e => by
                rcases e with e | e <;> subst e
                · exact ⟨hown.2.1, fun e => hne6.1.2.1 e.symm, fun e => hne6.2.1.2.1 e.symm, fun e => hne6.2.2.2.1 e.symm⟩
                · exact ⟨hown.2.2, fun e => hne6.1.2.2 e.symm, fun e => hne6.2.1.2.2 e.symm, fun e => hne6.2.2.2.2 e.symm⟩)
              have hz : w6.cell? ⟨0, 0, none⟩ = some (.int .i64 mx) ∧ ¬ M 0 ∧ 0 < w6.heap.size := zero_ch HH4.out.zero HC6b.out (fun k e => by rcases e with e | e <;> subst e; exact hown.2.1; exact hown.2.2)
              refine ⟨hfs, ?_, hne6, hz⟩
              obtain ⟨A9, c9, hB9, h91, h92, h93⟩ := HH4.out.pt.box
              have hs6 : ∀ k, k < w3.heap.size → k ≠ bK → k ≠ bC → w6.heap[k]? = w3.heap[k]? := fun k hk h1 h2 => HC6b.out.same k hk (fun e => by rcases e with e | e; exact h1 e; exact h2 e)
              refine ⟨⟨A9, c9, (hs6 gp HLT4.out.1 HNE4.out.1 HNE4.out.2.1).trans hB9, h91, h92, h93.step (fun k hk => hs6 k hk.1 (fun e => hk.2 (by rw [e]; exact hown.2.1)) (fun e => hk.2 (by rw [e]; exact hown.2.2))) (fun k hk => ⟨Nat.lt_of_lt_of_le hk.1 HC6b.out.size, hk.2⟩)⟩, ⟨_, ?_, HM6.out.ext (fun q => ?_)⟩, ⟨m, ?_, (HMW.out.grown HG6.out (fun e => by injection e with e; exact HNE4.out.2.2 e.symm)).ext (fun x => ?_)⟩, hown, HH4.out.pt.ne, ?_, HH4.out.pt.len, HH4.out.pt.short, fun k hk => Nat.lt_of_lt_of_le (HH4.out.pt.all k hk) HC6b.out.size⟩
              · exact ite_succ_le HNK4.out
              · by_cases e : q = i
                · subst e
                  rw [if_pos rfl, set_same]; rfl
                · rw [if_neg e, set_other e]
              · have h1 := HMB.out
                have h2 := HM0.out
                show m ≤ 64 * (F.reads + 1)
                omega
              · by_cases e : x.1 = i
                · rw [if_pos e]
                  unfold recOf
                  rw [e, set_same]; rfl
                · rw [if_neg e]
                  unfold recOf
                  rw [set_other e]
              · intro i' l' hl'
                by_cases e : i' = i
                · subst e
                  rw [set_same] at hl'
                  injection hl' with hl'
                  subst hl'
                  exact ⟨b', HDI.out⟩
                · rw [set_other e] at hl'
                  exact HH4.out.pt.good i' l' hl'
end Go.Proofs.YtlmcpkomjofcgaaGreatDoor
namespace Go.Proofs.YtlmcpkomjofcgaaGreatDoor
open Go.RowKit
theorem zeroRc_run (w : World) : (zeroValue 71).run Tryz.prog w = .ok (.agg z7) w := by kernel_rfl
theorem z7_one : z7.all (·.oneCell') = true := by kernel_rfl
/-- What a look answers. -/
def AnsP (R : Rz (List UInt8)) (B : Nat) (e : Ending) (w' : World) : Prop := match R with
  | .ok l => ∃ v, e = .returned (.tuple #[v, .int .i64 0]) ∧ OwB w' B 5 v l ∧ l.length ≤ 32768
  | .err k => e = .returned (.tuple #[.slice none 0 0, .int .i64 k]) ∧ k ≠ 0
theorem AnsP.bad {R : Rz (List UInt8)} {B : Nat} {w' : World} {k : Int} (h : R = .err k) (hk : k ≠ 0) : AnsP R B (.returned (.tuple #[.slice none 0 0, .int .i64 k])) w' := by subst h; exact ⟨rfl, hk⟩
theorem AnsP.unp {R : Rz (List UInt8)} {B : Nat} {w w' : World} {e : Ending} (h : UnpPost R w e w') (hB : B ≤ w.heap.size) : AnsP R B e w' := by
  cases R with
  | err j => exact h.2
  | ok l => obtain ⟨_, v, rfl, hO, hl⟩ := h; exact ⟨v, rfl, OwL.low hO hB, hl⟩
/-- What among, Find and First leave. -/
def AmgPost (w : World) (M : Nat → Prop) (gf bR bF gp bK bC : Nat) (nms : List (List UInt8)) (R : Rz (List UInt8) × FS × Kn) (mx : Int) (e : Ending) (w' : World) : Prop :=
  AnsP R.1 w.heap.size e w' ∧ PsM w' M gf bR bF gp bK bC nms R.2.1 R.2.2 mx ∧ Ch w w' (PathS gf bF bK bC)
theorem learn_reads (nms : List (List UInt8)) (F : FS) (K : Kn) (i : Nat) : F.reads ≤ (learnP nms F K i).2.1.reads ∧ (learnP nms F K i).2.1.reads ≤ F.reads + 1 := by
  unfold learnP
  split
  · exact ⟨Nat.le_refl _, Nat.le_succ _⟩
  · split
    · exact ⟨Nat.le_refl _, Nat.le_succ _⟩
    · rename_i b _
      have h := readFS_reads F (nms.getD i []) 0 b.length
      split
      · rename_i h1; rw [h1] at h; exact h
      · rename_i h1
        rw [h1] at h
        split <;> exact h
theorem rec_good {w : World} {M : Nat → Prop} {gp gf bK bC rd : Nat} {nms : List (List UInt8)} {K : Kn} {i : Nat} {nm : List UInt8} {x : Rec × Nat} (h : PtM w M gp gf bK bC nms K rd) (hx : recOf K i nm = some x) : x.2 + x.1.packed ≤ 65536 ∧ (x.1.method = 0 ∨ x.1.method = 8) := by
  unfold recOf at hx
  cases hK : K i with
  | none => rw [hK] at hx; cases hx
  | some l =>
    rw [hK] at hx
    obtain ⟨b, hb⟩ := h.good i l hK
    have hm : x ∈ l := (find_some (b := b) hx).1
    obtain ⟨j, hj⟩ := List.mem_iff_getElem?.1 hm
    have h1 := (apOk hb).one j x hj
    have h2 : b.length ≤ 65536 := by
      unfold dirA at hb
      split at hb
      · cases hb
      · omega
    exact ⟨by have := h1.2.2.2.1; omega, h1.2.1⟩
set_option maxRecDepth 100000 in
set_option maxHeartbeats 8000000 in
theorem pamong_any (n : Nat) (s : ByteArray) (w : World) (M : Nat → Prop) (gf bR bF gp bK bC : Nat) (nms : List (List UInt8)) (F : FS) (K : Kn) (mx : Int) (h : PsM w M gf bR bF gp bK bC nms F K mx) (hn : n ≤ nms.length) (hs : s.size ≤ maxLen) (hrd : F.reads + 40 < 1000000) :
    Calls Tryz.prog 26 #[.pointer (some ⟨gp, 0, none⟩), .int .i64 (n : Int), .string s] w (AmgPost w M gf bR bF gp bK bC nms (amongP nms s.data.toList n 0 F K) mx) := by
  obtain ⟨R, hR⟩ : ∃ R, amongP nms s.data.toList n 0 F K = R := ⟨_, rfl⟩
  rw [hR]
  have hn8 : n ≤ 8 := by have := h.pt.len.2; omega
  have HN := bx hn
  have HS0 : Bx (PsM w M gf bR bF gp bK bC nms F K mx ∧ Ch w w (PathS gf bF bK bC) ∧ amongP nms s.data.toList (n - 0) 0 F K = R ∧ F.reads ≤ F.reads + 2 * 0) := bx ⟨h, Ch.refl _, hR, Nat.le_refl _⟩
  have HRD := bx hrd
  have HSZ := bx hs
  clear h hR hn hrd hs
  go_enter Tryz.func26, Tryz.ntmps26
  go_wp2_with fail
  go_loopw [15] (fun iv wx => ∃ (j : Nat) (F1 : FS) (K1 : Kn), j ≤ n ∧ iv = .int .i64 (j : Int) ∧ Bx (PsM wx M gf bR bF gp bK bC nms F1 K1 mx ∧ Ch w wx (PathS gf bF bK bC) ∧ amongP nms s.data.toList (n - j) j F1 K1 = R ∧ F1.reads ≤ F.reads + 2 * j)) (fun iv _ => n - (intOf iv).toNat)
  case atStart => exact ⟨0, F, K, by omega, rfl, HS0⟩
  case round =>
    clear HS0
    obtain ⟨j, F1, K1, hj, rfl, HST⟩ := hrel
    by_cases hjn : j < n
    · have hjI : (j : Int) < (n : Int) := by omega
      have hnj : n - j = (n - (j + 1)) + 1 := by omega
      have hA : amongP nms s.data.toList ((n - (j + 1)) + 1) j F1 K1 = R := by rw [← hnj]; exact HST.out.2.2.1
      obtain ⟨k2, F2, K2, hL⟩ : ∃ k F2 K2, learnP nms F1 K1 j = (k, F2, K2) := ⟨_, _, _, rfl⟩
      have hLR := learn_reads nms F1 K1 j
      have HLC := bx (plearn_any j wr M gf bR bF gp bK bC nms F1 K1 mx HST.out.1 (by have := HN.out; omega) (by have h1 := HST.out.2.2.2; have h2 := HRD.out; omega))
      rw [hL] at HLC hLR
      rw [amongP, hL] at hA
      dsimp only at hA hLR
      have HA := bx hA
      have HLR := bx hLR
      have HJ := bx hnj
      clear hA hLR hL hnj
      go_wp2_with fail
      refine HLC.out.mono ?_
      rintro e w1 ⟨rfl, hps, hc⟩
      have HP1 : Bx (PsM w1 M gf bR bF gp bK bC nms F2 K2 mx) := bx hps
      have HC1 := bx (HST.out.2.1.trans hc (fun _ _ e => e))
      have HR2 : Bx (F2.reads ≤ F.reads + 2 * j + 1 ∧ F1.reads ≤ F2.reads) := bx ⟨by have h1 := HST.out.2.2.2; have h2 := HLR.out.2; omega, HLR.out.1⟩
      clear hps hc HLC HST HLR
      by_cases hk : k2 = 0
      · subst hk
        have HA2 := HA.out
        rw [if_neg (by decide)] at HA2
        have HA := bx HA2
        clear HA2
        obtain ⟨mC, hmC, hMC⟩ := HP1.out.pt.recs
        have HMC := bx hMC
        have hB3 : w1.cell? ⟨gp, 3, none⟩ = some (.map (some bC)) := by obtain ⟨A, c, hB, _⟩ := HP1.out.pt.box; exact (hB.cell 3).trans rfl
        obtain ⟨kl, hkl⟩ := pl_key (j, s.data.toList) (by show (j : Int) ≤ _; omega) (by rw [size_len]; exact HSZ.out)
        have HKL := bx hkl
        obtain ⟨gi, hgi⟩ : ∃ gi, w1.heap.size = gi := ⟨_, rfl⟩
        have HGI := bx hgi
        cases hrec : recOf K2 j s.data.toList with
        | none =>
          have HRC := bx hrec
          have HA2 := HA.out
          rw [hrec] at HA2
          have HA := bx HA2
          obtain ⟨w4, hw4⟩ : ∃ w4, (w1.alloc (.cells z7 71)).setRow w1.heap.size z7 = w4 := ⟨_, rfl⟩
          have hB4 : Below w1.heap.size w1 w4 := by rw [← hw4]; exact bl_setRow (bl_alloc (Below.refl w1.heap.size w1) (Nat.le_refl _) _) (Nat.le_refl _) _
          have HW4e := bx hw4
          have HP4 := bx (HP1.out.below hB4)
          have HC4 := bx (HC1.out.trans (Ch.of_below (S := PathS gf bF bK bC) hB4) (fun _ _ e => e))
          clear HA2 hrec hw4 hB4 hkl hmC hMC hgi
          go_wp2_with (first
            | (refine wpList_lookZ_ok rfl (.tmp 28) (.tmp 31) _ rfl _ plK Tryz.underlying63 _ (zeroRc_run _) rfl HMC.out (j, s.data.toList) _ rfl HKL.out (.agg z7) false (by rw [HRC.out]; rfl) (by rw [HRC.out]; rfl) ?_)
            | (refine wpList_store_row rfl 71 (.tmp 10) (.tmp 33) rfl w1.heap.size z7 rfl rfl 71 z7 (Bk.new _ _ _) info_rec rfl z7_one ?_; rw [z7_eq, HW4e.out, HGI.out]))
          go_roundw
          case rel => first | exact ⟨j + 1, F2, K2, by omega, by go_num, bx ⟨HP4.out, HC4.out, HA.out, by have := HR2.out.1; omega⟩⟩ | exact ⟨j + 1, by omega, by go_num, F2, K2, bx ⟨HP4.out, HC4.out, HA.out, by have := HR2.out.1; omega⟩⟩ | (trace_state; fail)
          case measure => simp [intOf]; omega
        | some x =>
          have HRC := bx hrec
          have HA2 := HA.out
          rw [hrec] at HA2
          dsimp only at HA2
          have HGD := bx (rec_good HP1.out.pt hrec)
          obtain ⟨⟨nm, me, pk, si, su, hd⟩, at2⟩ := x
          obtain ⟨sn, hsn⟩ : ∃ s : ByteArray, (⟨nm.toArray⟩ : ByteArray) = s := ⟨_, rfl⟩
          have HSV : Bx (strV nm = .string sn) := bx (by unfold strV; rw [hsn])
          have HRV : Bx (recV (⟨nm, me, pk, si, su, hd⟩, at2) = .agg #[.string sn, .int .i64 (me : Int), .int .i64 (pk : Int), .int .i64 (si : Int), .int .i64 (su : Int), .int .i64 (at2 : Int), .int .i64 (hd : Int)]) := bx (by unfold recV recL; rw [← HSV.out])
          obtain ⟨Rt, Ft, hT⟩ : ∃ Rt Ft, takeP nms F2 j (⟨nm, me, pk, si, su, hd⟩, at2) = (Rt, Ft) := ⟨_, _, rfl⟩
          rw [hT] at HA2
          have HPX : Bx (R = (Rt, Ft, K2)) := bx HA2.symm
          have HT := bx hT
          obtain ⟨w4, hw4⟩ : ∃ w4, (w1.alloc (.cells z7 71)).setRow w1.heap.size #[.string sn, .int .i64 (me : Int), .int .i64 (pk : Int), .int .i64 (si : Int), .int .i64 (su : Int), .int .i64 (at2 : Int), .int .i64 (hd : Int)] = w4 := ⟨_, rfl⟩
          have hK4 : Bk w4 gi 71 #[.string sn, .int .i64 (me : Int), .int .i64 (pk : Int), .int .i64 (si : Int), .int .i64 (su : Int), .int .i64 (at2 : Int), .int .i64 (hd : Int)] := by rw [← hw4, ← hgi]; exact ((Bk.new w1 _ z7).setRow _)
          have hB4 : Below w1.heap.size w1 w4 := by rw [← hw4]; exact bl_setRow (bl_alloc (Below.refl w1.heap.size w1) (Nat.le_refl _) _) (Nat.le_refl _) _
          have hone : (#[.string sn, .int .i64 (me : Int), .int .i64 (pk : Int), .int .i64 (si : Int), .int .i64 (su : Int), .int .i64 (at2 : Int), .int .i64 (hd : Int)] : Array Value).all (·.oneCell') = true := by simp [Value.oneCell']
          have HONE := bx hone
          have HK4 := bx hK4
          have HW4e := bx hw4
          have HP4 := bx (HP1.out.below hB4)
          have HC4 := bx (HC1.out.trans (Ch.of_below (S := PathS gf bF bK bC) hB4) (fun _ _ e => e))
          have HGIM : Bx (¬ M gi) := bx (fun e => by have := HP1.out.pt.all gi e; omega)
          clear HA2 hrec hw4 hB4 hK4 hone hkl hmC hMC hgi hT hsn HA
          go_upto_region 9 with (first
            | (refine wpList_lookZ_ok rfl (.tmp 28) (.tmp 31) _ rfl _ plK Tryz.underlying63 _ (zeroRc_run _) rfl HMC.out (j, s.data.toList) _ rfl HKL.out (.agg #[.string sn, .int .i64 (me : Int), .int .i64 (pk : Int), .int .i64 (si : Int), .int .i64 (su : Int), .int .i64 (at2 : Int), .int .i64 (hd : Int)]) true (by rw [HRC.out, ← HRV.out]; rfl) (by rw [HRC.out]; rfl) ?_)
            | (refine wpList_store_row rfl 71 (.tmp 10) (.tmp 33) rfl w1.heap.size #[.string sn, .int .i64 (me : Int), .int .i64 (pk : Int), .int .i64 (si : Int), .int .i64 (su : Int), .int .i64 (at2 : Int), .int .i64 (hd : Int)] rfl rfl 71 z7 (Bk.new _ _ _) info_rec rfl HONE.out ?_; rw [z7_eq, HW4e.out, HGI.out]))
          clear hB3 HP1 HC1 HMC
          obtain ⟨ad, cN, sN, hB, hnc, hcm, hcell, hsn, hsm, had1, had2⟩ := HP4.out.pt.name (i := j) (by have := HN.out; omega)
          have hjlen : (j : Int) < (nms.length : Int) := by have := HN.out; omega
          obtain ⟨nL, hnL⟩ : ∃ nL, nms.length = nL := ⟨_, rfl⟩
          rw [hnL] at hB hnc hjlen
          have hnLc : (nL : Int) ≤ 9223372036854775807 := by omega
          have hg1 : gp < w4.heap.size := hB.lt
          have HBP := bx hB
          have HSN := bx hsn
          have HAD := bx (And.intro had1 had2)
          have HNEP := bx HP4.out.ne
          have HMO := bx (And.intro HP4.out.fs.own.1 HP4.out.fs.own.2.2)
          have HRC4 := bx (fread_any sN at2 pk w4.drew M gf bR bF F2 (HP4.out.fs.below (below_drewN (Below.refl _ _) 1)) hsm (by have h1 := HR2.out.1; have h2 := HRD.out; omega) (by have h : at2 + pk ≤ 65536 := HGD.out.1; omega) (by have h : at2 + pk ≤ 65536 := HGD.out.1; omega))
          rw [hsn] at HRC4
          obtain ⟨Rr, F3, hP⟩ : ∃ Rr F3, readFS F2 (nms.getD j []) at2 pk = (Rr, F3) := ⟨_, _, rfl⟩
          have hrr2 := readFS_reads F2 (nms.getD j []) at2 pk
          rw [hP] at HRC4 hrr2
          have HPR := bx hP
          have HRR2 := bx hrr2
          have hS5 : w4.drew.cell? ⟨gp, 0, none⟩ = some (.pointer (some ⟨gf, 0, none⟩)) ∧ w4.drew.cell? ⟨gp, 1, none⟩ = some (.slice (some ad) nL cN) ∧ w4.drew.cell? (ad.add j) = some (.string sN) ∧ w4.drew.cell? ⟨gi, 5, none⟩ = some (.int .i64 (at2 : Int)) ∧ w4.drew.cell? ⟨gi, 2, none⟩ = some (.int .i64 (pk : Int)) := ⟨(hB.cell 0).trans rfl, (hB.cell 1).trans rfl, hcell, (HK4.out.cell 5).trans rfl, (HK4.out.cell 2).trans rfl⟩
          have HP5 : Bx (PsM w4.drew M gf bR bF gp bK bC nms F2 K2 mx) := bx (HP4.out.below (below_drewN (Below.refl _ _) 1))
          have HC5 := bx (HC4.out.drewN 1)
          have HK5 : Bx (Bk w4.drew gi 71 #[.string sn, .int .i64 (me : Int), .int .i64 (pk : Int), .int .i64 (si : Int), .int .i64 (su : Int), .int .i64 (at2 : Int), .int .i64 (hd : Int)]) := bx HK4.out
          clear hP hrr2 hB hcell hsn hsm had1 had2 hnL HP4 HC4 HK4
          go_region_held3 (fun w' => w'.cell? ⟨gp, 0, none⟩ = some (.pointer (some ⟨gf, 0, none⟩)) ∧ w'.cell? ⟨gp, 1, none⟩ = some (.slice (some ad) nL cN) ∧ w'.cell? (ad.add j) = some (.string sN) ∧ w'.cell? ⟨gi, 5, none⟩ = some (.int .i64 (at2 : Int)) ∧ w'.cell? ⟨gi, 2, none⟩ = some (.int .i64 (pk : Int))) (first | exact hS5 | exact hS6 | fail) ((go_at_call 35; refine HRC4.out.mono ?_; intro e w2 hp2; obtain ⟨v2, q2, rfl⟩ := rd_form hp2.1; have hS6 : w2.cell? ⟨gp, 0, none⟩ = some (.pointer (some ⟨gf, 0, none⟩)) ∧ w2.cell? ⟨gp, 1, none⟩ = some (.slice (some ad) nL cN) ∧ w2.cell? (ad.add j) = some (.string sN) ∧ w2.cell? ⟨gi, 5, none⟩ = some (.int .i64 (at2 : Int)) ∧ w2.cell? ⟨gi, 2, none⟩ = some (.int .i64 (pk : Int)) := ⟨(cell_same (p := ⟨gp, 0, none⟩) (hp2.2.2.same gp hg1 (fun e => by rcases e with e | e; exact HNEP.out.1.1 e.symm; exact HNEP.out.2.2.1 e.symm))).trans hS5.1, (cell_same (p := ⟨gp, 1, none⟩) (hp2.2.2.same gp hg1 (fun e => by rcases e with e | e; exact HNEP.out.1.1 e.symm; exact HNEP.out.2.2.1 e.symm))).trans hS5.2.1, (cell_same (p := ad.add j) (by rw [blk_add]; exact hp2.2.2.same ad.block HAD.out.1 (fun e => by rcases e with e | e <;> rw [e] at HAD; exact HAD.out.2 HMO.out.1; exact HAD.out.2 HMO.out.2))).trans hS5.2.2.1, (cell_same (p := ⟨gi, 5, none⟩) (hp2.2.2.same gi HK5.out.lt (fun e => by rcases e with e | e <;> rw [e] at HGIM; exact HGIM.out HMO.out.1; exact HGIM.out HMO.out.2))).trans hS5.2.2.2.1, (cell_same (p := ⟨gi, 2, none⟩) (hp2.2.2.same gi HK5.out.lt (fun e => by rcases e with e | e <;> rw [e] at HGIM; exact HGIM.out HMO.out.1; exact HGIM.out HMO.out.2))).trans hS5.2.2.2.2⟩))
          obtain ⟨hpp, hf2, hc2⟩ := hp2
          have HP6 := bx (HP5.out.read hf2 hc2 HRR2.out.1)
          have HC6 := bx (HC5.out.trans hc2 (fun k _ e => by rcases e with e | e; exact .inl e; exact .inr (.inl e)))
          have HK6 : Bx (Bk w2 gi 71 #[.string sn, .int .i64 (me : Int), .int .i64 (pk : Int), .int .i64 (si : Int), .int .i64 (su : Int), .int .i64 (at2 : Int), .int .i64 (hd : Int)]) := bx ((hc2.same gi HK5.out.lt (fun e => by rcases e with e | e <;> rw [e] at HGIM; exact HGIM.out HMO.out.1; exact HGIM.out HMO.out.2)).trans HK5.out)
          have HZ2 : Bx (w.heap.size ≤ w2.heap.size) := bx HC6.out.size
          clear hS5 hS6 hf2 hc2 HRC4 HP5 HC5 HK5
          cases Rr with
          | err k =>
            obtain ⟨he, hk0⟩ := hpp
            injection he with he
            simp only [Value.tuple.injEq, Array.mk.injEq, List.cons.injEq, Value.int.injEq, and_true, true_and] at he
            obtain ⟨rfl, rfl⟩ := he
            have HRT : Bx (Rt = .err q2 ∧ Ft = F3) := bx (by
              have := HT.out
              unfold takeP at this
              dsimp only at this
              rw [HPR.out] at this
              injection this with h1 h2
              exact ⟨h1.symm, h2.symm⟩)
            have HK0 := bx hk0
            have hkI : (q2 != 0) = true := by rw [bne_iff_ne]; exact hk0
            clear hk0
            go_wp2
            go_ret2
            rw [HPX.out, HRT.out.1, HRT.out.2]
            exact ⟨AnsP.bad rfl HK0.out, HP6.out, HC6.out⟩
          | ok l9 =>
            obtain ⟨v9, he, ho⟩ := hpp
            injection he with he
            simp only [Value.tuple.injEq, Array.mk.injEq, List.cons.injEq, Value.int.injEq, and_true, true_and] at he
            obtain ⟨rfl, rfl⟩ := he
            have HRT : Bx (Rt = unpA me pk si su l9 ∧ Ft = F3) := bx (by
              have := HT.out
              unfold takeP at this
              dsimp only at this
              rw [HPR.out] at this
              injection this with h1 h2
              exact ⟨h1.symm, h2.symm⟩)
            obtain ⟨A7, c7, rfl, hr7, hc7, hm7⟩ := OwL.rd ho
            obtain ⟨n7, hn7⟩ : ∃ n, l9.length = n := ⟨_, rfl⟩
            have hme : me = 0 ∨ me = 8 := HGD.out.2
            have hl9 : l9.length ≤ 65536 := by
              have h1 := HPR.out
              have h2 : at2 + pk ≤ 65536 := HGD.out.1
              unfold readFS at h1
              split at h1
              · cases h1
              · split at h1
                · cases h1
                · split at h1
                  · cases h1
                  · injection h1 with h1 _
                    injection h1 with h1
                    rw [← h1, List.length_take]; omega
            have HU := bx (unp_any sn me pk si su at2 hd A7 n7 c7 l9 w2 hn7 (by omega) hr7 (by omega) (by omega))
            have k0 : w2.cell? ⟨gi, 0, none⟩ = some (.string sn) := (HK6.out.cell 0).trans rfl
            have k1 : w2.cell? ⟨gi, 1, none⟩ = some (.int .i64 (me : Int)) := (HK6.out.cell 1).trans rfl
            have k2 : w2.cell? ⟨gi, 2, none⟩ = some (.int .i64 (pk : Int)) := (HK6.out.cell 2).trans rfl
            have k3 : w2.cell? ⟨gi, 3, none⟩ = some (.int .i64 (si : Int)) := (HK6.out.cell 3).trans rfl
            have k4 : w2.cell? ⟨gi, 4, none⟩ = some (.int .i64 (su : Int)) := (HK6.out.cell 4).trans rfl
            have k5 : w2.cell? ⟨gi, 5, none⟩ = some (.int .i64 (at2 : Int)) := (HK6.out.cell 5).trans rfl
            have k6 : w2.cell? ⟨gi, 6, none⟩ = some (.int .i64 (hd : Int)) := (HK6.out.cell 6).trans rfl
            rw [hn7]
            clear ho hr7 hc7 hm7 hn7 hme hl9
            go_wp2_with fail
            refine HU.out.mono ?_
            intro e w3 hp3
            obtain ⟨v3, q3, rfl⟩ := unp_form hp3
            have HP3 := bx hp3
            clear hp3 HU k0 k1 k2 k3 k4 k5 k6
            go_wp2
            go_ret2
            rw [HPX.out, HRT.out.1, HRT.out.2]
            exact ⟨AnsP.unp HP3.out HZ2.out, HP6.out.below HP3.out.1, HC6.out.trans (Ch.of_below (S := PathS gf bF bK bC) HP3.out.1) (fun _ _ e => e)⟩
      · have HA2 := HA.out
        rw [if_pos hk] at HA2
        have HP : Bx (R = (.err k2, F2, K2)) := bx HA2.symm
        have hkI : (k2 != 0) = true := by rw [bne_iff_ne]; exact hk
        have HK := bx hk
        clear HA2 hk
        go_wp2
        go_ret2
        rw [HP.out]
        exact ⟨AnsP.bad rfl HK.out, HP1.out, HC1.out⟩
    · obtain rfl : j = n := by omega
      have HA := HST.out.2.2.1
      rw [Nat.sub_self, amongP] at HA
      have HP : Bx (R = (.err 21, F1, K1)) := bx HA.symm
      have hjI : ¬ (j : Int) < (j : Int) := by omega
      clear HA
      go_wp2
      go_ret2
      rw [HP.out]
      exact ⟨AnsP.bad rfl (by decide), HST.out.1, HST.out.2.1⟩
end Go.Proofs.YtlmcpkomjofcgaaGreatDoor
namespace Go.Proofs.YtlmcpkomjofcgaaGreatDoor
open Go.RowKit
theorem strV_one10 (x : List UInt8) : (strV x).oneCell' = true := rfl
set_option maxRecDepth 100000 in
set_option maxHeartbeats 1000000 in
theorem ptnew_no (p : Option Addr) (A : Option Addr) (n c : Nat) (w : World) (h : p = none ∨ n = 0 ∨ (8 < n ∧ n ≤ 1000000)) :
    Calls Tryz.prog 8 #[.pointer p, .slice A n c] w fun e w' => e = .returned (.tuple #[.pointer none, .int .i64 1]) ∧ w' = w := by
  cases p with
  | none =>
    clear h
    go_enter Tryz.func8, Tryz.ntmps8
    go_wp2
    go_ret2
    exact ⟨rfl, rfl⟩
  | some ad =>
    rcases h with h | rfl | ⟨h, h2⟩
    · cases h
    · go_enter Tryz.func8, Tryz.ntmps8
      go_wp2
      go_ret2
      exact ⟨rfl, rfl⟩
    · have hI : (8 : Int) < (n : Int) := by omega
      have h0 : ((n : Int) == 0) = false := by simp; omega
      go_enter Tryz.func8, Tryz.ntmps8
      go_wp2
      go_ret2
      exact ⟨rfl, rfl⟩
/-- A new path in memory. -/
theorem pt_new {w w2 w3 w4 w5 : World} {M : Nat → Prop} {gf rd n c2 : Nat} {A2 : Option Addr} {nms : List (List UInt8)} (hall : ∀ k, M k → k < w.heap.size) (hb2 : Below w.heap.size w w2) (ho : OwL strV w2 w.heap.size 9 (.slice A2 n c2) nms) (h18 : 1 ≤ nms.length ∧ nms.length ≤ 8) (hsh : ∀ x ∈ nms, x.length ≤ maxLen)
    (e3 : w2.alloc (.map #[] 0) = w3) (e4 : w3.alloc (.map #[] 0) = w4) (e5 : w4.alloc (.cells #[.pointer (some ⟨gf, 0, none⟩), .slice A2 n c2, .map (some w2.heap.size), .map (some (w2.heap.size + 1))] 65) = w5) :
    Below w.heap.size w w5 ∧ PtM w5 (fun k => M k ∨ k = w2.heap.size + 2 ∨ k = w2.heap.size ∨ k = w2.heap.size + 1) (w2.heap.size + 2) gf w2.heap.size (w2.heap.size + 1) nms (fun _ => none) rd := by
  have z2 := hb2.size
  have z3 : w3.heap.size = w2.heap.size + 1 := by rw [← e3]; simp
  have z4 : w4.heap.size = w2.heap.size + 2 := by rw [← e4]; simp [z3]
  have z5 : w5.heap.size = w2.heap.size + 3 := by rw [← e5]; simp [z4]
  have h1 := MapZ.made (f := intN) w2 Tryz.prog 3 rfl
  have h2 := MapZ.made (f := plV) w3 Tryz.prog 87 z3
  have h3 := Bk.newAt w4 65 #[.pointer (some ⟨gf, 0, none⟩), .slice A2 n c2, .map (some w2.heap.size), .map (some (w2.heap.size + 1))] z4
  have b3 : Below w2.heap.size w2 w3 := by rw [← e3]; exact bl_alloc (Below.refl _ _) (Nat.le_refl _) _
  have b4 : Below w3.heap.size w3 w4 := by rw [← e4]; exact bl_alloc (Below.refl _ _) (Nat.le_refl _) _
  have b5 : Below w4.heap.size w4 w5 := by rw [← e5]; exact bl_alloc (Below.refl _ _) (Nat.le_refl _) _
  rw [e3] at h1
  rw [e4] at h2
  rw [e5] at h3
  have b25 : Below w2.heap.size w2 w5 := (b3.trans (b4.mono (by omega))).trans (b5.mono (by omega))
  obtain ⟨A', c', e, hr, hc, hm⟩ := OwL.rd ho
  injection e with e1 e2 e6
  subst e1; subst e6
  rw [e2] at h3
  refine ⟨hb2.trans (b25.mono z2), ⟨A2, c2, h3, hc, hm, fun hn => ?_⟩, ⟨0, Nat.zero_le _, ((h1.same (b4.block _ (by omega))).same (b5.block _ (by omega)))⟩, ⟨0, Nat.zero_le _, h2.same (b5.block _ (by omega))⟩, ⟨.inr (.inl rfl), .inr (.inr (.inl rfl)), .inr (.inr (.inr rfl))⟩, ⟨by omega, by omega, by omega⟩, (fun i l h => by cases h), h18, hsh, fun k hk => ?_⟩
  · obtain ⟨ad, e7, hb, hcl⟩ := hr hn
    subst e7
    have hlo := (World.ownsRow.lt ho ad.block rfl).1
    refine ⟨ad, rfl, ⟨by omega, fun hk => ?_⟩, fun i u hu => (cell_same (p := ad.add i) (by rw [blk_add]; exact b25.block _ hb)).trans (hcl i u hu)⟩
    rcases hk with e | e | e | e
    · have := hall _ e; omega
    · omega
    · omega
    · omega
  · rcases hk with e | e | e | e
    · have := hall k e; omega
    · omega
    · omega
    · omega
/-- What New leaves. -/
def NewPost (w : World) (M : Nat → Prop) (gf bR bF : Nat) (nms : List (List UInt8)) (F : FS) (mx : Int) (e : Ending) (w' : World) : Prop :=
  ∃ gp bK bC, e = .returned (.tuple #[.pointer (some ⟨gp, 0, none⟩), .int .i64 0]) ∧ w.heap.size ≤ gp ∧ w.heap.size ≤ bK ∧ w.heap.size ≤ bC ∧ Below w.heap.size w w' ∧ PsM w' (fun k => M k ∨ k = gp ∨ k = bK ∨ k = bC) gf bR bF gp bK bC nms F (fun _ => none) mx
set_option maxRecDepth 100000 in
set_option maxHeartbeats 2000000 in
theorem ptnew_any (A : Option Addr) (n c : Nat) (nms : List (List UInt8)) (w : World) (M : Nat → Prop) (gf bR bF : Nat) (F : FS) (mx : Int) (h : FsM w M gf bR bF F) (hz : w.cell? ⟨0, 0, none⟩ = some (.int .i64 mx) ∧ ¬ M 0 ∧ 0 < w.heap.size) (hn : nms.length = n) (h1 : 1 ≤ n) (h8 : n ≤ 8) (hr : RL strV w w.heap.size A nms) (hsh : ∀ x ∈ nms, x.length ≤ maxLen) :
    Calls Tryz.prog 8 #[.pointer (some ⟨gf, 0, none⟩), .slice A n c] w (NewPost w M gf bR bF nms F mx) := by
  have HH := bx h
  have HZ := bx hz
  have HN := bx hn
  have HR := bx hr
  have HSH := bx hsh
  have h8I : ¬ (8 : Int) < (n : Int) := by omega
  have h0I : ((n : Int) == 0) = false := by simp; omega
  have H18 : Bx (1 ≤ nms.length ∧ nms.length ≤ 8) := bx (by omega)
  have HNN : Bx ((([] : List (List UInt8)).length + nms.length) * 16 ≤ 140737488355328) := bx (by simp only [List.length_nil]; omega)
  have hz1 := le_alloc0 (w := w) (Nat.le_refl w.heap.size) (.cells #[] 9)
  have hmm := @run_makeMap Tryz.prog
  clear h hz hn hr hsh h1 h8
  go_enter Tryz.func8, Tryz.ntmps8
  go_wp2_with (at_builtin; refine wpList_appL _ strV_one10 rfl (.tmp 19) (.tmp 20) rfl strTy (by decide) w.heap.size _ [] rfl (OwL.lit0 w (Nat.le_refl _)) _ A n c nms rfl HN.out (HR.out.alloc (Nat.le_refl _) _) HNN.out hz1 ?_; intro v2 w2 own2 _ _ hb2; rw [List.nil_append] at own2; obtain ⟨A2, n2, c2, rfl, hn2, _⟩ := OwL.sl own2; have HO2 := bx own2; have HB2 := bx ((bl_alloc (Below.refl w.heap.size w) (Nat.le_refl _) (.cells #[] 9)).trans hb2); clear own2 hb2 hn2)
  clear hmm
  go_ret2
  obtain ⟨g1, g2⟩ := pt_new (rd := F.reads) HH.out.all HB2.out HO2.out H18.out HSH.out rfl rfl rfl
  have hsz := HB2.out.size
  refine ⟨w2.heap.size + 2, w2.heap.size, w2.heap.size + 1, rfl, by omega, by omega, by omega, g1, ?_⟩
  have hl := HH.out.lt
  exact ⟨HH.out.more g1 (fun k hk => .inl hk) (fun k hk => by
      rcases hk with e | e | e | e
      · exact .inl e
      · right; omega
      · right; omega
      · right; omega) g2.all, g2, ⟨⟨by omega, by omega, by omega⟩, ⟨by omega, by omega, by omega⟩, ⟨by omega, by omega, by omega⟩⟩, (cell_same (p := ⟨0, 0, none⟩) (g1.block 0 HZ.out.2.2)).trans HZ.out.1, fun hk => by
      rcases hk with e | e | e | e
      · exact HZ.out.2.1 e
      · omega
      · have := HZ.out.2.2; omega
      · omega, Nat.lt_of_lt_of_le HZ.out.2.2 g1.size⟩
set_option maxRecDepth 100000 in
set_option maxHeartbeats 1000000 in
theorem pfind_any (s : ByteArray) (w : World) (M : Nat → Prop) (gf bR bF gp bK bC : Nat) (nms : List (List UInt8)) (F : FS) (K : Kn) (mx : Int) (h : PsM w M gf bR bF gp bK bC nms F K mx) (hs : s.size ≤ maxLen) (hrd : F.reads + 40 < 1000000) :
    Calls Tryz.prog 9 #[.pointer (some ⟨gp, 0, none⟩), .string s] w (AmgPost w M gf bR bF gp bK bC nms (amongP nms s.data.toList nms.length 0 F K) mx) := by
  have HA := bx (pamong_any nms.length s w M gf bR bF gp bK bC nms F K mx h (Nat.le_refl _) hs hrd)
  obtain ⟨A, c, hB, _⟩ := h.pt.box
  have c1 : w.cell? ⟨gp, 1, none⟩ = some (.slice A nms.length c) := (hB.cell 1).trans rfl
  have hlt := hB.lt
  obtain ⟨nL, hnL⟩ : ∃ nL, nms.length = nL := ⟨_, rfl⟩
  rw [hnL] at HA c1 ⊢
  obtain ⟨R, hR⟩ : ∃ R, amongP nms s.data.toList nL 0 F K = R := ⟨_, rfl⟩
  rw [hR] at HA ⊢
  clear h hB hnL hR hs hrd
  go_enter Tryz.func9, Tryz.ntmps9
  go_wp2_with fail
  refine HA.out.mono ?_
  intro e w1 hp
  obtain ⟨v, k, rfl⟩ : ∃ v k, e = .returned (.tuple #[v, .int .i64 k]) := by
    obtain ⟨ha, _⟩ := hp
    cases hR : R.1 with
    | err j => rw [hR] at ha; exact ⟨_, _, ha.1⟩
    | ok l => rw [hR] at ha; obtain ⟨v, rfl, _⟩ := ha; exact ⟨_, _, rfl⟩
  have HP := bx hp
  clear hp HA c1
  go_wp2
  go_ret2
  exact HP.out
set_option maxRecDepth 100000 in
set_option maxHeartbeats 1000000 in
theorem pfirst_any (s : ByteArray) (w : World) (M : Nat → Prop) (gf bR bF gp bK bC : Nat) (nms : List (List UInt8)) (F : FS) (K : Kn) (mx : Int) (h : PsM w M gf bR bF gp bK bC nms F K mx) (hs : s.size ≤ maxLen) (hrd : F.reads + 40 < 1000000) :
    Calls Tryz.prog 18 #[.pointer (some ⟨gp, 0, none⟩), .string s] w (AmgPost w M gf bR bF gp bK bC nms (amongP nms s.data.toList 1 0 F K) mx) := by
  have HA := bx (pamong_any 1 s w M gf bR bF gp bK bC nms F K mx h h.pt.len.1 hs hrd)
  obtain ⟨R, hR⟩ : ∃ R, amongP nms s.data.toList 1 0 F K = R := ⟨_, rfl⟩
  rw [hR] at HA ⊢
  clear h hR hs hrd
  go_enter Tryz.func18, Tryz.ntmps18
  go_wp2_with fail
  refine HA.out.mono ?_
  intro e w1 hp
  obtain ⟨v, k, rfl⟩ : ∃ v k, e = .returned (.tuple #[v, .int .i64 k]) := by
    obtain ⟨ha, _⟩ := hp
    cases hR : R.1 with
    | err j => rw [hR] at ha; exact ⟨_, _, ha.1⟩
    | ok l => rw [hR] at ha; obtain ⟨v, rfl, _⟩ := ha; exact ⟨_, _, rfl⟩
  have HP := bx hp
  clear hp HA
  go_wp2
  go_ret2
  exact HP.out
end Go.Proofs.YtlmcpkomjofcgaaGreatDoor
namespace Go.Proofs.YtlmcpkomjofcgaaGreatDoor
open Go.RowKit
theorem bkOk {R : Rz (List UInt8)} {w w' : World} {e : Ending} {o : List UInt8} (h : BookPost R w e w') (hR : R = .ok o) : ∃ A n c, e = .returned (.tuple #[.slice A n c, .int .i64 0]) ∧ Bx (n = o.length) ∧ RB w' w'.heap.size A o ∧ n ≤ c ∧ (c : Int) ≤ 9223372036854775807 ∧ Below w.heap.size w w' ∧ n ≤ 65536 := by
  subst hR
  obtain ⟨hb, v, rfl, ho, hl⟩ := h
  obtain ⟨A, c, rfl, hr, hc, hm⟩ := OwL.rd ho
  exact ⟨A, _, c, rfl, bx rfl, hr, hc, hm, hb, hl⟩
theorem bkErr {R : Rz (List UInt8)} {w w' : World} {e : Ending} {k : Int} (h : BookPost R w e w') (hR : R = .err k) : e = .returned (.tuple #[.slice none 0 0, .int .i64 k]) ∧ Below w.heap.size w w' ∧ k ≠ 0 := by
  subst hR
  exact ⟨h.2.1, h.1, h.2.2⟩
/-- The error and the bytes. -/
def bkKL : Rz (List UInt8) → Int × List UInt8
  | .ok o => (0, o)
  | .err k => (k, [])
theorem sl_new (w : World) (l : List UInt8) (cs : Array Value) (n : Nat) (h : cs.toList = l.map bV) (hn : l.length = n) (hb : n ≤ 1000000) (e : TypeId) (fr : Nat × Nat) : SlB (w.alloc (.cells cs e fr)) (w.heap.size + 1) ⟨some ⟨w.heap.size, 0, none⟩, n, n, l⟩ :=
  ⟨hn, Nat.le_refl _, by show (n : Int) ≤ _; omega, RL.news w l cs h e fr⟩
/-- One item in new memory. -/
theorem rit_one (w : World) (B : Nat) (hB : B ≤ w.heap.size) (nm : List UInt8) (s : Sl) (sq : Bool) (hs : SlB w B s) (e : TypeId) (cs : Array Value) (hcs : cs.toList = itC ⟨nm, s, sq⟩) (fr : Nat × Nat) : RIt (w.alloc (.cells cs e fr)) (w.heap.size + 1) (some ⟨w.heap.size, 0, none⟩) [⟨nm, s, sq⟩] :=
  ⟨RS.new w _ cs hcs e fr, fun x hx => by
    rcases List.mem_cons.1 hx with rfl | hx
    · exact (hs.below (bl_alloc (Below.refl B w) hB _) (Nat.le_refl _)).more (by omega)
    · cases hx⟩
end Go.Proofs.YtlmcpkomjofcgaaGreatDoor
namespace Go.Proofs.YtlmcpkomjofcgaaGreatDoor
open Go.RowKit
theorem slcTy : ETy Tryz.prog 83 22 (.slice none 0 0) 1 24 := ⟨Tryz.underlying83, info_parts (by kernel_rfl), rfl, by decide⟩
theorem slV_one (x : Sl) : (slV x).oneCell' = true := rfl
/-- Items, stored. -/
def plainZ (L : List It) : List Pk := L.map fun x => (x.p, x.s.l)
theorem plainZ_zip (L : List It) : zipZ L (L.map (·.s)) = plainZ L := by
  unfold zipZ plainZ
  induction L with
  | nil => rfl
  | cons x r ih => simp only [List.map_cons, List.zip_cons_cons]; rw [ih]
set_option maxRecDepth 100000 in
set_option maxHeartbeats 400000 in
theorem rmake_any (A : Option Addr) (n c : Nat) (L : List It) (w : World) (hn : L.length = n) (hnc : n ≤ c) (hcc : (c : Int) ≤ 9223372036854775807) (hb : n ≤ 100000) (hs : ∀ x ∈ L, x.name.length ≤ 140737488351232 ∧ x.s.n ≤ 50000) (hr : RIt w w.heap.size A L) :
    Calls Tryz.prog 24 #[.slice A n c] w (BookPost (layP (plainZ L)) w) := by
  obtain ⟨R, hR⟩ : ∃ R, layP (plainZ L) = R := ⟨_, rfl⟩
  rw [hR]
  have HR := bx hR
  have HL := bx hn
  have HS := bx hs
  have HRW := bx hr
  obtain ⟨B, hB⟩ : ∃ B, w.heap.size = B := ⟨_, rfl⟩
  have HB := bx hB
  have HO0 : Bx (OwL slV w B 22 (.slice none 0 0) ((L.take 0).map (·.s))) := bx OwL.nil
  have HW0 : Bx (Below B w w) := bx (Below.refl _ _)
  rw [hB] at HRW
  clear hR hn hs hr hB
  go_enter Tryz.func24, Tryz.ntmps24
  go_wp2_with fail
  go_loopw [4, 5] (fun V iv wx => ∃ t : Nat, t ≤ n ∧ iv = .int .i64 (t : Int) ∧ Bx (OwL slV wx B 22 V ((L.take t).map (·.s))) ∧ Bx (Below B w wx)) (fun _ i _ => n - (intOf i).toNat)
  case atStart => exact ⟨0, by omega, rfl, HO0, HW0⟩
  case round =>
    clear HO0 HW0
    obtain ⟨t, ht, rfl, HO, HW⟩ := hrel
    have hBz : B ≤ wr.heap.size := Nat.le_trans (Nat.le_of_eq HB.out.symm) HW.out.size
    obtain ⟨AP, nP, cP, rfl, hnP, _⟩ := OwL.sl HO.out
    by_cases htn : t < n
    · have htI : (t : Int) < (n : Int) := by omega
      have htc : (t : Int) < (c : Int) := by omega
      have hrr : RIt wr B A L := HRW.out.below HW.out (Nat.le_refl _)
      obtain ⟨ad, x, sn, rfl, hlt, HX, HSN, k0, k1, k2, HSX⟩ := hrr.itm (k := t) (by rw [HL.out]; exact htn)
      have HN : Bx ((((L.take t).map (·.s)).length + [x.s].length) * 24 ≤ 140737488355328) := bx (by simp only [List.length_map, List.length_take, List.length_cons, List.length_nil]; omega)
      have hTK : (L.take t).map (·.s) ++ [x.s] = (L.take (t + 1)).map (·.s) := by rw [List.take_add_one, HX.out, List.map_append]; rfl
      have HTK := bx hTK
      clear hrr hTK
      have hr0 : RL slV (wr.alloc (.cells #[.slice x.s.A x.s.n x.s.c] 22)) (wr.heap.size + 1) (some ⟨wr.heap.size, 0, none⟩) [x.s] := RL.news wr [x.s] #[.slice x.s.A x.s.n x.s.c] rfl 22 (0, 0)
      have ho0 : OwL slV (wr.alloc (.cells #[.slice x.s.A x.s.n x.s.c] 22)) B 22 (.slice AP nP cP) ((L.take t).map (·.s)) := HO.out.alloc _
      have hz0 : B ≤ (wr.alloc (.cells #[.slice x.s.A x.s.n x.s.c] 22)).heap.size := Nat.le_trans hBz (by simp)
      have hw0 : Below B w (wr.alloc (.cells #[.slice x.s.A x.s.n x.s.c] 22)) := bl_alloc HW.out (Nat.le_of_eq HB.out.symm) _
      obtain ⟨LL, hLL⟩ : ∃ LL, (L.take t).map (·.s) = LL := ⟨_, rfl⟩
      rw [hLL] at ho0 HN HTK
      have HR0 := bx hr0
      have HO0 := bx ho0
      have HZ0 := bx hz0
      have HW0 := bx hw0
      clear hr0 ho0 hz0 hLL hw0
      go_wp2_with (at_builtin; refine wpList_appL _ slV_one rfl (.tmp 12) (.tmp 18) rfl slcTy (by decide) B (.slice AP nP cP) LL rfl HO0.out (wr.heap.size + 1) (some ⟨wr.heap.size, 0, none⟩) 1 1 [x.s] rfl rfl HR0.out HN.out HZ0.out ?_; intro V5 w5 hO5 hg5 hv5 hb5; rw [HTK.out] at hO5; have HO5 := bx hO5; have HW5 := bx (HW0.out.trans hb5))
      go_roundw
      case rel => exact ⟨t + 1, by omega, by go_num, HO5, HW5⟩
      case measure => simp [intOf]; omega
    · have htI : ¬ (t : Int) < (n : Int) := by omega
      obtain rfl : t = n := by omega
      have hTK : L.take t = L := List.take_of_length_le (by rw [HL.out]; exact Nat.le_refl _)
      rw [hTK] at HO hnP
      have hnl : nP = t := by rw [hnP.out, List.length_map]; exact HL.out
      subst hnl
      have hoc : ∃ c', c' = cP := ⟨_, rfl⟩
      have HCP : Bx (nP ≤ cP ∧ (cP : Int) ≤ 9223372036854775807) := bx (by
        obtain ⟨A', c', e, _, h1, h2⟩ := OwL.rd HO.out
        injection e with _ e1 e2
        rw [e2]; rw [← e1] at h1
        exact ⟨h1, h2⟩)
      have hP : ∀ x ∈ L.map (·.s), SlB wr wr.heap.size x ∧ x.n ≤ 50000 := fun y hy => by
        obtain ⟨x, hx, rfl⟩ := List.mem_map.1 hy
        exact ⟨((HRW.out.2 x hx).below HW.out (Nat.le_refl _)).more hBz, (HS.out x hx).2⟩
      have HLAY := bx (rlay_any A nP c L AP cP (L.map (·.s)) wr HL.out hnc hcc (by omega) (fun x hx => ⟨(HS.out x hx).1, by have := (HS.out x hx).2; omega⟩) ((HRW.out.below HW.out (Nat.le_refl _)).more hBz) (by rw [List.length_map]; exact HL.out) HCP.out.1 (OwL.rl HO.out) hP)
      have HRR : Bx (layP (zipZ L (L.map (·.s))) = R) := bx (by rw [plainZ_zip]; exact HR.out)
      rw [HRR.out] at HLAY
      clear hTK hP hoc hnP
      go_wp2_with fail
      refine HLAY.out.mono ?_
      intro e w5 hp
      cases R with
      | err k =>
        obtain ⟨rfl, hb1, hk⟩ := bkErr hp rfl
        have HB1 : Bx (Below B w w5) := bx (HW.out.trans (hb1.mono hBz))
        have HK := bx hk
        clear hp hb1 hk
        go_wp2
        go_ret2
        exact bookPost_err rfl (by rw [HB.out]; exact HB1.out) HK.out
      | ok o =>
        obtain ⟨hb1, v, rfl, ho, hl⟩ := hp
        have HB1 : Bx (Below B w w5) := bx (HW.out.trans (hb1.mono hBz))
        have HOO : Bx (OwB w5 B 5 v o) := bx (ho.low hBz)
        have HOL := bx hl
        obtain ⟨AZ, nZ, cZ, rfl, _, _⟩ := OwL.sl ho
        clear hb1 ho hl
        go_wp2
        go_ret2
        exact bookPost_ok rfl (by rw [HB.out]; exact HB1.out) (by rw [HB.out]; exact HOO.out) HOL.out
end Go.Proofs.YtlmcpkomjofcgaaGreatDoor
namespace Go.Proofs.YtlmcpkomjofcgaaGreatDoor
def readQ (rows : List UInt8 → Option (List UInt8)) (nm : List UInt8) (a n : Nat) : Rz (List UInt8) := match rows nm with
  | none => .err 21
  | some b => if b.length < a ∨ b.length - a < n then .err 2 else .ok ((b.drop a).take n)
def learnQ (rows : List UInt8 → Option (List UInt8)) (nms : List (List UInt8)) (K : Kn) (i : Nat) : Int × Kn :=
  match K i with
  | some _ => (0, K)
  | none => match rows (nms.getD i []) with
    | none => (36, K)
    | some b => match readQ rows (nms.getD i []) 0 b.length with
      | .err k => (k, K)
      | .ok b' => match dirA b' with
        | .err k => (k, K)
        | .ok l => (0, K.set i l)
def takeQ (rows : List UInt8 → Option (List UInt8)) (nms : List (List UInt8)) (i : Nat) (x : Rec × Nat) : Rz (List UInt8) :=
  match readQ rows (nms.getD i []) x.2 x.1.packed with
  | .err k => .err k
  | .ok b => unpA x.1.method x.1.packed x.1.size x.1.sum b
/-- A look where no read fails. -/
def amongQ (rows : List UInt8 → Option (List UInt8)) (nms : List (List UInt8)) (nm : List UInt8) : Nat → Nat → Kn → Rz (List UInt8) × Kn
  | 0, _, K => (.err 21, K)
  | f + 1, i, K => match learnQ rows nms K i with
    | (k, K') => if k ≠ 0 then (.err k, K') else match recOf K' i nm with
      | none => amongQ rows nms nm f (i + 1) K'
      | some x => (takeQ rows nms i x, K')
/-- At most the read m is to fail. -/
def Pend (m : Nat) (F : FS) : Prop := ∀ k, F.reads < k → F.fails k = true → k = m
/-- What went well turned nothing but the count. -/
structure Well (m : Nat) (F F' : FS) : Prop where
  rows : F'.rows = F.rows
  pend : Pend m F'
  quiet : Quiet F → Quiet F'
/-- What failed leaves no failure. -/
structure Ill (F F' : FS) : Prop where
  rows : F'.rows = F.rows
  quiet : Quiet F'
  not : ¬ Quiet F
section
variable {F F' F2 : FS} {m i f : Nat} {nm : List UInt8} {nms : List (List UInt8)} {K : Kn}
end
/-- Files that were looked into, and had nothing of that name. -/
def Past (K : Kn) (nm : List UInt8) (i : Nat) : Prop := ∀ j, j < i → ∃ l, K j = some l ∧ recOf K j nm = none
end Go.Proofs.YtlmcpkomjofcgaaGreatDoor
