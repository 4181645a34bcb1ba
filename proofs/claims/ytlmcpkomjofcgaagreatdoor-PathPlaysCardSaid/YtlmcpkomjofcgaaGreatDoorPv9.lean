/- What a directory answered, taken apart. What is known of a directory that is accepted, for the laws. -/
import Derived.Test.YtlmcpkomjofcgaaGreatDoorPv8
namespace Go.Proofs.YtlmcpkomjofcgaaGreatDoor
open Go.RowKit
theorem dirpost_err {R : Rz (List (Rec × Nat))} {k : Int} {w w' : World} {e : Ending} (h : DirPost R w e w') (hR : R = .err k) : e = .returned (.tuple #[.slice none 0 0, .int .i64 k]) ∧ Below w.heap.size w w' := by
  subst hR; exact ⟨h.2, h.1⟩
theorem dirpost_ok {R : Rz (List (Rec × Nat))} {l : List (Rec × Nat)} {w w' : World} {e : Ending} (h : DirPost R w e w') (hR : R = .ok l) : ∃ A c, e = .returned (.tuple #[.slice A l.length c, .int .i64 0]) ∧ OwS recL 7 w' w.heap.size 71 (.slice A l.length c) l ∧ RS recL w' w'.heap.size A l ∧ l.length ≤ c ∧ Below w.heap.size w w' := by
  subst hR
  obtain ⟨v, rfl, ho⟩ := h.2
  obtain ⟨A, c, rfl, hr, hc⟩ := ho.rd
  exact ⟨A, c, rfl, ho, hr, hc, h.1⟩
def dirKL : Rz (List (Rec × Nat)) → Int × List (Rec × Nat)
  | .err k => (k, [])
  | .ok l => (0, l)
end Go.Proofs.YtlmcpkomjofcgaaGreatDoor
namespace Go.Proofs.YtlmcpkomjofcgaaGreatDoor
open Go.RowKit
theorem dirA_pos {b : List UInt8} {k : Int} (h : dirA b = .err k) : 8 ≤ k ∧ k ≤ 16 := by
  unfold dirA at h
  split at h
  · injection h with h; omega
  cases he : endP b with
  | none => rw [he] at h; injection h with h; omega
  | some p =>
    rw [he] at h
    dsimp only at h
    split at h
    · injection h with h; omega
    · rw [book_cenR] at h
      cases hc : cenR b (numA b (p + 16) 4) p (numA b (p + 8) 2) with
      | err j => rw [hc] at h; injection h with h; have := cenR_pos hc; omega
      | ok l =>
        rw [hc] at h
        have h : locR b (numA b (p + 16) 4) [] l = .err k := h
        unfold locR at h
        split at h
        · injection h with h; omega
        · unfold locK at h
          split at h
          · injection h with h; omega
          · cases h
structure ApOk (b : List UInt8) (L : List (Rec × Nat)) : Prop where
  len : L.length ≤ 64
  one : ∀ (i : Nat) (x : Rec × Nat), L[i]? = some x → nameA x.1.name = true ∧ (x.1.method = 0 ∨ x.1.method = 8) ∧ x.1.head + 30 + x.1.name.length ≤ x.2 ∧ x.2 + x.1.packed + 22 ≤ b.length ∧ (b.drop (x.1.head + 30)).take x.1.name.length = x.1.name
  two : ∀ (k i : Nat) (x y : Rec × Nat), k < i → L[k]? = some x → L[i]? = some y → x.1.name ≠ y.1.name ∧ overA x y = false
theorem apOk {b : List UInt8} {L : List (Rec × Nat)} (h : dirA b = .ok L) : ApOk b L := by
  obtain ⟨_, p, dir, D⟩ := dirA_ok h
  have hp := (endP_some D.fin).1
  have hn := D.nums.2.2.2.2
  refine ⟨D.len, fun i x hx => ?_, fun k i x y hk hx hy => ⟨fun e => ?_, ?_⟩⟩
  · obtain ⟨a1, a2, a3, a4, a5⟩ := D.good x (List.mem_of_getElem? hx)
    exact ⟨a1, a2, a3, by omega, a5⟩
  · have h1 : (L.map (·.1.name))[k]? = some x.1.name := by rw [List.getElem?_map, hx]; rfl
    have h2 : (L.map (·.1.name))[i]? = some y.1.name := by rw [List.getElem?_map, hy]; rfl
    obtain ⟨hk1, e1⟩ := List.getElem?_eq_some_iff.1 h1
    obtain ⟨hi1, e2⟩ := List.getElem?_eq_some_iff.1 h2
    have := (List.nodup_iff_pairwise_ne.1 D.names)
    rw [List.pairwise_iff_getElem] at this
    exact this k i hk1 hi1 hk (by rw [e1, e2, e])
  · have := (anyOver_iff L).1 D.apart
    rw [List.pairwise_iff_getElem] at this
    obtain ⟨hk1, e1⟩ := List.getElem?_eq_some_iff.1 hx
    obtain ⟨hi1, e2⟩ := List.getElem?_eq_some_iff.1 hy
    have := this k i hk1 hi1 hk
    rwa [e1, e2] at this
def z7 : Array Value := #[.string ⟨#[]⟩, .int .i64 0, .int .i64 0, .int .i64 0, .int .i64 0, .int .i64 0, .int .i64 0]
theorem z7_eq : (#[.string ⟨#[]⟩, .int .i64 0, .int .i64 0, .int .i64 0, .int .i64 0, .int .i64 0, .int .i64 0] : Array Value) = z7 := rfl
theorem info_rec : (Tryz.prog.info? 71).map (·.size) = some 7 := by kernel_rfl
/-- A record's seven cells, the name as a text. -/
def recA7 (s : ByteArray) (me pk si su at_ hd : Nat) : Array Value := #[.string s, .int .i64 me, .int .i64 pk, .int .i64 si, .int .i64 su, .int .i64 at_, .int .i64 hd]
end Go.Proofs.YtlmcpkomjofcgaaGreatDoor
