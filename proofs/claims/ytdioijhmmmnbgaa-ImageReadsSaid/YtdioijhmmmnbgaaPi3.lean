/- Contract: samovarref02.number. Contracts: octet.fits, octet.Big. Contracts of octet.Reader: New, Num, Bytes, Left, Bad. Plain facts on the bytes of a number. Contract: octet.PutBig of one to eight bytes. Contract: samovarref02.PutLittle of one to eight bytes. Contract: samovarref02.Turn. Contract: samovarref02.PutBig. -/
import Derived.Test.YtdioijhmmmnbgaaProg
import Derived.Test.YtdioijhmmmnbgaaPi1
import Derived.Deep.RegionHeld3
namespace Go.Proofs.Ytdioijhmmmnbgaa
open Go.RowKit
theorem u8_info : (Try.prog.info? 5).map (fun i => (i.zero, i.size, i.bytes)) = some (some (.int .u8 0), 1, 1) := by kernel_rfl
theorem byteTy : ETy Try.prog 22 5 (.int .u8 0) 1 1 := ⟨Try.underlying22, info_parts u8_info, rfl, by decide⟩
set_option maxHeartbeats 400000 in
theorem number_any (A : Option Addr) (n cap : Nat) (w : World) (l : List UInt8) (hn : l.length = n) (hl : (l.length : Int) ≤ 140737488355328) (hr : RB w w.heap.size A l) :
    Calls Try.prog 72 #[.slice A n cap] w fun e w' => e = .returned (.int .i64 (num64 l)) ∧ w = w' := by
  subst hn
  go_enter Try.func72, Try.ntmps72
  go_wp2
  go_loop [3, 4] (fun v i => ∃ k : Nat, k ≤ l.length ∧ i = .int .i64 (k : Int) ∧ v = .int .i64 (num64 (l.take k))) (fun _ i => l.length - (intOf i).toNat)
  case atStart => exact ⟨0, by omega, rfl, rfl⟩
  case round =>
    obtain ⟨k, hk, rfl, rfl⟩ := hrel
    by_cases hk0 : k < l.length
    · obtain ⟨ad, x, rfl, hb, hx, hc⟩ := hr.byte hk0
      have hx8 := u8lt x
      have HST : Hid (num64 (l.take (k + 1)) = wrap64 (wrap64 (num64 (l.take k) * 256) + (x.toNat : Int))) := by
        rw [take_snoc' hx.out]; exact num64_snoc _ _
      go_wp2
      go_round
      case rel => exact ⟨k + 1, by omega, by go_num, by rw [HST.out]⟩
      case measure => simp [intOf]; omega
    · obtain rfl : k = l.length := by omega
      rw [List.take_length]
      go_wp2
      go_ret
      exact ⟨rfl, rfl⟩
end Go.Proofs.Ytdioijhmmmnbgaa
namespace Go.Proofs.Ytdioijhmmmnbgaa
open Go.RowKit
set_option maxHeartbeats 400000 in
theorem fits_arg (A : Option Addr) (len cap : Nat) (at_ n : Int) (w : World) (h : n < 1 ∨ 8 < n ∨ at_ < 0) :
    Calls Try.prog 75 #[.slice A len cap, .int .i64 at_, .int .i64 n] w fun e w' => e = .returned (.int .i64 1) ∧ w = w' := by
  rcases h with h | h | h
  all_goals
    go_enter Try.func75, Try.ntmps75
    go_wp2
    all_goals
      go_ret
      exact ⟨rfl, rfl⟩
set_option maxHeartbeats 400000 in
theorem fits_short (A : Option Addr) (len cap : Nat) (at_ n : Int) (w : World) (hl : (len : Int) ≤ 140737488355328) (h1 : 1 ≤ n) (h2 : n ≤ 8) (h3 : 0 ≤ at_) (h : len - n < at_) :
    Calls Try.prog 75 #[.slice A len cap, .int .i64 at_, .int .i64 n] w fun e w' => e = .returned (.int .i64 2) ∧ w = w' := by
  go_enter Try.func75, Try.ntmps75
  go_wp2
  go_ret
  exact ⟨rfl, rfl⟩
set_option maxHeartbeats 400000 in
theorem fits_ok (A : Option Addr) (len cap : Nat) (at_ n : Int) (w : World) (hl : (len : Int) ≤ 140737488355328) (h1 : 1 ≤ n) (h2 : n ≤ 8) (h3 : 0 ≤ at_) (h : at_ ≤ len - n) :
    Calls Try.prog 75 #[.slice A len cap, .int .i64 at_, .int .i64 n] w fun e w' => e = .returned (.int .i64 0) ∧ w = w' := by
  go_enter Try.func75, Try.ntmps75
  go_wp2
  go_ret
  exact ⟨rfl, rfl⟩
theorem big_step {s : List UInt8} {k n : Nat} {x : UInt8} (hs : s.length = n) (hn : n ≤ 8) (hk : k < n) (hx : s[k]? = some x) :
    beN (s.take k) < 72057594037927936 ∧ bits .or .u64 ((beN (s.take k) : Int) * 256) (x.toNat : Int) = (beN (s.take (k + 1)) : Int) := by
  have h7 : beN (s.take k) < 256 ^ 7 := beN_lt_of _ (by simp; omega)
  rw [pow7] at h7
  refine ⟨h7, ?_⟩
  rw [or_byte _ _ (u8lt x) h7, take_snoc' hx, beN_snoc]
set_option maxHeartbeats 400000 in
theorem big_ok (A : Option Addr) (cap : Nat) (at_ n : Nat) (w : World) (l : List UInt8) (len : Nat) (hlen : l.length = len) (hl : (l.length : Int) ≤ 140737488355328) (hcap : l.length ≤ cap) (hcap2 : (cap : Int) ≤ 9223372036854775807) (h1 : 1 ≤ n) (h2 : n ≤ 8) (h : at_ + n ≤ l.length)
   (hr : RB w w.heap.size A l) :
    Calls Try.prog 70 #[.slice A len cap, .int .i64 at_, .int .i64 n] w fun e w' => e = .returned (.tuple #[.int .i64 (wrap64 (beN ((l.drop at_).take n))), .int .i64 0]) ∧ w = w' := by
  subst hlen
  obtain ⟨s, hs⟩ : ∃ s, s = (l.drop at_).take n := ⟨_, rfl⟩
  have hsl : s.length = n := by rw [hs]; simp; omega
  rw [← hs]
  have hrs : RB w w.heap.size (A.map (·.add at_)) s := by rw [hs]; exact (hr.drop at_).take n
  have HL := Lib.hid hsl
  obtain ⟨ad, x0, rfl, _, _, _⟩ := hr.byte (k := at_) (by omega)
  clear hsl hs
  have hne : ¬ cap = at_ := by omega
  go_enter Try.func70, Try.ntmps70
  go_wp2_with (go_at_call 75; refine (fits_ok _ _ _ _ _ _ hl (by omega) (by omega) (by omega) (by omega)).mono ?_; rintro e w' ⟨rfl, rfl⟩)
  go_loop [9, 26] (fun v i => ∃ k : Nat, k ≤ n ∧ i = .int .i64 (k : Int) ∧ v = .int .u64 (beN (s.take k) : Int)) (fun _ i => n - (intOf i).toNat)
  case atStart => exact ⟨0, by omega, rfl, rfl⟩
  case round =>
    obtain ⟨k, hk, rfl, rfl⟩ := hrel
    by_cases hk0 : k < n
    · obtain ⟨ad', x, hA, hb, hx, hc⟩ := hrs.byte (k := k) (by rw [HL.out]; omega)
      simp only [Option.map_some, Option.some.injEq] at hA
      subst hA
      obtain ⟨hlt, hst⟩ := big_step HL.out h2 hk0 hx.out
      have HST := Lib.hid hst
      have hx8 := u8lt x
      clear hst
      go_wp2
      go_round
      case rel => exact ⟨k + 1, by omega, by go_num, by rw [HST.out]⟩
      case measure => simp [intOf]; omega
    · obtain rfl : k = n := by omega
      have hlt : beN s < 256 ^ 8 := beN_lt_of _ (by rw [HL.out]; exact h2)
      rw [pow8] at hlt
      have e2 : s.take k = s := List.take_of_length_le (by rw [HL.out]; omega)
      rw [e2]
      clear e2
      go_wp2
      go_ret2
      exact ⟨rfl, rfl⟩
set_option maxHeartbeats 400000 in
theorem big_arg (A : Option Addr) (len cap : Nat) (at_ n : Int) (w : World) (h : n < 1 ∨ 8 < n ∨ at_ < 0) :
    Calls Try.prog 70 #[.slice A len cap, .int .i64 at_, .int .i64 n] w fun e w' => e = .returned (.tuple #[.int .i64 0, .int .i64 1]) ∧ w = w' := by
  go_enter Try.func70, Try.ntmps70
  go_wp2_with (go_at_call 75; refine (fits_arg _ _ _ _ _ _ h).mono ?_; rintro e w' ⟨rfl, rfl⟩)
  go_ret2
  exact ⟨rfl, rfl⟩
set_option maxHeartbeats 400000 in
theorem big_short (A : Option Addr) (len cap : Nat) (at_ n : Int) (w : World) (hl : (len : Int) ≤ 140737488355328) (h1 : 1 ≤ n) (h2 : n ≤ 8) (h3 : 0 ≤ at_) (h : len - n < at_) :
    Calls Try.prog 70 #[.slice A len cap, .int .i64 at_, .int .i64 n] w fun e w' => e = .returned (.tuple #[.int .i64 0, .int .i64 2]) ∧ w = w' := by
  go_enter Try.func70, Try.ntmps70
  go_wp2_with (go_at_call 75; refine (fits_short _ _ _ _ _ _ hl h1 h2 h3 h).mono ?_; rintro e w' ⟨rfl, rfl⟩)
  go_ret2
  exact ⟨rfl, rfl⟩
end Go.Proofs.Ytdioijhmmmnbgaa
namespace Go.Proofs.Ytdioijhmmmnbgaa
open Go.RowKit
/-- A reader in block g: its bytes, its place, whether it is bad. -/
def Rdr (w : World) (g : Nat) (l : List UInt8) (at_ : Nat) (bad : Bool) : Prop :=
  ∃ A c, Bk w g 92 #[.slice A l.length c, .int .i64 at_, .bool bad] ∧ RB w g A l ∧ l.length ≤ c ∧ (c : Int) ≤ 9223372036854775807 ∧ (l.length : Int) ≤ 140737488355328 ∧ at_ ≤ l.length
theorem Rdr.below {w w' : World} {g : Nat} {l : List UInt8} {at_ : Nat} {bad : Bool} (h : Rdr w g l at_ bad) (hb : Below w.heap.size w w') : Rdr w' g l at_ bad := by
  obtain ⟨A, c, h1, h2, r⟩ := h
  exact ⟨A, c, h1.below hb h1.lt, h2.below hb (Nat.le_of_lt h1.lt), r⟩
theorem Rdr.grown {w w' : World} {g : Nat} {l : List UInt8} {at_ : Nat} {bad : Bool} {row : Option Nat} (h : Rdr w g l at_ bad) (hb : w.grownBy w' row) (hr : ∀ k, row = some k → g < k) : Rdr w' g l at_ bad := by
  obtain ⟨A, c, h1, h2, r⟩ := h
  exact ⟨A, c, h1.grown hb (fun e => by have := hr g e.symm; omega), h2.grown hb (Nat.le_of_lt h1.lt) (fun k hk => Nat.le_of_lt (hr k hk)), r⟩
set_option maxHeartbeats 400000 in
theorem new_fresh (A : Option Addr) (n c : Nat) (w : World) (l : List UInt8) (hn : l.length = n) (hl : (n : Int) ≤ 140737488355328) (hr : RB w w.heap.size A l) :
    Calls Try.prog 24 #[.slice A n c] w fun e w' => ∃ g, e = .returned (.pointer (some ⟨g, 0, none⟩)) ∧ w.heap.size ≤ g ∧ Rdr w' g l 0 false ∧ Below w.heap.size w w' ∧ ∀ w'' : World, (∀ k, w.heap.size ≤ k → k < w'.heap.size → w''.heap[k]? = w'.heap[k]?) → Rdr w'' g l 0 false := by
  subst hn
  go_enter Try.func24, Try.ntmps24
  go_wp2_with (at_builtin; go_loud (refine wpList_appL _ bV_one rfl _ _ rfl byteTy (by decide) w.heap.size _ [] rfl ?c0 w.heap.size _ l.length _ l rfl rfl ?c1 ?c2 ?c3 ?_))
  case c0 => exact OwL.lit0 w (Nat.le_refl _)
  case c1 => exact hr.alloc (Nat.le_refl _) _
  case c2 => simp; omega
  case c3 => simp
  intro v1 w1 hown _ _ hb1
  have hb2 := ((Below.refl w.heap.size w).alloc (Nat.le_refl _) _).trans hb1
  have HO := Lib.hid hown
  obtain ⟨A1, c1, rfl, hr1, hc1⟩ := hown.rd
  clear hb1
  go_wp2
  go_ret
  have HA : ∀ w'' : World, (∀ k, w.heap.size ≤ k → k < (w1.alloc (.cells #[.slice A1 l.length c1, .int .i64 0, .bool false] 92)).heap.size → w''.heap[k]? = (w1.alloc (.cells #[.slice A1 l.length c1, .int .i64 0, .bool false] 92)).heap[k]?) → Rdr w'' w1.heap.size l 0 false := by
    intro w'' ha
    have hB : Bk w'' w1.heap.size 92 #[.slice A1 l.length c1, .int .i64 0, .bool false] := (ha _ hb2.size (by simp)).trans (Bk.new _ _ _)
    have ho : OwB w'' w.heap.size 5 (.slice A1 l.length c1) l := OwL.agree (OwL.alloc HO.out _) fun k h1 h2 => ha k h1 h2
    have hrr := ho.rl
    refine ⟨A1, c1, hB, ?_, hc1.1, hc1.2, hl, by omega⟩
    exact RL.low HO.out.rl hrr
  exact ⟨_, rfl, hb2.size, ⟨A1, c1, Bk.new _ _ _, hr1.alloc (Nat.le_refl _) _, hc1.1, hc1.2, hl, by omega⟩, hb2.alloc hb2.size _, HA⟩
theorem new_any (A : Option Addr) (n c : Nat) (w : World) (l : List UInt8) (hn : l.length = n) (hl : (n : Int) ≤ 140737488355328) (hr : RB w w.heap.size A l) :
    Calls Try.prog 24 #[.slice A n c] w fun e w' => ∃ g, e = .returned (.pointer (some ⟨g, 0, none⟩)) ∧ w.heap.size ≤ g ∧ Rdr w' g l 0 false ∧ Below w.heap.size w w' :=
  (new_fresh A n c w l hn hl hr).mono fun _ _ ⟨g, he, hg, hr, hb, _⟩ => ⟨g, he, hg, hr, hb⟩
/-- Is a number of n bytes there? -/
def okN (l : List UInt8) (at_ : Nat) (bad : Bool) (n : Int) : Bool := !bad && decide (1 ≤ n) && decide (n ≤ 8) && decide ((at_ : Int) + n ≤ l.length)
def numV (l : List UInt8) (at_ : Nat) (bad : Bool) (n : Int) : Int := if okN l at_ bad n then wrap64 (beN ((l.drop at_).take n.toNat)) else 0
def numAt (l : List UInt8) (at_ : Nat) (bad : Bool) (n : Int) : Nat := if okN l at_ bad n then at_ + n.toNat else at_
def NumPost (w : World) (g : Nat) (l : List UInt8) (at_ : Nat) (bad : Bool) (n : Int) (e : Ending) (w' : World) : Prop :=
  e = .returned (.int .i64 (numV l at_ bad n)) ∧ Rdr w' g l (numAt l at_ bad n) (!okN l at_ bad n) ∧ w.grownBy w' (some g)
set_option maxHeartbeats 400000 in
theorem num_ok (g : Nat) (l : List UInt8) (at_ n : Nat) (w : World) (h : Rdr w g l at_ false) (h1 : 1 ≤ n) (h2 : n ≤ 8) (h3 : at_ + n ≤ l.length) :
    Calls Try.prog 58 #[.pointer (some ⟨g, 0, none⟩), .int .i64 n] w (NumPost w g l at_ false n) := by
  obtain ⟨A, c, hB, hr, hc, hc2, hl, hat⟩ := h
  have hk : okN l at_ false (n : Int) = true := by simp [okN]; omega
  unfold NumPost numV numAt
  rw [hk, if_pos rfl, if_pos rfl, Int.toNat_natCast]
  have c0 := hB.cell 0
  have c1 := hB.cell 1
  have c2 := hB.cell 2
  simp only [List.getElem?_toArray, List.getElem?_cons_zero, List.getElem?_cons_succ] at c0 c1 c2
  have f1 := hB.frz 1
  have hglt := hB.lt
  clear hk
  go_enter Try.func58, Try.ntmps58
  go_wp2_with fail
  go_quiet ((go_at_call 70; exact quiet_eq (big_ok _ _ _ _ _ l _ rfl hl hc hc2 h1 h2 h3 ((hr.more (Nat.le_of_lt hglt)).drewN _))))
  go_wp2
  go_ret
  refine ⟨rfl, ⟨A, c, ?_, ?_, hc, hc2, hl, h3⟩, ?_⟩
  · have := (hB.drewN nq).set 1 (.int .i64 ((at_ : Int) + n))
    simpa using this
  · exact (hr.drewN nq).setCell (Nat.le_refl _) _
  · exact gb_set (gb_drewN (World.grownBy.refl _ _) _) _ _
set_option maxHeartbeats 400000 in
theorem num_bad (g : Nat) (l : List UInt8) (at_ : Nat) (n : Int) (w : World) (h : Rdr w g l at_ true) :
    Calls Try.prog 58 #[.pointer (some ⟨g, 0, none⟩), .int .i64 n] w (NumPost w g l at_ true n) := by
  have h' := h
  obtain ⟨A, c, hB, hr, hc, hc2, hl, hat⟩ := h
  have hk : okN l at_ true (n : Int) = false := by simp [okN]
  unfold NumPost numV numAt
  rw [hk]
  have H := Lib.hid h'
  have c2 := hB.cell 2
  simp only [List.getElem?_toArray, List.getElem?_cons_zero, List.getElem?_cons_succ] at c2
  clear hk h'
  go_enter Try.func58, Try.ntmps58
  go_wp2
  go_ret
  exact ⟨rfl, H.out, World.grownBy.refl _ _⟩
set_option maxHeartbeats 400000 in
theorem num_not (g : Nat) (l : List UInt8) (at_ : Nat) (n : Int) (w : World) (h : Rdr w g l at_ false) (h1 : n < 1 ∨ 8 < n ∨ (1 ≤ n ∧ n ≤ 8 ∧ (l.length : Int) < at_ + n)) :
    Calls Try.prog 58 #[.pointer (some ⟨g, 0, none⟩), .int .i64 n] w (NumPost w g l at_ false n) := by
  obtain ⟨A, c, hB, hr, hc, hc2, hl, hat⟩ := h
  have hk : okN l at_ false (n : Int) = false := by
    simp only [okN, Bool.not_false, Bool.true_and]
    rcases h1 with h1 | h1 | h1 <;> simp <;> omega
  unfold NumPost numV numAt
  rw [hk]
  have c0 := hB.cell 0
  have c1 := hB.cell 1
  have c2 := hB.cell 2
  simp only [List.getElem?_toArray, List.getElem?_cons_zero, List.getElem?_cons_succ] at c0 c1 c2
  have f2 := hB.frz 2
  have hglt := hB.lt
  clear hk
  obtain ⟨x, hx, hcall⟩ : ∃ x : Int, (x = 1 ∨ x = 2) ∧ ∀ W : World, Calls Try.prog 70 #[.slice A l.length c, .int .i64 at_, .int .i64 n] W fun e w' => e = .returned (.tuple #[.int .i64 0, .int .i64 x]) ∧ W = w' := by
    rcases h1 with h1 | h1 | h1
    · exact ⟨1, .inl rfl, fun W => big_arg _ _ _ _ _ W (.inl h1)⟩
    · exact ⟨1, .inl rfl, fun W => big_arg _ _ _ _ _ W (.inr (.inl h1))⟩
    · exact ⟨2, .inr rfl, fun W => big_short _ _ _ _ _ W hl h1.1 h1.2.1 (by omega) (by omega)⟩
  have HC := Lib.hid hcall
  have hx0 : ((x : Int) != 0) = true := by rcases hx with rfl | rfl <;> rfl
  clear hcall h1 hx
  go_enter Try.func58, Try.ntmps58
  go_wp2_with fail
  go_quiet ((go_at_call 70; exact quiet_eq (HC.out _)))
  go_wp2
  go_ret
  refine ⟨rfl, ⟨A, c, ?_, ?_, hc, hc2, hl, hat⟩, ?_⟩
  · have := (hB.drewN nq).set 2 (.bool true)
    simpa using this
  · exact (hr.drewN nq).setCell (Nat.le_refl _) _
  · exact gb_set (gb_drewN (World.grownBy.refl _ _) _) _ _
theorem num_any (g : Nat) (l : List UInt8) (at_ : Nat) (bad : Bool) (n : Int) (w : World) (h : Rdr w g l at_ bad) :
    Calls Try.prog 58 #[.pointer (some ⟨g, 0, none⟩), .int .i64 n] w (NumPost w g l at_ bad n) := by
  cases bad
  · by_cases h1 : 1 ≤ n ∧ n ≤ 8 ∧ (at_ : Int) + n ≤ l.length
    · obtain ⟨m, rfl⟩ := Int.eq_ofNat_of_zero_le (show 0 ≤ n by omega)
      exact num_ok g l at_ m w h (by omega) (by omega) (by omega)
    · exact num_not g l at_ n w h (by omega)
  · exact num_bad g l at_ n w h
/-- Are n bytes there? -/
def okB (l : List UInt8) (at_ : Nat) (bad : Bool) (n : Int) : Bool := !bad && decide (0 ≤ n) && decide ((at_ : Int) + n ≤ l.length)
def bytV (l : List UInt8) (at_ : Nat) (bad : Bool) (n : Int) : List UInt8 := if okB l at_ bad n then (l.drop at_).take n.toNat else []
def bytAt (l : List UInt8) (at_ : Nat) (bad : Bool) (n : Int) : Nat := if okB l at_ bad n then at_ + n.toNat else at_
def BytPost (w : World) (g : Nat) (l : List UInt8) (at_ : Nat) (bad : Bool) (n : Int) (e : Ending) (w' : World) : Prop :=
  ∃ r, e = .returned r ∧ OwB w' w.heap.size 5 r (bytV l at_ bad n) ∧ Rdr w' g l (bytAt l at_ bad n) (!okB l at_ bad n) ∧ w.grownBy w' (some g)
set_option maxRecDepth 100000 in
set_option maxHeartbeats 1600000 in
theorem bytes_ok (g : Nat) (l : List UInt8) (at_ n : Nat) (w : World) (h : Rdr w g l at_ false) (h3 : at_ + n ≤ l.length) :
    Calls Try.prog 71 #[.pointer (some ⟨g, 0, none⟩), .int .i64 n] w (BytPost w g l at_ false n) := by
  obtain ⟨A, c, hB, hr, hc, hc2, hl, hat⟩ := h
  have hk : okB l at_ false (n : Int) = true := by simp [okB]; omega
  unfold BytPost bytV bytAt
  rw [hk, if_pos rfl, if_pos rfl, Int.toNat_natCast]
  have c0 := hB.cell 0
  have c1 := hB.cell 1
  have c2 := hB.cell 2
  simp only [List.getElem?_toArray, List.getElem?_cons_zero, List.getElem?_cons_succ] at c0 c1 c2
  have f1 := hB.frz 1
  have hglt := hB.lt
  have hd : decide ((n : Int) < 0) = false := by simp
  have hd2 : decide ((l.length : Int) - (at_ : Int) < (n : Int)) = false := by simp; omega
  clear hk
  go_enter Try.func71, Try.ntmps71
  go_wp2_with fail
  go_quiet (fail)
  go_wp2_with fail
  have B2 : Bk ((w.drewN nq).setCell ⟨g, 1, none⟩ (.int .i64 ((at_ : Int) + n))) g 92 #[.slice A l.length c, .int .i64 ((at_ : Int) + n), .bool false] := by
    have := (hB.drewN nq).set 1 (.int .i64 ((at_ : Int) + n))
    simpa using this
  have R2 : RB ((w.drewN nq).setCell ⟨g, 1, none⟩ (.int .i64 ((at_ : Int) + n))) g A l := (hr.drewN nq).setCell (Nat.le_refl _) _
  have G2 : w.grownBy ((w.drewN nq).setCell ⟨g, 1, none⟩ (.int .i64 ((at_ : Int) + n))) (some g) := gb_set (gb_drewN (World.grownBy.refl _ _) _) _ _
  clear hB hr c0 c1 c2 f1
  generalize (w.drewN nq).setCell ⟨g, 1, none⟩ (.int .i64 ((at_ : Int) + n)) = w2 at B2 R2 G2 ⊢
  have c0 := B2.cell 0
  have c1 := B2.cell 1
  simp only [List.getElem?_toArray, List.getElem?_cons_zero, List.getElem?_cons_succ] at c0 c1
  have w1 : IntKind.i64.wrap (at_ : Int) = at_ := IntWalk.i64_in _ (by omega)
  have s1 : (0 : Int) ≤ at_ := by omega
  have s2 : (at_ : Int) ≤ at_ + n := by omega
  have s3 : (at_ : Int) + n ≤ c := by omega
  have hg2 := B2.lt
  go_region_held3 (fun w' => w'.cell? ⟨g, 0, none⟩ = some (.slice A l.length c) ∧ w'.cell? ⟨g, 1, none⟩ = some (.int .i64 ((at_ : Int) + n)))
    (first
      | go_keep
      | (go_split_ands
         refine ⟨?_, ?_⟩
         · (rw [hgr.cell_far _ (by simp; omega) (by simp [Value.ownBlock]; omega)]; assumption)
         · (rw [hgr.cell_far _ (by simp; omega) (by simp [Value.ownBlock]; omega)]; assumption)))
    ((go_loud (refine step_appL _ bV_one (by rfl) (.tmp 40) (.tmp 55) (by rfl) byteTy (by decide) w2.heap.size (.slice (some ⟨w2.heap.size, 0, none⟩) 0 0) [] (by rfl) (OwL.drew (OwL.lit0 w2 (Nat.le_refl _))) g (if c = at_ then A else A.map (·.add at_)) (at_ + n - at_) (c - at_) ((l.drop at_).take n) (by rfl) (by simp; omega) (RL.drew (((R2.cut hc).take n).alloc (Nat.le_of_lt hg2) (.cells #[] 5))) (by simp; omega) (by simp) ?_); intro v' w' hown hgr hat hbel))
  have HB : Below w2.heap.size w2 w' := (((Below.refl w2.heap.size w2).alloc (Nat.le_refl _) (.cells #[] 5)).drew).trans hbel
  have GB : w.grownBy w' (some g) := gb_then G2 HB
  have fin : OwB w' w.heap.size 5 v' ((l.drop at_).take n) ∧ Rdr w' g l (at_ + n) false ∧ w.grownBy w' (some g) := by
    refine ⟨OwL.low hown G2.size, ⟨A, c, ?_, R2.below HB (Nat.le_of_lt hg2), hc, hc2, hl, h3⟩, GB⟩
    have := B2.below HB hg2
    rwa [← Int.natCast_add] at this
  clear hown hgr hat hbel HB GB B2 R2 G2
  go_wp2
  all_goals
    go_ret
    exact ⟨v', rfl, fin⟩
set_option maxHeartbeats 400000 in
theorem bytes_bad (g : Nat) (l : List UInt8) (at_ : Nat) (n : Int) (w : World) (h : Rdr w g l at_ true) :
    Calls Try.prog 71 #[.pointer (some ⟨g, 0, none⟩), .int .i64 n] w (BytPost w g l at_ true n) := by
  have H := Lib.hid h
  obtain ⟨A, c, hB, hr, hc, hc2, hl, hat⟩ := h
  have hk : okB l at_ true (n : Int) = false := by simp [okB]
  unfold BytPost bytV bytAt
  rw [hk]
  have c2 := hB.cell 2
  simp only [List.getElem?_toArray, List.getElem?_cons_zero, List.getElem?_cons_succ] at c2
  clear hk
  go_enter Try.func71, Try.ntmps71
  go_wp2
  go_ret
  exact ⟨_, rfl, OwL.nil, H.out, World.grownBy.refl _ _⟩
set_option maxHeartbeats 800000 in
theorem bytes_not (g : Nat) (l : List UInt8) (at_ : Nat) (n : Int) (w : World) (h : Rdr w g l at_ false) (h1 : n < 0 ∨ (0 ≤ n ∧ (l.length : Int) < at_ + n)) :
    Calls Try.prog 71 #[.pointer (some ⟨g, 0, none⟩), .int .i64 n] w (BytPost w g l at_ false n) := by
  obtain ⟨A, c, hB, hr, hc, hc2, hl, hat⟩ := h
  have hk : okB l at_ false (n : Int) = false := by
    simp only [okB, Bool.not_false, Bool.true_and]
    rcases h1 with h1 | h1 <;> simp <;> omega
  unfold BytPost bytV bytAt
  rw [hk]
  have c0 := hB.cell 0
  have c1 := hB.cell 1
  have c2 := hB.cell 2
  simp only [List.getElem?_toArray, List.getElem?_cons_zero, List.getElem?_cons_succ] at c0 c1 c2
  have f2 := hB.frz 2
  have hglt := hB.lt
  clear hk
  rcases h1 with h1 | ⟨h1, h2⟩
  · have hd : decide (n < 0) = true := by simpa using h1
    go_enter Try.func71, Try.ntmps71
    go_wp2_with fail
    go_quiet (fail)
    go_wp2
    go_ret
    refine ⟨_, rfl, OwL.nil, ⟨A, c, ?_, (hr.drewN nq).setCell (Nat.le_refl _) _, hc, hc2, hl, hat⟩, gb_set (gb_drewN (World.grownBy.refl _ _) _) _ _⟩
    have := (hB.drewN nq).set 2 (.bool true)
    simpa using this
  · have hd : decide (n < 0) = false := by simpa using h1
    have hd2 : decide ((l.length : Int) - (at_ : Int) < n) = true := by simp; omega
    go_enter Try.func71, Try.ntmps71
    go_wp2_with fail
    go_quiet (fail)
    go_wp2
    go_ret
    refine ⟨_, rfl, OwL.nil, ⟨A, c, ?_, (hr.drewN nq).setCell (Nat.le_refl _) _, hc, hc2, hl, hat⟩, gb_set (gb_drewN (World.grownBy.refl _ _) _) _ _⟩
    have := (hB.drewN nq).set 2 (.bool true)
    simpa using this
theorem bytes_any (g : Nat) (l : List UInt8) (at_ : Nat) (bad : Bool) (n : Int) (w : World) (h : Rdr w g l at_ bad) :
    Calls Try.prog 71 #[.pointer (some ⟨g, 0, none⟩), .int .i64 n] w (BytPost w g l at_ bad n) := by
  cases bad
  · by_cases h1 : 0 ≤ n ∧ (at_ : Int) + n ≤ l.length
    · obtain ⟨m, rfl⟩ := Int.eq_ofNat_of_zero_le h1.1
      exact bytes_ok g l at_ m w h (by omega)
    · exact bytes_not g l at_ n w h (by omega)
  · exact bytes_bad g l at_ n w h
set_option maxHeartbeats 400000 in
theorem left_any (g : Nat) (l : List UInt8) (at_ : Nat) (bad : Bool) (w : World) (h : Rdr w g l at_ bad) :
    Calls Try.prog 31 #[.pointer (some ⟨g, 0, none⟩)] w fun e w' => e = .returned (.int .i64 ((l.length : Int) - at_)) ∧ ∃ m, w' = w.drewN m := by
  obtain ⟨A, c, hB, hr, hc, hc2, hl, hat⟩ := h
  have c0 := hB.cell 0
  have c1 := hB.cell 1
  simp only [List.getElem?_toArray, List.getElem?_cons_zero, List.getElem?_cons_succ] at c0 c1
  go_enter Try.func31, Try.ntmps31
  go_wp2_with fail
  go_quiet (fail)
  go_wp2
  go_ret
  exact ⟨rfl, _, rfl⟩
set_option maxHeartbeats 400000 in
theorem bad_any (g : Nat) (l : List UInt8) (at_ : Nat) (bad : Bool) (w : World) (h : Rdr w g l at_ bad) :
    Calls Try.prog 59 #[.pointer (some ⟨g, 0, none⟩)] w fun e w' => e = .returned (.bool bad) ∧ w = w' := by
  obtain ⟨A, c, hB, hr, hc, hc2, hl, hat⟩ := h
  have c2 := hB.cell 2
  simp only [List.getElem?_toArray, List.getElem?_cons_zero, List.getElem?_cons_succ] at c2
  go_enter Try.func59, Try.ntmps59
  go_wp2
  go_ret
  exact ⟨rfl, rfl⟩
end Go.Proofs.Ytdioijhmmmnbgaa
namespace Go.Proofs.Ytdioijhmmmnbgaa
open Go.RowKit
theorem u8_infoP : (Try.prog.info? 5).map (fun i => (i.zero, i.size, i.bytes)) = some (some (.int .u8 0), 1, 1) := by kernel_rfl
theorem byteTyP : ETy Try.prog 22 5 (.int .u8 0) 1 1 := ⟨Try.underlying22, info_parts u8_infoP, rfl, by decide⟩
end Go.Proofs.Ytdioijhmmmnbgaa
namespace Go.Proofs.Ytdioijhmmmnbgaa
open Go.RowKit
set_option maxRecDepth 100000 in
set_option maxHeartbeats 400000 in
theorem putBig_ok (n : Nat) (v : Int) (w : World) (h1 : 1 ≤ n) (h2 : n ≤ 8) :
    Calls Try.prog 66 #[.int .i64 n, .int .i64 v] w fun e w' => ∃ r, e = .returned r ∧ OwB w' w.heap.size 5 r (leB n v).reverse ∧ Below w.heap.size w w' := by
  obtain ⟨i0, hi, hz0, hz1, hz2⟩ := info_parts u8_infoP
  go_enter Try.func66, Try.ntmps66
  go_wp2_with (at_make; refine wpList_make_full _ rfl _ _ _ rfl w.heap.size 5 i0 (.int .u8 0) 1 Try.underlying22 hi hz0 hz1 .i64 .i64 _ _ n rfl rfl rfl rfl (by rw [hz2]; omega) (by unfold maxLen; omega) (Nat.le_refl _) ?_)
  intro w1 hown hg
  have hb1 : Below w.heap.size w w1 := (Below.refl _ _).grown hg (Nat.le_refl _) (by simp)
  have hown0 : OwB w1 w.heap.size 5 (.slice (some ⟨w.heap.size, 0, none⟩) n n) (List.replicate n 0) := OwL.made (f := bV) (z := 0) hown
  clear hown hg
  go_wp2
  go_loopw [6, 17] (fun _ i wr => ∃ k : Nat, k ≤ n ∧ i = .int .i64 (k : Int) ∧ OwB wr w.heap.size 5 (.slice (some ⟨w.heap.size, 0, none⟩) n n) (List.replicate (n - k) 0 ++ ((leB n v).take k).reverse) ∧ Below w.heap.size w wr) (fun _ i _ => n - (intOf i).toNat)
  case atStart => exact ⟨0, by omega, rfl, by simpa using hown0, hb1⟩
  case round =>
    obtain ⟨k, hk, rfl, hown1, hb⟩ := hrel
    by_cases hk0 : k < n
    · have hc := hown1.cell (back_get hk0)
      have hf := hown1.frz (n - 1 - k)
      have e1 : ((n : Int) - 1 - (k : Int)).toNat = n - 1 - k := by omega
      have S := Lib.hid (hown1.set (n - 1 - k) (UInt8.ofNat ((v % 18446744073709551616).toNat / 256 ^ k)))
      go_wp2
      go_roundw
      case rel =>
        refine ⟨k + 1, by omega, by go_num, ?_, hb.setCell (Nat.le_refl _) _⟩
        rw [leB_cell, ← back_set hk0 (leB_get v hk0)]
        exact S.out
      case measure => simp [intOf]; omega
    · obtain rfl : k = n := by omega
      go_wp2
      go_ret
      refine ⟨_, rfl, ?_, hb⟩
      rw [List.take_of_length_le (by rw [leB_len]; omega), Nat.sub_self, List.replicate_zero, List.nil_append] at hown1
      exact hown1
end Go.Proofs.Ytdioijhmmmnbgaa
namespace Go.Proofs.Ytdioijhmmmnbgaa
open Go.RowKit
set_option maxRecDepth 100000 in
set_option maxHeartbeats 400000 in
theorem refPutLittle_ok (n : Nat) (v : Int) (w : World) (h1 : 1 ≤ n) (h2 : n ≤ 8) (hv : -9223372036854775808 ≤ v) (hv2 : v ≤ 9223372036854775807) :
    Calls Try.prog 68 #[.int .i64 n, .int .i64 v] w fun e w' => ∃ r, e = .returned r ∧ OwB w' w.heap.size 5 r (leB n v) ∧ Below w.heap.size w w' := by
  go_enter Try.func68, Try.ntmps68
  go_wp2
  go_loopw [1, 5, 6, 7] (fun y r i _ wr => ∃ k : Nat, k ≤ n ∧ i = .int .i64 (k : Int) ∧ y = .int .i64 (v / 256 ^ k) ∧ OwB wr w.heap.size 5 r ((leB n v).take k) ∧ Below w.heap.size w wr) (fun _ _ i _ _ => n - (intOf i).toNat)
  case atStart => exact ⟨0, by omega, rfl, by rw [Int.pow_zero, Int.ediv_one], OwL.nil, Below.refl _ _⟩
  case round =>
    obtain ⟨k, hk, rfl, rfl, hown, hb⟩ := hrel
    by_cases hk0 : k < n
    · obtain ⟨y, hy⟩ : ∃ y, y = v / 256 ^ k := ⟨_, rfl⟩
      rw [← hy]
      have HY := Lib.hid hy
      have hpos : (0 : Int) < 256 ^ k := Int.pow_pos (by omega)
      have hy1 : -9223372036854775808 ≤ y := by
        rw [hy]; exact Int.le_ediv_of_mul_le hpos (by
          have h1 : (1 : Int) ≤ 256 ^ k := hpos
          generalize (256 : Int) ^ k = z at h1
          omega)
      have hy2 : y ≤ 9223372036854775807 := by
        rw [hy]
        by_cases h0 : 0 ≤ v
        · exact Int.le_trans (Int.ediv_le_self _ h0) hv2
        · have := Int.ediv_neg_of_neg_of_pos (by omega : v < 0) hpos; omega
      clear hy
      obtain ⟨l1, l2, l3, l4, l5⟩ := low_facts y hy1
      have L3 := Lib.hid l3
      have L5 := Lib.hid l5
      clear l3 l5
      have hsz := hb.size
      go_wp2_with (at_builtin; refine wpList_appL _ bV_one rfl _ _ rfl byteTyP (by decide) w.heap.size _ _ rfl (hown.alloc _) _ _ 1 1 [UInt8.ofNat ((v % 18446744073709551616).toNat / 256 ^ k)] rfl rfl (RL.freshe _ _ ?c0 _) ?c1 ?c2 ?_)
      case c0 => exact low_cell v y k (by omega) HY.out hy1
      case c1 => simp [leB_len]; omega
      case c2 => simp; omega
      intro v1 w1 hown1 _ _ hb1
      go_wp2
      go_roundw
      case rel =>
        refine ⟨k + 1, by omega, by go_num, ?_, ?_, (hb.alloc hsz _).trans hb1⟩
        · rw [L5.out, HY.out, next_y]
        · rw [take_snoc' (leB_get v hk0)]; exact hown1
      case measure => simp [intOf]; omega
    · obtain rfl : k = n := by omega
      go_wp2
      go_ret
      refine ⟨_, rfl, ?_, hb⟩
      rw [List.take_of_length_le (by rw [leB_len]; omega)] at hown
      exact hown
end Go.Proofs.Ytdioijhmmmnbgaa
namespace Go.Proofs.Ytdioijhmmmnbgaa
open Go.RowKit
set_option maxHeartbeats 400000 in
theorem turn_any (A : Option Addr) (n cap : Nat) (w : World) (l : List UInt8) (hn : l.length = n) (hl : (l.length : Int) ≤ 140737488355328) (hr : RB w w.heap.size A l) :
    Calls Try.prog 67 #[.slice A n cap] w fun e w' => ∃ v, e = .returned v ∧ OwB w' w.heap.size 5 v l.reverse ∧ Below w.heap.size w w' := by
  subst hn
  go_enter Try.func67, Try.ntmps67
  go_wp2
  go_loopw [3, 4] (fun v i wr => ∃ k : Nat, k ≤ l.length ∧ i = .int .i64 ((k : Int) - 1) ∧ OwB wr w.heap.size 5 v (l.drop k).reverse ∧ Below w.heap.size w wr) (fun _ i _ => (intOf i + 1).toNat)
  case atStart => exact ⟨l.length, by omega, rfl, by rw [List.drop_length]; exact OwL.nil, Below.refl _ _⟩
  case round =>
    obtain ⟨k, hk, rfl, hown, hb⟩ := hrel
    by_cases hk0 : 1 ≤ k
    · obtain ⟨ad, x, rfl, hbk, hx, hc⟩ := (hr.below hb (Nat.le_refl _)).byte (k := k - 1) (by omega)
      have e1 : ((k : Int) - 1).toNat = k - 1 := by omega
      have hsz := hb.size
      go_wp2_with (at_builtin; (refine wpList_appL _ bV_one rfl _ _ rfl byteTy (by decide) w.heap.size _ _ rfl (hown.alloc _) _ _ 1 1 [x] rfl rfl (RL.fresh _ _ _) ?c1 ?c2 ?_))
      case c1 => simp; omega
      case c2 => simp; omega
      intro v1 w1 hown1 _ _ hb1
      go_wp2
      go_roundw
      case rel =>
        refine ⟨k - 1, by omega, by go_num, ?_, (hb.alloc hsz _).trans hb1⟩
        have : (l.drop (k - 1)).reverse = (l.drop k).reverse ++ [x] := by
          obtain ⟨h1, h2⟩ := List.getElem?_eq_some_iff.1 hx.out
          rw [List.drop_eq_getElem_cons h1, List.reverse_cons, h2, show k - 1 + 1 = k by omega]
        rw [this]; exact hown1
      case measure => simp [intOf]; omega
    · obtain rfl : k = 0 := by omega
      go_wp2
      go_ret
      exact ⟨_, rfl, hown, hb⟩
end Go.Proofs.Ytdioijhmmmnbgaa
namespace Go.Proofs.Ytdioijhmmmnbgaa
open Go.RowKit
set_option maxHeartbeats 400000 in
theorem refPutBig_ok (n : Nat) (v : Int) (w : World) (h1 : 1 ≤ n) (h2 : n ≤ 8) (hv : -9223372036854775808 ≤ v) (hv2 : v ≤ 9223372036854775807) :
    Calls Try.prog 45 #[.int .i64 n, .int .i64 v] w fun e w' => ∃ r, e = .returned r ∧ OwB w' w.heap.size 5 r (leB n v).reverse ∧ Below w.heap.size w w' := by
  go_enter Try.func45, Try.ntmps45
  go_wp2_with (go_at_call 68; refine (refPutLittle_ok n v _ h1 h2 hv hv2).mono ?_; rintro e w1 ⟨r, rfl, hown, hb⟩; obtain ⟨A1, c1, rfl, hr1, hc1⟩ := hown.rd)
  go_wp2_with (go_at_call 67; refine (turn_any _ _ _ _ (leB n v) (by simp [leB_len]) (by rw [leB_len]; omega) hr1).mono ?_; rintro e w2 ⟨r, rfl, hown2, hb2⟩)
  go_ret
  exact ⟨r, rfl, hown2.low hb.size, hb.trans (hb2.mono hb.size)⟩
end Go.Proofs.Ytdioijhmmmnbgaa
