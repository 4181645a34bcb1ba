/- The walk of VtypeMore. -/
import Derived.Test.YthblilhdjabhnaaDoorVtX
namespace Go.Proofs.YthblilhdjabhnaaDoor
open Go.RowKit

theorem rd_of {w : World} {base : Nat} {e : TypeId} {size : Nat} {v : Value} {n : Nat} {xs : List Value} (h : w.ownsRow base e size v n xs) : ∃ A c, v = .slice A n c ∧ Rd w w.heap.size A xs := by
  rcases h.2 with ⟨rfl, h0⟩ | ⟨g, cap, cur, rfl, hb, hh, hc, hm, r⟩
  · subst h0
    exact ⟨none, 0, rfl, by rw [List.eq_nil_of_length_eq_zero (by rw [h.1]; simp : xs.length = 0)]; exact Rd.nil⟩
  · exact ⟨_, cap, rfl, Rd.own h⟩
theorem hdr_one (l : List Hdr) : ∀ u ∈ l.flatMap hdrC, u.oneCell' = true := by
  intro u hu
  obtain ⟨h, _, hh⟩ := List.mem_flatMap.1 hu
  simp only [hdrC, List.mem_cons, List.not_mem_nil, or_false] at hh
  rcases hh with rfl | rfl | rfl | rfl <;> rfl
theorem hdr_len (l : List Hdr) : (l.flatMap hdrC).length = l.length * 4 := by
  induction l with
  | nil => rfl
  | cons a r ih => rw [List.flatMap_cons, List.length_append, ih]; simp [hdrC]; omega
theorem hdr_info : ∃ i, Tryd.prog.info? 39 = some i ∧ i.zero = some (.agg #[.string .empty, .string .empty, .int .i64 0, .slice none 0 0]) ∧ i.size = 4 ∧ i.bytes = 64 := info_parts (by kernel_rfl)
set_option maxRecDepth 100000 in
set_option maxHeartbeats 4000000 in
theorem vtypeMore_walk (m : Int) (w : World) (hm : w.cell? ⟨0, 0, none⟩ = some (.int .i64 m)) (A0 : Option Addr) (n0 c0 : Nat) (l0 : List Hdr) (e0 : l0.length = n0) (r0 : RH w w.heap.size A0 l0) (q0 : ∀ h ∈ l0, h.1.length ≤ maxLen ∧ h.2.1.length ≤ maxLen) (_b0 : n0 ≤ 140737488351232)
    (A1 : Option Addr) (n1 c1 : Nat) (l1 : List Hdr) (e1 : l1.length = n1) (r1 : RH w w.heap.size A1 l1) (q1 : ∀ h ∈ l1, h.1.length ≤ maxLen ∧ h.2.1.length ≤ maxLen) (_b1 : n1 ≤ 140737488351232)
    (f : ByteArray) (_bf : f.size ≤ 140737488351232) (t : ByteArray) (_bt : t.size ≤ 140737488351232) :
    Calls Tryd.prog 5 #[.slice A0 n0 c0, .slice A1 n1 c1, .string f, .string t] w fun e w' => e = .returned (.bool true) ∧ Below w.heap.size w w' := by
  have E0 := Lib.hid e0
  have Q0 := Lib.hid q0
  have E1 := Lib.hid e1
  have Q1 := Lib.hid q1
  obtain ⟨i, hi1, hi2, hi3, hi4⟩ := hdr_info
  clear e0 q0 e1 q1
  go_enter Tryd.func5, Tryd.ntmps5
  go_wp2_with fail
  refine (fixed17_any m _ hm).mono ?_
  rintro e w1 ⟨rfl, hb1⟩
  have hw0 : IntKind.i64.wrap ((n0 : Int) + n1) = (n0 : Int) + n1 := IntWalk.i64_in _ (by omega)
  by_cases hz : n0 + n1 ≤ 300
  · by_cases hz1 : f.size ≤ 3000
    · by_cases hz2 : t.size ≤ 3000
      · go_wp2_with fail
        refine (under_any A0 n0 c0 l0 E0.out (by omega) Q0.out (f.size + 1) f t _ (by omega) ((r0.below hb1 (Nat.le_refl _)).top) (by omega) (by omega)).mono ?_
        rintro e w2 ⟨rfl, hb2⟩
        have hb2' := hb1.trans (hb2.mono hb1.size)
        have own0 : (w2.alloc (.cells #[] 39)).ownsRow w2.heap.size 39 4 (.slice (some ⟨w2.heap.size, 0, none⟩) 0 0) 0 [] := World.ownsRow_made w2 #[] 0 (Nat.le_refl _) (by unfold maxLen; omega) (by simp)
        have hx0 : Rd (w2.alloc (.cells #[] 39)) w2.heap.size A0 (l0.flatMap hdrC) := Rd.more (Rd.alloc (Rd.below r0 hb2' (Nat.le_refl _)) hb2'.size _) hb2'.size
        go_wp2_with (at_builtin; refine wpList_app _ rfl (.tmp 39) (.tmp 40) 28 rfl w2.heap.size 39 Tryd.underlying28 hi1 hi2 hi3 hi4 rfl (by decide) _ 0 [] rfl own0 _ A0 n0 c0 (l0.flatMap hdrC) rfl ?c0 hx0 (hdr_one _) ?c1 ?c2 ?c3 ?_)
        case c0 => rw [hdr_len, E0.out]
        case c1 => unfold maxLen; omega
        case c2 => omega
        case c3 => simp
        intro v3 w3 own3 _ _ hb3
        have hb3' : Below w.heap.size w w3 := (hb2'.alloc hb2'.size _).trans (hb3.mono hb2'.size)
        have hx1 : Rd w3 w.heap.size A1 (l1.flatMap hdrC) := Rd.below r1 hb3' (Nat.le_refl _)
        have hs3 : w2.heap.size ≤ w3.heap.size := by have := hb3.size; simp at this; omega
        go_wp2_with (at_builtin; go_loud (refine wpList_app _ rfl (.tmp 41) (.tmp 42) 28 rfl w2.heap.size 39 Tryd.underlying28 hi1 hi2 hi3 hi4 rfl (by decide) _ n0 _ rfl own3 _ A1 n1 c1 (l1.flatMap hdrC) rfl ?c0 hx1 (hdr_one _) ?c1 ?c2 ?c3 ?_))
        case c0 => rw [hdr_len, E1.out]
        case c1 => unfold maxLen; omega
        case c2 => omega
        case c3 => exact hs3
        intro v4 w4 own4 _ _ hb4
        have hb4' : Below w.heap.size w w4 := hb3'.trans (hb4.mono hb2'.size)
        obtain ⟨A4, c4, rfl, hx4⟩ := rd_of own4
        have hx4' : RH w4 w4.heap.size A4 (l0 ++ l1) := by unfold RH; rw [List.flatMap_append]; exact hx4
        clear own0 own3 own4 hx0 hx1 hx4 hb3 hb4 hs3
        go_wp2_with fail
        refine (under_any A4 (n0 + n1) c4 (l0 ++ l1) (by rw [List.length_append, E0.out, E1.out]) (by omega) (fun h hh => (List.mem_append.1 hh).elim (Q0.out h) (Q1.out h)) (f.size + 1) f t _ (by omega) hx4' (by omega) (by omega)).mono ?_
        rintro e w5 ⟨rfl, hb5⟩
        have hb5' := hb4'.trans (hb5.mono hb4'.size)
        have hmore : (underV l0 f.data.toList t.data.toList).2 = [] → underV (l0 ++ l1) f.data.toList t.data.toList = underV l0 f.data.toList t.data.toList := underV_more
        generalize underV (l0 ++ l1) f.data.toList t.data.toList = R2 at hmore ⊢
        generalize underV l0 f.data.toList t.data.toList = R at hmore ⊢
        obtain ⟨a, nd⟩ := R
        by_cases hn : nd = []
        · subst hn
          have := hmore rfl
          subst this
          clear hmore
          go_wp2
          all_goals
            go_ret
            exact ⟨ret_bool (by simp), hb5'⟩
        · have hne : nd.isEmpty = false := by simpa using hn
          clear hmore
          obtain ⟨a2, nd2⟩ := R2
          go_wp2
          all_goals
            go_ret
            exact ⟨ret_bool (by simp), hb5'⟩
      · have hz' : 3000 < t.size := by omega
        go_wp2
        go_ret
        exact ⟨rfl, hb1⟩
    · have hz' : 3000 < f.size := by omega
      go_wp2
      go_ret
      exact ⟨rfl, hb1⟩
  · have hz' : 300 < (n0 : Int) + n1 := by omega
    go_wp2
    go_ret
    exact ⟨rfl, hb1⟩
end Go.Proofs.YthblilhdjabhnaaDoor
