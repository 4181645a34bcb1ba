/- Contracts: (*image.sink).put. -/
import Derived.Test.YtdioijhmmmnbgaaPi3
import Derived.Test.YtdioijhmmmnbgaaPi1
import Derived.Test.YtdioijhmmmnbgaaPi2
import Derived.Deep.RegionWith
import Derived.Deep.RegionHeld3
import Derived.Deep.RegionLaw
import Derived.Outline
import Derived.Deep.DeepCutAuto
namespace Go.Proofs.Ytdioijhmmmnbgaa
open Go.RowKit
theorem putBe_ok (n : Nat) (v : Int) (w : World) (h1 : 1 ≤ n) (h2 : n ≤ 8) :
    Calls Try.prog 66 #[.int .i64 n, .int .i64 v] w fun e w' => ∃ r, e = .returned r ∧ OwB w' w.heap.size 5 r (beB n v) ∧ Below w.heap.size w w' := putBig_ok n v w h1 h2
/-- What putting numbers leaves. -/
def SPut (T : TypeId) (w : World) (base g : Nat) (v : Value) (l : List UInt8) (e : Ending) (w' : World) : Prop :=
  (∃ q, e = .returned q) ∧ ∃ v', Rws T 5 w' base g v' l ∧ Ch w w' (Fpt g v) ∧ (v'.ownBlock = v.ownBlock ∨ ∃ b, v'.ownBlock = some b ∧ w.heap.size ≤ b)
theorem putBs_len (n : Nat) (xs : List Int) : (xs.flatMap (beB n)).length = n * xs.length := by
  induction xs with
  | nil => simp
  | cons x r ih => rw [List.flatMap_cons, List.length_append, beB_len, ih, List.length_cons, Nat.mul_add]; omega
theorem gcellS {W w1 w5 : World} {v : Value} {g : Nat} (h : w1.grownBy w5 v.ownBlock) (hv : v.ownBlock ≠ some g) (hb : Below W.heap.size W w1) (hg : g < W.heap.size) : w5.cell? ⟨g, 0, none⟩ = w1.cell? ⟨g, 0, none⟩ :=
  cell_same (h.block g (Nat.lt_of_lt_of_le hg hb.size) (fun e => hv e.symm))
set_option maxRecDepth 100000 in
set_option maxHeartbeats 2000000 in
theorem sput_any (base g n k c : Nat) (v : Value) (o : List UInt8) (A : Option Addr) (xs : List Int) (w : World) (h : Rws 74 5 w base g v o) (hb : base ≤ w.heap.size) (hvg : v.ownBlock ≠ some g) (hx : xs.length = k) (hX : RL iV w w.heap.size A xs) (hA : xs ≠ [] → ∀ ad, A = some ad → ¬ Fpt g v ad.block)
    (h1 : 1 ≤ n) (h8 : n ≤ 8) (hk : k ≤ 64) (ho : o.length ≤ 1000000000000) :
    Calls Try.prog 41 #[.pointer (some ⟨g, 0, none⟩), .int .i64 (n : Int), .slice A k c] w (SPut 74 w base g v (o ++ xs.flatMap (beB n))) := by
  have HX := bx hX
  have HL := bx hx
  have HO := bx ho
  have HV := bx hvg
  have HA := bx hA
  have hgw := h.1.lt
  have H0 : Bx (Rws 74 5 w base g v (o ++ (xs.take 0).flatMap (beB n))) := bx (by simpa using h)
  have C0 : Bx (Ch w w (Fpt g v)) := bx (Ch.refl w)
  clear h hx hX hA hvg ho
  go_enter Try.func41, Try.ntmps41
  go_wp2_with fail
  go_loopw [10] (fun iv wx => ∃ (j : Nat) (vj : Value), j ≤ k ∧ iv = .int .i64 (j : Int) ∧ Bx (Rws 74 5 wx base g vj (o ++ (xs.take j).flatMap (beB n))) ∧ Bx (Ch w wx (Fpt g v)) ∧ Bx (vj.ownBlock = v.ownBlock ∨ ∃ b, vj.ownBlock = some b ∧ w.heap.size ≤ b)) (fun iv _ => k - (intOf iv).toNat)
  case atStart => exact ⟨0, v, by omega, rfl, H0, C0, bx (.inl rfl)⟩
  case round =>
    clear H0 C0
    obtain ⟨j, vj, hj, rfl, HR, HC, HJ⟩ := hrel
    have hwr := HC.out.size
    by_cases hjk : j < k
    · have hjI : (j : Int) < (k : Int) := by omega
      obtain ⟨x, hxx⟩ : ∃ x, xs[j]? = some x := ⟨_, List.getElem?_eq_getElem (by rw [HL.out]; exact hjk)⟩
      have HXX := bx hxx
      have hXr : RL iV wr w.heap.size A xs := HX.out.ch HC.out (Nat.le_refl _) (HA.out (fun e => by have := HL.out; rw [e] at this; simp at this; omega))
      obtain ⟨ad, y, rfl, had, hy, hcy⟩ := RL.atl hXr (k := j) (by rw [HL.out]; exact hjk)
      obtain rfl : x = y := by have := HXX.out.symm.trans hy.out; injection this
      have hc0 : wr.cell? ⟨g, 0, none⟩ = some vj := (HR.out.1.cell 0).trans rfl
      have hgr := HR.out.1.lt
      have hkc : (j : Int) ≤ (c : Int) ∨ True := .inr trivial
      have HPUT := fun w1 => putBe_ok n x w1 h1 h8
      have HP := bx HPUT
      clear hxx hy hXr HPUT hkc
      go_upto_region 3 with (fail)
      have hbase : base ≤ wr.heap.size := by omega
      have hlen : ∀ m, m ≤ k → (o ++ (xs.take m).flatMap (beB n)).length ≤ 1000000000512 := fun m hm => by
        rw [List.length_append, putBs_len, List.length_take]
        have h9 : n * min m xs.length ≤ 8 * 64 := Nat.mul_le_mul h8 (by omega)
        have := HO.out
        omega
      have HLEN := bx hlen
      obtain ⟨ol, hol⟩ : ∃ ol, o ++ (xs.take j).flatMap (beB n) = ol := ⟨_, rfl⟩
      have HOL := bx hol
      have HN : Bx ((ol.length + (beB n x).length) * 1 ≤ 140737488355328) := bx (by rw [← hol, beB_len]; have := HLEN.out j (by omega); omega)
      have hOW : OwB wr base 5 vj ol := by rw [← hol]; exact HR.out.2
      have HOW := bx hOW
      have hVg : Bx (vj.ownBlock ≠ some g) := bx (by rcases HJ.out with e | ⟨b, e, hb9⟩; (rw [e]; exact HV.out); (rw [e]; intro e2; injection e2; omega))
      clear hlen hol hOW
      have hS0 : wr.drew.cell? ⟨g, 0, none⟩ = some vj := hc0
      go_region_law ((first
        | (go_simp; go_at_call 66; refine (HP.out _).mono ?_; rintro e w1 ⟨r, rfl, hr1, hb1⟩; obtain ⟨A1, c1, rfl, hr1, _, _⟩ := hr1.rd; have hc1 : w1.cell? ⟨g, 0, none⟩ = some vj := (hb1.cell (p := ⟨g, 0, none⟩) hgr).trans hc0; have hO1 := (OwL.drew HOW.out).below hb1)
        | (refine step_appL w1 bV_one rfl (.tmp 18) (.tmp 21) rfl byteTyP (by decide) base vj ol rfl hO1 w1.heap.size A1 (beB n x).length c1 (beB n x) rfl rfl hr1 HN.out (Nat.le_trans hbase hb1.size) ?_; intro v5 w5 hO5 hg5 hv5 hb5; obtain ⟨A5, n5, c5, rfl, hn5, hr5⟩ := OwL.sl hO5; have hK5 := ((HR.out.1.drewN 1).below hb1 hgr).grown hg5 (fun e => hVg.out e.symm); have hc5 : w5.cell? ⟨g, 0, none⟩ = some vj := (hK5.cell 0).trans rfl; have hf5 : w5.frozen? ⟨g, 0, none⟩ = false := hK5.frz 0)))
      all_goals (
        obtain ⟨n1, n2, n3⟩ := Rws.next (more := beB n x) HR.out HC.out HJ.out hgw HV.out ⟨hb1.os, hb1.tape, hb1.output, hb1.size, hb1.block⟩ hg5 (by rw [HOL.out]; exact hO5) hv5
        have N1 : Bx (Rws 74 5 (w5.setCell ⟨g, 0, none⟩ (.slice A5 n5 c5)) base g (.slice A5 n5 c5) (o ++ (xs.take (j + 1)).flatMap (beB n))) := bx (by
          rw [take_snoc' HXX.out, List.flatMap_append, ← List.append_assoc]
          simpa using n1)
        have N2 := bx n2
        have N3 := bx n3
        clear n1 n2 n3 hO5 hK5 hg5 hv5 hb5 hb1 hr5 hn5
        go_wp2
        go_roundw
        case rel => exact ⟨j + 1, _, by omega, by go_num, N1, N2, N3⟩
        case measure => simp [intOf]; omega)
    · obtain rfl : j = k := by omega
      have hjI : ¬ (j : Int) < (j : Int) := by omega
      have hF : Bx (Rws 74 5 wr base g vj (o ++ xs.flatMap (beB n))) := bx (by have := HR.out; rwa [List.take_of_length_le (by rw [HL.out]; omega)] at this)
      go_wp2
      go_end0
      exact ⟨⟨_, rfl⟩, vj, hF.out, HC.out, HJ.out⟩
end Go.Proofs.Ytdioijhmmmnbgaa
