/- Plain facts on bits that are put behind one another: a number and how many bits it has. -/
import Derived.Test.YtbhljigppljjbaaBitP
import Derived.Test.YtbhljigppljjbaaPfxQ
import Derived.Test.YtbhljigppljjbaaInfP
namespace Go.Proofs.Ytbhljigppljjbaa

/-- A number's bytes, the least first. -/
def bytesV (V k : Nat) : List UInt8 := (List.range k).map fun i => UInt8.ofNat (V / 256 ^ i)
theorem bytesV_len (V k : Nat) : (bytesV V k).length = k := by unfold bytesV; simp
theorem bytesV_at {V k i : Nat} (h : i < k) : (bytesV V k).getD i 0 = UInt8.ofNat (V / 256 ^ i) := by
  unfold bytesV
  rw [List.getD_eq_getElem?_getD, List.getElem?_map, List.getElem?_range h]; rfl
theorem bitAt_bytes {V k i : Nat} (h : i < 8 * k) : bitAt (bytesV V k) i = V / 2 ^ i % 2 := by
  unfold bitAt
  rw [bytesV_at (by omega), UInt8.toNat_ofNat']
  have e : i = 8 * (i / 8) + i % 8 := by omega
  generalize i / 8 = a at e ⊢
  have hb : i % 8 < 8 := Nat.mod_lt _ (by decide)
  generalize i % 8 = b at e hb ⊢
  subst e
  rw [Nat.pow_add, ← Nat.div_div_eq_div_mul, show (2 : Nat) ^ (8 * a) = 256 ^ a by rw [Nat.pow_mul]]
  generalize V / 256 ^ a = x
  have h2 : 2 ^ 8 = 2 ^ b * 2 ^ (8 - b) := by rw [← Nat.pow_add]; congr 1; omega
  rw [h2, Nat.mod_mul_right_div_self]
  have h3 : 2 ^ (8 - b) = 2 * 2 ^ (7 - b) := by rw [← Nat.pow_succ', show 8 - b = (7 - b) + 1 by omega]
  rw [h3, Nat.mod_mul_right_mod]
theorem takeN_bytes {V k a n : Nat} (h : a + n ≤ 8 * k) : takeN (bytesV V k) a n = V / 2 ^ a % 2 ^ n := by
  induction n with
  | zero => simp [takeN, Nat.mod_one]
  | succ n ih =>
    rw [takeN, ih (by omega), bitAt_bytes (by omega), Nat.pow_add, ← Nat.div_div_eq_div_mul, Nat.mod_pow_succ]
/-- What was put: a number, and how many bits. -/
abbrev Pt := Nat × Nat
def Pt.ok (S : Pt) : Prop := S.1 < 2 ^ S.2
def putN (S : Pt) (n v : Nat) : Pt := (S.1 + v % 2 ^ n * 2 ^ S.2, S.2 + n)
/-- T goes on where S stopped. -/
def Ext (S T : Pt) : Prop := S.2 ≤ T.2 ∧ T.1 % 2 ^ S.2 = S.1
theorem Ext.refl {S : Pt} (h : S.ok) : Ext S S := ⟨Nat.le_refl _, Nat.mod_eq_of_lt h⟩
theorem Ext.trans {S T U : Pt} (h : Ext S T) (k : Ext T U) : Ext S U := by
  refine ⟨Nat.le_trans h.1 k.1, ?_⟩
  rw [← h.2, ← k.2]
  have e : 2 ^ T.2 = 2 ^ S.2 * 2 ^ (T.2 - S.2) := by rw [← Nat.pow_add]; congr 1; have := h.1; omega
  rw [e, Nat.mod_mul_right_mod]
theorem putN_ok {S : Pt} (h : S.ok) (n v : Nat) : (putN S n v).ok := by
  unfold Pt.ok putN at *
  simp only
  have h1 : v % 2 ^ n < 2 ^ n := Nat.mod_lt _ (Nat.two_pow_pos n)
  have h2 : v % 2 ^ n * 2 ^ S.2 ≤ (2 ^ n - 1) * 2 ^ S.2 := Nat.mul_le_mul (by omega) (Nat.le_refl _)
  rw [Nat.sub_mul, Nat.one_mul] at h2
  have h3 : 2 ^ S.2 ≤ 2 ^ n * 2 ^ S.2 := Nat.le_mul_of_pos_left _ (Nat.two_pow_pos n)
  rw [Nat.pow_add, Nat.mul_comm (2 ^ S.2)]; omega
theorem putN_ext {S : Pt} (h : S.ok) (n v : Nat) : Ext S (putN S n v) := by
  refine ⟨Nat.le_add_right _ _, ?_⟩
  unfold putN
  simp only
  rw [Nat.add_mul_mod_self_right]; exact Nat.mod_eq_of_lt h
/-- What stands where it was put. -/
theorem putN_at {S T : Pt} (h : S.ok) {n v : Nat} (e : Ext (putN S n v) T) : T.1 / 2 ^ S.2 % 2 ^ n = v % 2 ^ n := by
  have h1 : T.1 % 2 ^ (S.2 + n) = S.1 + v % 2 ^ n * 2 ^ S.2 := e.2
  have h2 : T.1 / 2 ^ S.2 % 2 ^ n = T.1 % 2 ^ (S.2 + n) / 2 ^ S.2 := by rw [Nat.pow_add, Nat.mod_mul_right_div_self]
  rw [h2, h1, Nat.add_mul_div_right _ _ (Nat.two_pow_pos _), Nat.div_eq_of_lt h, Nat.zero_add]
/-- A word of n bits, its highest bit first. -/
def putW : Nat → Pt → Nat → Pt
  | 0, S, _ => S
  | k + 1, S, w => putW k (putN S 1 (w / 2 ^ k)) w
theorem putW_ok : ∀ (n : Nat) {S : Pt} (_ : S.ok) (w : Nat), (putW n S w).ok
  | 0, _, h, _ => h
  | n + 1, _, h, w => putW_ok n (putN_ok h 1 _) w
theorem putW_ext : ∀ (n : Nat) {S : Pt} (_ : S.ok) (w : Nat), Ext S (putW n S w)
  | 0, _, h, _ => Ext.refl h
  | n + 1, _, h, w => (putN_ext h 1 _).trans (putW_ext n (putN_ok h 1 _) w)
theorem putW_len : ∀ (n : Nat) (S : Pt) (w : Nat), (putW n S w).2 = S.2 + n
  | 0, _, _ => rfl
  | n + 1, S, w => by rw [putW, putW_len n, putN]; simp only; omega
theorem putW_at : ∀ (n : Nat) {S T : Pt} (_ : S.ok) (w : Nat), Ext (putW n S w) T → ∀ j, j < n → T.1 / 2 ^ (S.2 + j) % 2 = w / 2 ^ (n - 1 - j) % 2
  | 0, _, _, _, _, _, j, hj => absurd hj (Nat.not_lt_zero _)
  | n + 1, S, T, h, w, e, j, hj => by
    cases j with
    | zero =>
      have := putN_at (n := 1) (v := w / 2 ^ n) h ((putW_ext n (putN_ok h 1 _) w).trans e)
      simpa using this
    | succ j =>
      have := putW_at n (putN_ok h 1 (w / 2 ^ n)) w e j (by omega)
      have e1 : (putN S 1 (w / 2 ^ n)).2 + j = S.2 + (j + 1) := by unfold putN; simp only; omega
      rw [e1] at this
      rw [this, show n + 1 - 1 - (j + 1) = n - 1 - j by omega]
/-- A symbol's word in a code. -/
def wordP (l : List Nat) (s : Nat) : Nat := firstP l (l.getD s 0) + (symsP l s (l.getD s 0)).length
def putSym (l : List Nat) (S : Pt) (s : Nat) : Pt := putW (l.getD s 0) S (wordP l s)
theorem first_mono (l : List Nat) (i d : Nat) : 2 ^ (d + 1) * (firstP l i + cntP l i) ≤ firstP l (i + (d + 1)) := by
  induction d with
  | zero => simp [firstP]
  | succ d ih =>
    rw [Nat.pow_succ, Nat.mul_comm (2 ^ (d + 1)) 2, Nat.mul_assoc, show i + (d + 1 + 1) = (i + (d + 1)) + 1 by omega, firstP]
    omega
theorem symK_later {l : List Nat} {s m : Nat} (hs : l[s]? = some m) (hm : m ≠ 0) : ∀ d, s + 1 + d ≤ l.length → symK l (s + 1 + d) m (firstP l m + (symsP l s m).length) = some s := by
  intro d
  induction d with
  | zero => intro _; exact symK_same hs hm
  | succ d ih =>
    intro h
    have hk : s + 1 + d < l.length := by omega
    have hlen : (symsP l s m).length < (symsP l (s + 1 + d) m).length := by
      clear ih h hk
      induction d with
      | zero => rw [Nat.add_zero, symsP_len_succ hs, if_pos rfl]; omega
      | succ d ih =>
        have : (symsP l (s + 1 + d) m).length ≤ (symsP l (s + 1 + (d + 1)) m).length := by
          rw [show s + 1 + (d + 1) = (s + 1 + d) + 1 by omega, symsP_succ, List.length_append]; omega
        omega
    rw [show s + 1 + (d + 1) = (s + 1 + d) + 1 by omega, symK_other (List.getElem?_eq_getElem hk) (fun e => ?_)]
    · exact ih (by omega)
    · obtain ⟨e1, e2⟩ := e
      rw [← e1] at e2
      omega
theorem symAt_word {l : List Nat} {s : Nat} (hs : s < l.length) (hm : l.getD s 0 ≠ 0) : symAt l (l.getD s 0) (wordP l s) = some s := by
  have h1 : l[s]? = some (l.getD s 0) := by rw [List.getD_eq_getElem?_getD, List.getElem?_eq_getElem hs]; rfl
  have := symK_later h1 hm (l.length - (s + 1)) (by omega)
  rw [show s + 1 + (l.length - (s + 1)) = l.length by omega] at this
  exact this
theorem symAt_part {l : List Nat} {s i : Nat} (hi : 1 ≤ i) (him : i < l.getD s 0) : symAt l i (wordP l s / 2 ^ (l.getD s 0 - i)) = none := by
  unfold symAt symK
  rw [if_neg (by omega)]
  have h1 := first_mono l i (l.getD s 0 - i - 1)
  rw [show l.getD s 0 - i - 1 + 1 = l.getD s 0 - i by omega, show i + (l.getD s 0 - i) = l.getD s 0 by omega] at h1
  have h2 : firstP l i + cntP l i ≤ wordP l s / 2 ^ (l.getD s 0 - i) := by
    rw [Nat.le_div_iff_mul_le (Nat.two_pow_pos _), Nat.mul_comm]
    unfold wordP; omega
  rw [if_pos (by omega)]
  rw [List.getElem?_eq_none]
  rw [symsP_len]
  unfold cntP at h2
  rw [if_neg (by omega)] at h2
  omega
theorem most_ge {l : List Nat} {s : Nat} (hs : s < l.length) : l.getD s 0 ≤ mostP l := by
  have key : ∀ (l : List Nat) (a : Nat), (∀ x ∈ l, x ≤ l.foldl max a) ∧ a ≤ l.foldl max a := by
    intro l
    induction l with
    | nil => intro a; exact ⟨(fun x hx => by cases hx), Nat.le_refl _⟩
    | cons b r ih =>
      intro a
      obtain ⟨h1, h2⟩ := ih (max a b)
      refine ⟨fun x hx => ?_, by rw [List.foldl_cons]; omega⟩
      rw [List.foldl_cons]
      rcases List.mem_cons.1 hx with rfl | h
      · omega
      · exact h1 x h
  have h1 : l.getD s 0 = l[s] := by rw [List.getD_eq_getElem?_getD, List.getElem?_eq_getElem hs]; rfl
  rw [h1]
  exact (key l 0).1 _ (List.getElem_mem hs)
/-- A symbol's word is read as the symbol. -/
theorem next_word {l : List Nat} {b : List UInt8} {s p : Nat} (hs : s < l.length) (hm : l.getD s 0 ≠ 0) (hp : p + l.getD s 0 ≤ 8 * b.length) (hb : ∀ j, j < l.getD s 0 → bitAt b (p + j) = wordP l s / 2 ^ (l.getD s 0 - 1 - j) % 2) (hw : wordP l s < 2 ^ l.getD s 0) :
    nextP l b p = .ok (s, p + l.getD s 0) := by
  have hmost := most_ge hs
  have key : ∀ d j, j + (d + 1) = l.getD s 0 → nextF l b (mostP l - j) j (wordP l s / 2 ^ (l.getD s 0 - j)) (p + j) = .ok (s, p + l.getD s 0) := by
    intro d
    induction d with
    | zero =>
      intro j hj
      obtain ⟨f, hf⟩ : ∃ f, mostP l - j = f + 1 := ⟨mostP l - j - 1, by omega⟩
      rw [hf, nextF, if_pos (by omega), hb j (by omega)]
      have e : 2 * (wordP l s / 2 ^ (l.getD s 0 - j)) + wordP l s / 2 ^ (l.getD s 0 - 1 - j) % 2 = wordP l s := by
        rw [show l.getD s 0 - j = 1 by omega, show l.getD s 0 - 1 - j = 0 by omega]; simp; omega
      rw [e, show j + 1 = l.getD s 0 by omega, symAt_word hs hm]
      simp only
      rw [show p + j + 1 = p + l.getD s 0 by omega]
    | succ d ih =>
      intro j hj
      obtain ⟨f, hf⟩ : ∃ f, mostP l - j = f + 1 := ⟨mostP l - j - 1, by omega⟩
      rw [hf, nextF, if_pos (by omega), hb j (by omega)]
      have e : 2 * (wordP l s / 2 ^ (l.getD s 0 - j)) + wordP l s / 2 ^ (l.getD s 0 - 1 - j) % 2 = wordP l s / 2 ^ (l.getD s 0 - (j + 1)) := by
        rw [show l.getD s 0 - j = (l.getD s 0 - (j + 1)) + 1 by omega, show l.getD s 0 - 1 - j = l.getD s 0 - (j + 1) by omega, Nat.pow_succ, ← Nat.div_div_eq_div_mul]
        omega
      rw [e, symAt_part (by omega) (by omega)]
      simp only
      have := ih (j + 1) (by omega)
      rw [show mostP l - (j + 1) = f by omega, show p + (j + 1) = p + j + 1 by omega] at this
      exact this
  have := key (l.getD s 0 - 1) 0 (by omega)
  rw [Nat.sub_zero, Nat.sub_zero, Nat.add_zero, Nat.div_eq_of_lt hw] at this
  exact this
end Go.Proofs.Ytbhljigppljjbaa
