/- Plain facts on squeezing: which steps are taken. -/
import Derived.Test.YtbhljigppljjbaaSqzD
namespace Go.Proofs.Ytbhljigppljjbaa

def keyB (b : List UInt8) (i : Nat) : List UInt8 := (b.drop i).take 3
/-- The last place ahead of i at which three bytes stand. -/
def lastK (b : List UInt8) : Nat → List UInt8 → Option Nat
  | 0, _ => none
  | i + 1, k => if i + 3 ≤ b.length ∧ keyB b i = k then some i else lastK b i k
/-- How many bytes are alike. -/
def matF (b : List UInt8) (i at_ : Nat) : Nat → Nat → Nat
  | 0, n => n
  | f + 1, n => if i + n < b.length ∧ b.getD (i + n) 0 = b.getD (at_ + n) 0 then matF b i at_ f (n + 1) else n
def matB (b : List UInt8) (i at_ : Nat) : Nat := matF b i at_ 258 0
def pick (b : List UInt8) (i n far : Nat) : Tok := if n < 3 ∨ (n = 3 ∧ 4096 < far) then .lit (b.getD i 0) else .cpy n far
def tokAt (b : List UInt8) (i : Nat) : Tok :=
  if i + 3 ≤ b.length then (match lastK b i (keyB b i) with
    | some at_ => pick b i (matB b i at_) (i - at_)
    | none => .lit (b.getD i 0))
  else .lit (b.getD i 0)
def Tok.wide : Tok → Nat
  | .lit _ => 1
  | .cpy n _ => n
def toksF (b : List UInt8) : Nat → Nat → List Tok
  | 0, _ => []
  | f + 1, i => if i < b.length then tokAt b i :: toksF b f (i + (tokAt b i).wide) else []
def toksB (b : List UInt8) : List Tok := toksF b b.length 0
theorem lastK_some {b : List UInt8} {k : List UInt8} : ∀ {i a}, lastK b i k = some a → a < i ∧ a + 3 ≤ b.length ∧ keyB b a = k := by
  intro i
  induction i with
  | zero => intro a h; cases h
  | succ i ih =>
    intro a h
    rw [lastK] at h
    split at h
    · rename_i hc
      injection h with h
      subst h
      exact ⟨by omega, hc.1, hc.2⟩
    · obtain ⟨h1, h2, h3⟩ := ih h
      exact ⟨by omega, h2, h3⟩
theorem matF_spec (b : List UInt8) (i a : Nat) : ∀ f n, i + n ≤ b.length → (∀ j, j < n → b.getD (i + j) 0 = b.getD (a + j) 0) → n ≤ matF b i a f n ∧ matF b i a f n ≤ n + f ∧ i + matF b i a f n ≤ b.length ∧ ∀ j, j < matF b i a f n → b.getD (i + j) 0 = b.getD (a + j) 0 := by
  intro f
  induction f with
  | zero => intro n h1 h2; rw [matF]; exact ⟨Nat.le_refl _, Nat.le_refl _, h1, h2⟩
  | succ f ih =>
    intro n h1 h2
    rw [matF]
    split
    · rename_i hc
      obtain ⟨a1, a2, a3, a4⟩ := ih (n + 1) (by omega) (fun j hj => by
        rcases Nat.lt_or_ge j n with h | h
        · exact h2 j h
        · obtain rfl : j = n := by omega
          exact hc.2)
      exact ⟨by omega, by omega, a3, a4⟩
    · exact ⟨Nat.le_refl _, by omega, h1, h2⟩
theorem take_succ_getD {b : List UInt8} {i : Nat} (h : i < b.length) : b.take (i + 1) = b.take i ++ [b.getD i 0] := by
  rw [List.take_add_one, List.getElem?_eq_getElem h, List.getD_eq_getElem?_getD, List.getElem?_eq_getElem h]; rfl
theorem copyN_take (b : List UInt8) (far : Nat) : ∀ (n i a : Nat), a + far = i → 1 ≤ far → i + n ≤ b.length → (∀ j, j < n → b.getD (i + j) 0 = b.getD (a + j) 0) → copyN far n (b.take i) = b.take (i + n) := by
  intro n
  induction n with
  | zero => intro i a _ _ _ _; rfl
  | succ n ih =>
    intro i a h1 h2 h3 h4
    have hl : (b.take i).length = i := by rw [List.length_take]; omega
    rw [copyN, hl, show i - far = a by omega]
    have e : (b.take i).getD a 0 = b.getD i 0 := by
      rw [List.getD_eq_getElem?_getD, List.getElem?_take, if_pos (by omega), ← List.getD_eq_getElem?_getD]
      have := h4 0 (by omega)
      simpa using this.symm
    rw [e, ← take_succ_getD (by omega), ih (i + 1) (a + 1) (by omega) h2 (by omega) (fun j hj => by
      have := h4 (j + 1) (by omega)
      rw [show i + 1 + j = i + (j + 1) by omega, show a + 1 + j = a + (j + 1) by omega]; exact this)]
    rw [show i + 1 + n = i + (n + 1) by omega]
theorem lit_step {b : List UInt8} {i lim : Nat} (h : i < b.length) (hl : b.length ≤ lim) : Tok.good (b.take i) lim (.lit (b.getD i 0)) ∧ step (b.take i) (.lit (b.getD i 0)) = b.take (i + 1) := by
  have hlen : (b.take i).length = i := by rw [List.length_take]; omega
  exact ⟨by show (b.take i).length < lim; omega, (take_succ_getD h).symm⟩
theorem tokAt_step {b : List UInt8} {i lim : Nat} (h : i < b.length) (hl : b.length ≤ lim) (h32 : b.length ≤ 32768) :
    (tokAt b i).good (b.take i) lim ∧ step (b.take i) (tokAt b i) = b.take (i + (tokAt b i).wide) ∧ i + (tokAt b i).wide ≤ b.length ∧ 1 ≤ (tokAt b i).wide := by
  have hlen : (b.take i).length = i := by rw [List.length_take]; omega
  have hlit := lit_step h hl
  unfold tokAt
  split
  · split
    · rename_i a ha
      obtain ⟨h1, h2, _⟩ := lastK_some ha
      obtain ⟨m1, m2, m3, m4⟩ := matF_spec b i a 258 0 (by omega) (fun j hj => by omega)
      unfold pick
      split
      · exact ⟨hlit.1, hlit.2, h, Nat.le_refl _⟩
      · rename_i hn
        unfold matB at hn ⊢
        refine ⟨⟨by omega, by omega, by omega, by omega, by omega, by omega⟩, ?_, m3, ?_⟩
        · exact copyN_take b (i - a) _ i a (by omega) (by omega) m3 m4
        · show 1 ≤ matF b i a 258 0; omega
    · exact ⟨hlit.1, hlit.2, h, Nat.le_refl _⟩
  · exact ⟨hlit.1, hlit.2, h, Nat.le_refl _⟩
theorem toksF_all {b : List UInt8} {lim : Nat} (hl : b.length ≤ lim) (h32 : b.length ≤ 32768) : ∀ f i, i ≤ b.length → b.length - i ≤ f → goodAll lim (b.take i) (toksF b f i) ∧ (toksF b f i).foldl step (b.take i) = b := by
  intro f
  induction f with
  | zero =>
    intro i h1 h2
    rw [toksF]
    refine ⟨trivial, ?_⟩
    rw [List.foldl_nil]; exact List.take_of_length_le (by omega)
  | succ f ih =>
    intro i h1 h2
    rw [toksF]
    split
    · rename_i h
      obtain ⟨g1, g2, g3, g4⟩ := tokAt_step h hl h32
      obtain ⟨k1, k2⟩ := ih (i + (tokAt b i).wide) g3 (by omega)
      refine ⟨⟨g1, by rw [g2]; exact k1⟩, ?_⟩
      rw [List.foldl_cons, g2]; exact k2
    · refine ⟨trivial, ?_⟩
      rw [List.foldl_nil]; exact List.take_of_length_le (by omega)
theorem sym_len' (l : List Nat) (S : Pt) (s : Nat) : (putSym l S s).2 = S.2 + l.getD s 0 := putW_len _ _ _
theorem wide_len : ∀ v, v < 255 → (classP v 4).2.2 ≤ 5 ∧ (v = 0 → classP v 4 = (0, 0, 0)) := by decide +kernel
/-- No step takes more than nine bits for each of its bytes. -/
theorem tok_bits {o : List UInt8} {lim : Nat} {t : Tok} (hg : t.good o lim) (S : Pt) : S.2 + 1 ≤ (putTok S t).2 ∧ (putTok S t).2 ≤ S.2 + 9 * t.wide ∧ (putTok S t).2 ≤ S.2 + 31 := by
  cases t with
  | lit x =>
    have hx := x.toNat_lt
    have e : (putTok S (.lit x)).2 = S.2 + fixLit.getD x.toNat 0 := sym_len' _ _ _
    rw [e, lit_len _ (by omega)]
    show _ ∧ _ ≤ S.2 + 9 * 1 ∧ _
    split <;> (try split) <;> (try split) <;> omega
  | cpy n far =>
    obtain ⟨g1, g2, g3, g4, g5, g6⟩ := hg
    have hd := class_dst (v := far - 1) (by omega)
    have e2 : (putTok S (.cpy n far)).2 = (putLen S n).2 + 5 + (classP (far - 1) 2).2.2 := by
      show (putN (putSym fixDist (putLen S n) (classP (far - 1) 2).1) _ _).2 = _
      show (putSym fixDist (putLen S n) (classP (far - 1) 2).1).2 + _ = _
      rw [sym_len', dst_len _ (by omega)]
    have e1 : S.2 + 1 ≤ (putLen S n).2 ∧ (putLen S n).2 ≤ S.2 + 13 ∧ (n = 3 → (putLen S n).2 = S.2 + 7) := by
      unfold putLen
      by_cases h : n = 258
      · have e8 : fixLit.getD 285 0 = 8 := by rw [lit_len _ (by omega)]; rfl
        rw [if_pos h, sym_len', e8]; omega
      · rw [if_neg h]
        have hc := class_len (n - 3) (by omega)
        have hw := wide_len (n - 3) (by omega)
        show S.2 + 1 ≤ (putSym fixLit S (257 + (classP (n - 3) 4).1)).2 + (classP (n - 3) 4).2.2 ∧ (putSym fixLit S (257 + (classP (n - 3) 4).1)).2 + (classP (n - 3) 4).2.2 ≤ S.2 + 13 ∧ (n = 3 → (putSym fixLit S (257 + (classP (n - 3) 4).1)).2 + (classP (n - 3) 4).2.2 = S.2 + 7)
        rw [sym_len', lit_len _ (by omega)]
        refine ⟨?_, ?_, fun h3 => ?_⟩
        · split <;> (try split) <;> (try split) <;> omega
        · split <;> (try split) <;> (try split) <;> omega
        · have h0 := hw.2 (by omega)
          rw [h0]
          simp
    rw [e2]
    show _ ∧ _ ≤ S.2 + 9 * n ∧ _
    refine ⟨by omega, ?_, by omega⟩
    rcases (by omega : n = 3 ∨ 4 ≤ n) with h | h
    · have := e1.2.2 h; omega
    · omega
theorem toks_bits {b : List UInt8} {lim : Nat} (hl : b.length ≤ lim) (h32 : b.length ≤ 32768) : ∀ f i (S : Pt), i ≤ b.length → b.length - i ≤ f → S.2 + (toksF b f i).length ≤ (putAll S (toksF b f i)).2 ∧ (putAll S (toksF b f i)).2 ≤ S.2 + 9 * (b.length - i) := by
  intro f
  induction f with
  | zero => intro i S h1 h2; rw [toksF]; exact ⟨Nat.le_refl _, by show S.2 ≤ _; omega⟩
  | succ f ih =>
    intro i S h1 h2
    rw [toksF]
    split
    · rename_i h
      obtain ⟨g1, g2, g3, g4⟩ := tokAt_step h hl h32
      obtain ⟨t1, t2, _⟩ := tok_bits g1 S
      obtain ⟨k1, k2⟩ := ih (i + (tokAt b i).wide) (putTok S (tokAt b i)) g3 (by omega)
      show S.2 + (List.length _ + 1) ≤ (putAll (putTok S (tokAt b i)) _).2 ∧ (putAll (putTok S (tokAt b i)) _).2 ≤ _
      omega
    · exact ⟨Nat.le_refl _, by show S.2 ≤ _; omega⟩
/-- What squeezing makes of bytes. -/
def sqzP (b : List UInt8) : List UInt8 := packP (toksB b)
theorem sqz_bits {b : List UInt8} (h32 : b.length ≤ 32768) : (allBits (toksB b)).2 ≤ 9 * b.length + 10 ∧ (toksB b).length ≤ (allBits (toksB b)).2 := by
  have h := toks_bits (Nat.le_refl b.length) h32 b.length 0 startP (by omega) (by omega)
  have e7 : fixLit.getD 256 0 = 7 := by rw [lit_len _ (by omega)]; rfl
  unfold allBits endBits
  rw [sym_len', e7]
  have h3 : startP.2 = 3 := rfl
  unfold toksB
  omega
theorem sqz_len {b : List UInt8} (h32 : b.length ≤ 32768) : (sqzP b).length ≤ (9 * b.length + 17) / 8 ∧ 1 ≤ (sqzP b).length := by
  have h := sqz_bits h32
  have e : (sqzP b).length = ((allBits (toksB b)).2 + 7) / 8 := bytesV_len _ _
  have h7 : 7 ≤ (allBits (toksB b)).2 := by
    have e7 : fixLit.getD 256 0 = 7 := by rw [lit_len _ (by omega)]; rfl
    unfold allBits endBits
    rw [sym_len', e7]; omega
  rw [e]; omega
theorem sqz_back {b : List UInt8} (h32 : b.length ≤ 32768) {lim : Nat} (hl : b.length ≤ lim) (hl2 : lim ≤ 32768) : inflP (sqzP b) (lim : Int) = .ok (b, (sqzP b).length) := by
  have h := toksF_all hl h32 b.length 0 (by omega) (by omega)
  rw [List.take_zero] at h
  have := infl_pack hl2 h.1 (sqz_bits h32).2
  rw [h.2] at this
  exact this
theorem sqz_inj {a b : List UInt8} (ha : a.length ≤ 32768) (hb : b.length ≤ 32768) (h : sqzP a = sqzP b) : a = b := by
  have h1 := sqz_back ha (lim := 32768) ha (Nat.le_refl _)
  have h2 := sqz_back hb (lim := 32768) hb (Nat.le_refl _)
  rw [h, h2] at h1
  injection h1 with h1
  injection h1 with h1 _
  exact h1.symm
end Go.Proofs.Ytbhljigppljjbaa
