/- Plain facts on squeezing: what is put is unpacked again. -/
import Derived.Test.YtbhljigppljjbaaSqzP
import Derived.Test.YtbhljigppljjbaaInfR
namespace Go.Proofs.Ytbhljigppljjbaa

/-- One step of squeezing: a byte as it is, or so many from so far back. -/
inductive Tok where
  | lit (x : UInt8)
  | cpy (n far : Nat)
/-- The class of a value: which, its further bits, how many. -/
def wideF : Nat → Nat → Nat → Nat → Nat
  | 0, _, _, w => w
  | f + 1, v, per, w => if 2 * per ≤ v / 2 ^ w then wideF f v per (w + 1) else w
def wideP (v per : Nat) : Nat := wideF v v per 0
def classP (v per : Nat) : Nat × Nat × Nat := if v < 2 * per then (v, 0, 0) else (per * (wideP v per + 1) + v / 2 ^ wideP v per - per, v % 2 ^ wideP v per, wideP v per)
def fixD : List Nat := List.replicate 32 5
def putLen (S : Pt) (n : Nat) : Pt := if n = 258 then putSym fixLit S 285 else putN (putSym fixLit S (257 + (classP (n - 3) 4).1)) (classP (n - 3) 4).2.2 (classP (n - 3) 4).2.1
def putDst (S : Pt) (far : Nat) : Pt := putN (putSym fixDist S (classP (far - 1) 2).1) (classP (far - 1) 2).2.2 (classP (far - 1) 2).2.1
def putTok (S : Pt) : Tok → Pt
  | .lit x => putSym fixLit S x.toNat
  | .cpy n far => putDst (putLen S n) far
def putAll (S : Pt) (ts : List Tok) : Pt := ts.foldl putTok S
def step (o : List UInt8) : Tok → List UInt8
  | .lit x => o ++ [x]
  | .cpy n far => copyN far n o
def Tok.good (o : List UInt8) (lim : Nat) : Tok → Prop
  | .lit _ => o.length < lim
  | .cpy n far => 3 ≤ n ∧ n ≤ 258 ∧ 1 ≤ far ∧ far ≤ o.length ∧ far ≤ 32768 ∧ o.length + n ≤ lim
/-- Steps that may be taken, one behind the other; what they make. -/
def goodAll (lim : Nat) : List UInt8 → List Tok → Prop
  | _, [] => True
  | o, t :: r => t.good o lim ∧ goodAll lim (step o t) r
def endBits (S : Pt) : Pt := putSym fixLit S 256
theorem lit_len (s : Nat) (h : s < 288) : fixLit.getD s 0 = (if s < 144 then 8 else if s < 256 then 9 else if s < 280 then 7 else 8) := by
  have key : ∀ s, s < 288 → fixLit.getD s 0 = (if s < 144 then 8 else if s < 256 then 9 else if s < 280 then 7 else 8) := by decide +kernel
  exact key s h
theorem lit_n : fixLit.length = 288 := by decide +kernel
theorem dst_n : fixDist.length = 32 := by decide
theorem dst_len (s : Nat) (h : s < 32) : fixDist.getD s 0 = 5 := by
  have key : ∀ s, s < 32 → fixDist.getD s 0 = 5 := by decide +kernel
  exact key s h
theorem code_lit : codeB fixLit false = true := by decide +kernel
theorem code_dst : codeB fixDist true = true := by decide +kernel
theorem code_dst0 : codeB fixDist false = true := by decide +kernel
theorem word_lt {l : List Nat} {lone : Bool} (hc : codeB l lone = true) {s : Nat} (hs : s < l.length) (hm : l.getD s 0 ≠ 0) (h15 : l.getD s 0 ≤ 15) : wordP l s < 2 ^ l.getD s 0 := by
  have h1 : l[s]? = some (l.getD s 0) := by rw [List.getD_eq_getElem?_getD, List.getElem?_eq_getElem hs]; rfl
  exact word_fits (code_kraft hc) h1 hm h15
/-- What stands at the end is what was put, and it is read so. -/
theorem read_sym {l : List Nat} {lone : Bool} (hc : codeB l lone = true) {s : Nat} (hs : s < l.length) (hm : l.getD s 0 ≠ 0) (h15 : l.getD s 0 ≤ 15) {S T : Pt} (hS : S.ok) (e : Ext (putSym l S s) T) {k : Nat} (hk : T.2 ≤ 8 * k) :
    nextP l (bytesV T.1 k) S.2 = .ok (s, (putSym l S s).2) := by
  have hlen : (putSym l S s).2 = S.2 + l.getD s 0 := putW_len _ _ _
  have he := e.1
  rw [hlen] at he ⊢
  refine next_word hs hm (by rw [bytesV_len]; omega) (fun j hj => ?_) (word_lt hc hs hm h15)
  rw [bitAt_bytes (by omega)]
  exact putW_at _ hS _ e j hj
theorem read_num {S T : Pt} (hS : S.ok) {n v : Nat} (hv : v < 2 ^ n) (e : Ext (putN S n v) T) {k : Nat} (hk : T.2 ≤ 8 * k) : tk (bytesV T.1 k) S.2 n = .ok (v, (putN S n v).2) := by
  have he : S.2 + n ≤ T.2 := e.1
  rw [tk, if_pos (by rw [bytesV_len]; omega), takeN_bytes (by omega), putN_at hS e, Nat.mod_eq_of_lt hv]; rfl
theorem wideF_spec : ∀ f v per w, 1 ≤ per → v / 2 ^ w < 2 * per * 2 ^ f → per ≤ v / 2 ^ w → per ≤ v / 2 ^ wideF f v per w ∧ v / 2 ^ wideF f v per w < 2 * per ∧ w ≤ wideF f v per w := by
  intro f
  induction f with
  | zero => intro v per w hp h1 h2; rw [wideF]; exact ⟨h2, by simpa using h1, Nat.le_refl _⟩
  | succ f ih =>
    intro v per w hp h1 h2
    rw [wideF]
    split
    · rename_i h
      have e : v / 2 ^ (w + 1) = v / 2 ^ w / 2 := by rw [Nat.pow_succ, Nat.div_div_eq_div_mul]
      have h3 := ih v per (w + 1) hp (by rw [e]; rw [Nat.pow_succ, ← Nat.mul_assoc] at h1; omega) (by rw [e]; omega)
      exact ⟨h3.1, h3.2.1, by omega⟩
    · exact ⟨h2, by omega, Nat.le_refl _⟩
theorem class_spread {v per : Nat} (hp : 1 ≤ per) : (spreadP (classP v per).1 per).1 + (classP v per).2.1 = v ∧ (spreadP (classP v per).1 per).2 = (classP v per).2.2 ∧ (classP v per).2.1 < 2 ^ (classP v per).2.2 := by
  unfold classP
  by_cases h : v < 2 * per
  · rw [if_pos h]
    unfold spreadP
    rw [if_pos h]
    exact ⟨rfl, rfl, Nat.one_pos⟩
  · rw [if_neg h]
    have h2 : v < 2 ^ v := Nat.lt_two_pow_self
    obtain ⟨s1, s2, _⟩ := wideF_spec v v per 0 hp (by
      rw [Nat.pow_zero, Nat.div_one]
      have : 1 * 2 ^ v ≤ 2 * per * 2 ^ v := Nat.mul_le_mul (by omega) (Nat.le_refl _)
      omega) (by rw [Nat.pow_zero, Nat.div_one]; omega)
    unfold wideP
    generalize hw : wideF v v per 0 = w at s1 s2 ⊢
    have hw1 : 1 ≤ w := by
      rcases Nat.eq_zero_or_pos w with e | e
      · subst e; rw [Nat.pow_zero, Nat.div_one] at s2; omega
      · exact e
    simp only
    generalize hq : v / 2 ^ w = q at s1 s2 ⊢
    have e1 : per * (w + 1) + q - per = per * w + q := by rw [Nat.mul_succ]; omega
    rw [e1]
    have e2 : (per * w + q) / per = w + 1 := by
      rw [Nat.mul_add_div (by omega), Nat.div_eq_of_lt_le (k := 1) (by omega) (by omega)]
    have e3 : (per * w + q) % per = q - per := by
      rw [Nat.mul_add_mod]
      rw [Nat.mod_eq_sub_mod s1, Nat.mod_eq_of_lt (by omega)]
    unfold spreadP
    rw [if_neg (by have : per * 1 ≤ per * w := Nat.mul_le_mul (Nat.le_refl _) hw1; omega), e2, e3]
    simp only
    refine ⟨?_, by omega, Nat.mod_lt _ (Nat.two_pow_pos _)⟩
    rw [show per + (q - per) = q by omega, show w + 1 - 1 = w by omega, ← hq, Nat.mul_comm]
    exact Nat.div_add_mod v (2 ^ w)
theorem class_len : ∀ v, v < 255 → (classP v 4).1 < 28 := by decide +kernel
theorem wide_bd {v per w : Nat} (hp : 1 ≤ per) (h : per ≤ v / 2 ^ w) : 2 ^ w ≤ v := by
  rcases Nat.lt_or_ge v (2 ^ w) with h2 | h2
  · rw [Nat.div_eq_of_lt h2] at h; omega
  · exact h2
theorem class_dst {v : Nat} (hv : v < 32768) : (classP v 2).1 < 30 ∧ (classP v 2).2.2 ≤ 13 := by
  unfold classP
  by_cases h : v < 2 * 2
  · rw [if_pos h]; exact ⟨by show v < 30; omega, by show 0 ≤ 13; omega⟩
  · rw [if_neg h]
    have h2 : v < 2 ^ v := Nat.lt_two_pow_self
    obtain ⟨s1, s2, _⟩ := wideF_spec v v 2 0 (by decide) (by rw [Nat.pow_zero, Nat.div_one]; omega) (by rw [Nat.pow_zero, Nat.div_one]; omega)
    unfold wideP
    generalize wideF v v 2 0 = w at s1 s2 ⊢
    simp only
    have hw : w ≤ 13 := by
      rcases Nat.lt_or_ge 13 w with h3 | h3
      · exfalso
        have h4 : 2 ^ 14 ≤ 2 ^ w := Nat.pow_le_pow_right (by decide) h3
        have h5 : 2 * 2 ^ w ≤ v := by
          have := Nat.mul_le_of_le_div (2 ^ w) 2 v s1
          omega
        omega
      · exact h3
    exact ⟨by omega, hw⟩
theorem putSym_ok {l : List Nat} {S : Pt} (h : S.ok) (s : Nat) : (putSym l S s).ok := putW_ok _ h _
theorem putSym_ext {l : List Nat} {S : Pt} (h : S.ok) (s : Nat) : Ext S (putSym l S s) := putW_ext _ h _
theorem putLen_ok {S : Pt} (h : S.ok) (n : Nat) : (putLen S n).ok := by
  unfold putLen; split
  · exact putSym_ok h _
  · exact putN_ok (putSym_ok h _) _ _
theorem putLen_ext {S : Pt} (h : S.ok) (n : Nat) : Ext S (putLen S n) := by
  unfold putLen; split
  · exact putSym_ext h _
  · exact (putSym_ext h _).trans (putN_ext (putSym_ok h _) _ _)
theorem putDst_ok {S : Pt} (h : S.ok) (n : Nat) : (putDst S n).ok := putN_ok (putSym_ok h _) _ _
theorem putDst_ext {S : Pt} (h : S.ok) (n : Nat) : Ext S (putDst S n) := (putSym_ext h _).trans (putN_ext (putSym_ok h _) _ _)
theorem putTok_ok {S : Pt} (h : S.ok) : ∀ t, (putTok S t).ok
  | .lit _ => putSym_ok h _
  | .cpy n far => putDst_ok (putLen_ok h n) far
theorem putTok_ext {S : Pt} (h : S.ok) : ∀ t, Ext S (putTok S t)
  | .lit _ => putSym_ext h _
  | .cpy n far => (putLen_ext h n).trans (putDst_ext (putLen_ok h n) far)
theorem putAll_ok : ∀ (ts : List Tok) {S : Pt}, S.ok → (putAll S ts).ok
  | [], _, h => h
  | t :: r, _, h => putAll_ok r (putTok_ok h t)
theorem putAll_ext : ∀ (ts : List Tok) {S : Pt}, S.ok → Ext S (putAll S ts)
  | [], _, h => Ext.refl h
  | t :: r, _, h => (putTok_ext h t).trans (putAll_ext r (putTok_ok h t))
/-- A length, read again. -/
theorem read_len {S T : Pt} (hS : S.ok) {n : Nat} (h3 : 3 ≤ n) (h258 : n ≤ 258) (e : Ext (putLen S n) T) {k : Nat} (hk : T.2 ≤ 8 * k) :
    ∃ s p1 m, nextP fixLit (bytesV T.1 k) S.2 = .ok (s, p1) ∧ 257 ≤ s ∧ s ≤ 285 ∧ tk (bytesV T.1 k) p1 (lenP s).2 = .ok (m, (putLen S n).2) ∧ (lenP s).1 + m = n := by
  unfold putLen at e ⊢
  by_cases h : n = 258
  · rw [if_pos h] at e ⊢
    subst h
    refine ⟨285, _, 0, read_sym code_lit (by rw [lit_n]; omega) (by rw [lit_len _ (by omega)]; decide) (by rw [lit_len _ (by omega)]; decide) hS e hk, by omega, by omega, ?_, rfl⟩
    have he := e.1
    rw [show (lenP 285).2 = 0 by rfl, tk, if_pos (by rw [bytesV_len]; omega)]; rfl
  · rw [if_neg h] at e ⊢
    obtain ⟨c1, c2, c3⟩ := class_spread (v := n - 3) (per := 4) (by decide)
    have c4 := class_len (n - 3) (by omega)
    generalize hc : classP (n - 3) 4 = c at e c1 c2 c3 c4 ⊢
    have hs : 257 + c.1 < 288 := by omega
    have e1 := (putN_ext (putSym_ok (l := fixLit) hS (257 + c.1)) c.2.2 c.2.1).trans e
    have hl : lenP (257 + c.1) = ((spreadP c.1 4).1 + 3, (spreadP c.1 4).2) := by
      unfold lenP
      rw [if_neg (by omega), show 257 + c.1 - 257 = c.1 by omega]
    refine ⟨257 + c.1, _, c.2.1, read_sym code_lit (by rw [lit_n]; omega) ?_ ?_ hS e1 hk, by omega, by omega, ?_, ?_⟩
    · rw [lit_len _ hs]; split <;> (try split) <;> (try split) <;> omega
    · rw [lit_len _ hs]; split <;> (try split) <;> (try split) <;> omega
    · rw [hl, c2]; exact read_num (putSym_ok hS _) c3 e hk
    · rw [hl]; simp only; omega
theorem read_dst {S T : Pt} (hS : S.ok) {far : Nat} (h1 : 1 ≤ far) (h2 : far ≤ 32768) (e : Ext (putDst S far) T) {k : Nat} (hk : T.2 ≤ 8 * k) :
    ∃ s p1 m, nextP fixDist (bytesV T.1 k) S.2 = .ok (s, p1) ∧ s ≤ 29 ∧ tk (bytesV T.1 k) p1 (dstP s).2 = .ok (m, (putDst S far).2) ∧ (dstP s).1 + m = far := by
  unfold putDst at e ⊢
  obtain ⟨c1, c2, c3⟩ := class_spread (v := far - 1) (per := 2) (by decide)
  have c4 := class_dst (v := far - 1) (by omega)
  generalize hc : classP (far - 1) 2 = c at e c1 c2 c3 c4 ⊢
  have e1 := (putN_ext (putSym_ok (l := fixDist) hS c.1) c.2.2 c.2.1).trans e
  have hl : dstP c.1 = ((spreadP c.1 2).1 + 1, (spreadP c.1 2).2) := rfl
  refine ⟨c.1, _, c.2.1, read_sym code_dst (by rw [dst_n]; omega) ?_ ?_ hS e1 hk, by omega, ?_, ?_⟩
  · rw [dst_len _ (by omega)]; decide
  · rw [dst_len _ (by omega)]; decide
  · rw [hl, c2]; exact read_num (putSym_ok hS _) c3 e hk
  · rw [hl]; simp only; omega
/-- One step, read again. -/
theorem sym_tok {S T : Pt} (hS : S.ok) {o : List UInt8} {lim : Nat} {t : Tok} (hg : t.good o lim) (e : Ext (putTok S t) T) {k : Nat} (hk : T.2 ≤ 8 * k) (f : Nat) :
    symF fixLit fixDist (bytesV T.1 k) lim (f + 1) S.2 o = symF fixLit fixDist (bytesV T.1 k) lim f (putTok S t).2 (step o t) := by
  cases t with
  | lit x =>
    have hx := x.toNat_lt
    have hr : nextP fixLit (bytesV T.1 k) S.2 = .ok (x.toNat, (putTok S (.lit x)).2) := read_sym code_lit (by rw [lit_n]; omega) (by rw [lit_len _ (by omega)]; split <;> (try split) <;> (try split) <;> omega) (by rw [lit_len _ (by omega)]; split <;> (try split) <;> (try split) <;> omega) hS e hk
    have hgl : o.length < lim := hg
    rw [symF, hr, ok_bind]
    simp only
    rw [if_neg (by omega), if_pos (by omega), if_neg (by omega), UInt8.ofNat_toNat]
    rfl
  | cpy n far =>
    obtain ⟨g1, g2, g3, g4, g5, g6⟩ := hg
    have e1 : Ext (putLen S n) T := (putDst_ext (putLen_ok hS n) far).trans e
    obtain ⟨s, p1, m, r1, r2, r3, r4, r5⟩ := read_len hS g1 g2 e1 hk
    obtain ⟨s', p1', m', q1, q2, q3, q4⟩ := read_dst (putLen_ok hS n) g3 g5 e hk
    rw [symF, r1, ok_bind]
    simp only
    rw [if_neg (by omega), if_neg (by omega), if_neg (by omega), r4, ok_bind]
    simp only
    rw [q1, ok_bind]
    simp only
    rw [if_neg (by omega), q3, ok_bind]
    simp only
    rw [if_neg (by omega), if_neg (by omega), q4, r5]
    rfl
theorem sym_all : ∀ (ts : List Tok) {S T : Pt} (_ : S.ok) {o : List UInt8} {lim : Nat} (_ : goodAll lim o ts) (_ : Ext (endBits (putAll S ts)) T) {k : Nat} (_ : T.2 ≤ 8 * k) (f : Nat), ts.length < f →
    symF fixLit fixDist (bytesV T.1 k) lim f S.2 o = .ok (ts.foldl step o, (endBits (putAll S ts)).2) := by
  intro ts
  induction ts with
  | nil =>
    intro S T hS o lim _ e k hk f hf
    obtain ⟨f, rfl⟩ : ∃ g, f = g + 1 := ⟨f - 1, by simp at hf; omega⟩
    have hr := read_sym code_lit (s := 256) (by rw [lit_n]; omega) (by rw [lit_len _ (by omega)]; decide) (by rw [lit_len _ (by omega)]; decide) hS e hk
    rw [symF, hr, ok_bind]
    simp only
    rw [if_pos trivial]; rfl
  | cons t r ih =>
    intro S T hS o lim hg e k hk f hf
    obtain ⟨f, rfl⟩ : ∃ g, f = g + 1 := ⟨f - 1, by simp at hf; omega⟩
    have e1 : Ext (putTok S t) T := ((putAll_ext r (putTok_ok hS t)).trans (putSym_ext (putAll_ok r (putTok_ok hS t)) 256)).trans e
    rw [sym_tok hS hg.1 e1 hk f]
    exact ih (putTok_ok hS t) hg.2 e hk f (by simp at hf; omega)
/-- All that squeezing makes. -/
def startP : Pt := (3, 3)
theorem start_ok : startP.ok := by unfold Pt.ok startP; decide
def allBits (ts : List Tok) : Pt := endBits (putAll startP ts)
def packP (ts : List Tok) : List UInt8 := bytesV (allBits ts).1 (((allBits ts).2 + 7) / 8)
theorem infl_pack {ts : List Tok} {lim : Nat} (hl : lim ≤ 32768) (hg : goodAll lim [] ts) (hn : ts.length ≤ (allBits ts).2) : inflP (packP ts) (lim : Int) = .ok (ts.foldl step [], (packP ts).length) := by
  have hok : (allBits ts).ok := putSym_ok (putAll_ok ts start_ok) 256
  have e0 : Ext (endBits (putAll startP ts)) (allBits ts) := Ext.refl hok
  have es : Ext startP (allBits ts) := (putAll_ext ts start_ok).trans (putSym_ext (putAll_ok ts start_ok) 256)
  have hk : (allBits ts).2 ≤ 8 * (((allBits ts).2 + 7) / 8) := by omega
  have h3 : 3 ≤ (allBits ts).2 := es.1
  have hlen : (packP ts).length = ((allBits ts).2 + 7) / 8 := bytesV_len _ _
  have hs := sym_all ts start_ok hg e0 hk (8 * (packP ts).length + 1) (by rw [hlen]; omega)
  have hv : (allBits ts).1 % 8 = 3 := es.2
  have v1 : (allBits ts).1 / 2 ^ 0 % 2 ^ 1 = 1 := by rw [Nat.pow_zero, Nat.div_one]; omega
  have v2 : (allBits ts).1 / 2 ^ 1 % 2 ^ 2 = 1 := by omega
  have t1 : tk (packP ts) 0 1 = .ok (1, 1) := by
    rw [tk, if_pos (by rw [hlen]; omega)]
    unfold packP
    rw [takeN_bytes (by omega), v1]
  have t2 : tk (packP ts) 1 2 = .ok (1, 3) := by
    rw [tk, if_pos (by rw [hlen]; omega)]
    unfold packP
    rw [takeN_bytes (by omega), v2]
  unfold inflP
  rw [if_neg (by omega), Int.toNat_natCast]
  unfold allP
  rw [allB_eq, t1, ok_bind]
  simp only
  rw [t2, ok_bind]
  simp only
  rw [bodyP, if_neg (by decide), if_neg (by decide), if_neg (by decide), codedP, if_neg (by rw [code_lit]; decide), if_neg (by rw [code_dst]; decide)]
  unfold symP
  have hs' : symF fixLit fixDist (packP ts) lim (8 * (packP ts).length + 1) 3 [] = .ok (ts.foldl step [], (allBits ts).2) := hs
  rw [hs', ok_bind]
  simp only
  rw [if_pos trivial, ok_bind, hlen]
end Go.Proofs.Ytbhljigppljjbaa
