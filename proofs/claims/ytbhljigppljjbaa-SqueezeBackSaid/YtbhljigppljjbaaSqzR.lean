/- Bytes that are all one: how few they become. -/
import Derived.Test.YtbhljigppljjbaaSqzG
namespace Go.Proofs.Ytbhljigppljjbaa

theorem rep_get (n : Nat) (c : UInt8) {i : Nat} (h : i < n) : (List.replicate n c).getD i 0 = c := by
  rw [List.getD_eq_getElem?_getD, List.getElem?_replicate, if_pos h]; rfl
theorem rep_key (n : Nat) (c : UInt8) {i : Nat} (h : i + 3 ≤ n) : keyB (List.replicate n c) i = [c, c, c] := by
  unfold keyB
  rw [List.drop_replicate, List.take_replicate, show min 3 (n - i) = 3 by omega]; rfl
theorem rep_last (n : Nat) (c : UInt8) {i : Nat} (h : i + 1 + 3 ≤ n) : lastK (List.replicate n c) (i + 1) (keyB (List.replicate n c) (i + 1)) = some i := by
  rw [lastK, if_pos ⟨by rw [List.length_replicate]; omega, by rw [rep_key n c (by omega), rep_key n c (by omega)]⟩]
theorem rep_matF (n : Nat) (c : UInt8) (i : Nat) : ∀ f m, i + 1 + m ≤ n → matF (List.replicate n c) (i + 1) i f m = min (m + f) (n - (i + 1)) := by
  intro f
  induction f with
  | zero => intro m h; rw [matF]; omega
  | succ f ih =>
    intro m h
    rw [matF, List.length_replicate]
    by_cases h2 : i + 1 + m < n
    · rw [if_pos ⟨h2, by rw [rep_get n c h2, rep_get n c (by omega)]⟩, ih _ (by omega)]; omega
    · rw [if_neg (fun h => h2 h.1)]; omega
theorem rep_tok (n : Nat) (c : UInt8) {i : Nat} (h : i + 1 < n) : tokAt (List.replicate n c) (i + 1) = if i + 1 + 3 ≤ n then .cpy (min 258 (n - (i + 1))) 1 else .lit c := by
  unfold tokAt
  rw [List.length_replicate, rep_get n c h]
  by_cases h3 : i + 1 + 3 ≤ n
  · rw [if_pos h3, if_pos h3, rep_last n c h3]
    show pick _ _ (matB _ _ _) _ = _
    unfold matB
    rw [rep_matF n c i 258 0 (by omega), show i + 1 - i = 1 by omega]
    unfold pick
    rw [if_neg (by omega), Nat.zero_add]
  · rw [if_neg h3, if_neg h3]
theorem pa_nil (X : Pt) : putAll X [] = X := rfl
theorem rep_bits {n : Nat} {c : UInt8} (_h32 : n ≤ 32768) : ∀ f i (S : Pt), i + 1 ≤ n → n - (i + 1) ≤ f → (putAll S (toksF (List.replicate n c) f (i + 1))).2 ≤ S.2 + 13 * ((n - (i + 1)) / 258) + (if (n - (i + 1)) % 258 = 0 then 0 else 18) := by
  intro f
  induction f using Nat.strongRecOn with
  | _ f ih =>
    intro i S h1 h2
    have litb : ∀ S : Pt, (putTok S (.lit c)).2 ≤ S.2 + 9 := fun S => by
      have hx := c.toNat_lt
      have e : (putTok S (.lit c)).2 = S.2 + fixLit.getD c.toNat 0 := sym_len' _ _ _
      rw [e, lit_len _ (by omega)]
      split <;> (try split) <;> (try split) <;> omega
    cases f with
    | zero => rw [toksF]; show S.2 ≤ _; omega
    | succ f =>
      rw [toksF, List.length_replicate]
      by_cases h : i + 1 < n
      · rw [if_pos h, rep_tok n c h]
        by_cases h3 : i + 1 + 3 ≤ n
        · rw [if_pos h3]
          by_cases h258 : 258 ≤ n - (i + 1)
          · rw [show min 258 (n - (i + 1)) = 258 by omega]
            show (putAll (putTok S (.cpy 258 1)) (toksF _ f (i + 1 + 258))).2 ≤ _
            have e : (putTok S (.cpy 258 1)).2 = S.2 + 13 := by
              show (putN (putSym fixDist (putLen S 258) (classP 0 2).1) _ _).2 = _
              show (putSym fixDist (putLen S 258) (classP 0 2).1).2 + (classP 0 2).2.2 = _
              rw [sym_len']
              unfold putLen
              rw [if_pos rfl, sym_len', lit_len _ (by omega)]
              rfl
            have := ih f (by omega) (i + 258) (putTok S (.cpy 258 1)) (by omega) (by omega)
            rw [show i + 258 + 1 = i + 1 + 258 by omega, e] at this
            have e1 : (n - (i + 1)) / 258 = (n - (i + 1 + 258)) / 258 + 1 := by omega
            have e2 : (n - (i + 1)) % 258 = (n - (i + 1 + 258)) % 258 := by omega
            rw [e1, e2]; omega
          · rw [show min 258 (n - (i + 1)) = n - (i + 1) by omega]
            show (putAll (putTok S (.cpy (n - (i + 1)) 1)) (toksF _ f (i + 1 + (n - (i + 1))))).2 ≤ _
            have e : (putTok S (.cpy (n - (i + 1)) 1)).2 ≤ S.2 + 18 := by
              show (putN (putSym fixDist (putLen S (n - (i + 1))) (classP 0 2).1) _ _).2 ≤ _
              show (putSym fixDist (putLen S (n - (i + 1))) (classP 0 2).1).2 + (classP 0 2).2.2 ≤ _
              rw [sym_len']
              unfold putLen
              rw [if_neg (by omega)]
              have hc := class_len (n - (i + 1) - 3) (by omega)
              have hw := wide_len (n - (i + 1) - 3) (by omega)
              show (putSym fixLit S (257 + (classP (n - (i + 1) - 3) 4).1)).2 + (classP (n - (i + 1) - 3) 4).2.2 + _ + _ ≤ _
              rw [sym_len', lit_len _ (by omega)]
              have d : fixDist.getD (classP 0 2).1 0 = 5 ∧ (classP 0 2).2.2 = 0 := by decide
              rw [d.1, d.2]
              split <;> (try split) <;> (try split) <;> omega
            have hend : toksF (List.replicate n c) f (i + 1 + (n - (i + 1))) = [] := by
              cases f with
              | zero => rfl
              | succ f => rw [toksF, if_neg (by rw [List.length_replicate]; omega)]
            rw [hend]
            rw [pa_nil]
            rw [if_neg (by omega)]; omega
        · rw [if_neg h3]
          show (putAll (putTok S (.lit c)) (toksF _ f (i + 1 + 1))).2 ≤ _
          have b1 := litb S
          rw [if_neg (by omega)]
          by_cases h4 : i + 1 + 1 < n
          · cases f with
            | zero => rw [toksF]; show (putTok S (.lit c)).2 ≤ _; omega
            | succ f =>
              rw [toksF, List.length_replicate, if_pos h4, rep_tok n c h4, if_neg (by omega)]
              show (putAll (putTok (putTok S (.lit c)) (.lit c)) (toksF _ f (i + 1 + 1 + 1))).2 ≤ _
              have b2 := litb (putTok S (.lit c))
              have hend : toksF (List.replicate n c) f (i + 1 + 1 + 1) = [] := by
                cases f with
                | zero => rfl
                | succ f => rw [toksF, if_neg (by rw [List.length_replicate]; omega)]
              rw [hend]
              rw [pa_nil]
              omega
          · have hend : toksF (List.replicate n c) f (i + 1 + 1) = [] := by
              cases f with
              | zero => rfl
              | succ f => rw [toksF, if_neg (by rw [List.length_replicate]; omega)]
            rw [hend]
            rw [pa_nil]
            omega
      · rw [if_neg h]; show S.2 ≤ _; omega
theorem sqz_row {n : Nat} (h32 : n ≤ 32768) (c : UInt8) : (sqzP (List.replicate n c)).length ≤ 8 + n / 64 := by
  have e : (sqzP (List.replicate n c)).length = ((allBits (toksB (List.replicate n c))).2 + 7) / 8 := bytesV_len _ _
  have e7 : fixLit.getD 256 0 = 7 := by rw [lit_len _ (by omega)]; rfl
  have h : (putAll startP (toksB (List.replicate n c))).2 ≤ 3 + 9 + 13 * (n / 258) + 18 := by
    unfold toksB
    rw [List.length_replicate]
    cases n with
    | zero => show startP.2 ≤ _; unfold startP; omega
    | succ n =>
      rw [toksF, List.length_replicate, if_pos (by omega)]
      have ht : tokAt (List.replicate (n + 1) c) 0 = .lit c := by
        unfold tokAt
        rw [rep_get _ _ (by omega)]
        split <;> rfl
      rw [ht]
      show (putAll (putTok startP (.lit c)) (toksF _ n (0 + 1))).2 ≤ _
      have hx := c.toNat_lt
      have b1 : (putTok startP (.lit c)).2 ≤ 12 := by
        have e : (putTok startP (.lit c)).2 = startP.2 + fixLit.getD c.toNat 0 := sym_len' _ _ _
        rw [e, lit_len _ (by omega)]
        show 3 + _ ≤ _
        split <;> (try split) <;> (try split) <;> omega
      have := rep_bits (n := n + 1) (c := c) h32 n 0 (putTok startP (.lit c)) (by omega) (by omega)
      have e3 : (n + 1 - (0 + 1)) / 258 ≤ (n + 1) / 258 := Nat.div_le_div_right (by omega)
      split at this <;> omega
  rw [e]
  unfold allBits endBits
  rw [sym_len', e7]
  omega
end Go.Proofs.Ytbhljigppljjbaa
