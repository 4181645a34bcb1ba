/- Plain facts on unpacking: stored blocks. -/
import Derived.Test.YtbhljigppljjbaaInfR
namespace Go.Proofs.Ytbhljigppljjbaa

/-- A stored block. -/
def storeB (hd : UInt8) (p : List UInt8) : List UInt8 := [hd, UInt8.ofNat p.length, UInt8.ofNat (p.length / 256), UInt8.ofNat (255 - p.length % 256), UInt8.ofNat (255 - p.length / 256 % 256)] ++ p
theorem getD_drop (b : List UInt8) (q i : Nat) : b.getD (q + i) 0 = (b.drop q).getD i 0 := by
  rw [List.getD_eq_getElem?_getD, List.getD_eq_getElem?_getD, List.getElem?_drop]
theorem bitAt_byte (b : List UInt8) (q i : Nat) (h : i < 8) : bitAt b (8 * q + i) = byteN b q / 2 ^ i % 2 := by
  unfold bitAt byteN; rw [show (8 * q + i) / 8 = q by omega, show (8 * q + i) % 8 = i by omega]
theorem blk_stored {b : List UInt8} {q : Nat} {hd : UInt8} {p rest : List UInt8} (hb : b.drop q = storeB hd p ++ rest) (hh : hd = 0 ∨ hd = 1) (hp : p.length < 65536) (lim : Nat) (out : List UInt8) :
    blkP lim out b (8 * q) = if lim < out.length + p.length then .err 8 else .ok ((decide (hd = 1), out ++ p), 8 * (q + 5 + p.length)) := by
  have hlen : q + 5 + p.length ≤ b.length := by
    have h := congrArg List.length hb
    unfold storeB at h
    simp only [List.length_drop, List.length_append, List.length_cons, List.length_nil] at h
    omega
  have g : ∀ i, byteN b (q + i) = ((storeB hd p ++ rest).getD i 0).toNat := fun i => by unfold byteN; rw [getD_drop, hb]
  have b0 : byteN b q = hd.toNat := by have := g 0; rw [Nat.add_zero] at this; rw [this]; rfl
  have b1 : byteN b (q + 1) = p.length % 256 := by rw [g 1]; show (UInt8.ofNat p.length).toNat = _; simp
  have b2 : byteN b (q + 1 + 1) = p.length / 256 := by rw [show q + 1 + 1 = q + 2 by omega, g 2]; show (UInt8.ofNat (p.length / 256)).toNat = _; simp; omega
  have b3 : byteN b (q + 1 + 2) = 255 - p.length % 256 := by rw [show q + 1 + 2 = q + 3 by omega, g 3]; show (UInt8.ofNat (255 - p.length % 256)).toNat = _; simp; omega
  have b4 : byteN b (q + 1 + 3) = 255 - p.length / 256 := by rw [show q + 1 + 3 = q + 4 by omega, g 4]; show (UInt8.ofNat (255 - p.length / 256 % 256)).toNat = _; simp; omega
  have hhd : hd.toNat = 0 ∨ hd.toNat = 1 := by rcases hh with rfl | rfl <;> simp
  have t1 : tk b (8 * q) 1 = .ok (hd.toNat, 8 * q + 1) := by
    unfold tk
    rw [if_pos (by omega)]
    have := bitAt_byte b q 0 (by omega)
    simp only [takeN, Nat.add_zero] at this ⊢
    rw [this, b0]
    rcases hhd with h | h <;> rw [h]
  have t2 : tk b (8 * q + 1) 2 = .ok (0, 8 * q + 3) := by
    unfold tk
    rw [if_pos (by omega)]
    have h1 := bitAt_byte b q 1 (by omega)
    have h2 := bitAt_byte b q 2 (by omega)
    simp only [takeN, Nat.add_zero]
    rw [show 8 * q + 1 + 1 = 8 * q + 2 by omega, h1, h2, b0]
    rcases hhd with h | h <;> rw [h]
  have hn : p.length % 256 + 256 * (p.length / 256) = p.length := by omega
  have hs : storedP b lim (8 * q + 3) out = if lim < out.length + p.length then .err 8 else .ok (out ++ p, 8 * (q + 5 + p.length)) := by
    unfold storedP
    rw [show (8 * q + 3 + 7) / 8 = q + 1 by omega, b1, b2, b3, b4, hn, if_neg (by omega), if_neg (by omega)]
    by_cases hl : lim < out.length + p.length
    · rw [if_pos hl, if_pos hl]
    · rw [if_neg hl, if_neg hl, if_neg (by omega)]
      have hd5 : (b.drop (q + 1 + 4)).take p.length = p := by
        rw [show q + 1 + 4 = q + 5 by omega, ← List.drop_drop, hb]
        unfold storeB
        simp
      rw [hd5, show q + 1 + 4 + p.length = q + 5 + p.length by omega]
  unfold blkP
  rw [t1, ok_bind, t2, ok_bind]
  have hbody : bodyP lim out 0 b (8 * q + 3) = storedP b lim (8 * q + 3) out := by unfold bodyP; rw [if_pos rfl]
  show ((bodyP lim out 0 b (8 * q + 3)).bind _) = _
  rw [hbody, hs]
  by_cases hl : lim < out.length + p.length
  · rw [if_pos hl, if_pos hl]; rfl
  · rw [if_neg hl, if_neg hl, ok_bind]
    have : decide (hd.toNat = 1) = decide (hd = 1) := by rcases hh with rfl | rfl <;> decide
    rw [this]
def totalS (ps : List (List UInt8)) : Nat := (ps.map List.length).sum
theorem allB_stored {b : List UInt8} (lim : Nat) : ∀ (ps : List (List UInt8)) (q f : Nat) (out : List UInt8), (∀ p ∈ ps, p.length < 65536) → out.length ≤ lim → b.drop q = ps.flatMap (storeB 0) ++ storeB 1 [] → ps.length < f →
    allB lim b f (8 * q) out = if lim < out.length + totalS ps then .err 8 else .ok (out ++ ps.flatten, 8 * b.length) := by
  intro ps
  induction ps with
  | nil =>
    intro q f out _ ho hb hf
    obtain ⟨f, rfl⟩ : ∃ k, f = k + 1 := ⟨f - 1, by omega⟩
    have hb' : b.drop q = storeB 1 [] ++ [] := by rw [hb]; simp
    have hl : b.length = q + 5 := by
      have h := congrArg List.length hb
      unfold storeB at h
      simp only [List.length_drop, List.flatMap_nil, List.nil_append, List.length_append, List.length_cons, List.length_nil] at h
      omega
    have e := blk_stored hb' (.inr rfl) (by simp) lim out
    rw [allB, e]
    simp only [List.length_nil, Nat.add_zero]
    rw [if_neg (by omega), if_neg (by simp [totalS]; omega), ok_bind]
    show (if decide ((1 : UInt8) = 1) = true then _ else _) = _
    rw [if_pos (by decide), hl]
    simp
  | cons p r ih =>
    intro q f out hp ho hb hf
    obtain ⟨f, rfl⟩ : ∃ k, f = k + 1 := ⟨f - 1, by omega⟩
    rw [List.flatMap_cons, List.append_assoc] at hb
    have hp1 := hp p (by simp)
    have e := blk_stored hb (.inl rfl) hp1 lim out
    have hts : totalS (p :: r) = p.length + totalS r := by simp [totalS]
    rw [allB, e, hts]
    by_cases hl : lim < out.length + p.length
    · rw [if_pos hl, if_pos (by omega)]; rfl
    · rw [if_neg hl, ok_bind]
      show (if decide ((0 : UInt8) = 1) = true then _ else allB lim b f (8 * (q + 5 + p.length)) (out ++ p)) = _
      rw [if_neg (by decide), ih (q + 5 + p.length) f (out ++ p) (fun x hx => hp x (by simp [hx])) (by simp; omega) (by
        rw [show q + 5 + p.length = q + (5 + p.length) by omega, ← List.drop_drop, hb]
        have : (storeB 0 p).length = 5 + p.length := by unfold storeB; simp; omega
        rw [← this, List.drop_left]) (by simp only [List.length_cons] at hf; omega)]
      simp only [List.length_append, List.flatten_cons, List.append_assoc, Nat.add_assoc]
theorem infl_stored (ps : List (List UInt8)) (hp : ∀ p ∈ ps, p.length < 65536) {lim : Nat} (hl : lim ≤ 32768) :
    inflP (ps.flatMap (storeB 0) ++ storeB 1 []) lim = if lim < totalS ps then .err 8 else .ok (ps.flatten, (ps.flatMap (storeB 0) ++ storeB 1 []).length) := by
  have hlen : ps.length ≤ 8 * (ps.flatMap (storeB 0) ++ storeB 1 []).length := by
    have : ∀ (q : List (List UInt8)), q.length ≤ (q.flatMap (storeB 0)).length := by
      intro q
      induction q with
      | nil => simp
      | cons a r ih => rw [List.flatMap_cons, List.length_append, List.length_cons]; unfold storeB at ih ⊢; simp at ih ⊢; omega
    have := this ps
    simp only [List.length_append]; omega
  have h := allB_stored (b := ps.flatMap (storeB 0) ++ storeB 1 []) lim ps 0 (8 * (ps.flatMap (storeB 0) ++ storeB 1 []).length + 1) [] hp (by simp) (by simp) (by omega)
  rw [Nat.mul_zero] at h
  unfold inflP allP
  rw [if_neg (by omega), Int.toNat_natCast, h]
  simp only [List.length_nil, Nat.zero_add, List.nil_append]
  by_cases hx : lim < totalS ps
  · rw [if_pos hx, if_pos hx]; rfl
  · rw [if_neg hx, if_neg hx, ok_bind]
    simp only
    rw [show (8 * (List.flatMap (storeB 0) ps ++ storeB 1 []).length + 7) / 8 = (List.flatMap (storeB 0) ps ++ storeB 1 []).length by omega]
end Go.Proofs.Ytbhljigppljjbaa
