/- A map of the call's own: the run equation of a look. Nothing here speaks of the program. -/
import Derived.Test.YtokojichjliieaaDoorMap
namespace Go.Proofs.YtokojichjliieaaDoor
open Go.RowKit
theorem MapT.run_is {κ : Type} {f : κ → Value} {P : Program} {k : TypeId} {w : World} {b n : Nat} {G : κ → Option Value} {t e : TypeId} {z v : Value} (hown : MapT f w P k b n G) (K : Maps.Keyed P k) (ht : P.underlying t = some (.map k e)) (hz : (zeroValue e).run P w = .ok z w) {y : κ} {kl : Lit} (hkey : keyOf P k (f y) = some kl) (hG : (G y).getD z = v) :
    (Instr.lookup t (.map (some b)) (f y) false).run P w = .ok v w := by
  obtain ⟨F, ⟨D, h, r⟩, rG⟩ := hown
  obtain ⟨r1, r2⟩ := r kl (K.key hkey)
  have hF := rG y kl hkey
  obtain ⟨u, ps, hrun, hv⟩ := h.lookup K ht hz (zd := .held z) (zp := []) rfl hkey
  have hv' : u = (F kl).getD z := by
    rw [r1] at hv
    unfold heldR at hv
    simp only [Option.some.injEq, Prod.mk.injEq] at hv
    cases hF : F kl with
    | none => rw [hF] at hv; simpa using hv.1
    | some u => rw [hF] at hv; simpa using hv.1
  rw [hrun, hv', hF, hG]
/-- m[k] = v, as an equation. -/
theorem MapT.storeRun {κ : Type} [DecidableEq κ] {f : κ → Value} {P : Program} {k : TypeId} {w : World} {b n : Nat} {G : κ → Option Value} {t e : TypeId} (h : MapT f w P k b n G) (K : Maps.Keyed P k) (ht : P.underlying t = some (.map k e)) (hinj : ∀ x y, f x = f y → x = y) (hn : n < maxLen) (y : κ) (val : Value) {kl : Lit} (hkey : keyOf P k (f y) = some kl) :
    ∃ w', (Instr.mapUpdate t (.map (some b)) (f y) val).run P w = .ok () w' ∧ w.grownBy w' (some b) ∧ MapT f w' P k b (n + 1) (fun q => if q = y then some val else G q) := by
  obtain ⟨F, ⟨D, h, r⟩, rG⟩ := h
  obtain ⟨w1, h1, h2, h3⟩ := h.update K ht hn hkey (val := val) (d := .held val) (ps := []) rfl
  refine ⟨w1, h1, h3, fun q => if q.sameKey kl = true then some val else F q, ⟨_, h2, fun q hq => ?_⟩, fun x ql hx => ?_⟩
  · by_cases hqk : q = kl
    · subst hqk
      dsimp only
      rw [if_pos (WideAt.sameKey_self hq)]
      exact ⟨fun z => Maps.atKey_put_same h.isMap hq _ z, Maps.has_put_same h.isMap hq _⟩
    · dsimp only
      rw [if_neg (fun h => hqk (WideAt.sameKey_eq h))]
      obtain ⟨r1, r2⟩ := r q hq
      exact ⟨fun z => by rw [Maps.atKey_put_other hqk]; exact r1 z, by rw [Maps.has_put_other hqk]; exact r2⟩
  · dsimp only
    by_cases hqy : x = y
    · subst hqy
      rw [hkey] at hx
      injection hx with hx
      subst hx
      rw [if_pos (WideAt.sameKey_self (K.key hkey)), if_pos rfl]
    · have hne : ¬ ql.sameKey kl = true := fun hs => by
        have := WideAt.sameKey_eq hs
        subst this
        exact hqy (hinj _ _ (K.inj hx hkey))
      rw [if_neg hne, if_neg hqy]
      exact rG x ql hx
end Go.Proofs.YtokojichjliieaaDoor
