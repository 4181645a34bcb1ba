/- A row of bytes as a text. -/
import Derived.Test.YtokojichjliieaaDoorBase
import Derived.Lib.BufferRead
namespace Go.Proofs.YtokojichjliieaaDoor
open Go.RowKit
/-- string(b) of whatever row of bytes. -/
theorem run_conv_str {P : Program} {w : World} {B : Nat} {A : Option Addr} {l : List UInt8} {n c : Nat} {src dst e : TypeId} (hs : P.underlying src = some (.slice e)) (he : P.underlying e = some (.int .u8)) (hd : P.underlying dst = some .string)
    (hn : l.length = n) (hr : RB w B A l) : (convert src dst (.slice A n c)).run P w = .ok (.string ⟨l.toArray⟩) w := by
  subst hn
  rcases A with _ | ad
  · have hl : l = [] := by
      rcases Decidable.em (l.map bV = []) with h | h
      · simpa using h
      · obtain ⟨_, h', _⟩ := hr h; cases h'
    subst hl
    exact Lib.run_convert_nil_bytes w src dst e c hs he hd
  · refine run_convert_bytes_back w src dst e ad c l hs he hd fun j hj => ?_
    obtain ⟨ad', h', _, hc⟩ := hr (fun h => by simp at h; subst h; simp at hj)
    injection h' with h'
    subst h'
    exact hc j _ (by simp [hj]; rfl)
end Go.Proofs.YtokojichjliieaaDoor
