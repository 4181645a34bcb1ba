/- Plain facts on the bytes of a number. -/
import Derived.Test.YtdioijhmmmnbgaaProg
import Derived.Test.YtdioijhmmmnbgaaPi1
namespace Go.Proofs.Ytdioijhmmmnbgaa
open Go.RowKit
theorem u8_infoP : (Try.prog.info? 5).map (fun i => (i.zero, i.size, i.bytes)) = some (some (.int .u8 0), 1, 1) := by kernel_rfl
theorem byteTyP : ETy Try.prog 22 5 (.int .u8 0) 1 1 := ⟨Try.underlying22, info_parts u8_infoP, rfl, by decide⟩
end Go.Proofs.Ytdioijhmmmnbgaa
