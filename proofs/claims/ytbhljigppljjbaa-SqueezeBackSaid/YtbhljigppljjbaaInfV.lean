/- What a few bytes are unpacked to. -/
import Derived.Test.YtbhljigppljjbaaInfP
import Derived.KernelRfl
namespace Go.Proofs.Ytbhljigppljjbaa

theorem ev1 : inflP [1, 2, 0, 253, 255, 97, 98] 2 = .ok ([97, 98], 7) := by kernel_rfl
theorem ev2 : inflP [1, 2, 0, 253, 255, 97, 98] 1 = .err 8 := by kernel_rfl
theorem ev3 : inflP [3, 0] 0 = .ok ([], 2) := by kernel_rfl
theorem ev4 : inflP [75, 4, 0] 9 = .ok ([97], 3) := by kernel_rfl
theorem ev5 : inflP [7] 9 = .err 3 := by kernel_rfl
end Go.Proofs.Ytbhljigppljjbaa
