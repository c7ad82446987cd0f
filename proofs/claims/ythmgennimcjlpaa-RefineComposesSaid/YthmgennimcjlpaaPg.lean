/- The calls of awake, worked out by the kernel: the rest. -/
import Derived.Test.YthmgennimcjlpaaPf
section
set_option linter.unusedVariables false
set_option maxRecDepth 100000
namespace Go.D

theorem run24 : runIs PP pol 40 24 [.agg (ePair exP)] (.tuple [.p sim0, .p (pI 0)]) = true := by decide +kernel
theorem run29 : runIs PP pol 40 29 [.agg (ePair exB)] (.tuple [.p rnk0, .p (pI 0)]) = true := by decide +kernel
theorem run12 : runIs PP pol 40 12 [.agg (ePair exP), slI [0, 1, 2]] (.tuple [slI [0, 0, 1], .p (pI 0)]) = true := by decide +kernel

end Go.D
end
