/- The examples of chapter 22, worked out by the kernel: lifted paths. -/
import Derived.Test.YtkpdgafinpedgaaGreatUh
section
set_option linter.unusedVariables false
set_option maxRecDepth 100000
namespace Go.D
theorem run15:UW PP pol 40 15 [.agg (eGr exG),.agg exH,.p (eSl (some [0,1,0,1]))] (.tuple [.p (eSl (some [0,3,1,4])),.p (pI 0)])=true:=by decide +kernel
end Go.D
end
