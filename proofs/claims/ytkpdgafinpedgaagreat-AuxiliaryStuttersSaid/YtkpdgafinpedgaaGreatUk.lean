/- The examples of chapter 22, worked out by the kernel: lifted paths with stuttering. -/
import Derived.Test.YtkpdgafinpedgaaGreatUh
import Derived.Test.YtkpdgafinpedgaaGreatUj
section
set_option linter.unusedVariables false
set_option maxRecDepth 100000
namespace Go.D
theorem run27:UW PP pol 40 27 [.agg (eGr exG),.agg exS,.p (eSl (some [0,1]))] (.tuple [.p (eSl (some [0,2,1,3])),.p (pI 0)])=true:=by decide +kernel
end Go.D
end
