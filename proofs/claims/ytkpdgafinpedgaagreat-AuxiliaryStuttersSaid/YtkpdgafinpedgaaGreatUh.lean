/- The examples of chapter 22, worked out by the kernel: their calls. -/
import Derived.Test.YtkpdgafinpedgaaGreatUg
section
set_option linter.unusedVariables false
set_option maxRecDepth 100000
namespace Go.D
def exG:Gr:=⟨2,some [0],some [⟨0,1,0⟩,⟨1,0,1⟩]⟩
def exH:List DV:=[.p (eSl (some [0,0])),.p (.sl false 2 [eSl (some [1,2,2,2,2,2,2,2]),eSl (some [0,1,2,3,4,5,6,7])])]
def exS:List DV:=[.p (eSl (some [2,0]))]
def exA:List DV:=[.p (pI 5),.p (eSl (some [0])),.p (eEs (some [⟨0,3,0⟩,⟨1,4,0⟩,⟨2,4,0⟩,⟨3,1,1⟩,⟨4,2,1⟩])),.p (eSl (some [0,0,0,1,1])),.p (eSl (some [0,1,2,1,2]))]
def exY:List DV:=[.p (pI 4),.p (eSl (some [0])),.p (eEs (some [⟨0,2,11⟩,⟨1,3,0⟩,⟨2,1,11⟩,⟨3,0,1⟩])),.p (eSl (some [0,0,0,1])),.p (eSl (some [0,1,2,0]))]
theorem run46:UW PP pol 40 46 [] (.agg (eGr exG))=true:=by decide +kernel
theorem run47:UW PP pol 40 47 [] (.agg exH)=true:=by decide +kernel
theorem run49:UW PP pol 40 49 [] (.agg exS)=true:=by decide +kernel
theorem run12:UW PP pol 40 12 [.agg (eGr exG),.agg exH] (.tuple [.agg exA,.p (pI 0)])=true:=by decide +kernel
end Go.D
end
