/- The calls of awake, worked out by the kernel. -/
import Derived.Test.YthmgennimcjlpaaPc
import Derived.Test.YthmgennimcjlpaaPe
section
set_option linter.unusedVariables false
set_option maxRecDepth 100000
namespace Go.D

def exP : Pair := ⟨⟨3, some [0], some [⟨0, 1, 0⟩, ⟨1, 2, 0⟩]⟩, ⟨2, some [0], some [⟨0, 1, 0⟩]⟩, some [0, 0, 1], some [0, 1]⟩
def exB : Pair := ⟨⟨3, some [0], some [⟨0, 1, 0⟩, ⟨1, 2, 0⟩, ⟨2, 0, 0⟩]⟩, ⟨2, some [0], some [⟨0, 1, 0⟩]⟩, some [0, 0, 1], some [0, 1]⟩
def slI (l : List Int) : DV := .p (.sl false l.length (eInts l))
def flt1 : DV := .agg [.p (pI 0), .p (pI 0), .p .nilsl]
def flt2 : DV := .agg [.p (pI 0), .p (pI 1), .p (.sl false 2 [pI 0, pI 1])]
def sim0 : PV := .sl false 3 [.sl false 2 [pI 0, pI 0], .sl false 2 [pI 1, pI 0], .sl false 2 [pI 2, pI 1]]
def rnk0 : PV := .sl false 6 (eInts [0, 0, 3, 0, 0, 1, 0, -1, 1, 0, 2, 1, 1, 1, 0, -1, 2, 0, 0, -1, 2, 1, 1, 2])

theorem run38 : runIs PP pol 40 38 [] (.agg (ePair exP)) = true := by decide +kernel
theorem run39 : runIs PP pol 40 39 [] (.agg (ePair exB)) = true := by decide +kernel
theorem run23a : runIs PP pol 40 23 [.agg (ePair exP), slI [0, 0, 1]] (.tuple [flt1, .p (pI 0)]) = true := by decide +kernel
theorem run23b : runIs PP pol 40 23 [.agg (ePair exP), slI [0, 1, 1]] (.tuple [flt2, .p (pI 31)]) = true := by decide +kernel
theorem run40 : runIs PP pol 40 40 [flt2, flt2] (.p (.bool true)) = true := by decide +kernel
theorem run27 : runIs PP pol 40 27 [.p sim0, .p sim0] (.p (.bool true)) = true := by decide +kernel

end Go.D
end
