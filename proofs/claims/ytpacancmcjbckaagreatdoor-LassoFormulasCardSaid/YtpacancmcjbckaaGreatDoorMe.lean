/- The examples of chapter 13, worked out by the kernel: their calls. -/
import Derived.Test.YtpacancmcjbckaaGreatDoorMc
import Derived.Test.YtpacancmcjbckaaGreatDoorMd
section
set_option linter.unusedVariables false
set_option maxRecDepth 100000
namespace Go.D
def exN (l : List Int) : PV := .sl false l.length (eInts l)
def exA0 : PV := .sl false 1 [pI 1, pI 0, .nilsl]
def exA1 : PV := .sl false 1 [pI 1, pI 1, .nilsl]
def exF : PV := .sl false 4 [pI 1, pI 0, .nilsl, pI 1, pI 1, .nilsl, pI 7, pI 0, exN [1], pI 8, pI 0, exN [0, 2]]
def exU : PV := .sl false 3 [pI 1, pI 0, .nilsl, pI 1, pI 1, .nilsl, pI 8, pI 0, exN [0, 1]]
def exB : PV := .sl false 2 [pI 1, pI 0, .nilsl, pI 7, pI 0, exN [0]]
def exY : DV := .agg [.p (pI 2), .p (exN [0]), .p (.sl false 1 [pI 0, pI 1, pI 0]), .p (exN [0, 1]), .p (exN [1]), .p (exN [2]), .p .nilsl, .p .nilsl]
def exL : DV := .agg [.p (.sl false 0 []), .p (exN [0])]
theorem run48 : runIs PP pol 60 48 [.p (.str lstr0)] (.tuple [.p exF, .p (pI 12), .p (pI 0)]) = true := by decide +kernel
theorem run62a : runIs PP pol 60 62 [.p (pI 0)] (.p exA0) = true := by decide +kernel
theorem run62b : runIs PP pol 60 62 [.p (pI 1)] (.p exA1) = true := by decide +kernel
theorem run63 : runIs PP pol 60 63 [.p .nilsl] exY = true := by decide +kernel
theorem run38a : runIs PP pol 60 38 [.p (pI 8), .p (.sl false 2 [exA0, exA1])] (.p exU) = true := by decide +kernel
theorem run38b : runIs PP pol 60 38 [.p (pI 7), .p (.sl false 1 [exA0])] (.p exB) = true := by decide +kernel
theorem run32 : runIs PP pol 60 32 [.agg [.p (exN [1, 1, 2]), .p (exN [3, 2, 2])]] (.tuple [.agg [.p (exN [1]), .p (exN [2, 3])], .p (pI 0)]) = true := by decide +kernel
theorem run29 : runIs PP pol 60 29 [exL, .agg [.p .nilsl, .p (exN [0])]] (.p (.bool true)) = true := by decide +kernel
end Go.D
end
