/- The examples of chapter 24, worked out by the kernel: their calls. -/
import Derived.Test.YthddgnfaaccgjaaQc
import Derived.Test.YthddgnfaaccgjaaQd
section
set_option linter.unusedVariables false
set_option maxRecDepth 100000
namespace Go.D

def exC : Cmp := ⟨2, some [0], some [0, 1], some [⟨0, 0, 0⟩, ⟨0, 1, 1⟩, ⟨1, 0, 1⟩, ⟨1, 1, 1⟩, ⟨1, 2, 1⟩]⟩
def w3 (a b c : List Int) : PV := .sl false 1 [.sl false 3 [.sl false 3 (eInts a), .sl false 3 (eInts b), .sl false 3 (eInts c)]]
def wAll : PV := w3 [0, 0, 0] [0, 0, 0] [0, 0, 0]
def wZero : PV := w3 [0, -1, -1] [0, -1, -1] [0, -1, -1]
def wTurn : PV := w3 [0, 0, 0] [-1, -1, -1] [-1, -1, -1]
def exR : Run := ⟨some [0, 1, 1], some [⟨1, 0⟩, ⟨0, 1⟩]⟩
def exRule (a : PV) : List DV := eCmp exC ++ eCmp exC ++ [.p a, .p wZero, .p wTurn, .p wZero]
def exG : List DV := [.p (pI 1), .p (.sl false 1 (eInts [0])), .p (.sl false 1 [pI 0, pI 0, pI 0])]
def exL : PV := .sl false 1 [.sl false 2 (eInts [0, 0])]
def fault0 : List DV := [.p (pI 0), .p .nilsl, .p .nilsl, .p .nilsl]
def fault1 : List DV := [.p (pI 1), .p (eSl (some [0, 1, 1])), .p (ePs (some [⟨1, 0⟩, ⟨0, 1⟩])), .p .nilsl]
theorem run48 : runIs PP pol 40 48 [] (.agg (eCmp exC)) = true := by decide +kernel
theorem run49 : runIs PP pol 40 49 [] (.p wAll) = true := by decide +kernel
theorem run50 : runIs PP pol 40 50 [] (.p wZero) = true := by decide +kernel
theorem run38 : runIs PP pol 40 38 [.p wZero] (.p wTurn) = true := by decide +kernel
theorem run51 : runIs PP pol 40 51 [] (.agg (exRule wTurn)) = true := by decide +kernel
theorem run13a : runIs PP pol 40 13 [.agg (eCmp exC), .p wAll, .p wZero] (.tuple [.agg (eRun exR), .p (pI 0)]) = true := by decide +kernel
theorem run13b : runIs PP pol 40 13 [.agg (eCmp exC), .p wTurn, .p wZero] (.tuple [.agg [.p .nilsl, .p .nilsl], .p (pI 25)]) = true := by decide +kernel
theorem run20 : runIs PP pol 40 20 [.agg (eCmp exC), .agg (eCmp exC)] (.tuple [.agg exG, .p exL, .p (pI 0)]) = true := by decide +kernel
theorem run18 : runIs PP pol 40 18 [.agg (eRun exR), .agg (eRun exR)] (.p (.bool true)) = true := by decide +kernel
theorem run23 : runIs PP pol 40 23 [.p exL, .p exL] (.p (.bool true)) = true := by decide +kernel
end Go.D
end
