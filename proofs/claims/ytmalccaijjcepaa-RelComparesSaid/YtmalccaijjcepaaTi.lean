/- What the types and functions of this translation say, a fact a row. No condition. -/
import Derived.Test.YtmalccaijjcepaaProg
import Derived.Test.YtmalccaijjcepaaAb16
import Derived.KernelRfl
set_option linter.all false
set_option linter.unusedSimpArgs false
set_option linter.unusedVariables false
namespace Go.Proofs.Ytmalccaijjcepaa
open Go.Proofs.Ytmalccaijjcepaa.Ab
theorem ti_mixed : Try.prog.follows .mixedOrders = true := by kernel_rfl
theorem ti_ag3 : agB Try.prog 3 = some false := by kernel_rfl
theorem ti_ag9 : agB Try.prog 9 = some false := by kernel_rfl
theorem ti_ag22 : agB Try.prog 22 = some false := by kernel_rfl
theorem ti_ag29 : agB Try.prog 29 = some true := by kernel_rfl
theorem ti_fl29_0 : flI Try.prog 29 0 = some (0, false, 1) := by kernel_rfl
theorem ti_fl29_1 : flI Try.prog 29 1 = some (1, false, 1) := by kernel_rfl
theorem ti_fl29_2 : flI Try.prog 29 2 = some (2, false, 1) := by kernel_rfl
theorem ti_hb6 : hasBody Try.prog 6 = true := by kernel_rfl
theorem ti_hb7 : hasBody Try.prog 7 = true := by kernel_rfl
theorem ti_hb8 : hasBody Try.prog 8 = true := by kernel_rfl
theorem ti_hb9 : hasBody Try.prog 9 = true := by kernel_rfl
theorem ti_hb10 : hasBody Try.prog 10 = true := by kernel_rfl
theorem ti_hb11 : hasBody Try.prog 11 = true := by kernel_rfl
theorem ti_hb12 : hasBody Try.prog 12 = true := by kernel_rfl
theorem ti_hb13 : hasBody Try.prog 13 = true := by kernel_rfl
theorem ti_hb14 : hasBody Try.prog 14 = true := by kernel_rfl
theorem ti_hb15 : hasBody Try.prog 15 = true := by kernel_rfl
theorem ti_hb16 : hasBody Try.prog 16 = true := by kernel_rfl
theorem ti_hb17 : hasBody Try.prog 17 = true := by kernel_rfl
theorem ti_hb18 : hasBody Try.prog 18 = true := by kernel_rfl
theorem ti_sb23 : slB Try.prog 23 = true := by kernel_rfl
theorem ti_sb24 : slB Try.prog 24 = true := by kernel_rfl
theorem ti_sl23 : slI Try.prog 23 = some (22, 1, 8) := by kernel_rfl
theorem ti_sl24 : slI Try.prog 24 = some (3, 1, 8) := by kernel_rfl
theorem ti_st9 : stB Try.prog 9 = true := by kernel_rfl
theorem ti_sz29 : szI Try.prog 29 = some 3 := by kernel_rfl
end Go.Proofs.Ytmalccaijjcepaa
