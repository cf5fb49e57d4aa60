/- What the types and functions of this translation say, a fact a row. No condition. -/
import Derived.Test.YtmalccaijjcepaaDoorProg
import Derived.Test.YtmalccaijjcepaaDoorAb16
import Derived.KernelRfl
set_option linter.all false
set_option linter.unusedSimpArgs false
set_option linter.unusedVariables false
namespace Go.Proofs.YtmalccaijjcepaaDoor
open Go.Proofs.YtmalccaijjcepaaDoor.Ab
theorem ti_mixed : Tryd.prog.follows .mixedOrders = true := by kernel_rfl
theorem ti_ag3 : agB Tryd.prog 3 = some false := by kernel_rfl
theorem ti_ag5 : agB Tryd.prog 5 = some false := by kernel_rfl
theorem ti_ag9 : agB Tryd.prog 9 = some false := by kernel_rfl
theorem ti_ag26 : agB Tryd.prog 26 = some true := by kernel_rfl
theorem ti_ag33 : agB Tryd.prog 33 = some false := by kernel_rfl
theorem ti_ag34 : agB Tryd.prog 34 = some false := by kernel_rfl
theorem ti_ag36 : agB Tryd.prog 36 = some true := by kernel_rfl
theorem ti_ag52 : agB Tryd.prog 52 = some true := by kernel_rfl
theorem ti_ag57 : agB Tryd.prog 57 = some true := by kernel_rfl
theorem ti_ag61 : agB Tryd.prog 61 = some false := by kernel_rfl
theorem ti_ag65 : agB Tryd.prog 65 = some true := by kernel_rfl
theorem ti_ag67 : agB Tryd.prog 67 = some false := by kernel_rfl
theorem ti_ag68 : agB Tryd.prog 68 = some false := by kernel_rfl
theorem ti_ag98 : agB Tryd.prog 98 = some true := by kernel_rfl
theorem ti_av87_26 : avI Tryd.prog 87 = some 26 := by kernel_rfl
theorem ti_bo4 : boB Tryd.prog 4 = true := by kernel_rfl
theorem ti_el96 : elI Tryd.prog 96 = some (256, 1) := by kernel_rfl
theorem ti_el99 : elI Tryd.prog 99 = some (16, 2) := by kernel_rfl
theorem ti_fe26 : feI Tryd.prog 26 = some [(0, 0), (1, 0), (2, 1)] := by kernel_rfl
theorem ti_fe65 : feI Tryd.prog 65 = some [(0, 0), (1, 1), (2, 1)] := by kernel_rfl
theorem ti_fl26_0 : flI Tryd.prog 26 0 = some (0, false, 1) := by kernel_rfl
theorem ti_fl26_1 : flI Tryd.prog 26 1 = some (1, false, 1) := by kernel_rfl
theorem ti_fl26_2 : flI Tryd.prog 26 2 = some (2, false, 1) := by kernel_rfl
theorem ti_fl36_0 : flI Tryd.prog 36 0 = some (0, false, 1) := by kernel_rfl
theorem ti_fl36_1 : flI Tryd.prog 36 1 = some (1, false, 1) := by kernel_rfl
theorem ti_fl52_0 : flI Tryd.prog 52 0 = some (0, false, 1) := by kernel_rfl
theorem ti_fl52_1 : flI Tryd.prog 52 1 = some (1, false, 1) := by kernel_rfl
theorem ti_fl52_2 : flI Tryd.prog 52 2 = some (2, false, 1) := by kernel_rfl
theorem ti_fl57_0 : flI Tryd.prog 57 0 = some (0, false, 1) := by kernel_rfl
theorem ti_fl57_1 : flI Tryd.prog 57 1 = some (1, false, 1) := by kernel_rfl
theorem ti_fl57_2 : flI Tryd.prog 57 2 = some (2, false, 1) := by kernel_rfl
theorem ti_fl57_3 : flI Tryd.prog 57 3 = some (3, false, 1) := by kernel_rfl
theorem ti_fl57_4 : flI Tryd.prog 57 4 = some (4, false, 1) := by kernel_rfl
theorem ti_fl57_5 : flI Tryd.prog 57 5 = some (5, false, 1) := by kernel_rfl
theorem ti_fl70_0 : flI Tryd.prog 70 0 = some (0, false, 1) := by kernel_rfl
theorem ti_fl70_1 : flI Tryd.prog 70 1 = some (1, false, 1) := by kernel_rfl
theorem ti_fl91_0 : flI Tryd.prog 91 0 = some (0, false, 1) := by kernel_rfl
theorem ti_fl98_0 : flI Tryd.prog 98 0 = some (0, false, 1) := by kernel_rfl
theorem ti_fl98_1 : flI Tryd.prog 98 1 = some (1, false, 1) := by kernel_rfl
theorem ti_hb11 : hasBody Tryd.prog 11 = true := by kernel_rfl
theorem ti_hb12 : hasBody Tryd.prog 12 = true := by kernel_rfl
theorem ti_hb13 : hasBody Tryd.prog 13 = true := by kernel_rfl
theorem ti_hb14 : hasBody Tryd.prog 14 = true := by kernel_rfl
theorem ti_hb15 : hasBody Tryd.prog 15 = true := by kernel_rfl
theorem ti_hb16 : hasBody Tryd.prog 16 = true := by kernel_rfl
theorem ti_hb17 : hasBody Tryd.prog 17 = true := by kernel_rfl
theorem ti_hb18 : hasBody Tryd.prog 18 = true := by kernel_rfl
theorem ti_hb19 : hasBody Tryd.prog 19 = true := by kernel_rfl
theorem ti_hb20 : hasBody Tryd.prog 20 = true := by kernel_rfl
theorem ti_hb21 : hasBody Tryd.prog 21 = true := by kernel_rfl
theorem ti_hb22 : hasBody Tryd.prog 22 = true := by kernel_rfl
theorem ti_hb23 : hasBody Tryd.prog 23 = true := by kernel_rfl
theorem ti_hb24 : hasBody Tryd.prog 24 = true := by kernel_rfl
theorem ti_hb25 : hasBody Tryd.prog 25 = true := by kernel_rfl
theorem ti_hb26 : hasBody Tryd.prog 26 = true := by kernel_rfl
theorem ti_hb27 : hasBody Tryd.prog 27 = true := by kernel_rfl
theorem ti_hb28 : hasBody Tryd.prog 28 = true := by kernel_rfl
theorem ti_hb29 : hasBody Tryd.prog 29 = true := by kernel_rfl
theorem ti_hb30 : hasBody Tryd.prog 30 = true := by kernel_rfl
theorem ti_hb31 : hasBody Tryd.prog 31 = true := by kernel_rfl
theorem ti_hb32 : hasBody Tryd.prog 32 = true := by kernel_rfl
theorem ti_hb33 : hasBody Tryd.prog 33 = true := by kernel_rfl
theorem ti_hb34 : hasBody Tryd.prog 34 = true := by kernel_rfl
theorem ti_hb35 : hasBody Tryd.prog 35 = true := by kernel_rfl
theorem ti_hb36 : hasBody Tryd.prog 36 = true := by kernel_rfl
theorem ti_hb37 : hasBody Tryd.prog 37 = true := by kernel_rfl
theorem ti_hb38 : hasBody Tryd.prog 38 = true := by kernel_rfl
theorem ti_hb39 : hasBody Tryd.prog 39 = true := by kernel_rfl
theorem ti_hb40 : hasBody Tryd.prog 40 = true := by kernel_rfl
theorem ti_hb41 : hasBody Tryd.prog 41 = true := by kernel_rfl
theorem ti_hb42 : hasBody Tryd.prog 42 = true := by kernel_rfl
theorem ti_hb43 : hasBody Tryd.prog 43 = true := by kernel_rfl
theorem ti_hb44 : hasBody Tryd.prog 44 = true := by kernel_rfl
theorem ti_hb45 : hasBody Tryd.prog 45 = true := by kernel_rfl
theorem ti_hb46 : hasBody Tryd.prog 46 = true := by kernel_rfl
theorem ti_hb47 : hasBody Tryd.prog 47 = true := by kernel_rfl
theorem ti_hb48 : hasBody Tryd.prog 48 = true := by kernel_rfl
theorem ti_hb49 : hasBody Tryd.prog 49 = true := by kernel_rfl
theorem ti_hb50 : hasBody Tryd.prog 50 = true := by kernel_rfl
theorem ti_hb51 : hasBody Tryd.prog 51 = true := by kernel_rfl
theorem ti_hb52 : hasBody Tryd.prog 52 = true := by kernel_rfl
theorem ti_hb53 : hasBody Tryd.prog 53 = true := by kernel_rfl
theorem ti_hb54 : hasBody Tryd.prog 54 = true := by kernel_rfl
theorem ti_hb55 : hasBody Tryd.prog 55 = true := by kernel_rfl
theorem ti_hb56 : hasBody Tryd.prog 56 = true := by kernel_rfl
theorem ti_hb57 : hasBody Tryd.prog 57 = true := by kernel_rfl
theorem ti_hb58 : hasBody Tryd.prog 58 = true := by kernel_rfl
theorem ti_hb59 : hasBody Tryd.prog 59 = true := by kernel_rfl
theorem ti_hb60 : hasBody Tryd.prog 60 = true := by kernel_rfl
theorem ti_hb61 : hasBody Tryd.prog 61 = true := by kernel_rfl
theorem ti_hb62 : hasBody Tryd.prog 62 = true := by kernel_rfl
theorem ti_hb63 : hasBody Tryd.prog 63 = true := by kernel_rfl
theorem ti_hb64 : hasBody Tryd.prog 64 = true := by kernel_rfl
theorem ti_hb65 : hasBody Tryd.prog 65 = true := by kernel_rfl
theorem ti_hb66 : hasBody Tryd.prog 66 = true := by kernel_rfl
theorem ti_hb67 : hasBody Tryd.prog 67 = true := by kernel_rfl
theorem ti_hb68 : hasBody Tryd.prog 68 = true := by kernel_rfl
theorem ti_hb69 : hasBody Tryd.prog 69 = true := by kernel_rfl
theorem ti_hb70 : hasBody Tryd.prog 70 = true := by kernel_rfl
theorem ti_hb71 : hasBody Tryd.prog 71 = true := by kernel_rfl
theorem ti_hb72 : hasBody Tryd.prog 72 = true := by kernel_rfl
theorem ti_hb73 : hasBody Tryd.prog 73 = true := by kernel_rfl
theorem ti_hb75 : hasBody Tryd.prog 75 = true := by kernel_rfl
theorem ti_hb76 : hasBody Tryd.prog 76 = true := by kernel_rfl
theorem ti_hb78 : hasBody Tryd.prog 78 = true := by kernel_rfl
theorem ti_hb79 : hasBody Tryd.prog 79 = true := by kernel_rfl
theorem ti_hb81 : hasBody Tryd.prog 81 = true := by kernel_rfl
theorem ti_in3 : inI Tryd.prog 3 = some .i64 := by kernel_rfl
theorem ti_in12 : inI Tryd.prog 12 = some .u64 := by kernel_rfl
theorem ti_in109 : inI Tryd.prog 109 = some .u64 := by kernel_rfl
theorem ti_in114 : inI Tryd.prog 114 = some .u32 := by kernel_rfl
theorem ti_pl36 : plI Tryd.prog 36 = some [(0, 1), (1, 1)] := by kernel_rfl
theorem ti_pl65 : plI Tryd.prog 65 = some [(0, 1), (1, 1), (2, 1)] := by kernel_rfl
theorem ti_pl91 : plI Tryd.prog 91 = some [(0, 1), (1, 1), (2, 1)] := by kernel_rfl
theorem ti_pl98 : plI Tryd.prog 98 = some [(0, 1), (1, 1)] := by kernel_rfl
theorem ti_pt102 : ptI Tryd.prog 102 = some (5, 1) := by kernel_rfl
theorem ti_sb29 : slB Tryd.prog 29 = true := by kernel_rfl
theorem ti_sb33 : slB Tryd.prog 33 = true := by kernel_rfl
theorem ti_sb34 : slB Tryd.prog 34 = true := by kernel_rfl
theorem ti_sb40 : slB Tryd.prog 40 = true := by kernel_rfl
theorem ti_sb55 : slB Tryd.prog 55 = true := by kernel_rfl
theorem ti_sb61 : slB Tryd.prog 61 = true := by kernel_rfl
theorem ti_sb68 : slB Tryd.prog 68 = true := by kernel_rfl
theorem ti_sb112 : slB Tryd.prog 112 = true := by kernel_rfl
theorem ti_sl29 : slI Tryd.prog 29 = some (57, 6, 64) := by kernel_rfl
theorem ti_sl33 : slI Tryd.prog 33 = some (9, 1, 16) := by kernel_rfl
theorem ti_sl34 : slI Tryd.prog 34 = some (61, 1, 24) := by kernel_rfl
theorem ti_sl40 : slI Tryd.prog 40 = some (65, 3, 40) := by kernel_rfl
theorem ti_sl55 : slI Tryd.prog 55 = some (3, 1, 8) := by kernel_rfl
theorem ti_sl61 : slI Tryd.prog 61 = some (26, 3, 32) := by kernel_rfl
theorem ti_sl68 : slI Tryd.prog 68 = some (5, 1, 1) := by kernel_rfl
theorem ti_sl112 : slI Tryd.prog 112 = some (33, 1, 24) := by kernel_rfl
theorem ti_sn96 : slI Tryd.prog 96 = none := by kernel_rfl
theorem ti_sn99 : slI Tryd.prog 99 = none := by kernel_rfl
theorem ti_st9 : stB Tryd.prog 9 = true := by kernel_rfl
theorem ti_sz26 : szI Tryd.prog 26 = some 3 := by kernel_rfl
theorem ti_sz34 : szI Tryd.prog 34 = some 1 := by kernel_rfl
theorem ti_sz36 : szI Tryd.prog 36 = some 2 := by kernel_rfl
theorem ti_sz52 : szI Tryd.prog 52 = some 3 := by kernel_rfl
theorem ti_sz57 : szI Tryd.prog 57 = some 6 := by kernel_rfl
theorem ti_sz65 : szI Tryd.prog 65 = some 3 := by kernel_rfl
theorem ti_sz67 : szI Tryd.prog 67 = some 1 := by kernel_rfl
theorem ti_sz68 : szI Tryd.prog 68 = some 1 := by kernel_rfl
theorem ti_sz87 : szI Tryd.prog 87 = some 26 := by kernel_rfl
theorem ti_sz98 : szI Tryd.prog 98 = some 2 := by kernel_rfl
theorem ti_sz99 : szI Tryd.prog 99 = some 32 := by kernel_rfl
theorem ti_us5 : (Tryd.prog.underlying 5).isSome = true := by kernel_rfl
theorem ti_us67 : (Tryd.prog.underlying 67).isSome = true := by kernel_rfl
theorem ti_us110 : (Tryd.prog.underlying 110).isSome = true := by kernel_rfl
theorem ti_zr26 : zrI Tryd.prog 26 = some [.i .i64 0, .i .i64 0, .s []] := by kernel_rfl
theorem ti_zr36 : zrI Tryd.prog 36 = some [.c (.slice none 0 0), .c (.slice none 0 0)] := by kernel_rfl
theorem ti_zr57 : zrI Tryd.prog 57 = some [.i .i64 0, .s [], .s [], .i .i64 0, .i .i64 0, .i .i64 0] := by kernel_rfl
theorem ti_zr65 : zrI Tryd.prog 65 = some [.i .i64 0, .s [], .s []] := by kernel_rfl
theorem ti_zr70 : zrI Tryd.prog 70 = some [.c (.pointer none), .c (.slice none 0 0)] := by kernel_rfl
theorem ti_zr91 : zrI Tryd.prog 91 = some [.s [], .i .i64 0, .c (.slice none 0 0)] := by kernel_rfl
theorem ti_zr98 : zrI Tryd.prog 98 = some [.i .u8 0, .i .u8 0] := by kernel_rfl
end Go.Proofs.YtmalccaijjcepaaDoor
