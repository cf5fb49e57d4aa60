/- What the types and functions of this translation say, a fact a row. No condition. -/
import Derived.Test.YtohonoiojabjaaaDoorProg
import Derived.Test.YtohonoiojabjaaaDoorAb16
import Derived.KernelRfl
set_option linter.all false
set_option linter.unusedSimpArgs false
set_option linter.unusedVariables false
namespace Go.Proofs.YtohonoiojabjaaaDoor
open Go.Proofs.YtohonoiojabjaaaDoor.Ab
theorem ti_mixed : Tryd.prog.follows .mixedOrders = true := by kernel_rfl
theorem ti_ag3 : agB Tryd.prog 3 = some false := by kernel_rfl
theorem ti_ag5 : agB Tryd.prog 5 = some false := by kernel_rfl
theorem ti_ag9 : agB Tryd.prog 9 = some false := by kernel_rfl
theorem ti_ag29 : agB Tryd.prog 29 = some false := by kernel_rfl
theorem ti_ag30 : agB Tryd.prog 30 = some false := by kernel_rfl
theorem ti_ag32 : agB Tryd.prog 32 = some true := by kernel_rfl
theorem ti_ag40 : agB Tryd.prog 40 = some true := by kernel_rfl
theorem ti_ag49 : agB Tryd.prog 49 = some true := by kernel_rfl
theorem ti_ag55 : agB Tryd.prog 55 = some false := by kernel_rfl
theorem ti_ag58 : agB Tryd.prog 58 = some true := by kernel_rfl
theorem ti_ag100 : agB Tryd.prog 100 = some false := by kernel_rfl
theorem ti_ag101 : agB Tryd.prog 101 = some false := by kernel_rfl
theorem ti_ag115 : agB Tryd.prog 115 = some true := by kernel_rfl
theorem ti_av72_26 : avI Tryd.prog 72 = some 26 := by kernel_rfl
theorem ti_bo4 : boB Tryd.prog 4 = true := by kernel_rfl
theorem ti_el113 : elI Tryd.prog 113 = some (256, 1) := by kernel_rfl
theorem ti_el116 : elI Tryd.prog 116 = some (16, 2) := by kernel_rfl
theorem ti_fe49 : feI Tryd.prog 49 = some [(0, 0), (1, 1), (2, 1), (3, 0), (4, 0), (5, 0)] := by kernel_rfl
theorem ti_fe58 : feI Tryd.prog 58 = some [(0, 0), (1, 0), (2, 1)] := by kernel_rfl
theorem ti_fl32_0 : flI Tryd.prog 32 0 = some (0, false, 1) := by kernel_rfl
theorem ti_fl32_1 : flI Tryd.prog 32 1 = some (1, false, 1) := by kernel_rfl
theorem ti_fl40_0 : flI Tryd.prog 40 0 = some (0, false, 1) := by kernel_rfl
theorem ti_fl40_1 : flI Tryd.prog 40 1 = some (1, false, 1) := by kernel_rfl
theorem ti_fl40_2 : flI Tryd.prog 40 2 = some (2, false, 1) := by kernel_rfl
theorem ti_fl49_0 : flI Tryd.prog 49 0 = some (0, false, 1) := by kernel_rfl
theorem ti_fl49_1 : flI Tryd.prog 49 1 = some (1, false, 1) := by kernel_rfl
theorem ti_fl49_2 : flI Tryd.prog 49 2 = some (2, false, 1) := by kernel_rfl
theorem ti_fl49_3 : flI Tryd.prog 49 3 = some (3, false, 1) := by kernel_rfl
theorem ti_fl49_4 : flI Tryd.prog 49 4 = some (4, false, 1) := by kernel_rfl
theorem ti_fl49_5 : flI Tryd.prog 49 5 = some (5, false, 1) := by kernel_rfl
theorem ti_fl58_0 : flI Tryd.prog 58 0 = some (0, false, 1) := by kernel_rfl
theorem ti_fl58_1 : flI Tryd.prog 58 1 = some (1, false, 1) := by kernel_rfl
theorem ti_fl58_2 : flI Tryd.prog 58 2 = some (2, false, 1) := by kernel_rfl
theorem ti_fl76_0 : flI Tryd.prog 76 0 = some (0, false, 1) := by kernel_rfl
theorem ti_fl103_0 : flI Tryd.prog 103 0 = some (0, false, 1) := by kernel_rfl
theorem ti_fl103_1 : flI Tryd.prog 103 1 = some (1, false, 1) := by kernel_rfl
theorem ti_fl115_0 : flI Tryd.prog 115 0 = some (0, false, 1) := by kernel_rfl
theorem ti_fl115_1 : flI Tryd.prog 115 1 = some (1, false, 1) := by kernel_rfl
theorem ti_hb10 : hasBody Tryd.prog 10 = true := by kernel_rfl
theorem ti_hb11 : hasBody Tryd.prog 11 = true := by kernel_rfl
theorem ti_hb12 : hasBody Tryd.prog 12 = true := by kernel_rfl
theorem ti_hb13 : hasBody Tryd.prog 13 = true := by kernel_rfl
theorem ti_hb14 : hasBody Tryd.prog 14 = true := by kernel_rfl
theorem ti_hb15 : hasBody Tryd.prog 15 = true := by kernel_rfl
theorem ti_hb16 : hasBody Tryd.prog 16 = true := by kernel_rfl
theorem ti_hb17 : hasBody Tryd.prog 17 = true := by kernel_rfl
theorem ti_hb18 : hasBody Tryd.prog 18 = true := by kernel_rfl
theorem ti_hb19 : hasBody Tryd.prog 19 = true := by kernel_rfl
theorem ti_hb20 : hasBody Tryd.prog 20 = true := by kernel_rfl
theorem ti_hb21 : hasBody Tryd.prog 21 = true := by kernel_rfl
theorem ti_hb22 : hasBody Tryd.prog 22 = true := by kernel_rfl
theorem ti_hb23 : hasBody Tryd.prog 23 = true := by kernel_rfl
theorem ti_hb24 : hasBody Tryd.prog 24 = true := by kernel_rfl
theorem ti_hb25 : hasBody Tryd.prog 25 = true := by kernel_rfl
theorem ti_hb26 : hasBody Tryd.prog 26 = true := by kernel_rfl
theorem ti_hb27 : hasBody Tryd.prog 27 = true := by kernel_rfl
theorem ti_hb28 : hasBody Tryd.prog 28 = true := by kernel_rfl
theorem ti_hb29 : hasBody Tryd.prog 29 = true := by kernel_rfl
theorem ti_hb30 : hasBody Tryd.prog 30 = true := by kernel_rfl
theorem ti_hb31 : hasBody Tryd.prog 31 = true := by kernel_rfl
theorem ti_hb32 : hasBody Tryd.prog 32 = true := by kernel_rfl
theorem ti_hb33 : hasBody Tryd.prog 33 = true := by kernel_rfl
theorem ti_hb34 : hasBody Tryd.prog 34 = true := by kernel_rfl
theorem ti_hb35 : hasBody Tryd.prog 35 = true := by kernel_rfl
theorem ti_hb36 : hasBody Tryd.prog 36 = true := by kernel_rfl
theorem ti_hb37 : hasBody Tryd.prog 37 = true := by kernel_rfl
theorem ti_hb38 : hasBody Tryd.prog 38 = true := by kernel_rfl
theorem ti_hb39 : hasBody Tryd.prog 39 = true := by kernel_rfl
theorem ti_hb40 : hasBody Tryd.prog 40 = true := by kernel_rfl
theorem ti_hb41 : hasBody Tryd.prog 41 = true := by kernel_rfl
theorem ti_hb42 : hasBody Tryd.prog 42 = true := by kernel_rfl
theorem ti_hb43 : hasBody Tryd.prog 43 = true := by kernel_rfl
theorem ti_hb44 : hasBody Tryd.prog 44 = true := by kernel_rfl
theorem ti_hb45 : hasBody Tryd.prog 45 = true := by kernel_rfl
theorem ti_hb46 : hasBody Tryd.prog 46 = true := by kernel_rfl
theorem ti_hb47 : hasBody Tryd.prog 47 = true := by kernel_rfl
theorem ti_hb48 : hasBody Tryd.prog 48 = true := by kernel_rfl
theorem ti_hb49 : hasBody Tryd.prog 49 = true := by kernel_rfl
theorem ti_hb50 : hasBody Tryd.prog 50 = true := by kernel_rfl
theorem ti_hb51 : hasBody Tryd.prog 51 = true := by kernel_rfl
theorem ti_hb52 : hasBody Tryd.prog 52 = true := by kernel_rfl
theorem ti_hb53 : hasBody Tryd.prog 53 = true := by kernel_rfl
theorem ti_hb54 : hasBody Tryd.prog 54 = true := by kernel_rfl
theorem ti_hb55 : hasBody Tryd.prog 55 = true := by kernel_rfl
theorem ti_hb56 : hasBody Tryd.prog 56 = true := by kernel_rfl
theorem ti_hb57 : hasBody Tryd.prog 57 = true := by kernel_rfl
theorem ti_hb58 : hasBody Tryd.prog 58 = true := by kernel_rfl
theorem ti_hb59 : hasBody Tryd.prog 59 = true := by kernel_rfl
theorem ti_hb60 : hasBody Tryd.prog 60 = true := by kernel_rfl
theorem ti_hb61 : hasBody Tryd.prog 61 = true := by kernel_rfl
theorem ti_hb62 : hasBody Tryd.prog 62 = true := by kernel_rfl
theorem ti_hb63 : hasBody Tryd.prog 63 = true := by kernel_rfl
theorem ti_hb64 : hasBody Tryd.prog 64 = true := by kernel_rfl
theorem ti_hb65 : hasBody Tryd.prog 65 = true := by kernel_rfl
theorem ti_hb66 : hasBody Tryd.prog 66 = true := by kernel_rfl
theorem ti_hb67 : hasBody Tryd.prog 67 = true := by kernel_rfl
theorem ti_hb68 : hasBody Tryd.prog 68 = true := by kernel_rfl
theorem ti_hb69 : hasBody Tryd.prog 69 = true := by kernel_rfl
theorem ti_hb70 : hasBody Tryd.prog 70 = true := by kernel_rfl
theorem ti_hb71 : hasBody Tryd.prog 71 = true := by kernel_rfl
theorem ti_hb72 : hasBody Tryd.prog 72 = true := by kernel_rfl
theorem ti_hb73 : hasBody Tryd.prog 73 = true := by kernel_rfl
theorem ti_hb74 : hasBody Tryd.prog 74 = true := by kernel_rfl
theorem ti_hb75 : hasBody Tryd.prog 75 = true := by kernel_rfl
theorem ti_hb76 : hasBody Tryd.prog 76 = true := by kernel_rfl
theorem ti_hb77 : hasBody Tryd.prog 77 = true := by kernel_rfl
theorem ti_hb78 : hasBody Tryd.prog 78 = true := by kernel_rfl
theorem ti_hb79 : hasBody Tryd.prog 79 = true := by kernel_rfl
theorem ti_hb80 : hasBody Tryd.prog 80 = true := by kernel_rfl
theorem ti_hb81 : hasBody Tryd.prog 81 = true := by kernel_rfl
theorem ti_hb82 : hasBody Tryd.prog 82 = true := by kernel_rfl
theorem ti_hb83 : hasBody Tryd.prog 83 = true := by kernel_rfl
theorem ti_hb84 : hasBody Tryd.prog 84 = true := by kernel_rfl
theorem ti_hb85 : hasBody Tryd.prog 85 = true := by kernel_rfl
theorem ti_hb86 : hasBody Tryd.prog 86 = true := by kernel_rfl
theorem ti_hb87 : hasBody Tryd.prog 87 = true := by kernel_rfl
theorem ti_hb88 : hasBody Tryd.prog 88 = true := by kernel_rfl
theorem ti_hb89 : hasBody Tryd.prog 89 = true := by kernel_rfl
theorem ti_hb90 : hasBody Tryd.prog 90 = true := by kernel_rfl
theorem ti_hb91 : hasBody Tryd.prog 91 = true := by kernel_rfl
theorem ti_hb92 : hasBody Tryd.prog 92 = true := by kernel_rfl
theorem ti_hb93 : hasBody Tryd.prog 93 = true := by kernel_rfl
theorem ti_hb95 : hasBody Tryd.prog 95 = true := by kernel_rfl
theorem ti_hb96 : hasBody Tryd.prog 96 = true := by kernel_rfl
theorem ti_hb98 : hasBody Tryd.prog 98 = true := by kernel_rfl
theorem ti_hb100 : hasBody Tryd.prog 100 = true := by kernel_rfl
theorem ti_in3 : inI Tryd.prog 3 = some .i64 := by kernel_rfl
theorem ti_in5 : inI Tryd.prog 5 = some .u8 := by kernel_rfl
theorem ti_in12 : inI Tryd.prog 12 = some .u64 := by kernel_rfl
theorem ti_in121 : inI Tryd.prog 121 = some .u64 := by kernel_rfl
theorem ti_in124 : inI Tryd.prog 124 = some .u32 := by kernel_rfl
theorem ti_ky9 : kyI Tryd.prog 9 = some [.s] := by kernel_rfl
theorem ti_ky58 : kyI Tryd.prog 58 = some [.i .i64, .i .i64, .s] := by kernel_rfl
theorem ti_mp67 : mpI Tryd.prog 67 = some (58, 64) := by kernel_rfl
theorem ti_mp81 : mpI Tryd.prog 81 = some (9, 4) := by kernel_rfl
theorem ti_pl32 : plI Tryd.prog 32 = some [(0, 1), (1, 1)] := by kernel_rfl
theorem ti_pl76 : plI Tryd.prog 76 = some [(0, 1), (1, 1), (2, 1)] := by kernel_rfl
theorem ti_pl115 : plI Tryd.prog 115 = some [(0, 1), (1, 1)] := by kernel_rfl
theorem ti_pt119 : ptI Tryd.prog 119 = some (5, 1) := by kernel_rfl
theorem ti_sb22 : slB Tryd.prog 22 = true := by kernel_rfl
theorem ti_sb29 : slB Tryd.prog 29 = true := by kernel_rfl
theorem ti_sb30 : slB Tryd.prog 30 = true := by kernel_rfl
theorem ti_sb55 : slB Tryd.prog 55 = true := by kernel_rfl
theorem ti_sb64 : slB Tryd.prog 64 = true := by kernel_rfl
theorem ti_sb87 : slB Tryd.prog 87 = true := by kernel_rfl
theorem ti_sb91 : slB Tryd.prog 91 = true := by kernel_rfl
theorem ti_sb101 : slB Tryd.prog 101 = true := by kernel_rfl
theorem ti_sl22 : slI Tryd.prog 22 = some (49, 6, 64) := by kernel_rfl
theorem ti_sl29 : slI Tryd.prog 29 = some (9, 1, 16) := by kernel_rfl
theorem ti_sl30 : slI Tryd.prog 30 = some (55, 1, 24) := by kernel_rfl
theorem ti_sl55 : slI Tryd.prog 55 = some (58, 3, 32) := by kernel_rfl
theorem ti_sl64 : slI Tryd.prog 64 = some (3, 1, 8) := by kernel_rfl
theorem ti_sl87 : slI Tryd.prog 87 = some (29, 1, 24) := by kernel_rfl
theorem ti_sl91 : slI Tryd.prog 91 = some (30, 1, 24) := by kernel_rfl
theorem ti_sl101 : slI Tryd.prog 101 = some (5, 1, 1) := by kernel_rfl
theorem ti_sn113 : slI Tryd.prog 113 = none := by kernel_rfl
theorem ti_sn116 : slI Tryd.prog 116 = none := by kernel_rfl
theorem ti_st9 : stB Tryd.prog 9 = true := by kernel_rfl
theorem ti_sz3 : szI Tryd.prog 3 = some 1 := by kernel_rfl
theorem ti_sz30 : szI Tryd.prog 30 = some 1 := by kernel_rfl
theorem ti_sz32 : szI Tryd.prog 32 = some 2 := by kernel_rfl
theorem ti_sz40 : szI Tryd.prog 40 = some 3 := by kernel_rfl
theorem ti_sz49 : szI Tryd.prog 49 = some 6 := by kernel_rfl
theorem ti_sz58 : szI Tryd.prog 58 = some 3 := by kernel_rfl
theorem ti_sz72 : szI Tryd.prog 72 = some 26 := by kernel_rfl
theorem ti_sz100 : szI Tryd.prog 100 = some 1 := by kernel_rfl
theorem ti_sz101 : szI Tryd.prog 101 = some 1 := by kernel_rfl
theorem ti_sz115 : szI Tryd.prog 115 = some 2 := by kernel_rfl
theorem ti_sz116 : szI Tryd.prog 116 = some 32 := by kernel_rfl
theorem ti_us3 : (Tryd.prog.underlying 3).isSome = true := by kernel_rfl
theorem ti_us5 : (Tryd.prog.underlying 5).isSome = true := by kernel_rfl
theorem ti_us100 : (Tryd.prog.underlying 100).isSome = true := by kernel_rfl
theorem ti_us122 : (Tryd.prog.underlying 122).isSome = true := by kernel_rfl
theorem ti_zr9 : zrI Tryd.prog 9 = some [.s []] := by kernel_rfl
theorem ti_zr32 : zrI Tryd.prog 32 = some [.c (.slice none 0 0), .c (.slice none 0 0)] := by kernel_rfl
theorem ti_zr49 : zrI Tryd.prog 49 = some [.i .i64 0, .s [], .s [], .i .i64 0, .i .i64 0, .i .i64 0] := by kernel_rfl
theorem ti_zr55 : zrI Tryd.prog 55 = some [.c (.slice none 0 0)] := by kernel_rfl
theorem ti_zr58 : zrI Tryd.prog 58 = some [.i .i64 0, .i .i64 0, .s []] := by kernel_rfl
theorem ti_zr76 : zrI Tryd.prog 76 = some [.s [], .i .i64 0, .c (.slice none 0 0)] := by kernel_rfl
theorem ti_zr103 : zrI Tryd.prog 103 = some [.c (.pointer none), .c (.slice none 0 0)] := by kernel_rfl
theorem ti_zr115 : zrI Tryd.prog 115 = some [.i .u8 0, .i .u8 0] := by kernel_rfl
theorem ti_zv4 : zvI Tryd.prog 4 = some (.b false) := by kernel_rfl
theorem ti_zv64 : zvI Tryd.prog 64 = some (.c (.slice none 0 0)) := by kernel_rfl
end Go.Proofs.YtohonoiojabjaaaDoor
