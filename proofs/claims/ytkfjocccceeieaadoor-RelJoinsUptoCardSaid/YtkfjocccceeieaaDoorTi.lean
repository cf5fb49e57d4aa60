/- What the types and functions of this translation say, a fact a row. No condition. -/
import Derived.Test.YtkfjocccceeieaaDoorProg
import Derived.Test.YtkfjocccceeieaaDoorAb16
import Derived.KernelRfl
set_option linter.all false
set_option linter.unusedSimpArgs false
set_option linter.unusedVariables false
namespace Go.Proofs.YtkfjocccceeieaaDoor
open Go.Proofs.YtkfjocccceeieaaDoor.Ab
theorem ti_mixed : Tryd.prog.follows .mixedOrders = true := by kernel_rfl
theorem ti_ag3 : agB Tryd.prog 3 = some false := by kernel_rfl
theorem ti_ag5 : agB Tryd.prog 5 = some false := by kernel_rfl
theorem ti_ag9 : agB Tryd.prog 9 = some false := by kernel_rfl
theorem ti_ag22 : agB Tryd.prog 22 = some false := by kernel_rfl
theorem ti_ag23 : agB Tryd.prog 23 = some false := by kernel_rfl
theorem ti_ag25 : agB Tryd.prog 25 = some true := by kernel_rfl
theorem ti_ag43 : agB Tryd.prog 43 = some false := by kernel_rfl
theorem ti_ag45 : agB Tryd.prog 45 = some false := by kernel_rfl
theorem ti_ag59 : agB Tryd.prog 59 = some true := by kernel_rfl
theorem ti_ag88 : agB Tryd.prog 88 = some false := by kernel_rfl
theorem ti_ag89 : agB Tryd.prog 89 = some false := by kernel_rfl
theorem ti_ag120 : agB Tryd.prog 120 = some true := by kernel_rfl
theorem ti_fe59 : feI Tryd.prog 59 = some [(0, 0), (1, 0), (2, 1)] := by kernel_rfl
theorem ti_fl25_0 : flI Tryd.prog 25 0 = some (0, false, 1) := by kernel_rfl
theorem ti_fl25_1 : flI Tryd.prog 25 1 = some (1, false, 1) := by kernel_rfl
theorem ti_fl59_0 : flI Tryd.prog 59 0 = some (0, false, 1) := by kernel_rfl
theorem ti_fl59_1 : flI Tryd.prog 59 1 = some (1, false, 1) := by kernel_rfl
theorem ti_fl59_2 : flI Tryd.prog 59 2 = some (2, false, 1) := by kernel_rfl
theorem ti_fl91_0 : flI Tryd.prog 91 0 = some (0, false, 1) := by kernel_rfl
theorem ti_fl91_1 : flI Tryd.prog 91 1 = some (1, false, 1) := by kernel_rfl
theorem ti_fl120_0 : flI Tryd.prog 120 0 = some (0, false, 1) := by kernel_rfl
theorem ti_fl120_1 : flI Tryd.prog 120 1 = some (1, false, 1) := by kernel_rfl
theorem ti_hb12 : hasBody Tryd.prog 12 = true := by kernel_rfl
theorem ti_hb13 : hasBody Tryd.prog 13 = true := by kernel_rfl
theorem ti_hb14 : hasBody Tryd.prog 14 = true := by kernel_rfl
theorem ti_hb15 : hasBody Tryd.prog 15 = true := by kernel_rfl
theorem ti_hb16 : hasBody Tryd.prog 16 = true := by kernel_rfl
theorem ti_hb17 : hasBody Tryd.prog 17 = true := by kernel_rfl
theorem ti_hb18 : hasBody Tryd.prog 18 = true := by kernel_rfl
theorem ti_hb19 : hasBody Tryd.prog 19 = true := by kernel_rfl
theorem ti_hb20 : hasBody Tryd.prog 20 = true := by kernel_rfl
theorem ti_hb21 : hasBody Tryd.prog 21 = true := by kernel_rfl
theorem ti_hb22 : hasBody Tryd.prog 22 = true := by kernel_rfl
theorem ti_hb23 : hasBody Tryd.prog 23 = true := by kernel_rfl
theorem ti_hb24 : hasBody Tryd.prog 24 = true := by kernel_rfl
theorem ti_hb25 : hasBody Tryd.prog 25 = true := by kernel_rfl
theorem ti_hb26 : hasBody Tryd.prog 26 = true := by kernel_rfl
theorem ti_hb27 : hasBody Tryd.prog 27 = true := by kernel_rfl
theorem ti_hb28 : hasBody Tryd.prog 28 = true := by kernel_rfl
theorem ti_hb29 : hasBody Tryd.prog 29 = true := by kernel_rfl
theorem ti_hb30 : hasBody Tryd.prog 30 = true := by kernel_rfl
theorem ti_hb31 : hasBody Tryd.prog 31 = true := by kernel_rfl
theorem ti_hb32 : hasBody Tryd.prog 32 = true := by kernel_rfl
theorem ti_hb33 : hasBody Tryd.prog 33 = true := by kernel_rfl
theorem ti_hb34 : hasBody Tryd.prog 34 = true := by kernel_rfl
theorem ti_hb35 : hasBody Tryd.prog 35 = true := by kernel_rfl
theorem ti_hb36 : hasBody Tryd.prog 36 = true := by kernel_rfl
theorem ti_hb37 : hasBody Tryd.prog 37 = true := by kernel_rfl
theorem ti_hb38 : hasBody Tryd.prog 38 = true := by kernel_rfl
theorem ti_hb39 : hasBody Tryd.prog 39 = true := by kernel_rfl
theorem ti_hb40 : hasBody Tryd.prog 40 = true := by kernel_rfl
theorem ti_hb41 : hasBody Tryd.prog 41 = true := by kernel_rfl
theorem ti_hb42 : hasBody Tryd.prog 42 = true := by kernel_rfl
theorem ti_hb43 : hasBody Tryd.prog 43 = true := by kernel_rfl
theorem ti_hb44 : hasBody Tryd.prog 44 = true := by kernel_rfl
theorem ti_hb45 : hasBody Tryd.prog 45 = true := by kernel_rfl
theorem ti_hb46 : hasBody Tryd.prog 46 = true := by kernel_rfl
theorem ti_hb47 : hasBody Tryd.prog 47 = true := by kernel_rfl
theorem ti_hb48 : hasBody Tryd.prog 48 = true := by kernel_rfl
theorem ti_hb49 : hasBody Tryd.prog 49 = true := by kernel_rfl
theorem ti_hb50 : hasBody Tryd.prog 50 = true := by kernel_rfl
theorem ti_hb51 : hasBody Tryd.prog 51 = true := by kernel_rfl
theorem ti_hb52 : hasBody Tryd.prog 52 = true := by kernel_rfl
theorem ti_hb53 : hasBody Tryd.prog 53 = true := by kernel_rfl
theorem ti_hb54 : hasBody Tryd.prog 54 = true := by kernel_rfl
theorem ti_hb55 : hasBody Tryd.prog 55 = true := by kernel_rfl
theorem ti_hb56 : hasBody Tryd.prog 56 = true := by kernel_rfl
theorem ti_hb57 : hasBody Tryd.prog 57 = true := by kernel_rfl
theorem ti_hb58 : hasBody Tryd.prog 58 = true := by kernel_rfl
theorem ti_hb59 : hasBody Tryd.prog 59 = true := by kernel_rfl
theorem ti_hb60 : hasBody Tryd.prog 60 = true := by kernel_rfl
theorem ti_hb61 : hasBody Tryd.prog 61 = true := by kernel_rfl
theorem ti_hb62 : hasBody Tryd.prog 62 = true := by kernel_rfl
theorem ti_hb63 : hasBody Tryd.prog 63 = true := by kernel_rfl
theorem ti_hb64 : hasBody Tryd.prog 64 = true := by kernel_rfl
theorem ti_hb65 : hasBody Tryd.prog 65 = true := by kernel_rfl
theorem ti_hb66 : hasBody Tryd.prog 66 = true := by kernel_rfl
theorem ti_hb67 : hasBody Tryd.prog 67 = true := by kernel_rfl
theorem ti_hb68 : hasBody Tryd.prog 68 = true := by kernel_rfl
theorem ti_hb69 : hasBody Tryd.prog 69 = true := by kernel_rfl
theorem ti_hb70 : hasBody Tryd.prog 70 = true := by kernel_rfl
theorem ti_hb71 : hasBody Tryd.prog 71 = true := by kernel_rfl
theorem ti_hb72 : hasBody Tryd.prog 72 = true := by kernel_rfl
theorem ti_hb73 : hasBody Tryd.prog 73 = true := by kernel_rfl
theorem ti_hb74 : hasBody Tryd.prog 74 = true := by kernel_rfl
theorem ti_hb75 : hasBody Tryd.prog 75 = true := by kernel_rfl
theorem ti_hb76 : hasBody Tryd.prog 76 = true := by kernel_rfl
theorem ti_hb77 : hasBody Tryd.prog 77 = true := by kernel_rfl
theorem ti_hb78 : hasBody Tryd.prog 78 = true := by kernel_rfl
theorem ti_hb79 : hasBody Tryd.prog 79 = true := by kernel_rfl
theorem ti_hb80 : hasBody Tryd.prog 80 = true := by kernel_rfl
theorem ti_hb81 : hasBody Tryd.prog 81 = true := by kernel_rfl
theorem ti_hb82 : hasBody Tryd.prog 82 = true := by kernel_rfl
theorem ti_hb83 : hasBody Tryd.prog 83 = true := by kernel_rfl
theorem ti_hb84 : hasBody Tryd.prog 84 = true := by kernel_rfl
theorem ti_hb85 : hasBody Tryd.prog 85 = true := by kernel_rfl
theorem ti_hb86 : hasBody Tryd.prog 86 = true := by kernel_rfl
theorem ti_hb87 : hasBody Tryd.prog 87 = true := by kernel_rfl
theorem ti_hb88 : hasBody Tryd.prog 88 = true := by kernel_rfl
theorem ti_hb89 : hasBody Tryd.prog 89 = true := by kernel_rfl
theorem ti_hb90 : hasBody Tryd.prog 90 = true := by kernel_rfl
theorem ti_hb91 : hasBody Tryd.prog 91 = true := by kernel_rfl
theorem ti_hb92 : hasBody Tryd.prog 92 = true := by kernel_rfl
theorem ti_hb93 : hasBody Tryd.prog 93 = true := by kernel_rfl
theorem ti_hb94 : hasBody Tryd.prog 94 = true := by kernel_rfl
theorem ti_hb95 : hasBody Tryd.prog 95 = true := by kernel_rfl
theorem ti_hb97 : hasBody Tryd.prog 97 = true := by kernel_rfl
theorem ti_hb98 : hasBody Tryd.prog 98 = true := by kernel_rfl
theorem ti_hb99 : hasBody Tryd.prog 99 = true := by kernel_rfl
theorem ti_hb100 : hasBody Tryd.prog 100 = true := by kernel_rfl
theorem ti_hb101 : hasBody Tryd.prog 101 = true := by kernel_rfl
theorem ti_hb102 : hasBody Tryd.prog 102 = true := by kernel_rfl
theorem ti_hb104 : hasBody Tryd.prog 104 = true := by kernel_rfl
theorem ti_in3 : inI Tryd.prog 3 = some .i64 := by kernel_rfl
theorem ti_in5 : inI Tryd.prog 5 = some .u8 := by kernel_rfl
theorem ti_in12 : inI Tryd.prog 12 = some .u64 := by kernel_rfl
theorem ti_in115 : inI Tryd.prog 115 = some .u64 := by kernel_rfl
theorem ti_in122 : inI Tryd.prog 122 = some .u64 := by kernel_rfl
theorem ti_ky9 : kyI Tryd.prog 9 = some [.s] := by kernel_rfl
theorem ti_ky59 : kyI Tryd.prog 59 = some [.i .i64, .i .i64, .s] := by kernel_rfl
theorem ti_mp62 : mpI Tryd.prog 62 = some (59, 43) := by kernel_rfl
theorem ti_mp68 : mpI Tryd.prog 68 = some (59, 45) := by kernel_rfl
theorem ti_mp69 : mpI Tryd.prog 69 = some (9, 4) := by kernel_rfl
theorem ti_mp76 : mpI Tryd.prog 76 = some (9, 3) := by kernel_rfl
theorem ti_pl25 : plI Tryd.prog 25 = some [(0, 1), (1, 1)] := by kernel_rfl
theorem ti_pl59 : plI Tryd.prog 59 = some [(0, 1), (1, 1), (2, 1)] := by kernel_rfl
theorem ti_pl120 : plI Tryd.prog 120 = some [(0, 1), (1, 1)] := by kernel_rfl
theorem ti_pt105 : ptI Tryd.prog 105 = some (5, 1) := by kernel_rfl
theorem ti_sb22 : slB Tryd.prog 22 = true := by kernel_rfl
theorem ti_sb23 : slB Tryd.prog 23 = true := by kernel_rfl
theorem ti_sb43 : slB Tryd.prog 43 = true := by kernel_rfl
theorem ti_sb45 : slB Tryd.prog 45 = true := by kernel_rfl
theorem ti_sb82 : slB Tryd.prog 82 = true := by kernel_rfl
theorem ti_sb86 : slB Tryd.prog 86 = true := by kernel_rfl
theorem ti_sb89 : slB Tryd.prog 89 = true := by kernel_rfl
theorem ti_sl22 : slI Tryd.prog 22 = some (9, 1, 16) := by kernel_rfl
theorem ti_sl23 : slI Tryd.prog 23 = some (43, 1, 24) := by kernel_rfl
theorem ti_sl43 : slI Tryd.prog 43 = some (59, 3, 32) := by kernel_rfl
theorem ti_sl45 : slI Tryd.prog 45 = some (3, 1, 8) := by kernel_rfl
theorem ti_sl82 : slI Tryd.prog 82 = some (22, 1, 24) := by kernel_rfl
theorem ti_sl86 : slI Tryd.prog 86 = some (23, 1, 24) := by kernel_rfl
theorem ti_sl89 : slI Tryd.prog 89 = some (5, 1, 1) := by kernel_rfl
theorem ti_st9 : stB Tryd.prog 9 = true := by kernel_rfl
theorem ti_sz3 : szI Tryd.prog 3 = some 1 := by kernel_rfl
theorem ti_sz23 : szI Tryd.prog 23 = some 1 := by kernel_rfl
theorem ti_sz25 : szI Tryd.prog 25 = some 2 := by kernel_rfl
theorem ti_sz43 : szI Tryd.prog 43 = some 1 := by kernel_rfl
theorem ti_sz45 : szI Tryd.prog 45 = some 1 := by kernel_rfl
theorem ti_sz59 : szI Tryd.prog 59 = some 3 := by kernel_rfl
theorem ti_sz88 : szI Tryd.prog 88 = some 1 := by kernel_rfl
theorem ti_sz89 : szI Tryd.prog 89 = some 1 := by kernel_rfl
theorem ti_sz120 : szI Tryd.prog 120 = some 2 := by kernel_rfl
theorem ti_sz121 : szI Tryd.prog 121 = some 32 := by kernel_rfl
theorem ti_us3 : (Tryd.prog.underlying 3).isSome = true := by kernel_rfl
theorem ti_us5 : (Tryd.prog.underlying 5).isSome = true := by kernel_rfl
theorem ti_us88 : (Tryd.prog.underlying 88).isSome = true := by kernel_rfl
theorem ti_us113 : (Tryd.prog.underlying 113).isSome = true := by kernel_rfl
theorem ti_us115 : (Tryd.prog.underlying 115).isSome = true := by kernel_rfl
theorem ti_zr3 : zrI Tryd.prog 3 = some [.i .i64 0] := by kernel_rfl
theorem ti_zr9 : zrI Tryd.prog 9 = some [.s []] := by kernel_rfl
theorem ti_zr25 : zrI Tryd.prog 25 = some [.c (.slice none 0 0), .c (.slice none 0 0)] := by kernel_rfl
theorem ti_zr43 : zrI Tryd.prog 43 = some [.c (.slice none 0 0)] := by kernel_rfl
theorem ti_zr45 : zrI Tryd.prog 45 = some [.c (.slice none 0 0)] := by kernel_rfl
theorem ti_zr59 : zrI Tryd.prog 59 = some [.i .i64 0, .i .i64 0, .s []] := by kernel_rfl
theorem ti_zr91 : zrI Tryd.prog 91 = some [.c (.pointer none), .c (.slice none 0 0)] := by kernel_rfl
theorem ti_zr120 : zrI Tryd.prog 120 = some [.i .u8 0, .i .u8 0] := by kernel_rfl
theorem ti_zv3 : zvI Tryd.prog 3 = some (.i .i64 0) := by kernel_rfl
theorem ti_zv4 : zvI Tryd.prog 4 = some (.b false) := by kernel_rfl
theorem ti_zv43 : zvI Tryd.prog 43 = some (.c (.slice none 0 0)) := by kernel_rfl
theorem ti_zv45 : zvI Tryd.prog 45 = some (.c (.slice none 0 0)) := by kernel_rfl
end Go.Proofs.YtkfjocccceeieaaDoor
