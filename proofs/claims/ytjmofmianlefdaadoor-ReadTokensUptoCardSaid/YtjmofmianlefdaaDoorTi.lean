/- What the types and functions of this translation say, a fact a row. No condition. -/
import Derived.Test.YtjmofmianlefdaaDoorProg
import Derived.Test.YtjmofmianlefdaaDoorAb16
import Derived.KernelRfl
set_option linter.all false
set_option linter.unusedSimpArgs false
set_option linter.unusedVariables false
namespace Go.Proofs.YtjmofmianlefdaaDoor
open Go.Proofs.YtjmofmianlefdaaDoor.Ab
theorem ti_mixed : Tryd.prog.follows .mixedOrders = true := by kernel_rfl
theorem ti_ag3 : agB Tryd.prog 3 = some false := by kernel_rfl
theorem ti_ag4 : agB Tryd.prog 4 = some false := by kernel_rfl
theorem ti_ag5 : agB Tryd.prog 5 = some false := by kernel_rfl
theorem ti_ag9 : agB Tryd.prog 9 = some false := by kernel_rfl
theorem ti_ag23 : agB Tryd.prog 23 = some true := by kernel_rfl
theorem ti_ag25 : agB Tryd.prog 25 = some true := by kernel_rfl
theorem ti_ag26 : agB Tryd.prog 26 = some false := by kernel_rfl
theorem ti_ag28 : agB Tryd.prog 28 = some true := by kernel_rfl
theorem ti_ag29 : agB Tryd.prog 29 = some false := by kernel_rfl
theorem ti_ag33 : agB Tryd.prog 33 = some true := by kernel_rfl
theorem ti_ag36 : agB Tryd.prog 36 = some false := by kernel_rfl
theorem ti_ag37 : agB Tryd.prog 37 = some false := by kernel_rfl
theorem ti_ag39 : agB Tryd.prog 39 = some true := by kernel_rfl
theorem ti_ag44 : agB Tryd.prog 44 = some false := by kernel_rfl
theorem ti_ag59 : agB Tryd.prog 59 = some false := by kernel_rfl
theorem ti_ag73 : agB Tryd.prog 73 = some false := by kernel_rfl
theorem ti_ag83 : agB Tryd.prog 83 = some true := by kernel_rfl
theorem ti_ag105 : agB Tryd.prog 105 = some false := by kernel_rfl
theorem ti_ag114 : agB Tryd.prog 114 = some false := by kernel_rfl
theorem ti_ag120 : agB Tryd.prog 120 = some true := by kernel_rfl
theorem ti_av60_26 : avI Tryd.prog 60 = some 26 := by kernel_rfl
theorem ti_av148_13 : avI Tryd.prog 148 = some 13 := by kernel_rfl
theorem ti_bo4 : boB Tryd.prog 4 = true := by kernel_rfl
theorem ti_fe23 : feI Tryd.prog 23 = some [(0, 0), (1, 0), (2, 1)] := by kernel_rfl
theorem ti_fe25 : feI Tryd.prog 25 = some [(0, 0), (1, 1)] := by kernel_rfl
theorem ti_fe33 : feI Tryd.prog 33 = some [(0, 0), (1, 1), (2, 0)] := by kernel_rfl
theorem ti_fl23_0 : flI Tryd.prog 23 0 = some (0, false, 1) := by kernel_rfl
theorem ti_fl23_1 : flI Tryd.prog 23 1 = some (1, false, 1) := by kernel_rfl
theorem ti_fl23_2 : flI Tryd.prog 23 2 = some (2, false, 1) := by kernel_rfl
theorem ti_fl25_0 : flI Tryd.prog 25 0 = some (0, false, 1) := by kernel_rfl
theorem ti_fl28_0 : flI Tryd.prog 28 0 = some (0, false, 1) := by kernel_rfl
theorem ti_fl28_1 : flI Tryd.prog 28 1 = some (1, true, 3) := by kernel_rfl
theorem ti_fl28_2 : flI Tryd.prog 28 2 = some (4, false, 1) := by kernel_rfl
theorem ti_fl28_3 : flI Tryd.prog 28 3 = some (5, false, 1) := by kernel_rfl
theorem ti_fl28_4 : flI Tryd.prog 28 4 = some (6, false, 1) := by kernel_rfl
theorem ti_fl28_5 : flI Tryd.prog 28 5 = some (7, false, 1) := by kernel_rfl
theorem ti_fl28_6 : flI Tryd.prog 28 6 = some (8, true, 2) := by kernel_rfl
theorem ti_fl28_7 : flI Tryd.prog 28 7 = some (10, false, 1) := by kernel_rfl
theorem ti_fl33_0 : flI Tryd.prog 33 0 = some (0, false, 1) := by kernel_rfl
theorem ti_fl33_1 : flI Tryd.prog 33 1 = some (1, false, 1) := by kernel_rfl
theorem ti_fl33_2 : flI Tryd.prog 33 2 = some (2, false, 1) := by kernel_rfl
theorem ti_fl39_0 : flI Tryd.prog 39 0 = some (0, false, 1) := by kernel_rfl
theorem ti_fl39_1 : flI Tryd.prog 39 1 = some (1, true, 3) := by kernel_rfl
theorem ti_fl39_2 : flI Tryd.prog 39 2 = some (4, false, 1) := by kernel_rfl
theorem ti_fl39_3 : flI Tryd.prog 39 3 = some (5, false, 1) := by kernel_rfl
theorem ti_fl39_4 : flI Tryd.prog 39 4 = some (6, false, 1) := by kernel_rfl
theorem ti_fl39_5 : flI Tryd.prog 39 5 = some (7, true, 2) := by kernel_rfl
theorem ti_fl39_6 : flI Tryd.prog 39 6 = some (9, false, 1) := by kernel_rfl
theorem ti_fl39_7 : flI Tryd.prog 39 7 = some (10, false, 1) := by kernel_rfl
theorem ti_fl51_0 : flI Tryd.prog 51 0 = some (0, false, 1) := by kernel_rfl
theorem ti_fl51_1 : flI Tryd.prog 51 1 = some (1, false, 1) := by kernel_rfl
theorem ti_fl51_2 : flI Tryd.prog 51 2 = some (2, false, 1) := by kernel_rfl
theorem ti_fl63_0 : flI Tryd.prog 63 0 = some (0, false, 1) := by kernel_rfl
theorem ti_fl70_0 : flI Tryd.prog 70 0 = some (0, false, 1) := by kernel_rfl
theorem ti_fl76_0 : flI Tryd.prog 76 0 = some (0, false, 1) := by kernel_rfl
theorem ti_fl76_1 : flI Tryd.prog 76 1 = some (1, false, 1) := by kernel_rfl
theorem ti_fl76_2 : flI Tryd.prog 76 2 = some (2, false, 1) := by kernel_rfl
theorem ti_fl76_3 : flI Tryd.prog 76 3 = some (3, false, 1) := by kernel_rfl
theorem ti_fl80_0 : flI Tryd.prog 80 0 = some (0, false, 1) := by kernel_rfl
theorem ti_fl80_1 : flI Tryd.prog 80 1 = some (1, false, 1) := by kernel_rfl
theorem ti_fl80_2 : flI Tryd.prog 80 2 = some (2, false, 1) := by kernel_rfl
theorem ti_fl83_0 : flI Tryd.prog 83 0 = some (0, false, 1) := by kernel_rfl
theorem ti_fl83_1 : flI Tryd.prog 83 1 = some (1, false, 1) := by kernel_rfl
theorem ti_fl83_2 : flI Tryd.prog 83 2 = some (2, false, 1) := by kernel_rfl
theorem ti_fl83_3 : flI Tryd.prog 83 3 = some (3, false, 1) := by kernel_rfl
theorem ti_fl83_4 : flI Tryd.prog 83 4 = some (4, true, 11) := by kernel_rfl
theorem ti_fl120_0 : flI Tryd.prog 120 0 = some (0, false, 1) := by kernel_rfl
theorem ti_fl120_1 : flI Tryd.prog 120 1 = some (1, false, 1) := by kernel_rfl
theorem ti_hb7 : hasBody Tryd.prog 7 = true := by kernel_rfl
theorem ti_hb8 : hasBody Tryd.prog 8 = true := by kernel_rfl
theorem ti_hb9 : hasBody Tryd.prog 9 = true := by kernel_rfl
theorem ti_hb10 : hasBody Tryd.prog 10 = true := by kernel_rfl
theorem ti_hb11 : hasBody Tryd.prog 11 = true := by kernel_rfl
theorem ti_hb12 : hasBody Tryd.prog 12 = true := by kernel_rfl
theorem ti_hb13 : hasBody Tryd.prog 13 = true := by kernel_rfl
theorem ti_hb14 : hasBody Tryd.prog 14 = true := by kernel_rfl
theorem ti_hb15 : hasBody Tryd.prog 15 = true := by kernel_rfl
theorem ti_hb16 : hasBody Tryd.prog 16 = true := by kernel_rfl
theorem ti_hb17 : hasBody Tryd.prog 17 = true := by kernel_rfl
theorem ti_hb18 : hasBody Tryd.prog 18 = true := by kernel_rfl
theorem ti_hb19 : hasBody Tryd.prog 19 = true := by kernel_rfl
theorem ti_hb20 : hasBody Tryd.prog 20 = true := by kernel_rfl
theorem ti_hb21 : hasBody Tryd.prog 21 = true := by kernel_rfl
theorem ti_hb22 : hasBody Tryd.prog 22 = true := by kernel_rfl
theorem ti_hb23 : hasBody Tryd.prog 23 = true := by kernel_rfl
theorem ti_hb24 : hasBody Tryd.prog 24 = true := by kernel_rfl
theorem ti_hb25 : hasBody Tryd.prog 25 = true := by kernel_rfl
theorem ti_hb26 : hasBody Tryd.prog 26 = true := by kernel_rfl
theorem ti_hb27 : hasBody Tryd.prog 27 = true := by kernel_rfl
theorem ti_hb28 : hasBody Tryd.prog 28 = true := by kernel_rfl
theorem ti_hb29 : hasBody Tryd.prog 29 = true := by kernel_rfl
theorem ti_hb30 : hasBody Tryd.prog 30 = true := by kernel_rfl
theorem ti_hb31 : hasBody Tryd.prog 31 = true := by kernel_rfl
theorem ti_hb32 : hasBody Tryd.prog 32 = true := by kernel_rfl
theorem ti_hb33 : hasBody Tryd.prog 33 = true := by kernel_rfl
theorem ti_hb34 : hasBody Tryd.prog 34 = true := by kernel_rfl
theorem ti_hb35 : hasBody Tryd.prog 35 = true := by kernel_rfl
theorem ti_hb36 : hasBody Tryd.prog 36 = true := by kernel_rfl
theorem ti_hb37 : hasBody Tryd.prog 37 = true := by kernel_rfl
theorem ti_hb38 : hasBody Tryd.prog 38 = true := by kernel_rfl
theorem ti_hb39 : hasBody Tryd.prog 39 = true := by kernel_rfl
theorem ti_hb40 : hasBody Tryd.prog 40 = true := by kernel_rfl
theorem ti_hb41 : hasBody Tryd.prog 41 = true := by kernel_rfl
theorem ti_hb42 : hasBody Tryd.prog 42 = true := by kernel_rfl
theorem ti_hb43 : hasBody Tryd.prog 43 = true := by kernel_rfl
theorem ti_hb44 : hasBody Tryd.prog 44 = true := by kernel_rfl
theorem ti_hb45 : hasBody Tryd.prog 45 = true := by kernel_rfl
theorem ti_hb46 : hasBody Tryd.prog 46 = true := by kernel_rfl
theorem ti_hb47 : hasBody Tryd.prog 47 = true := by kernel_rfl
theorem ti_hb48 : hasBody Tryd.prog 48 = true := by kernel_rfl
theorem ti_hb49 : hasBody Tryd.prog 49 = true := by kernel_rfl
theorem ti_hb50 : hasBody Tryd.prog 50 = true := by kernel_rfl
theorem ti_hb51 : hasBody Tryd.prog 51 = true := by kernel_rfl
theorem ti_hb52 : hasBody Tryd.prog 52 = true := by kernel_rfl
theorem ti_hb53 : hasBody Tryd.prog 53 = true := by kernel_rfl
theorem ti_hb54 : hasBody Tryd.prog 54 = true := by kernel_rfl
theorem ti_hb55 : hasBody Tryd.prog 55 = true := by kernel_rfl
theorem ti_hb56 : hasBody Tryd.prog 56 = true := by kernel_rfl
theorem ti_hb57 : hasBody Tryd.prog 57 = true := by kernel_rfl
theorem ti_hb58 : hasBody Tryd.prog 58 = true := by kernel_rfl
theorem ti_hb59 : hasBody Tryd.prog 59 = true := by kernel_rfl
theorem ti_hb60 : hasBody Tryd.prog 60 = true := by kernel_rfl
theorem ti_hb61 : hasBody Tryd.prog 61 = true := by kernel_rfl
theorem ti_hb62 : hasBody Tryd.prog 62 = true := by kernel_rfl
theorem ti_hb63 : hasBody Tryd.prog 63 = true := by kernel_rfl
theorem ti_hb64 : hasBody Tryd.prog 64 = true := by kernel_rfl
theorem ti_hb65 : hasBody Tryd.prog 65 = true := by kernel_rfl
theorem ti_hb66 : hasBody Tryd.prog 66 = true := by kernel_rfl
theorem ti_hb67 : hasBody Tryd.prog 67 = true := by kernel_rfl
theorem ti_hb68 : hasBody Tryd.prog 68 = true := by kernel_rfl
theorem ti_hb69 : hasBody Tryd.prog 69 = true := by kernel_rfl
theorem ti_hb70 : hasBody Tryd.prog 70 = true := by kernel_rfl
theorem ti_hb71 : hasBody Tryd.prog 71 = true := by kernel_rfl
theorem ti_hb72 : hasBody Tryd.prog 72 = true := by kernel_rfl
theorem ti_hb73 : hasBody Tryd.prog 73 = true := by kernel_rfl
theorem ti_hb74 : hasBody Tryd.prog 74 = true := by kernel_rfl
theorem ti_hb75 : hasBody Tryd.prog 75 = true := by kernel_rfl
theorem ti_hb76 : hasBody Tryd.prog 76 = true := by kernel_rfl
theorem ti_hb77 : hasBody Tryd.prog 77 = true := by kernel_rfl
theorem ti_hb78 : hasBody Tryd.prog 78 = true := by kernel_rfl
theorem ti_hb79 : hasBody Tryd.prog 79 = true := by kernel_rfl
theorem ti_hb80 : hasBody Tryd.prog 80 = true := by kernel_rfl
theorem ti_hb81 : hasBody Tryd.prog 81 = true := by kernel_rfl
theorem ti_hb82 : hasBody Tryd.prog 82 = true := by kernel_rfl
theorem ti_hb83 : hasBody Tryd.prog 83 = true := by kernel_rfl
theorem ti_hb84 : hasBody Tryd.prog 84 = true := by kernel_rfl
theorem ti_hb85 : hasBody Tryd.prog 85 = true := by kernel_rfl
theorem ti_hb86 : hasBody Tryd.prog 86 = true := by kernel_rfl
theorem ti_hb87 : hasBody Tryd.prog 87 = true := by kernel_rfl
theorem ti_hb88 : hasBody Tryd.prog 88 = true := by kernel_rfl
theorem ti_hb89 : hasBody Tryd.prog 89 = true := by kernel_rfl
theorem ti_hb90 : hasBody Tryd.prog 90 = true := by kernel_rfl
theorem ti_hb91 : hasBody Tryd.prog 91 = true := by kernel_rfl
theorem ti_hb92 : hasBody Tryd.prog 92 = true := by kernel_rfl
theorem ti_hb93 : hasBody Tryd.prog 93 = true := by kernel_rfl
theorem ti_hb94 : hasBody Tryd.prog 94 = true := by kernel_rfl
theorem ti_hb95 : hasBody Tryd.prog 95 = true := by kernel_rfl
theorem ti_hb96 : hasBody Tryd.prog 96 = true := by kernel_rfl
theorem ti_hb97 : hasBody Tryd.prog 97 = true := by kernel_rfl
theorem ti_hb98 : hasBody Tryd.prog 98 = true := by kernel_rfl
theorem ti_hb99 : hasBody Tryd.prog 99 = true := by kernel_rfl
theorem ti_hb100 : hasBody Tryd.prog 100 = true := by kernel_rfl
theorem ti_hb101 : hasBody Tryd.prog 101 = true := by kernel_rfl
theorem ti_hb102 : hasBody Tryd.prog 102 = true := by kernel_rfl
theorem ti_hb103 : hasBody Tryd.prog 103 = true := by kernel_rfl
theorem ti_hb104 : hasBody Tryd.prog 104 = true := by kernel_rfl
theorem ti_hb105 : hasBody Tryd.prog 105 = true := by kernel_rfl
theorem ti_hb106 : hasBody Tryd.prog 106 = true := by kernel_rfl
theorem ti_hb107 : hasBody Tryd.prog 107 = true := by kernel_rfl
theorem ti_hb108 : hasBody Tryd.prog 108 = true := by kernel_rfl
theorem ti_hb109 : hasBody Tryd.prog 109 = true := by kernel_rfl
theorem ti_hb110 : hasBody Tryd.prog 110 = true := by kernel_rfl
theorem ti_hb111 : hasBody Tryd.prog 111 = true := by kernel_rfl
theorem ti_hb112 : hasBody Tryd.prog 112 = true := by kernel_rfl
theorem ti_hb113 : hasBody Tryd.prog 113 = true := by kernel_rfl
theorem ti_hb114 : hasBody Tryd.prog 114 = true := by kernel_rfl
theorem ti_hb115 : hasBody Tryd.prog 115 = true := by kernel_rfl
theorem ti_hb116 : hasBody Tryd.prog 116 = true := by kernel_rfl
theorem ti_hb117 : hasBody Tryd.prog 117 = true := by kernel_rfl
theorem ti_hb118 : hasBody Tryd.prog 118 = true := by kernel_rfl
theorem ti_hb120 : hasBody Tryd.prog 120 = true := by kernel_rfl
theorem ti_hb121 : hasBody Tryd.prog 121 = true := by kernel_rfl
theorem ti_hb122 : hasBody Tryd.prog 122 = true := by kernel_rfl
theorem ti_hb123 : hasBody Tryd.prog 123 = true := by kernel_rfl
theorem ti_hb124 : hasBody Tryd.prog 124 = true := by kernel_rfl
theorem ti_hb125 : hasBody Tryd.prog 125 = true := by kernel_rfl
theorem ti_hb126 : hasBody Tryd.prog 126 = true := by kernel_rfl
theorem ti_hb127 : hasBody Tryd.prog 127 = true := by kernel_rfl
theorem ti_hb128 : hasBody Tryd.prog 128 = true := by kernel_rfl
theorem ti_hb129 : hasBody Tryd.prog 129 = true := by kernel_rfl
theorem ti_hb130 : hasBody Tryd.prog 130 = true := by kernel_rfl
theorem ti_hb132 : hasBody Tryd.prog 132 = true := by kernel_rfl
theorem ti_hb133 : hasBody Tryd.prog 133 = true := by kernel_rfl
theorem ti_hb134 : hasBody Tryd.prog 134 = true := by kernel_rfl
theorem ti_hb135 : hasBody Tryd.prog 135 = true := by kernel_rfl
theorem ti_hb136 : hasBody Tryd.prog 136 = true := by kernel_rfl
theorem ti_hb137 : hasBody Tryd.prog 137 = true := by kernel_rfl
theorem ti_hb138 : hasBody Tryd.prog 138 = true := by kernel_rfl
theorem ti_hb139 : hasBody Tryd.prog 139 = true := by kernel_rfl
theorem ti_hb140 : hasBody Tryd.prog 140 = true := by kernel_rfl
theorem ti_hb141 : hasBody Tryd.prog 141 = true := by kernel_rfl
theorem ti_hb142 : hasBody Tryd.prog 142 = true := by kernel_rfl
theorem ti_hb143 : hasBody Tryd.prog 143 = true := by kernel_rfl
theorem ti_hb144 : hasBody Tryd.prog 144 = true := by kernel_rfl
theorem ti_hb145 : hasBody Tryd.prog 145 = true := by kernel_rfl
theorem ti_hb146 : hasBody Tryd.prog 146 = true := by kernel_rfl
theorem ti_hb147 : hasBody Tryd.prog 147 = true := by kernel_rfl
theorem ti_hb148 : hasBody Tryd.prog 148 = true := by kernel_rfl
theorem ti_hb149 : hasBody Tryd.prog 149 = true := by kernel_rfl
theorem ti_hb150 : hasBody Tryd.prog 150 = true := by kernel_rfl
theorem ti_hb151 : hasBody Tryd.prog 151 = true := by kernel_rfl
theorem ti_hb152 : hasBody Tryd.prog 152 = true := by kernel_rfl
theorem ti_hb153 : hasBody Tryd.prog 153 = true := by kernel_rfl
theorem ti_in3 : inI Tryd.prog 3 = some .i64 := by kernel_rfl
theorem ti_in12 : inI Tryd.prog 12 = some .u64 := by kernel_rfl
theorem ti_in138 : inI Tryd.prog 138 = some .u64 := by kernel_rfl
theorem ti_in141 : inI Tryd.prog 141 = some .u32 := by kernel_rfl
theorem ti_ky9 : kyI Tryd.prog 9 = some [.s] := by kernel_rfl
theorem ti_mp105 : mpI Tryd.prog 105 = some (9, 9) := by kernel_rfl
theorem ti_mp114 : mpI Tryd.prog 114 = some (9, 3) := by kernel_rfl
theorem ti_pl23 : plI Tryd.prog 23 = some [(0, 1), (1, 1), (2, 1)] := by kernel_rfl
theorem ti_pl25 : plI Tryd.prog 25 = some [(0, 1), (1, 1)] := by kernel_rfl
theorem ti_pl28 : plI Tryd.prog 28 = some [(0, 1), (1, 3), (4, 1), (5, 1), (6, 1), (7, 1), (8, 2), (10, 1)] := by kernel_rfl
theorem ti_pl33 : plI Tryd.prog 33 = some [(0, 1), (1, 1), (2, 1)] := by kernel_rfl
theorem ti_pl39 : plI Tryd.prog 39 = some [(0, 1), (1, 3), (4, 1), (5, 1), (6, 1), (7, 2), (9, 1), (10, 1)] := by kernel_rfl
theorem ti_pl51 : plI Tryd.prog 51 = some [(0, 1), (1, 1), (2, 1)] := by kernel_rfl
theorem ti_pl63 : plI Tryd.prog 63 = some [(0, 1), (1, 1), (2, 1)] := by kernel_rfl
theorem ti_pl70 : plI Tryd.prog 70 = some [(0, 1)] := by kernel_rfl
theorem ti_pl76 : plI Tryd.prog 76 = some [(0, 1), (1, 1), (2, 1), (3, 1)] := by kernel_rfl
theorem ti_pl80 : plI Tryd.prog 80 = some [(0, 1), (1, 1), (2, 1)] := by kernel_rfl
theorem ti_pl83 : plI Tryd.prog 83 = some [(0, 1), (1, 1), (2, 1), (3, 1), (4, 11)] := by kernel_rfl
theorem ti_pl120 : plI Tryd.prog 120 = some [(0, 1), (1, 1)] := by kernel_rfl
theorem ti_sb26 : slB Tryd.prog 26 = true := by kernel_rfl
theorem ti_sb36 : slB Tryd.prog 36 = true := by kernel_rfl
theorem ti_sb37 : slB Tryd.prog 37 = true := by kernel_rfl
theorem ti_sb44 : slB Tryd.prog 44 = true := by kernel_rfl
theorem ti_sb59 : slB Tryd.prog 59 = true := by kernel_rfl
theorem ti_sb136 : slB Tryd.prog 136 = true := by kernel_rfl
theorem ti_sl26 : slI Tryd.prog 26 = some (28, 11, 136) := by kernel_rfl
theorem ti_sl36 : slI Tryd.prog 36 = some (39, 11, 144) := by kernel_rfl
theorem ti_sl37 : slI Tryd.prog 37 = some (83, 15, 192) := by kernel_rfl
theorem ti_sl44 : slI Tryd.prog 44 = some (33, 3, 32) := by kernel_rfl
theorem ti_sl59 : slI Tryd.prog 59 = some (9, 1, 16) := by kernel_rfl
theorem ti_sl136 : slI Tryd.prog 136 = some (59, 1, 24) := by kernel_rfl
theorem ti_st9 : stB Tryd.prog 9 = true := by kernel_rfl
theorem ti_sz3 : szI Tryd.prog 3 = some 1 := by kernel_rfl
theorem ti_sz4 : szI Tryd.prog 4 = some 1 := by kernel_rfl
theorem ti_sz9 : szI Tryd.prog 9 = some 1 := by kernel_rfl
theorem ti_sz23 : szI Tryd.prog 23 = some 3 := by kernel_rfl
theorem ti_sz25 : szI Tryd.prog 25 = some 2 := by kernel_rfl
theorem ti_sz28 : szI Tryd.prog 28 = some 11 := by kernel_rfl
theorem ti_sz29 : szI Tryd.prog 29 = some 1 := by kernel_rfl
theorem ti_sz33 : szI Tryd.prog 33 = some 3 := by kernel_rfl
theorem ti_sz36 : szI Tryd.prog 36 = some 1 := by kernel_rfl
theorem ti_sz37 : szI Tryd.prog 37 = some 1 := by kernel_rfl
theorem ti_sz39 : szI Tryd.prog 39 = some 11 := by kernel_rfl
theorem ti_sz60 : szI Tryd.prog 60 = some 26 := by kernel_rfl
theorem ti_sz83 : szI Tryd.prog 83 = some 15 := by kernel_rfl
theorem ti_sz105 : szI Tryd.prog 105 = some 1 := by kernel_rfl
theorem ti_sz114 : szI Tryd.prog 114 = some 1 := by kernel_rfl
theorem ti_sz120 : szI Tryd.prog 120 = some 2 := by kernel_rfl
theorem ti_sz121 : szI Tryd.prog 121 = some 32 := by kernel_rfl
theorem ti_sz144 : szI Tryd.prog 144 = some 8 := by kernel_rfl
theorem ti_sz148 : szI Tryd.prog 148 = some 13 := by kernel_rfl
theorem ti_us5 : (Tryd.prog.underlying 5).isSome = true := by kernel_rfl
theorem ti_zr23 : zrI Tryd.prog 23 = some [.i .i64 0, .i .i64 0, .s []] := by kernel_rfl
theorem ti_zr25 : zrI Tryd.prog 25 = some [.i .i64 0, .s []] := by kernel_rfl
theorem ti_zr28 : zrI Tryd.prog 28 = some [.i .i64 0, .i .i64 0, .i .i64 0, .s [], .s [], .s [], .i .i64 0, .i .i64 0, .i .i64 0, .s [], .c (.slice none 0 0)] := by kernel_rfl
theorem ti_zr33 : zrI Tryd.prog 33 = some [.i .i64 0, .s [], .i .i64 0] := by kernel_rfl
theorem ti_zr39 : zrI Tryd.prog 39 = some [.i .i64 0, .i .i64 0, .i .i64 0, .s [], .s [], .i .i64 0, .i .i64 0, .i .i64 0, .s [], .c (.slice none 0 0), .c (.slice none 0 0)] := by kernel_rfl
theorem ti_zr51 : zrI Tryd.prog 51 = some [.i .i64 0, .i .i64 0, .i .i64 0] := by kernel_rfl
theorem ti_zr63 : zrI Tryd.prog 63 = some [.s [], .i .i64 0, .c (.slice none 0 0)] := by kernel_rfl
theorem ti_zr70 : zrI Tryd.prog 70 = some [.i .i64 0] := by kernel_rfl
theorem ti_zr76 : zrI Tryd.prog 76 = some [.c (.slice none 0 0), .i .i64 0, .i .i64 0, .i .i64 0] := by kernel_rfl
theorem ti_zr80 : zrI Tryd.prog 80 = some [.c (.slice none 0 0), .i .i64 0, .i .i64 0] := by kernel_rfl
theorem ti_zr83 : zrI Tryd.prog 83 = some [.i .i64 0, .s [], .s [], .b false, .i .i64 0, .i .i64 0, .i .i64 0, .s [], .s [], .i .i64 0, .i .i64 0, .i .i64 0, .s [], .c (.slice none 0 0), .c (.slice none 0 0)] := by kernel_rfl
theorem ti_zr120 : zrI Tryd.prog 120 = some [.i .u8 0, .i .u8 0] := by kernel_rfl
theorem ti_zv3 : zvI Tryd.prog 3 = some (.i .i64 0) := by kernel_rfl
theorem ti_zv9 : zvI Tryd.prog 9 = some (.s []) := by kernel_rfl
end Go.Proofs.YtjmofmianlefdaaDoor
