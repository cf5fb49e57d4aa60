/- What the types and functions of this translation say, a fact a row. No condition. -/
import Derived.Test.YtafbojmnmadlpaaDoorProg
import Derived.Test.YtafbojmnmadlpaaDoorAb16
import Derived.KernelRfl
set_option linter.all false
set_option linter.unusedSimpArgs false
set_option linter.unusedVariables false
namespace Go.Proofs.YtafbojmnmadlpaaDoor
open Go.Proofs.YtafbojmnmadlpaaDoor.Ab
theorem ti_mixed : Tryd.prog.follows .mixedOrders = true := by kernel_rfl
theorem ti_ag3 : agB Tryd.prog 3 = some false := by kernel_rfl
theorem ti_ag4 : agB Tryd.prog 4 = some false := by kernel_rfl
theorem ti_ag5 : agB Tryd.prog 5 = some false := by kernel_rfl
theorem ti_ag9 : agB Tryd.prog 9 = some false := by kernel_rfl
theorem ti_ag22 : agB Tryd.prog 22 = some false := by kernel_rfl
theorem ti_ag23 : agB Tryd.prog 23 = some false := by kernel_rfl
theorem ti_ag25 : agB Tryd.prog 25 = some true := by kernel_rfl
theorem ti_ag26 : agB Tryd.prog 26 = some false := by kernel_rfl
theorem ti_ag35 : agB Tryd.prog 35 = some true := by kernel_rfl
theorem ti_ag37 : agB Tryd.prog 37 = some true := by kernel_rfl
theorem ti_ag38 : agB Tryd.prog 38 = some false := by kernel_rfl
theorem ti_ag40 : agB Tryd.prog 40 = some true := by kernel_rfl
theorem ti_ag49 : agB Tryd.prog 49 = some false := by kernel_rfl
theorem ti_ag64 : agB Tryd.prog 64 = some false := by kernel_rfl
theorem ti_ag68 : agB Tryd.prog 68 = some false := by kernel_rfl
theorem ti_ag96 : agB Tryd.prog 96 = some true := by kernel_rfl
theorem ti_ag100 : agB Tryd.prog 100 = some true := by kernel_rfl
theorem ti_ag106 : agB Tryd.prog 106 = some true := by kernel_rfl
theorem ti_ag112 : agB Tryd.prog 112 = some false := by kernel_rfl
theorem ti_ag114 : agB Tryd.prog 114 = some false := by kernel_rfl
theorem ti_ag115 : agB Tryd.prog 115 = some false := by kernel_rfl
theorem ti_ag176 : agB Tryd.prog 176 = some true := by kernel_rfl
theorem ti_an96 : arI Tryd.prog 96 = none := by kernel_rfl
theorem ti_az96 : azI Tryd.prog 96 = some (4, 2) := by kernel_rfl
theorem ti_el95 : elI Tryd.prog 95 = some (2, 1) := by kernel_rfl
theorem ti_el174 : elI Tryd.prog 174 = some (256, 1) := by kernel_rfl
theorem ti_el177 : elI Tryd.prog 177 = some (16, 2) := by kernel_rfl
theorem ti_fe35 : feI Tryd.prog 35 = some [(0, 0), (1, 0), (2, 1)] := by kernel_rfl
theorem ti_fe100 : feI Tryd.prog 100 = some [(0, 0), (1, 1), (2, 1)] := by kernel_rfl
theorem ti_fe106 : feI Tryd.prog 106 = some [(0, 0), (1, 1), (2, 1), (3, 0), (4, 0), (5, 0)] := by kernel_rfl
theorem ti_fl25_0 : flI Tryd.prog 25 0 = some (0, false, 1) := by kernel_rfl
theorem ti_fl25_1 : flI Tryd.prog 25 1 = some (1, false, 1) := by kernel_rfl
theorem ti_fl35_0 : flI Tryd.prog 35 0 = some (0, false, 1) := by kernel_rfl
theorem ti_fl35_1 : flI Tryd.prog 35 1 = some (1, false, 1) := by kernel_rfl
theorem ti_fl35_2 : flI Tryd.prog 35 2 = some (2, false, 1) := by kernel_rfl
theorem ti_fl37_0 : flI Tryd.prog 37 0 = some (0, false, 1) := by kernel_rfl
theorem ti_fl40_0 : flI Tryd.prog 40 0 = some (0, false, 1) := by kernel_rfl
theorem ti_fl40_1 : flI Tryd.prog 40 1 = some (1, true, 3) := by kernel_rfl
theorem ti_fl40_2 : flI Tryd.prog 40 2 = some (4, false, 1) := by kernel_rfl
theorem ti_fl40_3 : flI Tryd.prog 40 3 = some (5, false, 1) := by kernel_rfl
theorem ti_fl40_4 : flI Tryd.prog 40 4 = some (6, false, 1) := by kernel_rfl
theorem ti_fl40_5 : flI Tryd.prog 40 5 = some (7, false, 1) := by kernel_rfl
theorem ti_fl40_6 : flI Tryd.prog 40 6 = some (8, true, 2) := by kernel_rfl
theorem ti_fl40_7 : flI Tryd.prog 40 7 = some (10, false, 1) := by kernel_rfl
theorem ti_fl84_0 : flI Tryd.prog 84 0 = some (0, false, 1) := by kernel_rfl
theorem ti_fl84_1 : flI Tryd.prog 84 1 = some (1, false, 1) := by kernel_rfl
theorem ti_fl84_2 : flI Tryd.prog 84 2 = some (2, false, 1) := by kernel_rfl
theorem ti_fl100_0 : flI Tryd.prog 100 0 = some (0, false, 1) := by kernel_rfl
theorem ti_fl100_1 : flI Tryd.prog 100 1 = some (1, false, 1) := by kernel_rfl
theorem ti_fl100_2 : flI Tryd.prog 100 2 = some (2, false, 1) := by kernel_rfl
theorem ti_fl106_3 : flI Tryd.prog 106 3 = some (3, false, 1) := by kernel_rfl
theorem ti_fl106_4 : flI Tryd.prog 106 4 = some (4, false, 1) := by kernel_rfl
theorem ti_fl106_5 : flI Tryd.prog 106 5 = some (5, false, 1) := by kernel_rfl
theorem ti_fl117_0 : flI Tryd.prog 117 0 = some (0, false, 1) := by kernel_rfl
theorem ti_fl117_1 : flI Tryd.prog 117 1 = some (1, false, 1) := by kernel_rfl
theorem ti_fl126_0 : flI Tryd.prog 126 0 = some (0, false, 1) := by kernel_rfl
theorem ti_fl126_1 : flI Tryd.prog 126 1 = some (1, false, 1) := by kernel_rfl
theorem ti_fl126_2 : flI Tryd.prog 126 2 = some (2, false, 1) := by kernel_rfl
theorem ti_fl126_3 : flI Tryd.prog 126 3 = some (3, false, 1) := by kernel_rfl
theorem ti_fl153_0 : flI Tryd.prog 153 0 = some (0, false, 1) := by kernel_rfl
theorem ti_fl153_1 : flI Tryd.prog 153 1 = some (1, false, 1) := by kernel_rfl
theorem ti_fl153_2 : flI Tryd.prog 153 2 = some (2, false, 1) := by kernel_rfl
theorem ti_fl176_0 : flI Tryd.prog 176 0 = some (0, false, 1) := by kernel_rfl
theorem ti_fl176_1 : flI Tryd.prog 176 1 = some (1, false, 1) := by kernel_rfl
theorem ti_hb15 : hasBody Tryd.prog 15 = true := by kernel_rfl
theorem ti_hb16 : hasBody Tryd.prog 16 = true := by kernel_rfl
theorem ti_hb17 : hasBody Tryd.prog 17 = true := by kernel_rfl
theorem ti_hb18 : hasBody Tryd.prog 18 = true := by kernel_rfl
theorem ti_hb19 : hasBody Tryd.prog 19 = true := by kernel_rfl
theorem ti_hb20 : hasBody Tryd.prog 20 = true := by kernel_rfl
theorem ti_hb21 : hasBody Tryd.prog 21 = true := by kernel_rfl
theorem ti_hb22 : hasBody Tryd.prog 22 = true := by kernel_rfl
theorem ti_hb23 : hasBody Tryd.prog 23 = true := by kernel_rfl
theorem ti_hb24 : hasBody Tryd.prog 24 = true := by kernel_rfl
theorem ti_hb25 : hasBody Tryd.prog 25 = true := by kernel_rfl
theorem ti_hb26 : hasBody Tryd.prog 26 = true := by kernel_rfl
theorem ti_hb27 : hasBody Tryd.prog 27 = true := by kernel_rfl
theorem ti_hb28 : hasBody Tryd.prog 28 = true := by kernel_rfl
theorem ti_hb29 : hasBody Tryd.prog 29 = true := by kernel_rfl
theorem ti_hb30 : hasBody Tryd.prog 30 = true := by kernel_rfl
theorem ti_hb31 : hasBody Tryd.prog 31 = true := by kernel_rfl
theorem ti_hb32 : hasBody Tryd.prog 32 = true := by kernel_rfl
theorem ti_hb33 : hasBody Tryd.prog 33 = true := by kernel_rfl
theorem ti_hb34 : hasBody Tryd.prog 34 = true := by kernel_rfl
theorem ti_hb35 : hasBody Tryd.prog 35 = true := by kernel_rfl
theorem ti_hb36 : hasBody Tryd.prog 36 = true := by kernel_rfl
theorem ti_hb37 : hasBody Tryd.prog 37 = true := by kernel_rfl
theorem ti_hb38 : hasBody Tryd.prog 38 = true := by kernel_rfl
theorem ti_hb39 : hasBody Tryd.prog 39 = true := by kernel_rfl
theorem ti_hb40 : hasBody Tryd.prog 40 = true := by kernel_rfl
theorem ti_hb41 : hasBody Tryd.prog 41 = true := by kernel_rfl
theorem ti_hb42 : hasBody Tryd.prog 42 = true := by kernel_rfl
theorem ti_hb43 : hasBody Tryd.prog 43 = true := by kernel_rfl
theorem ti_hb44 : hasBody Tryd.prog 44 = true := by kernel_rfl
theorem ti_hb45 : hasBody Tryd.prog 45 = true := by kernel_rfl
theorem ti_hb46 : hasBody Tryd.prog 46 = true := by kernel_rfl
theorem ti_hb47 : hasBody Tryd.prog 47 = true := by kernel_rfl
theorem ti_hb48 : hasBody Tryd.prog 48 = true := by kernel_rfl
theorem ti_hb49 : hasBody Tryd.prog 49 = true := by kernel_rfl
theorem ti_hb50 : hasBody Tryd.prog 50 = true := by kernel_rfl
theorem ti_hb51 : hasBody Tryd.prog 51 = true := by kernel_rfl
theorem ti_hb52 : hasBody Tryd.prog 52 = true := by kernel_rfl
theorem ti_hb53 : hasBody Tryd.prog 53 = true := by kernel_rfl
theorem ti_hb54 : hasBody Tryd.prog 54 = true := by kernel_rfl
theorem ti_hb55 : hasBody Tryd.prog 55 = true := by kernel_rfl
theorem ti_hb56 : hasBody Tryd.prog 56 = true := by kernel_rfl
theorem ti_hb57 : hasBody Tryd.prog 57 = true := by kernel_rfl
theorem ti_hb58 : hasBody Tryd.prog 58 = true := by kernel_rfl
theorem ti_hb59 : hasBody Tryd.prog 59 = true := by kernel_rfl
theorem ti_hb60 : hasBody Tryd.prog 60 = true := by kernel_rfl
theorem ti_hb61 : hasBody Tryd.prog 61 = true := by kernel_rfl
theorem ti_hb62 : hasBody Tryd.prog 62 = true := by kernel_rfl
theorem ti_hb63 : hasBody Tryd.prog 63 = true := by kernel_rfl
theorem ti_hb64 : hasBody Tryd.prog 64 = true := by kernel_rfl
theorem ti_hb65 : hasBody Tryd.prog 65 = true := by kernel_rfl
theorem ti_hb66 : hasBody Tryd.prog 66 = true := by kernel_rfl
theorem ti_hb67 : hasBody Tryd.prog 67 = true := by kernel_rfl
theorem ti_hb68 : hasBody Tryd.prog 68 = true := by kernel_rfl
theorem ti_hb69 : hasBody Tryd.prog 69 = true := by kernel_rfl
theorem ti_hb70 : hasBody Tryd.prog 70 = true := by kernel_rfl
theorem ti_hb71 : hasBody Tryd.prog 71 = true := by kernel_rfl
theorem ti_hb72 : hasBody Tryd.prog 72 = true := by kernel_rfl
theorem ti_hb73 : hasBody Tryd.prog 73 = true := by kernel_rfl
theorem ti_hb74 : hasBody Tryd.prog 74 = true := by kernel_rfl
theorem ti_hb75 : hasBody Tryd.prog 75 = true := by kernel_rfl
theorem ti_hb76 : hasBody Tryd.prog 76 = true := by kernel_rfl
theorem ti_hb77 : hasBody Tryd.prog 77 = true := by kernel_rfl
theorem ti_hb78 : hasBody Tryd.prog 78 = true := by kernel_rfl
theorem ti_hb79 : hasBody Tryd.prog 79 = true := by kernel_rfl
theorem ti_hb80 : hasBody Tryd.prog 80 = true := by kernel_rfl
theorem ti_hb81 : hasBody Tryd.prog 81 = true := by kernel_rfl
theorem ti_hb82 : hasBody Tryd.prog 82 = true := by kernel_rfl
theorem ti_hb83 : hasBody Tryd.prog 83 = true := by kernel_rfl
theorem ti_hb84 : hasBody Tryd.prog 84 = true := by kernel_rfl
theorem ti_hb85 : hasBody Tryd.prog 85 = true := by kernel_rfl
theorem ti_hb86 : hasBody Tryd.prog 86 = true := by kernel_rfl
theorem ti_hb87 : hasBody Tryd.prog 87 = true := by kernel_rfl
theorem ti_hb88 : hasBody Tryd.prog 88 = true := by kernel_rfl
theorem ti_hb89 : hasBody Tryd.prog 89 = true := by kernel_rfl
theorem ti_hb90 : hasBody Tryd.prog 90 = true := by kernel_rfl
theorem ti_hb91 : hasBody Tryd.prog 91 = true := by kernel_rfl
theorem ti_hb92 : hasBody Tryd.prog 92 = true := by kernel_rfl
theorem ti_hb93 : hasBody Tryd.prog 93 = true := by kernel_rfl
theorem ti_hb94 : hasBody Tryd.prog 94 = true := by kernel_rfl
theorem ti_hb95 : hasBody Tryd.prog 95 = true := by kernel_rfl
theorem ti_hb96 : hasBody Tryd.prog 96 = true := by kernel_rfl
theorem ti_hb97 : hasBody Tryd.prog 97 = true := by kernel_rfl
theorem ti_hb98 : hasBody Tryd.prog 98 = true := by kernel_rfl
theorem ti_hb99 : hasBody Tryd.prog 99 = true := by kernel_rfl
theorem ti_hb100 : hasBody Tryd.prog 100 = true := by kernel_rfl
theorem ti_hb101 : hasBody Tryd.prog 101 = true := by kernel_rfl
theorem ti_hb102 : hasBody Tryd.prog 102 = true := by kernel_rfl
theorem ti_hb103 : hasBody Tryd.prog 103 = true := by kernel_rfl
theorem ti_hb104 : hasBody Tryd.prog 104 = true := by kernel_rfl
theorem ti_hb105 : hasBody Tryd.prog 105 = true := by kernel_rfl
theorem ti_hb106 : hasBody Tryd.prog 106 = true := by kernel_rfl
theorem ti_hb107 : hasBody Tryd.prog 107 = true := by kernel_rfl
theorem ti_hb108 : hasBody Tryd.prog 108 = true := by kernel_rfl
theorem ti_hb109 : hasBody Tryd.prog 109 = true := by kernel_rfl
theorem ti_hb110 : hasBody Tryd.prog 110 = true := by kernel_rfl
theorem ti_hb111 : hasBody Tryd.prog 111 = true := by kernel_rfl
theorem ti_hb112 : hasBody Tryd.prog 112 = true := by kernel_rfl
theorem ti_hb113 : hasBody Tryd.prog 113 = true := by kernel_rfl
theorem ti_hb114 : hasBody Tryd.prog 114 = true := by kernel_rfl
theorem ti_hb115 : hasBody Tryd.prog 115 = true := by kernel_rfl
theorem ti_hb116 : hasBody Tryd.prog 116 = true := by kernel_rfl
theorem ti_hb117 : hasBody Tryd.prog 117 = true := by kernel_rfl
theorem ti_hb118 : hasBody Tryd.prog 118 = true := by kernel_rfl
theorem ti_hb119 : hasBody Tryd.prog 119 = true := by kernel_rfl
theorem ti_hb120 : hasBody Tryd.prog 120 = true := by kernel_rfl
theorem ti_hb121 : hasBody Tryd.prog 121 = true := by kernel_rfl
theorem ti_hb122 : hasBody Tryd.prog 122 = true := by kernel_rfl
theorem ti_hb123 : hasBody Tryd.prog 123 = true := by kernel_rfl
theorem ti_hb124 : hasBody Tryd.prog 124 = true := by kernel_rfl
theorem ti_hb125 : hasBody Tryd.prog 125 = true := by kernel_rfl
theorem ti_hb126 : hasBody Tryd.prog 126 = true := by kernel_rfl
theorem ti_hb127 : hasBody Tryd.prog 127 = true := by kernel_rfl
theorem ti_hb128 : hasBody Tryd.prog 128 = true := by kernel_rfl
theorem ti_hb129 : hasBody Tryd.prog 129 = true := by kernel_rfl
theorem ti_hb130 : hasBody Tryd.prog 130 = true := by kernel_rfl
theorem ti_hb131 : hasBody Tryd.prog 131 = true := by kernel_rfl
theorem ti_hb132 : hasBody Tryd.prog 132 = true := by kernel_rfl
theorem ti_hb133 : hasBody Tryd.prog 133 = true := by kernel_rfl
theorem ti_hb134 : hasBody Tryd.prog 134 = true := by kernel_rfl
theorem ti_hb135 : hasBody Tryd.prog 135 = true := by kernel_rfl
theorem ti_hb136 : hasBody Tryd.prog 136 = true := by kernel_rfl
theorem ti_hb137 : hasBody Tryd.prog 137 = true := by kernel_rfl
theorem ti_hb138 : hasBody Tryd.prog 138 = true := by kernel_rfl
theorem ti_hb139 : hasBody Tryd.prog 139 = true := by kernel_rfl
theorem ti_hb140 : hasBody Tryd.prog 140 = true := by kernel_rfl
theorem ti_hb141 : hasBody Tryd.prog 141 = true := by kernel_rfl
theorem ti_hb142 : hasBody Tryd.prog 142 = true := by kernel_rfl
theorem ti_hb143 : hasBody Tryd.prog 143 = true := by kernel_rfl
theorem ti_hb144 : hasBody Tryd.prog 144 = true := by kernel_rfl
theorem ti_hb145 : hasBody Tryd.prog 145 = true := by kernel_rfl
theorem ti_hb146 : hasBody Tryd.prog 146 = true := by kernel_rfl
theorem ti_hb147 : hasBody Tryd.prog 147 = true := by kernel_rfl
theorem ti_hb148 : hasBody Tryd.prog 148 = true := by kernel_rfl
theorem ti_hb149 : hasBody Tryd.prog 149 = true := by kernel_rfl
theorem ti_hb150 : hasBody Tryd.prog 150 = true := by kernel_rfl
theorem ti_hb151 : hasBody Tryd.prog 151 = true := by kernel_rfl
theorem ti_hb152 : hasBody Tryd.prog 152 = true := by kernel_rfl
theorem ti_hb153 : hasBody Tryd.prog 153 = true := by kernel_rfl
theorem ti_hb155 : hasBody Tryd.prog 155 = true := by kernel_rfl
theorem ti_hb156 : hasBody Tryd.prog 156 = true := by kernel_rfl
theorem ti_hb157 : hasBody Tryd.prog 157 = true := by kernel_rfl
theorem ti_hb159 : hasBody Tryd.prog 159 = true := by kernel_rfl
theorem ti_hb160 : hasBody Tryd.prog 160 = true := by kernel_rfl
theorem ti_hb161 : hasBody Tryd.prog 161 = true := by kernel_rfl
theorem ti_hb162 : hasBody Tryd.prog 162 = true := by kernel_rfl
theorem ti_hb163 : hasBody Tryd.prog 163 = true := by kernel_rfl
theorem ti_hb164 : hasBody Tryd.prog 164 = true := by kernel_rfl
theorem ti_hb165 : hasBody Tryd.prog 165 = true := by kernel_rfl
theorem ti_hb166 : hasBody Tryd.prog 166 = true := by kernel_rfl
theorem ti_hb168 : hasBody Tryd.prog 168 = true := by kernel_rfl
theorem ti_hb169 : hasBody Tryd.prog 169 = true := by kernel_rfl
theorem ti_hb171 : hasBody Tryd.prog 171 = true := by kernel_rfl
theorem ti_hb173 : hasBody Tryd.prog 173 = true := by kernel_rfl
theorem ti_hb175 : hasBody Tryd.prog 175 = true := by kernel_rfl
theorem ti_in3 : inI Tryd.prog 3 = some .i64 := by kernel_rfl
theorem ti_in5 : inI Tryd.prog 5 = some .u8 := by kernel_rfl
theorem ti_in12 : inI Tryd.prog 12 = some .u64 := by kernel_rfl
theorem ti_in21 : inI Tryd.prog 21 = some .i32 := by kernel_rfl
theorem ti_in178 : inI Tryd.prog 178 = some .u64 := by kernel_rfl
theorem ti_in187 : inI Tryd.prog 187 = some .u64 := by kernel_rfl
theorem ti_in190 : inI Tryd.prog 190 = some .u32 := by kernel_rfl
theorem ti_ky9 : kyI Tryd.prog 9 = some [.s] := by kernel_rfl
theorem ti_ky35 : kyI Tryd.prog 35 = some [.i .i64, .i .i64, .s] := by kernel_rfl
theorem ti_mp67 : mpI Tryd.prog 67 = some (35, 68) := by kernel_rfl
theorem ti_mp78 : mpI Tryd.prog 78 = some (35, 64) := by kernel_rfl
theorem ti_mp89 : mpI Tryd.prog 89 = some (9, 4) := by kernel_rfl
theorem ti_mp112 : mpI Tryd.prog 112 = some (9, 3) := by kernel_rfl
theorem ti_pl25 : plI Tryd.prog 25 = some [(0, 1), (1, 1)] := by kernel_rfl
theorem ti_pl35 : plI Tryd.prog 35 = some [(0, 1), (1, 1), (2, 1)] := by kernel_rfl
theorem ti_pl84 : plI Tryd.prog 84 = some [(0, 1), (1, 1), (2, 1)] := by kernel_rfl
theorem ti_pl100 : plI Tryd.prog 100 = some [(0, 1), (1, 1), (2, 1)] := by kernel_rfl
theorem ti_pl106 : plI Tryd.prog 106 = some [(0, 1), (1, 1), (2, 1), (3, 1), (4, 1), (5, 1)] := by kernel_rfl
theorem ti_pl126 : plI Tryd.prog 126 = some [(0, 1), (1, 1), (2, 1), (3, 1)] := by kernel_rfl
theorem ti_pl153 : plI Tryd.prog 153 = some [(0, 1), (1, 1), (2, 1)] := by kernel_rfl
theorem ti_pl176 : plI Tryd.prog 176 = some [(0, 1), (1, 1)] := by kernel_rfl
theorem ti_pt160 : ptI Tryd.prog 160 = some (5, 1) := by kernel_rfl
theorem ti_sb22 : slB Tryd.prog 22 = true := by kernel_rfl
theorem ti_sb23 : slB Tryd.prog 23 = true := by kernel_rfl
theorem ti_sb38 : slB Tryd.prog 38 = true := by kernel_rfl
theorem ti_sb49 : slB Tryd.prog 49 = true := by kernel_rfl
theorem ti_sb52 : slB Tryd.prog 52 = true := by kernel_rfl
theorem ti_sb64 : slB Tryd.prog 64 = true := by kernel_rfl
theorem ti_sb68 : slB Tryd.prog 68 = true := by kernel_rfl
theorem ti_sb98 : slB Tryd.prog 98 = true := by kernel_rfl
theorem ti_sb115 : slB Tryd.prog 115 = true := by kernel_rfl
theorem ti_sb142 : slB Tryd.prog 142 = true := by kernel_rfl
theorem ti_sl22 : slI Tryd.prog 22 = some (9, 1, 16) := by kernel_rfl
theorem ti_sl23 : slI Tryd.prog 23 = some (68, 1, 24) := by kernel_rfl
theorem ti_sl38 : slI Tryd.prog 38 = some (40, 11, 136) := by kernel_rfl
theorem ti_sl49 : slI Tryd.prog 49 = some (100, 3, 40) := by kernel_rfl
theorem ti_sl52 : slI Tryd.prog 52 = some (106, 6, 64) := by kernel_rfl
theorem ti_sl64 : slI Tryd.prog 64 = some (3, 1, 8) := by kernel_rfl
theorem ti_sl68 : slI Tryd.prog 68 = some (35, 3, 32) := by kernel_rfl
theorem ti_sl98 : slI Tryd.prog 98 = some (153, 3, 32) := by kernel_rfl
theorem ti_sl115 : slI Tryd.prog 115 = some (5, 1, 1) := by kernel_rfl
theorem ti_sl142 : slI Tryd.prog 142 = some (22, 1, 24) := by kernel_rfl
theorem ti_sn95 : slI Tryd.prog 95 = none := by kernel_rfl
theorem ti_sn174 : slI Tryd.prog 174 = none := by kernel_rfl
theorem ti_sn177 : slI Tryd.prog 177 = none := by kernel_rfl
theorem ti_st9 : stB Tryd.prog 9 = true := by kernel_rfl
theorem ti_sz3 : szI Tryd.prog 3 = some 1 := by kernel_rfl
theorem ti_sz4 : szI Tryd.prog 4 = some 1 := by kernel_rfl
theorem ti_sz22 : szI Tryd.prog 22 = some 1 := by kernel_rfl
theorem ti_sz23 : szI Tryd.prog 23 = some 1 := by kernel_rfl
theorem ti_sz25 : szI Tryd.prog 25 = some 2 := by kernel_rfl
theorem ti_sz26 : szI Tryd.prog 26 = some 1 := by kernel_rfl
theorem ti_sz35 : szI Tryd.prog 35 = some 3 := by kernel_rfl
theorem ti_sz37 : szI Tryd.prog 37 = some 2 := by kernel_rfl
theorem ti_sz40 : szI Tryd.prog 40 = some 11 := by kernel_rfl
theorem ti_sz49 : szI Tryd.prog 49 = some 1 := by kernel_rfl
theorem ti_sz64 : szI Tryd.prog 64 = some 1 := by kernel_rfl
theorem ti_sz68 : szI Tryd.prog 68 = some 1 := by kernel_rfl
theorem ti_sz95 : szI Tryd.prog 95 = some 2 := by kernel_rfl
theorem ti_sz96 : szI Tryd.prog 96 = some 8 := by kernel_rfl
theorem ti_sz100 : szI Tryd.prog 100 = some 3 := by kernel_rfl
theorem ti_sz106 : szI Tryd.prog 106 = some 6 := by kernel_rfl
theorem ti_sz112 : szI Tryd.prog 112 = some 1 := by kernel_rfl
theorem ti_sz114 : szI Tryd.prog 114 = some 1 := by kernel_rfl
theorem ti_sz115 : szI Tryd.prog 115 = some 1 := by kernel_rfl
theorem ti_sz176 : szI Tryd.prog 176 = some 2 := by kernel_rfl
theorem ti_sz177 : szI Tryd.prog 177 = some 32 := by kernel_rfl
theorem ti_us3 : (Tryd.prog.underlying 3).isSome = true := by kernel_rfl
theorem ti_us5 : (Tryd.prog.underlying 5).isSome = true := by kernel_rfl
theorem ti_us114 : (Tryd.prog.underlying 114).isSome = true := by kernel_rfl
theorem ti_us178 : (Tryd.prog.underlying 178).isSome = true := by kernel_rfl
theorem ti_us184 : (Tryd.prog.underlying 184).isSome = true := by kernel_rfl
theorem ti_zr3 : zrI Tryd.prog 3 = some [.i .i64 0] := by kernel_rfl
theorem ti_zr9 : zrI Tryd.prog 9 = some [.s []] := by kernel_rfl
theorem ti_zr25 : zrI Tryd.prog 25 = some [.c (.slice none 0 0), .c (.slice none 0 0)] := by kernel_rfl
theorem ti_zr35 : zrI Tryd.prog 35 = some [.i .i64 0, .i .i64 0, .s []] := by kernel_rfl
theorem ti_zr40 : zrI Tryd.prog 40 = some [.i .i64 0, .i .i64 0, .i .i64 0, .s [], .s [], .s [], .i .i64 0, .i .i64 0, .i .i64 0, .s [], .c (.slice none 0 0)] := by kernel_rfl
theorem ti_zr64 : zrI Tryd.prog 64 = some [.c (.slice none 0 0)] := by kernel_rfl
theorem ti_zr84 : zrI Tryd.prog 84 = some [.i .i64 0, .i .i64 0, .i .i64 0] := by kernel_rfl
theorem ti_zr95 : zrI Tryd.prog 95 = some [.s [], .s []] := by kernel_rfl
theorem ti_zr100 : zrI Tryd.prog 100 = some [.i .i64 0, .s [], .s []] := by kernel_rfl
theorem ti_zr106 : zrI Tryd.prog 106 = some [.i .i64 0, .s [], .s [], .i .i64 0, .i .i64 0, .i .i64 0] := by kernel_rfl
theorem ti_zr117 : zrI Tryd.prog 117 = some [.c (.pointer none), .c (.slice none 0 0)] := by kernel_rfl
theorem ti_zr126 : zrI Tryd.prog 126 = some [.s [], .i .i64 0, .c (.slice none 0 0), .i .i64 0] := by kernel_rfl
theorem ti_zr153 : zrI Tryd.prog 153 = some [.c (.slice none 0 0), .b false, .b false] := by kernel_rfl
theorem ti_zr176 : zrI Tryd.prog 176 = some [.i .u8 0, .i .u8 0] := by kernel_rfl
theorem ti_zv3 : zvI Tryd.prog 3 = some (.i .i64 0) := by kernel_rfl
theorem ti_zv4 : zvI Tryd.prog 4 = some (.b false) := by kernel_rfl
theorem ti_zv64 : zvI Tryd.prog 64 = some (.c (.slice none 0 0)) := by kernel_rfl
theorem ti_zv68 : zvI Tryd.prog 68 = some (.c (.slice none 0 0)) := by kernel_rfl
end Go.Proofs.YtafbojmnmadlpaaDoor
