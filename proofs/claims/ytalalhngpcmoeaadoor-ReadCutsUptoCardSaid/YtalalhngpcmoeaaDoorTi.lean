/- What the types and functions of this translation say, a fact a row. No condition. -/
import Derived.Test.YtalalhngpcmoeaaDoorProg
import Derived.Test.YtalalhngpcmoeaaDoorAb16
import Derived.KernelRfl
set_option linter.all false
set_option linter.unusedSimpArgs false
set_option linter.unusedVariables false
namespace Go.Proofs.YtalalhngpcmoeaaDoor
open Go.Proofs.YtalalhngpcmoeaaDoor.Ab
theorem ti_mixed : Tryd.prog.follows .mixedOrders = true := by kernel_rfl
theorem ti_ag3 : agB Tryd.prog 3 = some false := by kernel_rfl
theorem ti_ag4 : agB Tryd.prog 4 = some false := by kernel_rfl
theorem ti_ag5 : agB Tryd.prog 5 = some false := by kernel_rfl
theorem ti_ag9 : agB Tryd.prog 9 = some false := by kernel_rfl
theorem ti_ag22 : agB Tryd.prog 22 = some false := by kernel_rfl
theorem ti_ag23 : agB Tryd.prog 23 = some false := by kernel_rfl
theorem ti_ag28 : agB Tryd.prog 28 = some false := by kernel_rfl
theorem ti_ag29 : agB Tryd.prog 29 = some false := by kernel_rfl
theorem ti_ag31 : agB Tryd.prog 31 = some true := by kernel_rfl
theorem ti_ag38 : agB Tryd.prog 38 = some true := by kernel_rfl
theorem ti_ag40 : agB Tryd.prog 40 = some true := by kernel_rfl
theorem ti_ag41 : agB Tryd.prog 41 = some false := by kernel_rfl
theorem ti_ag43 : agB Tryd.prog 43 = some true := by kernel_rfl
theorem ti_ag47 : agB Tryd.prog 47 = some false := by kernel_rfl
theorem ti_ag63 : agB Tryd.prog 63 = some false := by kernel_rfl
theorem ti_ag64 : agB Tryd.prog 64 = some false := by kernel_rfl
theorem ti_ag66 : agB Tryd.prog 66 = some true := by kernel_rfl
theorem ti_ag79 : agB Tryd.prog 79 = some true := by kernel_rfl
theorem ti_ag89 : agB Tryd.prog 89 = some false := by kernel_rfl
theorem ti_ag93 : agB Tryd.prog 93 = some false := by kernel_rfl
theorem ti_ag110 : agB Tryd.prog 110 = some true := by kernel_rfl
theorem ti_ag114 : agB Tryd.prog 114 = some true := by kernel_rfl
theorem ti_ag118 : agB Tryd.prog 118 = some true := by kernel_rfl
theorem ti_ag129 : agB Tryd.prog 129 = some false := by kernel_rfl
theorem ti_ag133 : agB Tryd.prog 133 = some false := by kernel_rfl
theorem ti_ag134 : agB Tryd.prog 134 = some false := by kernel_rfl
theorem ti_ag162 : agB Tryd.prog 162 = some false := by kernel_rfl
theorem ti_ag172 : agB Tryd.prog 172 = some true := by kernel_rfl
theorem ti_ag176 : agB Tryd.prog 176 = some true := by kernel_rfl
theorem ti_ag210 : agB Tryd.prog 210 = some false := by kernel_rfl
theorem ti_ag220 : agB Tryd.prog 220 = some true := by kernel_rfl
theorem ti_an110 : arI Tryd.prog 110 = none := by kernel_rfl
theorem ti_ar176 : arI Tryd.prog 176 = some 26 := by kernel_rfl
theorem ti_av176_26 : avI Tryd.prog 176 = some 26 := by kernel_rfl
theorem ti_av255_13 : avI Tryd.prog 255 = some 13 := by kernel_rfl
theorem ti_az110 : azI Tryd.prog 110 = some (4, 2) := by kernel_rfl
theorem ti_bo4 : boB Tryd.prog 4 = true := by kernel_rfl
theorem ti_el109 : elI Tryd.prog 109 = some (2, 1) := by kernel_rfl
theorem ti_el218 : elI Tryd.prog 218 = some (256, 1) := by kernel_rfl
theorem ti_el221 : elI Tryd.prog 221 = some (16, 2) := by kernel_rfl
theorem ti_el253 : elI Tryd.prog 253 = some (8, 1) := by kernel_rfl
theorem ti_fe38 : feI Tryd.prog 38 = some [(0, 0), (1, 0), (2, 1)] := by kernel_rfl
theorem ti_fe40 : feI Tryd.prog 40 = some [(0, 0), (1, 1)] := by kernel_rfl
theorem ti_fe79 : feI Tryd.prog 79 = some [(0, 0), (1, 1), (2, 0)] := by kernel_rfl
theorem ti_fe114 : feI Tryd.prog 114 = some [(0, 0), (1, 1), (2, 1)] := by kernel_rfl
theorem ti_fe118 : feI Tryd.prog 118 = some [(0, 0), (1, 1), (2, 1), (3, 0), (4, 0), (5, 0)] := by kernel_rfl
theorem ti_fl31_0 : flI Tryd.prog 31 0 = some (0, false, 1) := by kernel_rfl
theorem ti_fl31_1 : flI Tryd.prog 31 1 = some (1, false, 1) := by kernel_rfl
theorem ti_fl38_0 : flI Tryd.prog 38 0 = some (0, false, 1) := by kernel_rfl
theorem ti_fl38_1 : flI Tryd.prog 38 1 = some (1, false, 1) := by kernel_rfl
theorem ti_fl38_2 : flI Tryd.prog 38 2 = some (2, false, 1) := by kernel_rfl
theorem ti_fl40_0 : flI Tryd.prog 40 0 = some (0, false, 1) := by kernel_rfl
theorem ti_fl43_0 : flI Tryd.prog 43 0 = some (0, false, 1) := by kernel_rfl
theorem ti_fl43_1 : flI Tryd.prog 43 1 = some (1, true, 3) := by kernel_rfl
theorem ti_fl43_2 : flI Tryd.prog 43 2 = some (4, false, 1) := by kernel_rfl
theorem ti_fl43_3 : flI Tryd.prog 43 3 = some (5, false, 1) := by kernel_rfl
theorem ti_fl43_4 : flI Tryd.prog 43 4 = some (6, false, 1) := by kernel_rfl
theorem ti_fl43_5 : flI Tryd.prog 43 5 = some (7, false, 1) := by kernel_rfl
theorem ti_fl43_6 : flI Tryd.prog 43 6 = some (8, true, 2) := by kernel_rfl
theorem ti_fl43_7 : flI Tryd.prog 43 7 = some (10, false, 1) := by kernel_rfl
theorem ti_fl66_0 : flI Tryd.prog 66 0 = some (0, false, 1) := by kernel_rfl
theorem ti_fl66_1 : flI Tryd.prog 66 1 = some (1, true, 3) := by kernel_rfl
theorem ti_fl66_2 : flI Tryd.prog 66 2 = some (4, false, 1) := by kernel_rfl
theorem ti_fl66_3 : flI Tryd.prog 66 3 = some (5, false, 1) := by kernel_rfl
theorem ti_fl66_4 : flI Tryd.prog 66 4 = some (6, false, 1) := by kernel_rfl
theorem ti_fl66_5 : flI Tryd.prog 66 5 = some (7, true, 2) := by kernel_rfl
theorem ti_fl66_6 : flI Tryd.prog 66 6 = some (9, false, 1) := by kernel_rfl
theorem ti_fl66_7 : flI Tryd.prog 66 7 = some (10, false, 1) := by kernel_rfl
theorem ti_fl77_0 : flI Tryd.prog 77 0 = some (0, false, 1) := by kernel_rfl
theorem ti_fl77_1 : flI Tryd.prog 77 1 = some (1, false, 1) := by kernel_rfl
theorem ti_fl77_2 : flI Tryd.prog 77 2 = some (2, false, 1) := by kernel_rfl
theorem ti_fl79_0 : flI Tryd.prog 79 0 = some (0, false, 1) := by kernel_rfl
theorem ti_fl79_1 : flI Tryd.prog 79 1 = some (1, false, 1) := by kernel_rfl
theorem ti_fl79_2 : flI Tryd.prog 79 2 = some (2, false, 1) := by kernel_rfl
theorem ti_fl104_0 : flI Tryd.prog 104 0 = some (0, false, 1) := by kernel_rfl
theorem ti_fl104_1 : flI Tryd.prog 104 1 = some (1, false, 1) := by kernel_rfl
theorem ti_fl104_2 : flI Tryd.prog 104 2 = some (2, false, 1) := by kernel_rfl
theorem ti_fl114_0 : flI Tryd.prog 114 0 = some (0, false, 1) := by kernel_rfl
theorem ti_fl114_1 : flI Tryd.prog 114 1 = some (1, false, 1) := by kernel_rfl
theorem ti_fl114_2 : flI Tryd.prog 114 2 = some (2, false, 1) := by kernel_rfl
theorem ti_fl118_3 : flI Tryd.prog 118 3 = some (3, false, 1) := by kernel_rfl
theorem ti_fl118_4 : flI Tryd.prog 118 4 = some (4, false, 1) := by kernel_rfl
theorem ti_fl118_5 : flI Tryd.prog 118 5 = some (5, false, 1) := by kernel_rfl
theorem ti_fl136_0 : flI Tryd.prog 136 0 = some (0, false, 1) := by kernel_rfl
theorem ti_fl136_1 : flI Tryd.prog 136 1 = some (1, false, 1) := by kernel_rfl
theorem ti_fl145_0 : flI Tryd.prog 145 0 = some (0, false, 1) := by kernel_rfl
theorem ti_fl145_1 : flI Tryd.prog 145 1 = some (1, false, 1) := by kernel_rfl
theorem ti_fl145_2 : flI Tryd.prog 145 2 = some (2, false, 1) := by kernel_rfl
theorem ti_fl145_3 : flI Tryd.prog 145 3 = some (3, false, 1) := by kernel_rfl
theorem ti_fl158_0 : flI Tryd.prog 158 0 = some (0, false, 1) := by kernel_rfl
theorem ti_fl165_0 : flI Tryd.prog 165 0 = some (0, false, 1) := by kernel_rfl
theorem ti_fl165_1 : flI Tryd.prog 165 1 = some (1, false, 1) := by kernel_rfl
theorem ti_fl165_2 : flI Tryd.prog 165 2 = some (2, false, 1) := by kernel_rfl
theorem ti_fl165_3 : flI Tryd.prog 165 3 = some (3, false, 1) := by kernel_rfl
theorem ti_fl169_0 : flI Tryd.prog 169 0 = some (0, false, 1) := by kernel_rfl
theorem ti_fl169_1 : flI Tryd.prog 169 1 = some (1, false, 1) := by kernel_rfl
theorem ti_fl169_2 : flI Tryd.prog 169 2 = some (2, false, 1) := by kernel_rfl
theorem ti_fl172_0 : flI Tryd.prog 172 0 = some (0, false, 1) := by kernel_rfl
theorem ti_fl172_1 : flI Tryd.prog 172 1 = some (1, false, 1) := by kernel_rfl
theorem ti_fl172_2 : flI Tryd.prog 172 2 = some (2, false, 1) := by kernel_rfl
theorem ti_fl172_3 : flI Tryd.prog 172 3 = some (3, false, 1) := by kernel_rfl
theorem ti_fl172_4 : flI Tryd.prog 172 4 = some (4, true, 11) := by kernel_rfl
theorem ti_fl190_0 : flI Tryd.prog 190 0 = some (0, false, 1) := by kernel_rfl
theorem ti_fl190_1 : flI Tryd.prog 190 1 = some (1, false, 1) := by kernel_rfl
theorem ti_fl190_2 : flI Tryd.prog 190 2 = some (2, false, 1) := by kernel_rfl
theorem ti_fl220_0 : flI Tryd.prog 220 0 = some (0, false, 1) := by kernel_rfl
theorem ti_fl220_1 : flI Tryd.prog 220 1 = some (1, false, 1) := by kernel_rfl
theorem ti_hb15 : hasBody Tryd.prog 15 = true := by kernel_rfl
theorem ti_hb16 : hasBody Tryd.prog 16 = true := by kernel_rfl
theorem ti_hb17 : hasBody Tryd.prog 17 = true := by kernel_rfl
theorem ti_hb18 : hasBody Tryd.prog 18 = true := by kernel_rfl
theorem ti_hb19 : hasBody Tryd.prog 19 = true := by kernel_rfl
theorem ti_hb20 : hasBody Tryd.prog 20 = true := by kernel_rfl
theorem ti_hb21 : hasBody Tryd.prog 21 = true := by kernel_rfl
theorem ti_hb22 : hasBody Tryd.prog 22 = true := by kernel_rfl
theorem ti_hb23 : hasBody Tryd.prog 23 = true := by kernel_rfl
theorem ti_hb24 : hasBody Tryd.prog 24 = true := by kernel_rfl
theorem ti_hb25 : hasBody Tryd.prog 25 = true := by kernel_rfl
theorem ti_hb26 : hasBody Tryd.prog 26 = true := by kernel_rfl
theorem ti_hb27 : hasBody Tryd.prog 27 = true := by kernel_rfl
theorem ti_hb28 : hasBody Tryd.prog 28 = true := by kernel_rfl
theorem ti_hb29 : hasBody Tryd.prog 29 = true := by kernel_rfl
theorem ti_hb30 : hasBody Tryd.prog 30 = true := by kernel_rfl
theorem ti_hb31 : hasBody Tryd.prog 31 = true := by kernel_rfl
theorem ti_hb32 : hasBody Tryd.prog 32 = true := by kernel_rfl
theorem ti_hb33 : hasBody Tryd.prog 33 = true := by kernel_rfl
theorem ti_hb34 : hasBody Tryd.prog 34 = true := by kernel_rfl
theorem ti_hb35 : hasBody Tryd.prog 35 = true := by kernel_rfl
theorem ti_hb36 : hasBody Tryd.prog 36 = true := by kernel_rfl
theorem ti_hb37 : hasBody Tryd.prog 37 = true := by kernel_rfl
theorem ti_hb38 : hasBody Tryd.prog 38 = true := by kernel_rfl
theorem ti_hb39 : hasBody Tryd.prog 39 = true := by kernel_rfl
theorem ti_hb40 : hasBody Tryd.prog 40 = true := by kernel_rfl
theorem ti_hb41 : hasBody Tryd.prog 41 = true := by kernel_rfl
theorem ti_hb42 : hasBody Tryd.prog 42 = true := by kernel_rfl
theorem ti_hb43 : hasBody Tryd.prog 43 = true := by kernel_rfl
theorem ti_hb44 : hasBody Tryd.prog 44 = true := by kernel_rfl
theorem ti_hb45 : hasBody Tryd.prog 45 = true := by kernel_rfl
theorem ti_hb46 : hasBody Tryd.prog 46 = true := by kernel_rfl
theorem ti_hb47 : hasBody Tryd.prog 47 = true := by kernel_rfl
theorem ti_hb48 : hasBody Tryd.prog 48 = true := by kernel_rfl
theorem ti_hb49 : hasBody Tryd.prog 49 = true := by kernel_rfl
theorem ti_hb50 : hasBody Tryd.prog 50 = true := by kernel_rfl
theorem ti_hb51 : hasBody Tryd.prog 51 = true := by kernel_rfl
theorem ti_hb52 : hasBody Tryd.prog 52 = true := by kernel_rfl
theorem ti_hb53 : hasBody Tryd.prog 53 = true := by kernel_rfl
theorem ti_hb54 : hasBody Tryd.prog 54 = true := by kernel_rfl
theorem ti_hb55 : hasBody Tryd.prog 55 = true := by kernel_rfl
theorem ti_hb56 : hasBody Tryd.prog 56 = true := by kernel_rfl
theorem ti_hb57 : hasBody Tryd.prog 57 = true := by kernel_rfl
theorem ti_hb58 : hasBody Tryd.prog 58 = true := by kernel_rfl
theorem ti_hb59 : hasBody Tryd.prog 59 = true := by kernel_rfl
theorem ti_hb60 : hasBody Tryd.prog 60 = true := by kernel_rfl
theorem ti_hb61 : hasBody Tryd.prog 61 = true := by kernel_rfl
theorem ti_hb62 : hasBody Tryd.prog 62 = true := by kernel_rfl
theorem ti_hb63 : hasBody Tryd.prog 63 = true := by kernel_rfl
theorem ti_hb64 : hasBody Tryd.prog 64 = true := by kernel_rfl
theorem ti_hb65 : hasBody Tryd.prog 65 = true := by kernel_rfl
theorem ti_hb66 : hasBody Tryd.prog 66 = true := by kernel_rfl
theorem ti_hb67 : hasBody Tryd.prog 67 = true := by kernel_rfl
theorem ti_hb68 : hasBody Tryd.prog 68 = true := by kernel_rfl
theorem ti_hb69 : hasBody Tryd.prog 69 = true := by kernel_rfl
theorem ti_hb70 : hasBody Tryd.prog 70 = true := by kernel_rfl
theorem ti_hb71 : hasBody Tryd.prog 71 = true := by kernel_rfl
theorem ti_hb72 : hasBody Tryd.prog 72 = true := by kernel_rfl
theorem ti_hb73 : hasBody Tryd.prog 73 = true := by kernel_rfl
theorem ti_hb74 : hasBody Tryd.prog 74 = true := by kernel_rfl
theorem ti_hb75 : hasBody Tryd.prog 75 = true := by kernel_rfl
theorem ti_hb76 : hasBody Tryd.prog 76 = true := by kernel_rfl
theorem ti_hb77 : hasBody Tryd.prog 77 = true := by kernel_rfl
theorem ti_hb78 : hasBody Tryd.prog 78 = true := by kernel_rfl
theorem ti_hb79 : hasBody Tryd.prog 79 = true := by kernel_rfl
theorem ti_hb80 : hasBody Tryd.prog 80 = true := by kernel_rfl
theorem ti_hb81 : hasBody Tryd.prog 81 = true := by kernel_rfl
theorem ti_hb82 : hasBody Tryd.prog 82 = true := by kernel_rfl
theorem ti_hb83 : hasBody Tryd.prog 83 = true := by kernel_rfl
theorem ti_hb84 : hasBody Tryd.prog 84 = true := by kernel_rfl
theorem ti_hb85 : hasBody Tryd.prog 85 = true := by kernel_rfl
theorem ti_hb86 : hasBody Tryd.prog 86 = true := by kernel_rfl
theorem ti_hb87 : hasBody Tryd.prog 87 = true := by kernel_rfl
theorem ti_hb88 : hasBody Tryd.prog 88 = true := by kernel_rfl
theorem ti_hb89 : hasBody Tryd.prog 89 = true := by kernel_rfl
theorem ti_hb90 : hasBody Tryd.prog 90 = true := by kernel_rfl
theorem ti_hb91 : hasBody Tryd.prog 91 = true := by kernel_rfl
theorem ti_hb92 : hasBody Tryd.prog 92 = true := by kernel_rfl
theorem ti_hb93 : hasBody Tryd.prog 93 = true := by kernel_rfl
theorem ti_hb94 : hasBody Tryd.prog 94 = true := by kernel_rfl
theorem ti_hb95 : hasBody Tryd.prog 95 = true := by kernel_rfl
theorem ti_hb96 : hasBody Tryd.prog 96 = true := by kernel_rfl
theorem ti_hb97 : hasBody Tryd.prog 97 = true := by kernel_rfl
theorem ti_hb98 : hasBody Tryd.prog 98 = true := by kernel_rfl
theorem ti_hb99 : hasBody Tryd.prog 99 = true := by kernel_rfl
theorem ti_hb100 : hasBody Tryd.prog 100 = true := by kernel_rfl
theorem ti_hb101 : hasBody Tryd.prog 101 = true := by kernel_rfl
theorem ti_hb102 : hasBody Tryd.prog 102 = true := by kernel_rfl
theorem ti_hb103 : hasBody Tryd.prog 103 = true := by kernel_rfl
theorem ti_hb104 : hasBody Tryd.prog 104 = true := by kernel_rfl
theorem ti_hb105 : hasBody Tryd.prog 105 = true := by kernel_rfl
theorem ti_hb106 : hasBody Tryd.prog 106 = true := by kernel_rfl
theorem ti_hb107 : hasBody Tryd.prog 107 = true := by kernel_rfl
theorem ti_hb108 : hasBody Tryd.prog 108 = true := by kernel_rfl
theorem ti_hb109 : hasBody Tryd.prog 109 = true := by kernel_rfl
theorem ti_hb110 : hasBody Tryd.prog 110 = true := by kernel_rfl
theorem ti_hb111 : hasBody Tryd.prog 111 = true := by kernel_rfl
theorem ti_hb112 : hasBody Tryd.prog 112 = true := by kernel_rfl
theorem ti_hb113 : hasBody Tryd.prog 113 = true := by kernel_rfl
theorem ti_hb114 : hasBody Tryd.prog 114 = true := by kernel_rfl
theorem ti_hb115 : hasBody Tryd.prog 115 = true := by kernel_rfl
theorem ti_hb116 : hasBody Tryd.prog 116 = true := by kernel_rfl
theorem ti_hb117 : hasBody Tryd.prog 117 = true := by kernel_rfl
theorem ti_hb118 : hasBody Tryd.prog 118 = true := by kernel_rfl
theorem ti_hb119 : hasBody Tryd.prog 119 = true := by kernel_rfl
theorem ti_hb120 : hasBody Tryd.prog 120 = true := by kernel_rfl
theorem ti_hb121 : hasBody Tryd.prog 121 = true := by kernel_rfl
theorem ti_hb122 : hasBody Tryd.prog 122 = true := by kernel_rfl
theorem ti_hb123 : hasBody Tryd.prog 123 = true := by kernel_rfl
theorem ti_hb124 : hasBody Tryd.prog 124 = true := by kernel_rfl
theorem ti_hb125 : hasBody Tryd.prog 125 = true := by kernel_rfl
theorem ti_hb126 : hasBody Tryd.prog 126 = true := by kernel_rfl
theorem ti_hb127 : hasBody Tryd.prog 127 = true := by kernel_rfl
theorem ti_hb128 : hasBody Tryd.prog 128 = true := by kernel_rfl
theorem ti_hb129 : hasBody Tryd.prog 129 = true := by kernel_rfl
theorem ti_hb130 : hasBody Tryd.prog 130 = true := by kernel_rfl
theorem ti_hb131 : hasBody Tryd.prog 131 = true := by kernel_rfl
theorem ti_hb132 : hasBody Tryd.prog 132 = true := by kernel_rfl
theorem ti_hb133 : hasBody Tryd.prog 133 = true := by kernel_rfl
theorem ti_hb134 : hasBody Tryd.prog 134 = true := by kernel_rfl
theorem ti_hb135 : hasBody Tryd.prog 135 = true := by kernel_rfl
theorem ti_hb136 : hasBody Tryd.prog 136 = true := by kernel_rfl
theorem ti_hb137 : hasBody Tryd.prog 137 = true := by kernel_rfl
theorem ti_hb138 : hasBody Tryd.prog 138 = true := by kernel_rfl
theorem ti_hb139 : hasBody Tryd.prog 139 = true := by kernel_rfl
theorem ti_hb140 : hasBody Tryd.prog 140 = true := by kernel_rfl
theorem ti_hb141 : hasBody Tryd.prog 141 = true := by kernel_rfl
theorem ti_hb142 : hasBody Tryd.prog 142 = true := by kernel_rfl
theorem ti_hb143 : hasBody Tryd.prog 143 = true := by kernel_rfl
theorem ti_hb144 : hasBody Tryd.prog 144 = true := by kernel_rfl
theorem ti_hb145 : hasBody Tryd.prog 145 = true := by kernel_rfl
theorem ti_hb146 : hasBody Tryd.prog 146 = true := by kernel_rfl
theorem ti_hb147 : hasBody Tryd.prog 147 = true := by kernel_rfl
theorem ti_hb148 : hasBody Tryd.prog 148 = true := by kernel_rfl
theorem ti_hb149 : hasBody Tryd.prog 149 = true := by kernel_rfl
theorem ti_hb150 : hasBody Tryd.prog 150 = true := by kernel_rfl
theorem ti_hb151 : hasBody Tryd.prog 151 = true := by kernel_rfl
theorem ti_hb152 : hasBody Tryd.prog 152 = true := by kernel_rfl
theorem ti_hb153 : hasBody Tryd.prog 153 = true := by kernel_rfl
theorem ti_hb154 : hasBody Tryd.prog 154 = true := by kernel_rfl
theorem ti_hb155 : hasBody Tryd.prog 155 = true := by kernel_rfl
theorem ti_hb156 : hasBody Tryd.prog 156 = true := by kernel_rfl
theorem ti_hb157 : hasBody Tryd.prog 157 = true := by kernel_rfl
theorem ti_hb158 : hasBody Tryd.prog 158 = true := by kernel_rfl
theorem ti_hb159 : hasBody Tryd.prog 159 = true := by kernel_rfl
theorem ti_hb160 : hasBody Tryd.prog 160 = true := by kernel_rfl
theorem ti_hb161 : hasBody Tryd.prog 161 = true := by kernel_rfl
theorem ti_hb162 : hasBody Tryd.prog 162 = true := by kernel_rfl
theorem ti_hb163 : hasBody Tryd.prog 163 = true := by kernel_rfl
theorem ti_hb164 : hasBody Tryd.prog 164 = true := by kernel_rfl
theorem ti_hb165 : hasBody Tryd.prog 165 = true := by kernel_rfl
theorem ti_hb166 : hasBody Tryd.prog 166 = true := by kernel_rfl
theorem ti_hb167 : hasBody Tryd.prog 167 = true := by kernel_rfl
theorem ti_hb168 : hasBody Tryd.prog 168 = true := by kernel_rfl
theorem ti_hb169 : hasBody Tryd.prog 169 = true := by kernel_rfl
theorem ti_hb170 : hasBody Tryd.prog 170 = true := by kernel_rfl
theorem ti_hb171 : hasBody Tryd.prog 171 = true := by kernel_rfl
theorem ti_hb172 : hasBody Tryd.prog 172 = true := by kernel_rfl
theorem ti_hb173 : hasBody Tryd.prog 173 = true := by kernel_rfl
theorem ti_hb174 : hasBody Tryd.prog 174 = true := by kernel_rfl
theorem ti_hb175 : hasBody Tryd.prog 175 = true := by kernel_rfl
theorem ti_hb176 : hasBody Tryd.prog 176 = true := by kernel_rfl
theorem ti_hb177 : hasBody Tryd.prog 177 = true := by kernel_rfl
theorem ti_hb178 : hasBody Tryd.prog 178 = true := by kernel_rfl
theorem ti_hb179 : hasBody Tryd.prog 179 = true := by kernel_rfl
theorem ti_hb180 : hasBody Tryd.prog 180 = true := by kernel_rfl
theorem ti_hb181 : hasBody Tryd.prog 181 = true := by kernel_rfl
theorem ti_hb182 : hasBody Tryd.prog 182 = true := by kernel_rfl
theorem ti_hb183 : hasBody Tryd.prog 183 = true := by kernel_rfl
theorem ti_hb184 : hasBody Tryd.prog 184 = true := by kernel_rfl
theorem ti_hb185 : hasBody Tryd.prog 185 = true := by kernel_rfl
theorem ti_hb186 : hasBody Tryd.prog 186 = true := by kernel_rfl
theorem ti_hb187 : hasBody Tryd.prog 187 = true := by kernel_rfl
theorem ti_hb188 : hasBody Tryd.prog 188 = true := by kernel_rfl
theorem ti_hb189 : hasBody Tryd.prog 189 = true := by kernel_rfl
theorem ti_hb190 : hasBody Tryd.prog 190 = true := by kernel_rfl
theorem ti_hb191 : hasBody Tryd.prog 191 = true := by kernel_rfl
theorem ti_hb192 : hasBody Tryd.prog 192 = true := by kernel_rfl
theorem ti_hb193 : hasBody Tryd.prog 193 = true := by kernel_rfl
theorem ti_hb194 : hasBody Tryd.prog 194 = true := by kernel_rfl
theorem ti_hb195 : hasBody Tryd.prog 195 = true := by kernel_rfl
theorem ti_hb197 : hasBody Tryd.prog 197 = true := by kernel_rfl
theorem ti_hb198 : hasBody Tryd.prog 198 = true := by kernel_rfl
theorem ti_hb199 : hasBody Tryd.prog 199 = true := by kernel_rfl
theorem ti_hb200 : hasBody Tryd.prog 200 = true := by kernel_rfl
theorem ti_hb201 : hasBody Tryd.prog 201 = true := by kernel_rfl
theorem ti_hb202 : hasBody Tryd.prog 202 = true := by kernel_rfl
theorem ti_hb203 : hasBody Tryd.prog 203 = true := by kernel_rfl
theorem ti_hb204 : hasBody Tryd.prog 204 = true := by kernel_rfl
theorem ti_hb205 : hasBody Tryd.prog 205 = true := by kernel_rfl
theorem ti_hb206 : hasBody Tryd.prog 206 = true := by kernel_rfl
theorem ti_hb207 : hasBody Tryd.prog 207 = true := by kernel_rfl
theorem ti_hb208 : hasBody Tryd.prog 208 = true := by kernel_rfl
theorem ti_hb209 : hasBody Tryd.prog 209 = true := by kernel_rfl
theorem ti_hb210 : hasBody Tryd.prog 210 = true := by kernel_rfl
theorem ti_hb211 : hasBody Tryd.prog 211 = true := by kernel_rfl
theorem ti_hb212 : hasBody Tryd.prog 212 = true := by kernel_rfl
theorem ti_hb213 : hasBody Tryd.prog 213 = true := by kernel_rfl
theorem ti_hb214 : hasBody Tryd.prog 214 = true := by kernel_rfl
theorem ti_hb215 : hasBody Tryd.prog 215 = true := by kernel_rfl
theorem ti_hb216 : hasBody Tryd.prog 216 = true := by kernel_rfl
theorem ti_hb217 : hasBody Tryd.prog 217 = true := by kernel_rfl
theorem ti_hb218 : hasBody Tryd.prog 218 = true := by kernel_rfl
theorem ti_hb219 : hasBody Tryd.prog 219 = true := by kernel_rfl
theorem ti_hb220 : hasBody Tryd.prog 220 = true := by kernel_rfl
theorem ti_hb221 : hasBody Tryd.prog 221 = true := by kernel_rfl
theorem ti_hb222 : hasBody Tryd.prog 222 = true := by kernel_rfl
theorem ti_hb223 : hasBody Tryd.prog 223 = true := by kernel_rfl
theorem ti_hb225 : hasBody Tryd.prog 225 = true := by kernel_rfl
theorem ti_hb227 : hasBody Tryd.prog 227 = true := by kernel_rfl
theorem ti_hb228 : hasBody Tryd.prog 228 = true := by kernel_rfl
theorem ti_hb229 : hasBody Tryd.prog 229 = true := by kernel_rfl
theorem ti_hb230 : hasBody Tryd.prog 230 = true := by kernel_rfl
theorem ti_hb231 : hasBody Tryd.prog 231 = true := by kernel_rfl
theorem ti_hb232 : hasBody Tryd.prog 232 = true := by kernel_rfl
theorem ti_hb233 : hasBody Tryd.prog 233 = true := by kernel_rfl
theorem ti_hb235 : hasBody Tryd.prog 235 = true := by kernel_rfl
theorem ti_hb236 : hasBody Tryd.prog 236 = true := by kernel_rfl
theorem ti_hb237 : hasBody Tryd.prog 237 = true := by kernel_rfl
theorem ti_hb238 : hasBody Tryd.prog 238 = true := by kernel_rfl
theorem ti_hb239 : hasBody Tryd.prog 239 = true := by kernel_rfl
theorem ti_hb240 : hasBody Tryd.prog 240 = true := by kernel_rfl
theorem ti_hb241 : hasBody Tryd.prog 241 = true := by kernel_rfl
theorem ti_hb242 : hasBody Tryd.prog 242 = true := by kernel_rfl
theorem ti_hb243 : hasBody Tryd.prog 243 = true := by kernel_rfl
theorem ti_hb244 : hasBody Tryd.prog 244 = true := by kernel_rfl
theorem ti_hb246 : hasBody Tryd.prog 246 = true := by kernel_rfl
theorem ti_hb248 : hasBody Tryd.prog 248 = true := by kernel_rfl
theorem ti_hb249 : hasBody Tryd.prog 249 = true := by kernel_rfl
theorem ti_hb250 : hasBody Tryd.prog 250 = true := by kernel_rfl
theorem ti_hb251 : hasBody Tryd.prog 251 = true := by kernel_rfl
theorem ti_hb252 : hasBody Tryd.prog 252 = true := by kernel_rfl
theorem ti_hb253 : hasBody Tryd.prog 253 = true := by kernel_rfl
theorem ti_hb254 : hasBody Tryd.prog 254 = true := by kernel_rfl
theorem ti_hb255 : hasBody Tryd.prog 255 = true := by kernel_rfl
theorem ti_hb256 : hasBody Tryd.prog 256 = true := by kernel_rfl
theorem ti_hb257 : hasBody Tryd.prog 257 = true := by kernel_rfl
theorem ti_hb258 : hasBody Tryd.prog 258 = true := by kernel_rfl
theorem ti_hb259 : hasBody Tryd.prog 259 = true := by kernel_rfl
theorem ti_hb260 : hasBody Tryd.prog 260 = true := by kernel_rfl
theorem ti_hb261 : hasBody Tryd.prog 261 = true := by kernel_rfl
theorem ti_hb262 : hasBody Tryd.prog 262 = true := by kernel_rfl
theorem ti_hb263 : hasBody Tryd.prog 263 = true := by kernel_rfl
theorem ti_hb264 : hasBody Tryd.prog 264 = true := by kernel_rfl
theorem ti_hb265 : hasBody Tryd.prog 265 = true := by kernel_rfl
theorem ti_hb266 : hasBody Tryd.prog 266 = true := by kernel_rfl
theorem ti_hb267 : hasBody Tryd.prog 267 = true := by kernel_rfl
theorem ti_hb268 : hasBody Tryd.prog 268 = true := by kernel_rfl
theorem ti_hb269 : hasBody Tryd.prog 269 = true := by kernel_rfl
theorem ti_hb270 : hasBody Tryd.prog 270 = true := by kernel_rfl
theorem ti_in3 : inI Tryd.prog 3 = some .i64 := by kernel_rfl
theorem ti_in5 : inI Tryd.prog 5 = some .u8 := by kernel_rfl
theorem ti_in12 : inI Tryd.prog 12 = some .u64 := by kernel_rfl
theorem ti_in21 : inI Tryd.prog 21 = some .i32 := by kernel_rfl
theorem ti_in222 : inI Tryd.prog 222 = some .u64 := by kernel_rfl
theorem ti_in245 : inI Tryd.prog 245 = some .u64 := by kernel_rfl
theorem ti_in250 : inI Tryd.prog 250 = some .u32 := by kernel_rfl
theorem ti_ky9 : kyI Tryd.prog 9 = some [.s] := by kernel_rfl
theorem ti_ky38 : kyI Tryd.prog 38 = some [.i .i64, .i .i64, .s] := by kernel_rfl
theorem ti_mp92 : mpI Tryd.prog 92 = some (38, 93) := by kernel_rfl
theorem ti_mp129 : mpI Tryd.prog 129 = some (9, 3) := by kernel_rfl
theorem ti_mp210 : mpI Tryd.prog 210 = some (9, 9) := by kernel_rfl
theorem ti_pl31 : plI Tryd.prog 31 = some [(0, 1), (1, 1)] := by kernel_rfl
theorem ti_pl38 : plI Tryd.prog 38 = some [(0, 1), (1, 1), (2, 1)] := by kernel_rfl
theorem ti_pl40 : plI Tryd.prog 40 = some [(0, 1), (1, 1)] := by kernel_rfl
theorem ti_pl43 : plI Tryd.prog 43 = some [(0, 1), (1, 3), (4, 1), (5, 1), (6, 1), (7, 1), (8, 2), (10, 1)] := by kernel_rfl
theorem ti_pl66 : plI Tryd.prog 66 = some [(0, 1), (1, 3), (4, 1), (5, 1), (6, 1), (7, 2), (9, 1), (10, 1)] := by kernel_rfl
theorem ti_pl77 : plI Tryd.prog 77 = some [(0, 1), (1, 1), (2, 1)] := by kernel_rfl
theorem ti_pl79 : plI Tryd.prog 79 = some [(0, 1), (1, 1), (2, 1)] := by kernel_rfl
theorem ti_pl104 : plI Tryd.prog 104 = some [(0, 1), (1, 1), (2, 1)] := by kernel_rfl
theorem ti_pl114 : plI Tryd.prog 114 = some [(0, 1), (1, 1), (2, 1)] := by kernel_rfl
theorem ti_pl118 : plI Tryd.prog 118 = some [(0, 1), (1, 1), (2, 1), (3, 1), (4, 1), (5, 1)] := by kernel_rfl
theorem ti_pl145 : plI Tryd.prog 145 = some [(0, 1), (1, 1), (2, 1), (3, 1)] := by kernel_rfl
theorem ti_pl158 : plI Tryd.prog 158 = some [(0, 1)] := by kernel_rfl
theorem ti_pl165 : plI Tryd.prog 165 = some [(0, 1), (1, 1), (2, 1), (3, 1)] := by kernel_rfl
theorem ti_pl169 : plI Tryd.prog 169 = some [(0, 1), (1, 1), (2, 1)] := by kernel_rfl
theorem ti_pl172 : plI Tryd.prog 172 = some [(0, 1), (1, 1), (2, 1), (3, 1), (4, 11)] := by kernel_rfl
theorem ti_pl190 : plI Tryd.prog 190 = some [(0, 1), (1, 1), (2, 1)] := by kernel_rfl
theorem ti_pl220 : plI Tryd.prog 220 = some [(0, 1), (1, 1)] := by kernel_rfl
theorem ti_pt197 : ptI Tryd.prog 197 = some (5, 1) := by kernel_rfl
theorem ti_sb22 : slB Tryd.prog 22 = true := by kernel_rfl
theorem ti_sb28 : slB Tryd.prog 28 = true := by kernel_rfl
theorem ti_sb29 : slB Tryd.prog 29 = true := by kernel_rfl
theorem ti_sb41 : slB Tryd.prog 41 = true := by kernel_rfl
theorem ti_sb47 : slB Tryd.prog 47 = true := by kernel_rfl
theorem ti_sb50 : slB Tryd.prog 50 = true := by kernel_rfl
theorem ti_sb63 : slB Tryd.prog 63 = true := by kernel_rfl
theorem ti_sb64 : slB Tryd.prog 64 = true := by kernel_rfl
theorem ti_sb89 : slB Tryd.prog 89 = true := by kernel_rfl
theorem ti_sb93 : slB Tryd.prog 93 = true := by kernel_rfl
theorem ti_sb112 : slB Tryd.prog 112 = true := by kernel_rfl
theorem ti_sb134 : slB Tryd.prog 134 = true := by kernel_rfl
theorem ti_sb196 : slB Tryd.prog 196 = true := by kernel_rfl
theorem ti_sl22 : slI Tryd.prog 22 = some (79, 3, 32) := by kernel_rfl
theorem ti_sl28 : slI Tryd.prog 28 = some (9, 1, 16) := by kernel_rfl
theorem ti_sl29 : slI Tryd.prog 29 = some (93, 1, 24) := by kernel_rfl
theorem ti_sl41 : slI Tryd.prog 41 = some (43, 11, 136) := by kernel_rfl
theorem ti_sl47 : slI Tryd.prog 47 = some (114, 3, 40) := by kernel_rfl
theorem ti_sl50 : slI Tryd.prog 50 = some (118, 6, 64) := by kernel_rfl
theorem ti_sl63 : slI Tryd.prog 63 = some (66, 11, 144) := by kernel_rfl
theorem ti_sl64 : slI Tryd.prog 64 = some (172, 15, 192) := by kernel_rfl
theorem ti_sl89 : slI Tryd.prog 89 = some (3, 1, 8) := by kernel_rfl
theorem ti_sl93 : slI Tryd.prog 93 = some (38, 3, 32) := by kernel_rfl
theorem ti_sl112 : slI Tryd.prog 112 = some (190, 3, 32) := by kernel_rfl
theorem ti_sl134 : slI Tryd.prog 134 = some (5, 1, 1) := by kernel_rfl
theorem ti_sl196 : slI Tryd.prog 196 = some (28, 1, 24) := by kernel_rfl
theorem ti_sn109 : slI Tryd.prog 109 = none := by kernel_rfl
theorem ti_sn218 : slI Tryd.prog 218 = none := by kernel_rfl
theorem ti_sn221 : slI Tryd.prog 221 = none := by kernel_rfl
theorem ti_sn253 : slI Tryd.prog 253 = none := by kernel_rfl
theorem ti_st9 : stB Tryd.prog 9 = true := by kernel_rfl
theorem ti_sz3 : szI Tryd.prog 3 = some 1 := by kernel_rfl
theorem ti_sz4 : szI Tryd.prog 4 = some 1 := by kernel_rfl
theorem ti_sz9 : szI Tryd.prog 9 = some 1 := by kernel_rfl
theorem ti_sz22 : szI Tryd.prog 22 = some 1 := by kernel_rfl
theorem ti_sz23 : szI Tryd.prog 23 = some 1 := by kernel_rfl
theorem ti_sz28 : szI Tryd.prog 28 = some 1 := by kernel_rfl
theorem ti_sz29 : szI Tryd.prog 29 = some 1 := by kernel_rfl
theorem ti_sz31 : szI Tryd.prog 31 = some 2 := by kernel_rfl
theorem ti_sz38 : szI Tryd.prog 38 = some 3 := by kernel_rfl
theorem ti_sz40 : szI Tryd.prog 40 = some 2 := by kernel_rfl
theorem ti_sz43 : szI Tryd.prog 43 = some 11 := by kernel_rfl
theorem ti_sz47 : szI Tryd.prog 47 = some 1 := by kernel_rfl
theorem ti_sz63 : szI Tryd.prog 63 = some 1 := by kernel_rfl
theorem ti_sz64 : szI Tryd.prog 64 = some 1 := by kernel_rfl
theorem ti_sz66 : szI Tryd.prog 66 = some 11 := by kernel_rfl
theorem ti_sz79 : szI Tryd.prog 79 = some 3 := by kernel_rfl
theorem ti_sz89 : szI Tryd.prog 89 = some 1 := by kernel_rfl
theorem ti_sz93 : szI Tryd.prog 93 = some 1 := by kernel_rfl
theorem ti_sz109 : szI Tryd.prog 109 = some 2 := by kernel_rfl
theorem ti_sz110 : szI Tryd.prog 110 = some 8 := by kernel_rfl
theorem ti_sz114 : szI Tryd.prog 114 = some 3 := by kernel_rfl
theorem ti_sz118 : szI Tryd.prog 118 = some 6 := by kernel_rfl
theorem ti_sz129 : szI Tryd.prog 129 = some 1 := by kernel_rfl
theorem ti_sz133 : szI Tryd.prog 133 = some 1 := by kernel_rfl
theorem ti_sz134 : szI Tryd.prog 134 = some 1 := by kernel_rfl
theorem ti_sz172 : szI Tryd.prog 172 = some 15 := by kernel_rfl
theorem ti_sz176 : szI Tryd.prog 176 = some 26 := by kernel_rfl
theorem ti_sz210 : szI Tryd.prog 210 = some 1 := by kernel_rfl
theorem ti_sz220 : szI Tryd.prog 220 = some 2 := by kernel_rfl
theorem ti_sz221 : szI Tryd.prog 221 = some 32 := by kernel_rfl
theorem ti_sz253 : szI Tryd.prog 253 = some 8 := by kernel_rfl
theorem ti_sz255 : szI Tryd.prog 255 = some 13 := by kernel_rfl
theorem ti_us3 : (Tryd.prog.underlying 3).isSome = true := by kernel_rfl
theorem ti_us5 : (Tryd.prog.underlying 5).isSome = true := by kernel_rfl
theorem ti_us133 : (Tryd.prog.underlying 133).isSome = true := by kernel_rfl
theorem ti_us222 : (Tryd.prog.underlying 222).isSome = true := by kernel_rfl
theorem ti_us233 : (Tryd.prog.underlying 233).isSome = true := by kernel_rfl
theorem ti_zr3 : zrI Tryd.prog 3 = some [.i .i64 0] := by kernel_rfl
theorem ti_zr31 : zrI Tryd.prog 31 = some [.c (.slice none 0 0), .c (.slice none 0 0)] := by kernel_rfl
theorem ti_zr38 : zrI Tryd.prog 38 = some [.i .i64 0, .i .i64 0, .s []] := by kernel_rfl
theorem ti_zr40 : zrI Tryd.prog 40 = some [.i .i64 0, .s []] := by kernel_rfl
theorem ti_zr43 : zrI Tryd.prog 43 = some [.i .i64 0, .i .i64 0, .i .i64 0, .s [], .s [], .s [], .i .i64 0, .i .i64 0, .i .i64 0, .s [], .c (.slice none 0 0)] := by kernel_rfl
theorem ti_zr66 : zrI Tryd.prog 66 = some [.i .i64 0, .i .i64 0, .i .i64 0, .s [], .s [], .i .i64 0, .i .i64 0, .i .i64 0, .s [], .c (.slice none 0 0), .c (.slice none 0 0)] := by kernel_rfl
theorem ti_zr77 : zrI Tryd.prog 77 = some [.s [], .i .i64 0, .c (.slice none 0 0)] := by kernel_rfl
theorem ti_zr79 : zrI Tryd.prog 79 = some [.i .i64 0, .s [], .i .i64 0] := by kernel_rfl
theorem ti_zr89 : zrI Tryd.prog 89 = some [.c (.slice none 0 0)] := by kernel_rfl
theorem ti_zr104 : zrI Tryd.prog 104 = some [.i .i64 0, .i .i64 0, .i .i64 0] := by kernel_rfl
theorem ti_zr109 : zrI Tryd.prog 109 = some [.s [], .s []] := by kernel_rfl
theorem ti_zr114 : zrI Tryd.prog 114 = some [.i .i64 0, .s [], .s []] := by kernel_rfl
theorem ti_zr118 : zrI Tryd.prog 118 = some [.i .i64 0, .s [], .s [], .i .i64 0, .i .i64 0, .i .i64 0] := by kernel_rfl
theorem ti_zr136 : zrI Tryd.prog 136 = some [.c (.pointer none), .c (.slice none 0 0)] := by kernel_rfl
theorem ti_zr145 : zrI Tryd.prog 145 = some [.s [], .i .i64 0, .c (.slice none 0 0), .i .i64 0] := by kernel_rfl
theorem ti_zr158 : zrI Tryd.prog 158 = some [.i .i64 0] := by kernel_rfl
theorem ti_zr165 : zrI Tryd.prog 165 = some [.c (.slice none 0 0), .i .i64 0, .i .i64 0, .i .i64 0] := by kernel_rfl
theorem ti_zr169 : zrI Tryd.prog 169 = some [.c (.slice none 0 0), .i .i64 0, .i .i64 0] := by kernel_rfl
theorem ti_zr172 : zrI Tryd.prog 172 = some [.i .i64 0, .s [], .s [], .b false, .i .i64 0, .i .i64 0, .i .i64 0, .s [], .s [], .i .i64 0, .i .i64 0, .i .i64 0, .s [], .c (.slice none 0 0), .c (.slice none 0 0)] := by kernel_rfl
theorem ti_zr190 : zrI Tryd.prog 190 = some [.c (.slice none 0 0), .b false, .b false] := by kernel_rfl
theorem ti_zr220 : zrI Tryd.prog 220 = some [.i .u8 0, .i .u8 0] := by kernel_rfl
theorem ti_zv3 : zvI Tryd.prog 3 = some (.i .i64 0) := by kernel_rfl
theorem ti_zv9 : zvI Tryd.prog 9 = some (.s []) := by kernel_rfl
theorem ti_zv93 : zvI Tryd.prog 93 = some (.c (.slice none 0 0)) := by kernel_rfl
end Go.Proofs.YtalalhngpcmoeaaDoor
