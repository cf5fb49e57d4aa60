/- What the types and functions of this translation say, a fact a row. No condition. -/
import Derived.Test.YtjghnaohlfgloaaDoorProg
import Derived.Test.YtjghnaohlfgloaaDoorJ15
import Derived.KernelRfl
import Derived.Test.YtjghnaohlfgloaaDoorRows
import Derived.ProofKit
import Derived.OpenShut
import Derived.JoinedCond
set_option linter.all false
set_option linter.unusedSimpArgs false
set_option linter.unusedVariables false
namespace Go.Proofs.YtjghnaohlfgloaaDoor
open Go.Proofs.YtjghnaohlfgloaaDoor.Ab
theorem ti_mixed : Tryd.prog.follows .mixedOrders = true := by kernel_rfl
theorem ti_ag3 : agB Tryd.prog 3 = some false := by kernel_rfl
theorem ti_ag4 : agB Tryd.prog 4 = some false := by kernel_rfl
theorem ti_ag5 : agB Tryd.prog 5 = some false := by kernel_rfl
theorem ti_ag9 : agB Tryd.prog 9 = some false := by kernel_rfl
theorem ti_ag23 : agB Tryd.prog 23 = some true := by kernel_rfl
theorem ti_ag25 : agB Tryd.prog 25 = some true := by kernel_rfl
theorem ti_ag26 : agB Tryd.prog 26 = some false := by kernel_rfl
theorem ti_ag28 : agB Tryd.prog 28 = some true := by kernel_rfl
theorem ti_ag29 : agB Tryd.prog 29 = some false := by kernel_rfl
theorem ti_ag32 : agB Tryd.prog 32 = some false := by kernel_rfl
theorem ti_ag33 : agB Tryd.prog 33 = some false := by kernel_rfl
theorem ti_ag35 : agB Tryd.prog 35 = some true := by kernel_rfl
theorem ti_ag43 : agB Tryd.prog 43 = some false := by kernel_rfl
theorem ti_ag48 : agB Tryd.prog 48 = some false := by kernel_rfl
theorem ti_ag49 : agB Tryd.prog 49 = some false := by kernel_rfl
theorem ti_ag63 : agB Tryd.prog 63 = some false := by kernel_rfl
theorem ti_ag79 : agB Tryd.prog 79 = some false := by kernel_rfl
theorem ti_ag97 : agB Tryd.prog 97 = some true := by kernel_rfl
theorem ti_ag131 : agB Tryd.prog 131 = some false := by kernel_rfl
theorem ti_ag132 : agB Tryd.prog 132 = some false := by kernel_rfl
theorem ti_ag153 : agB Tryd.prog 153 = some true := by kernel_rfl
theorem ti_ag175 : agB Tryd.prog 175 = some true := by kernel_rfl
theorem ti_ag198 : agB Tryd.prog 198 = some true := by kernel_rfl
theorem ti_ag200 : agB Tryd.prog 200 = some false := by kernel_rfl
theorem ti_an175 : arI Tryd.prog 175 = none := by kernel_rfl
theorem ti_az175 : azI Tryd.prog 175 = some (4, 2) := by kernel_rfl
theorem ti_bo4 : boB Tryd.prog 4 = true := by kernel_rfl
theorem ti_el174 : elI Tryd.prog 174 = some (2, 1) := by kernel_rfl
theorem ti_el196 : elI Tryd.prog 196 = some (256, 1) := by kernel_rfl
theorem ti_el199 : elI Tryd.prog 199 = some (16, 2) := by kernel_rfl
theorem ti_fe23 : feI Tryd.prog 23 = some [(0, 0), (1, 0), (2, 1)] := by kernel_rfl
theorem ti_fe97 : feI Tryd.prog 97 = some [(0, 0), (1, 1), (2, 1)] := by kernel_rfl
theorem ti_fl23_0 : flI Tryd.prog 23 0 = some (0, false, 1) := by kernel_rfl
theorem ti_fl23_1 : flI Tryd.prog 23 1 = some (1, false, 1) := by kernel_rfl
theorem ti_fl23_2 : flI Tryd.prog 23 2 = some (2, false, 1) := by kernel_rfl
theorem ti_fl25_0 : flI Tryd.prog 25 0 = some (0, false, 1) := by kernel_rfl
theorem ti_fl25_1 : flI Tryd.prog 25 1 = some (1, false, 1) := by kernel_rfl
theorem ti_fl28_0 : flI Tryd.prog 28 0 = some (0, false, 1) := by kernel_rfl
theorem ti_fl28_1 : flI Tryd.prog 28 1 = some (1, true, 3) := by kernel_rfl
theorem ti_fl28_2 : flI Tryd.prog 28 2 = some (4, false, 1) := by kernel_rfl
theorem ti_fl28_3 : flI Tryd.prog 28 3 = some (5, false, 1) := by kernel_rfl
theorem ti_fl28_4 : flI Tryd.prog 28 4 = some (6, false, 1) := by kernel_rfl
theorem ti_fl28_5 : flI Tryd.prog 28 5 = some (7, false, 1) := by kernel_rfl
theorem ti_fl28_6 : flI Tryd.prog 28 6 = some (8, true, 2) := by kernel_rfl
theorem ti_fl28_7 : flI Tryd.prog 28 7 = some (10, false, 1) := by kernel_rfl
theorem ti_fl35_0 : flI Tryd.prog 35 0 = some (0, false, 1) := by kernel_rfl
theorem ti_fl35_1 : flI Tryd.prog 35 1 = some (1, false, 1) := by kernel_rfl
theorem ti_fl58_0 : flI Tryd.prog 58 0 = some (0, false, 1) := by kernel_rfl
theorem ti_fl58_1 : flI Tryd.prog 58 1 = some (1, false, 1) := by kernel_rfl
theorem ti_fl58_2 : flI Tryd.prog 58 2 = some (2, false, 1) := by kernel_rfl
theorem ti_fl86_0 : flI Tryd.prog 86 0 = some (0, false, 1) := by kernel_rfl
theorem ti_fl86_1 : flI Tryd.prog 86 1 = some (1, false, 1) := by kernel_rfl
theorem ti_fl86_2 : flI Tryd.prog 86 2 = some (2, false, 1) := by kernel_rfl
theorem ti_fl86_3 : flI Tryd.prog 86 3 = some (3, false, 1) := by kernel_rfl
theorem ti_fl97_0 : flI Tryd.prog 97 0 = some (0, false, 1) := by kernel_rfl
theorem ti_fl97_1 : flI Tryd.prog 97 1 = some (1, false, 1) := by kernel_rfl
theorem ti_fl97_2 : flI Tryd.prog 97 2 = some (2, false, 1) := by kernel_rfl
theorem ti_fl108_0 : flI Tryd.prog 108 0 = some (0, false, 1) := by kernel_rfl
theorem ti_fl108_1 : flI Tryd.prog 108 1 = some (1, false, 1) := by kernel_rfl
theorem ti_fl108_2 : flI Tryd.prog 108 2 = some (2, true, 2) := by kernel_rfl
theorem ti_fl108_3 : flI Tryd.prog 108 3 = some (4, false, 1) := by kernel_rfl
theorem ti_fl134_0 : flI Tryd.prog 134 0 = some (0, false, 1) := by kernel_rfl
theorem ti_fl134_1 : flI Tryd.prog 134 1 = some (1, false, 1) := by kernel_rfl
theorem ti_fl153_0 : flI Tryd.prog 153 0 = some (0, false, 1) := by kernel_rfl
theorem ti_fl153_1 : flI Tryd.prog 153 1 = some (1, false, 1) := by kernel_rfl
theorem ti_fl153_2 : flI Tryd.prog 153 2 = some (2, false, 1) := by kernel_rfl
theorem ti_fl153_3 : flI Tryd.prog 153 3 = some (3, false, 1) := by kernel_rfl
theorem ti_fl153_4 : flI Tryd.prog 153 4 = some (4, false, 1) := by kernel_rfl
theorem ti_fl153_5 : flI Tryd.prog 153 5 = some (5, false, 1) := by kernel_rfl
theorem ti_fl177_0 : flI Tryd.prog 177 0 = some (0, false, 1) := by kernel_rfl
theorem ti_fl177_1 : flI Tryd.prog 177 1 = some (1, false, 1) := by kernel_rfl
theorem ti_fl177_2 : flI Tryd.prog 177 2 = some (2, false, 1) := by kernel_rfl
theorem ti_fl198_0 : flI Tryd.prog 198 0 = some (0, false, 1) := by kernel_rfl
theorem ti_fl198_1 : flI Tryd.prog 198 1 = some (1, false, 1) := by kernel_rfl
theorem ti_hb8 : hasBody Tryd.prog 8 = true := by kernel_rfl
theorem ti_hb9 : hasBody Tryd.prog 9 = true := by kernel_rfl
theorem ti_hb10 : hasBody Tryd.prog 10 = true := by kernel_rfl
theorem ti_hb11 : hasBody Tryd.prog 11 = true := by kernel_rfl
theorem ti_hb12 : hasBody Tryd.prog 12 = true := by kernel_rfl
theorem ti_hb13 : hasBody Tryd.prog 13 = true := by kernel_rfl
theorem ti_hb14 : hasBody Tryd.prog 14 = true := by kernel_rfl
theorem ti_hb15 : hasBody Tryd.prog 15 = true := by kernel_rfl
theorem ti_hb16 : hasBody Tryd.prog 16 = true := by kernel_rfl
theorem ti_hb17 : hasBody Tryd.prog 17 = true := by kernel_rfl
theorem ti_hb18 : hasBody Tryd.prog 18 = true := by kernel_rfl
theorem ti_hb19 : hasBody Tryd.prog 19 = true := by kernel_rfl
theorem ti_hb20 : hasBody Tryd.prog 20 = true := by kernel_rfl
theorem ti_hb21 : hasBody Tryd.prog 21 = true := by kernel_rfl
theorem ti_hb22 : hasBody Tryd.prog 22 = true := by kernel_rfl
theorem ti_hb23 : hasBody Tryd.prog 23 = true := by kernel_rfl
theorem ti_hb24 : hasBody Tryd.prog 24 = true := by kernel_rfl
theorem ti_hb25 : hasBody Tryd.prog 25 = true := by kernel_rfl
theorem ti_hb26 : hasBody Tryd.prog 26 = true := by kernel_rfl
theorem ti_hb27 : hasBody Tryd.prog 27 = true := by kernel_rfl
theorem ti_hb28 : hasBody Tryd.prog 28 = true := by kernel_rfl
theorem ti_hb29 : hasBody Tryd.prog 29 = true := by kernel_rfl
theorem ti_hb30 : hasBody Tryd.prog 30 = true := by kernel_rfl
theorem ti_hb31 : hasBody Tryd.prog 31 = true := by kernel_rfl
theorem ti_hb32 : hasBody Tryd.prog 32 = true := by kernel_rfl
theorem ti_hb33 : hasBody Tryd.prog 33 = true := by kernel_rfl
theorem ti_hb34 : hasBody Tryd.prog 34 = true := by kernel_rfl
theorem ti_hb35 : hasBody Tryd.prog 35 = true := by kernel_rfl
theorem ti_hb36 : hasBody Tryd.prog 36 = true := by kernel_rfl
theorem ti_hb37 : hasBody Tryd.prog 37 = true := by kernel_rfl
theorem ti_hb38 : hasBody Tryd.prog 38 = true := by kernel_rfl
theorem ti_hb39 : hasBody Tryd.prog 39 = true := by kernel_rfl
theorem ti_hb40 : hasBody Tryd.prog 40 = true := by kernel_rfl
theorem ti_hb41 : hasBody Tryd.prog 41 = true := by kernel_rfl
theorem ti_hb42 : hasBody Tryd.prog 42 = true := by kernel_rfl
theorem ti_hb43 : hasBody Tryd.prog 43 = true := by kernel_rfl
theorem ti_hb44 : hasBody Tryd.prog 44 = true := by kernel_rfl
theorem ti_hb45 : hasBody Tryd.prog 45 = true := by kernel_rfl
theorem ti_hb46 : hasBody Tryd.prog 46 = true := by kernel_rfl
theorem ti_hb47 : hasBody Tryd.prog 47 = true := by kernel_rfl
theorem ti_hb48 : hasBody Tryd.prog 48 = true := by kernel_rfl
theorem ti_hb49 : hasBody Tryd.prog 49 = true := by kernel_rfl
theorem ti_hb50 : hasBody Tryd.prog 50 = true := by kernel_rfl
theorem ti_hb51 : hasBody Tryd.prog 51 = true := by kernel_rfl
theorem ti_hb52 : hasBody Tryd.prog 52 = true := by kernel_rfl
theorem ti_hb53 : hasBody Tryd.prog 53 = true := by kernel_rfl
theorem ti_hb54 : hasBody Tryd.prog 54 = true := by kernel_rfl
theorem ti_hb55 : hasBody Tryd.prog 55 = true := by kernel_rfl
theorem ti_hb56 : hasBody Tryd.prog 56 = true := by kernel_rfl
theorem ti_hb57 : hasBody Tryd.prog 57 = true := by kernel_rfl
theorem ti_hb58 : hasBody Tryd.prog 58 = true := by kernel_rfl
theorem ti_hb59 : hasBody Tryd.prog 59 = true := by kernel_rfl
theorem ti_hb60 : hasBody Tryd.prog 60 = true := by kernel_rfl
theorem ti_hb61 : hasBody Tryd.prog 61 = true := by kernel_rfl
theorem ti_hb62 : hasBody Tryd.prog 62 = true := by kernel_rfl
theorem ti_hb63 : hasBody Tryd.prog 63 = true := by kernel_rfl
theorem ti_hb64 : hasBody Tryd.prog 64 = true := by kernel_rfl
theorem ti_hb65 : hasBody Tryd.prog 65 = true := by kernel_rfl
theorem ti_hb66 : hasBody Tryd.prog 66 = true := by kernel_rfl
theorem ti_hb67 : hasBody Tryd.prog 67 = true := by kernel_rfl
theorem ti_hb68 : hasBody Tryd.prog 68 = true := by kernel_rfl
theorem ti_hb69 : hasBody Tryd.prog 69 = true := by kernel_rfl
theorem ti_hb70 : hasBody Tryd.prog 70 = true := by kernel_rfl
theorem ti_hb71 : hasBody Tryd.prog 71 = true := by kernel_rfl
theorem ti_hb72 : hasBody Tryd.prog 72 = true := by kernel_rfl
theorem ti_hb73 : hasBody Tryd.prog 73 = true := by kernel_rfl
theorem ti_hb74 : hasBody Tryd.prog 74 = true := by kernel_rfl
theorem ti_hb75 : hasBody Tryd.prog 75 = true := by kernel_rfl
theorem ti_hb76 : hasBody Tryd.prog 76 = true := by kernel_rfl
theorem ti_hb77 : hasBody Tryd.prog 77 = true := by kernel_rfl
theorem ti_hb78 : hasBody Tryd.prog 78 = true := by kernel_rfl
theorem ti_hb79 : hasBody Tryd.prog 79 = true := by kernel_rfl
theorem ti_hb80 : hasBody Tryd.prog 80 = true := by kernel_rfl
theorem ti_hb81 : hasBody Tryd.prog 81 = true := by kernel_rfl
theorem ti_hb82 : hasBody Tryd.prog 82 = true := by kernel_rfl
theorem ti_hb83 : hasBody Tryd.prog 83 = true := by kernel_rfl
theorem ti_hb84 : hasBody Tryd.prog 84 = true := by kernel_rfl
theorem ti_hb85 : hasBody Tryd.prog 85 = true := by kernel_rfl
theorem ti_hb86 : hasBody Tryd.prog 86 = true := by kernel_rfl
theorem ti_hb87 : hasBody Tryd.prog 87 = true := by kernel_rfl
theorem ti_hb88 : hasBody Tryd.prog 88 = true := by kernel_rfl
theorem ti_hb89 : hasBody Tryd.prog 89 = true := by kernel_rfl
theorem ti_hb90 : hasBody Tryd.prog 90 = true := by kernel_rfl
theorem ti_hb91 : hasBody Tryd.prog 91 = true := by kernel_rfl
theorem ti_hb92 : hasBody Tryd.prog 92 = true := by kernel_rfl
theorem ti_hb93 : hasBody Tryd.prog 93 = true := by kernel_rfl
theorem ti_hb94 : hasBody Tryd.prog 94 = true := by kernel_rfl
theorem ti_hb95 : hasBody Tryd.prog 95 = true := by kernel_rfl
theorem ti_hb96 : hasBody Tryd.prog 96 = true := by kernel_rfl
theorem ti_hb97 : hasBody Tryd.prog 97 = true := by kernel_rfl
theorem ti_hb98 : hasBody Tryd.prog 98 = true := by kernel_rfl
theorem ti_hb99 : hasBody Tryd.prog 99 = true := by kernel_rfl
theorem ti_hb100 : hasBody Tryd.prog 100 = true := by kernel_rfl
theorem ti_hb101 : hasBody Tryd.prog 101 = true := by kernel_rfl
theorem ti_hb102 : hasBody Tryd.prog 102 = true := by kernel_rfl
theorem ti_hb103 : hasBody Tryd.prog 103 = true := by kernel_rfl
theorem ti_hb104 : hasBody Tryd.prog 104 = true := by kernel_rfl
theorem ti_hb105 : hasBody Tryd.prog 105 = true := by kernel_rfl
theorem ti_hb106 : hasBody Tryd.prog 106 = true := by kernel_rfl
theorem ti_hb107 : hasBody Tryd.prog 107 = true := by kernel_rfl
theorem ti_hb108 : hasBody Tryd.prog 108 = true := by kernel_rfl
theorem ti_hb109 : hasBody Tryd.prog 109 = true := by kernel_rfl
theorem ti_hb110 : hasBody Tryd.prog 110 = true := by kernel_rfl
theorem ti_hb111 : hasBody Tryd.prog 111 = true := by kernel_rfl
theorem ti_hb112 : hasBody Tryd.prog 112 = true := by kernel_rfl
theorem ti_hb113 : hasBody Tryd.prog 113 = true := by kernel_rfl
theorem ti_hb114 : hasBody Tryd.prog 114 = true := by kernel_rfl
theorem ti_hb115 : hasBody Tryd.prog 115 = true := by kernel_rfl
theorem ti_hb116 : hasBody Tryd.prog 116 = true := by kernel_rfl
theorem ti_hb117 : hasBody Tryd.prog 117 = true := by kernel_rfl
theorem ti_hb118 : hasBody Tryd.prog 118 = true := by kernel_rfl
theorem ti_hb119 : hasBody Tryd.prog 119 = true := by kernel_rfl
theorem ti_hb120 : hasBody Tryd.prog 120 = true := by kernel_rfl
theorem ti_hb121 : hasBody Tryd.prog 121 = true := by kernel_rfl
theorem ti_hb122 : hasBody Tryd.prog 122 = true := by kernel_rfl
theorem ti_hb123 : hasBody Tryd.prog 123 = true := by kernel_rfl
theorem ti_hb124 : hasBody Tryd.prog 124 = true := by kernel_rfl
theorem ti_hb125 : hasBody Tryd.prog 125 = true := by kernel_rfl
theorem ti_hb126 : hasBody Tryd.prog 126 = true := by kernel_rfl
theorem ti_hb127 : hasBody Tryd.prog 127 = true := by kernel_rfl
theorem ti_hb128 : hasBody Tryd.prog 128 = true := by kernel_rfl
theorem ti_hb129 : hasBody Tryd.prog 129 = true := by kernel_rfl
theorem ti_hb130 : hasBody Tryd.prog 130 = true := by kernel_rfl
theorem ti_hb131 : hasBody Tryd.prog 131 = true := by kernel_rfl
theorem ti_hb132 : hasBody Tryd.prog 132 = true := by kernel_rfl
theorem ti_hb133 : hasBody Tryd.prog 133 = true := by kernel_rfl
theorem ti_hb134 : hasBody Tryd.prog 134 = true := by kernel_rfl
theorem ti_hb135 : hasBody Tryd.prog 135 = true := by kernel_rfl
theorem ti_hb136 : hasBody Tryd.prog 136 = true := by kernel_rfl
theorem ti_hb137 : hasBody Tryd.prog 137 = true := by kernel_rfl
theorem ti_hb138 : hasBody Tryd.prog 138 = true := by kernel_rfl
theorem ti_hb139 : hasBody Tryd.prog 139 = true := by kernel_rfl
theorem ti_hb140 : hasBody Tryd.prog 140 = true := by kernel_rfl
theorem ti_hb141 : hasBody Tryd.prog 141 = true := by kernel_rfl
theorem ti_hb142 : hasBody Tryd.prog 142 = true := by kernel_rfl
theorem ti_hb143 : hasBody Tryd.prog 143 = true := by kernel_rfl
theorem ti_hb144 : hasBody Tryd.prog 144 = true := by kernel_rfl
theorem ti_hb145 : hasBody Tryd.prog 145 = true := by kernel_rfl
theorem ti_hb146 : hasBody Tryd.prog 146 = true := by kernel_rfl
theorem ti_hb147 : hasBody Tryd.prog 147 = true := by kernel_rfl
theorem ti_hb148 : hasBody Tryd.prog 148 = true := by kernel_rfl
theorem ti_hb149 : hasBody Tryd.prog 149 = true := by kernel_rfl
theorem ti_hb150 : hasBody Tryd.prog 150 = true := by kernel_rfl
theorem ti_hb151 : hasBody Tryd.prog 151 = true := by kernel_rfl
theorem ti_hb152 : hasBody Tryd.prog 152 = true := by kernel_rfl
theorem ti_hb153 : hasBody Tryd.prog 153 = true := by kernel_rfl
theorem ti_hb154 : hasBody Tryd.prog 154 = true := by kernel_rfl
theorem ti_hb155 : hasBody Tryd.prog 155 = true := by kernel_rfl
theorem ti_hb156 : hasBody Tryd.prog 156 = true := by kernel_rfl
theorem ti_hb157 : hasBody Tryd.prog 157 = true := by kernel_rfl
theorem ti_hb158 : hasBody Tryd.prog 158 = true := by kernel_rfl
theorem ti_hb159 : hasBody Tryd.prog 159 = true := by kernel_rfl
theorem ti_hb160 : hasBody Tryd.prog 160 = true := by kernel_rfl
theorem ti_hb161 : hasBody Tryd.prog 161 = true := by kernel_rfl
theorem ti_hb162 : hasBody Tryd.prog 162 = true := by kernel_rfl
theorem ti_hb163 : hasBody Tryd.prog 163 = true := by kernel_rfl
theorem ti_hb164 : hasBody Tryd.prog 164 = true := by kernel_rfl
theorem ti_hb166 : hasBody Tryd.prog 166 = true := by kernel_rfl
theorem ti_hb168 : hasBody Tryd.prog 168 = true := by kernel_rfl
theorem ti_hb169 : hasBody Tryd.prog 169 = true := by kernel_rfl
theorem ti_hb170 : hasBody Tryd.prog 170 = true := by kernel_rfl
theorem ti_hb171 : hasBody Tryd.prog 171 = true := by kernel_rfl
theorem ti_hb172 : hasBody Tryd.prog 172 = true := by kernel_rfl
theorem ti_hb173 : hasBody Tryd.prog 173 = true := by kernel_rfl
theorem ti_hb174 : hasBody Tryd.prog 174 = true := by kernel_rfl
theorem ti_hb175 : hasBody Tryd.prog 175 = true := by kernel_rfl
theorem ti_hb176 : hasBody Tryd.prog 176 = true := by kernel_rfl
theorem ti_hb177 : hasBody Tryd.prog 177 = true := by kernel_rfl
theorem ti_hb179 : hasBody Tryd.prog 179 = true := by kernel_rfl
theorem ti_hb181 : hasBody Tryd.prog 181 = true := by kernel_rfl
theorem ti_hb182 : hasBody Tryd.prog 182 = true := by kernel_rfl
theorem ti_hb183 : hasBody Tryd.prog 183 = true := by kernel_rfl
theorem ti_in3 : inI Tryd.prog 3 = some .i64 := by kernel_rfl
theorem ti_in5 : inI Tryd.prog 5 = some .u8 := by kernel_rfl
theorem ti_in12 : inI Tryd.prog 12 = some .u64 := by kernel_rfl
theorem ti_in158 : inI Tryd.prog 158 = some .u64 := by kernel_rfl
theorem ti_in187 : inI Tryd.prog 187 = some .u32 := by kernel_rfl
theorem ti_in189 : inI Tryd.prog 189 = some .u64 := by kernel_rfl
theorem ti_in200 : inI Tryd.prog 200 = some .u64 := by kernel_rfl
theorem ti_ky3 : kyI Tryd.prog 3 = some [.i .i64] := by kernel_rfl
theorem ti_ky9 : kyI Tryd.prog 9 = some [.s] := by kernel_rfl
theorem ti_mp79 : mpI Tryd.prog 79 = some (9, 3) := by kernel_rfl
theorem ti_mp159 : mpI Tryd.prog 159 = some (3, 4) := by kernel_rfl
theorem ti_pl23 : plI Tryd.prog 23 = some [(0, 1), (1, 1), (2, 1)] := by kernel_rfl
theorem ti_pl35 : plI Tryd.prog 35 = some [(0, 1), (1, 1)] := by kernel_rfl
theorem ti_pl58 : plI Tryd.prog 58 = some [(0, 1), (1, 1), (2, 1)] := by kernel_rfl
theorem ti_pl86 : plI Tryd.prog 86 = some [(0, 1), (1, 1), (2, 1), (3, 1)] := by kernel_rfl
theorem ti_pl97 : plI Tryd.prog 97 = some [(0, 1), (1, 1), (2, 1)] := by kernel_rfl
theorem ti_pl108 : plI Tryd.prog 108 = some [(0, 1), (1, 1), (2, 2), (4, 1)] := by kernel_rfl
theorem ti_pl177 : plI Tryd.prog 177 = some [(0, 1), (1, 1), (2, 1)] := by kernel_rfl
theorem ti_pl198 : plI Tryd.prog 198 = some [(0, 1), (1, 1)] := by kernel_rfl
theorem ti_pt172 : ptI Tryd.prog 172 = some (5, 1) := by kernel_rfl
theorem ti_sb26 : slB Tryd.prog 26 = true := by kernel_rfl
theorem ti_sb32 : slB Tryd.prog 32 = true := by kernel_rfl
theorem ti_sb33 : slB Tryd.prog 33 = true := by kernel_rfl
theorem ti_sb43 : slB Tryd.prog 43 = true := by kernel_rfl
theorem ti_sb48 : slB Tryd.prog 48 = true := by kernel_rfl
theorem ti_sb49 : slB Tryd.prog 49 = true := by kernel_rfl
theorem ti_sb63 : slB Tryd.prog 63 = true := by kernel_rfl
theorem ti_sb111 : slB Tryd.prog 111 = true := by kernel_rfl
theorem ti_sb132 : slB Tryd.prog 132 = true := by kernel_rfl
theorem ti_sb140 : slB Tryd.prog 140 = true := by kernel_rfl
theorem ti_sb146 : slB Tryd.prog 146 = true := by kernel_rfl
theorem ti_sl26 : slI Tryd.prog 26 = some (28, 11, 136) := by kernel_rfl
theorem ti_sl32 : slI Tryd.prog 32 = some (9, 1, 16) := by kernel_rfl
theorem ti_sl33 : slI Tryd.prog 33 = some (63, 1, 24) := by kernel_rfl
theorem ti_sl43 : slI Tryd.prog 43 = some (97, 3, 40) := by kernel_rfl
theorem ti_sl48 : slI Tryd.prog 48 = some (153, 6, 64) := by kernel_rfl
theorem ti_sl49 : slI Tryd.prog 49 = some (3, 1, 8) := by kernel_rfl
theorem ti_sl63 : slI Tryd.prog 63 = some (23, 3, 32) := by kernel_rfl
theorem ti_sl111 : slI Tryd.prog 111 = some (49, 1, 24) := by kernel_rfl
theorem ti_sl132 : slI Tryd.prog 132 = some (5, 1, 1) := by kernel_rfl
theorem ti_sl140 : slI Tryd.prog 140 = some (32, 1, 24) := by kernel_rfl
theorem ti_sl146 : slI Tryd.prog 146 = some (177, 3, 32) := by kernel_rfl
theorem ti_sn174 : slI Tryd.prog 174 = none := by kernel_rfl
theorem ti_sn196 : slI Tryd.prog 196 = none := by kernel_rfl
theorem ti_sn199 : slI Tryd.prog 199 = none := by kernel_rfl
theorem ti_st9 : stB Tryd.prog 9 = true := by kernel_rfl
theorem ti_sz3 : szI Tryd.prog 3 = some 1 := by kernel_rfl
theorem ti_sz4 : szI Tryd.prog 4 = some 1 := by kernel_rfl
theorem ti_sz23 : szI Tryd.prog 23 = some 3 := by kernel_rfl
theorem ti_sz25 : szI Tryd.prog 25 = some 2 := by kernel_rfl
theorem ti_sz28 : szI Tryd.prog 28 = some 11 := by kernel_rfl
theorem ti_sz29 : szI Tryd.prog 29 = some 1 := by kernel_rfl
theorem ti_sz32 : szI Tryd.prog 32 = some 1 := by kernel_rfl
theorem ti_sz33 : szI Tryd.prog 33 = some 1 := by kernel_rfl
theorem ti_sz35 : szI Tryd.prog 35 = some 2 := by kernel_rfl
theorem ti_sz43 : szI Tryd.prog 43 = some 1 := by kernel_rfl
theorem ti_sz49 : szI Tryd.prog 49 = some 1 := by kernel_rfl
theorem ti_sz63 : szI Tryd.prog 63 = some 1 := by kernel_rfl
theorem ti_sz79 : szI Tryd.prog 79 = some 1 := by kernel_rfl
theorem ti_sz97 : szI Tryd.prog 97 = some 3 := by kernel_rfl
theorem ti_sz131 : szI Tryd.prog 131 = some 1 := by kernel_rfl
theorem ti_sz132 : szI Tryd.prog 132 = some 1 := by kernel_rfl
theorem ti_sz153 : szI Tryd.prog 153 = some 6 := by kernel_rfl
theorem ti_sz174 : szI Tryd.prog 174 = some 2 := by kernel_rfl
theorem ti_sz175 : szI Tryd.prog 175 = some 8 := by kernel_rfl
theorem ti_sz198 : szI Tryd.prog 198 = some 2 := by kernel_rfl
theorem ti_sz199 : szI Tryd.prog 199 = some 32 := by kernel_rfl
theorem ti_sz200 : szI Tryd.prog 200 = some 1 := by kernel_rfl
theorem ti_us3 : (Tryd.prog.underlying 3).isSome = true := by kernel_rfl
theorem ti_us5 : (Tryd.prog.underlying 5).isSome = true := by kernel_rfl
theorem ti_us131 : (Tryd.prog.underlying 131).isSome = true := by kernel_rfl
theorem ti_us158 : (Tryd.prog.underlying 158).isSome = true := by kernel_rfl
theorem ti_us187 : (Tryd.prog.underlying 187).isSome = true := by kernel_rfl
theorem ti_us189 : (Tryd.prog.underlying 189).isSome = true := by kernel_rfl
theorem ti_us192 : (Tryd.prog.underlying 192).isSome = true := by kernel_rfl
theorem ti_zr3 : zrI Tryd.prog 3 = some [.i .i64 0] := by kernel_rfl
theorem ti_zr23 : zrI Tryd.prog 23 = some [.i .i64 0, .i .i64 0, .s []] := by kernel_rfl
theorem ti_zr28 : zrI Tryd.prog 28 = some [.i .i64 0, .i .i64 0, .i .i64 0, .s [], .s [], .s [], .i .i64 0, .i .i64 0, .i .i64 0, .s [], .c (.slice none 0 0)] := by kernel_rfl
theorem ti_zr35 : zrI Tryd.prog 35 = some [.c (.slice none 0 0), .c (.slice none 0 0)] := by kernel_rfl
theorem ti_zr49 : zrI Tryd.prog 49 = some [.c (.slice none 0 0)] := by kernel_rfl
theorem ti_zr58 : zrI Tryd.prog 58 = some [.i .i64 0, .i .i64 0, .i .i64 0] := by kernel_rfl
theorem ti_zr86 : zrI Tryd.prog 86 = some [.s [], .i .i64 0, .c (.slice none 0 0), .i .i64 0] := by kernel_rfl
theorem ti_zr97 : zrI Tryd.prog 97 = some [.i .i64 0, .s [], .s []] := by kernel_rfl
theorem ti_zr108 : zrI Tryd.prog 108 = some [.c (.slice none 0 0), .i .i64 0, .i .i64 0, .s [], .c (.slice none 0 0)] := by kernel_rfl
theorem ti_zr134 : zrI Tryd.prog 134 = some [.c (.pointer none), .c (.slice none 0 0)] := by kernel_rfl
theorem ti_zr153 : zrI Tryd.prog 153 = some [.i .i64 0, .s [], .s [], .i .i64 0, .i .i64 0, .i .i64 0] := by kernel_rfl
theorem ti_zr174 : zrI Tryd.prog 174 = some [.s [], .s []] := by kernel_rfl
theorem ti_zr177 : zrI Tryd.prog 177 = some [.c (.slice none 0 0), .b false, .b false] := by kernel_rfl
theorem ti_zr198 : zrI Tryd.prog 198 = some [.i .u8 0, .i .u8 0] := by kernel_rfl
theorem ti_zr200 : zrI Tryd.prog 200 = some [.i .u64 0] := by kernel_rfl
theorem ti_zv3 : zvI Tryd.prog 3 = some (.i .i64 0) := by kernel_rfl
theorem ti_zv4 : zvI Tryd.prog 4 = some (.b false) := by kernel_rfl
end Go.Proofs.YtjghnaohlfgloaaDoor
namespace Go.Proofs.YtjghnaohlfgloaaDoor.Ab
open Go Go.RowKit
variable [Glo]
structure Still (w w' : World) : Prop where
  kept : w.keptBut w' (fun _ => False)
  size : w.heap.size ≤ w'.heap.size
theorem Pres.still {w w' : World} {σ σ' : Conc} {H' : Heap} (p : Pres w [] σ w' H' σ') : Still w w' := by
  have no : ∀ b, ¬ Own [] σ b := fun b ⟨id, ver, e, sz, rows, cap, h, _⟩ => by simp at h
  refine ⟨⟨p.os, p.output, fun i hi => ?_⟩, p.size⟩
  rw [p.blk i hi (no i)]
  have : w.heap[i]? = some w.heap[i] := Array.getElem?_eq_getElem hi
  rw [this]
  cases w.heap[i] <;> simp
def σ0 : Conc := fun _ => .no none
def Globs (w : World) : Prop := ∀ g row, glob g = some row → GRow w (fun _ => False) g row
theorem wok0 {w : World} (h : Globs w) : WOk w [] σ0 := ⟨fun _ _ _ _ _ h => by simp at h, fun _ _ _ _ _ _ _ _ _ _ _ _ _ h => by simp at h, fun g row hg => by
  obtain ⟨h1, _, f, h3, h4⟩ := h g row hg
  have no : ∀ b, ¬ Own [] σ0 b := fun b ⟨id, ver, e, sz, rows, cap, h, _⟩ => by simp at h
  exact ⟨h1, no g, f, h3, fun j x hx => (h4 j x hx).mono (Nat.le_refl _) (fun _ _ _ => rfl) (fun b _ hb => no b hb)⟩, fun _ a h => by cases h; rfl⟩
def rel0 (w : World) : List V → List Value → Prop
  | [], [] => True
  | v :: vs, u :: us => VRel w (Own [] σ0) [] σ0 v u ∧ rel0 w vs us
  | _, _ => False
theorem rel0_spec {w : World} : ∀ {vs : List V} {us : List Value}, rel0 w vs us → vs.length = us.length ∧ ∀ (j : Nat) (v : V) (u : Value), vs[j]? = some v → us[j]? = some u → VRel w (Own [] σ0) [] σ0 v u
  | [], [], _ => ⟨rfl, by simp⟩
  | v :: vs, u :: us, h => by
    obtain ⟨h1, h2⟩ := rel0_spec h.2
    refine ⟨by simp [h1], fun j v' u' hv hu => ?_⟩
    cases j with
    | zero => simp at hv hu; subst hv hu; exact h.1
    | succ j => exact h2 j v' u' (by simpa using hv) (by simpa using hu)
  | [], _ :: _, h => h.elim
  | _ :: _, [], h => h.elim
theorem rel_string (w : World) (o : Nat → Prop) (H : Heap) (σ : Conc) (s : ByteArray) : VRel w o H σ (.d (.s s.data.toList)) (.string s) := by
  have := DRel.s (w := w) (o := o) s.data.toList
  exact .d _ _ (by simpa using this)
theorem rel_int (w : World) (o : Nat → Prop) (H : Heap) (σ : Conc) (k : IntKind) (n : Int) : VRel w o H σ (.d (.i k n)) (.int k n) := .d _ _ (.i k n)
theorem rel_bool (w : World) (o : Nat → Prop) (H : Heap) (σ : Conc) (t : Bool) : VRel w o H σ (.d (.b t)) (.bool t) := .d _ _ (.b t)
theorem own : ownKnob Tryd.prog.godebug = none := by kernel_rfl
end Go.Proofs.YtjghnaohlfgloaaDoor.Ab
