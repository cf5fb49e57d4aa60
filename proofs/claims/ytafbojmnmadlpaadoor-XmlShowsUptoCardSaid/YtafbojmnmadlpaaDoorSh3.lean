/-
  DERIVED: THE SHELF's CONTRACTS AT THIS DUMP, IN PLAIN WORDS (tools/lay-plain.mjs out of 'YtafbojmnmadlpaaDoorSh3.lean', which tools/lay-shelf.mjs wrote): THE SAME DECLARATIONS UNDER THE SAME NAMES: 'import', 'namespace', 'open', 'def', 'theorem' AND NOTHING ELSE: no command of the shelf's: FOR A HAND-IN. Each laying: the table of numbers ('.._ren') and one theorem, a field a fact of the dump's own or the kernel's comparison; each contract: ONE APPLICATION.
-/
import Derived.Ground.NamesProg
import Derived.Shelf.Strings.Search3
import Derived.Shelf.LaysM
import Derived.Test.YtafbojmnmadlpaaDoorProg
namespace Go.Proofs
open Go.Shelf
def Tryd.lays144_ren : Go.Shelf.Ren := ⟨fun | 144 => 144 | 143 => 130 | 219 => 156 | 217 => 166 | 225 => 167 | 224 => 168 | 267 => 169 | 266 => 174 | 314 => 175 | n => n, fun | 9 => 9 | 4 => 4 | 3 => 3 | 5 => 5 | 46 => 178 | 146 => 191 | 51 => 190 | n => n, fun | 1 => 4 | n => n⟩
theorem Tryd.lays144 : Go.Proofs.Lays.n144 Tryd.prog Tryd.lays144_ren := {
  mixed := by kernel_rfl
  f143 := Tryd.func130.trans (congrArg some (by kernel_rfl))
  f144 := Tryd.func144.trans (congrArg some (by kernel_rfl))
  f217 := Tryd.func166.trans (congrArg some (by kernel_rfl))
  f219 := Tryd.func156.trans (congrArg some (by kernel_rfl))
  f224 := Tryd.func168.trans (congrArg some (by kernel_rfl))
  f225 := Tryd.func167.trans (congrArg some (by kernel_rfl))
  f266 := Tryd.func174.trans (congrArg some (by kernel_rfl))
  f267 := Tryd.func169.trans (congrArg some (by kernel_rfl))
  f314 := Tryd.func175.trans (congrArg some (by kernel_rfl))
  t3 := Tryd.underlying3
  a3 := Tryd.isAgg3
  z3 := Tryd.sizeOf3
  v3 := Tryd.zeroValue3
  t4 := Tryd.underlying4
  a4 := Tryd.isAgg4
  z4 := Tryd.sizeOf4
  v4 := Tryd.zeroValue4
  t5 := Tryd.underlying5
  a5 := Tryd.isAgg5
  z5 := Tryd.sizeOf5
  v5 := Tryd.zeroValue5
  t9 := Tryd.underlying9
  a9 := Tryd.isAgg9
  z9 := Tryd.sizeOf9
  v9 := Tryd.zeroValue9
  t46 := Tryd.underlying178
  a46 := Tryd.isAgg178
  z46 := Tryd.sizeOf178
  v46 := Tryd.zeroValue178
  t51 := Tryd.underlying190
  a51 := Tryd.isAgg190
  z51 := Tryd.sizeOf190
  v51 := Tryd.zeroValue190
  t146 := Tryd.underlying191
  a146 := Tryd.isAgg191
  z146 := Tryd.sizeOf191
  v146 := Tryd.zeroValue191
  g1 := by kernel_rfl }
def Tryd.lays143_ren : Go.Shelf.Ren := ⟨fun | 143 => 130 | 219 => 156 | 217 => 166 | 225 => 167 | 224 => 168 | 267 => 169 | 266 => 174 | 314 => 175 | n => n, fun | 9 => 9 | 3 => 3 | 4 => 4 | 5 => 5 | 46 => 178 | 146 => 191 | 51 => 190 | n => n, fun | 1 => 4 | n => n⟩
theorem Tryd.lays143 : Go.Proofs.Lays.n143 Tryd.prog Tryd.lays143_ren := {
  mixed := by kernel_rfl
  f143 := Tryd.func130.trans (congrArg some (by kernel_rfl))
  f217 := Tryd.func166.trans (congrArg some (by kernel_rfl))
  f219 := Tryd.func156.trans (congrArg some (by kernel_rfl))
  f224 := Tryd.func168.trans (congrArg some (by kernel_rfl))
  f225 := Tryd.func167.trans (congrArg some (by kernel_rfl))
  f266 := Tryd.func174.trans (congrArg some (by kernel_rfl))
  f267 := Tryd.func169.trans (congrArg some (by kernel_rfl))
  f314 := Tryd.func175.trans (congrArg some (by kernel_rfl))
  t3 := Tryd.underlying3
  a3 := Tryd.isAgg3
  z3 := Tryd.sizeOf3
  v3 := Tryd.zeroValue3
  t4 := Tryd.underlying4
  a4 := Tryd.isAgg4
  z4 := Tryd.sizeOf4
  v4 := Tryd.zeroValue4
  t5 := Tryd.underlying5
  a5 := Tryd.isAgg5
  z5 := Tryd.sizeOf5
  v5 := Tryd.zeroValue5
  t9 := Tryd.underlying9
  a9 := Tryd.isAgg9
  z9 := Tryd.sizeOf9
  v9 := Tryd.zeroValue9
  t46 := Tryd.underlying178
  a46 := Tryd.isAgg178
  z46 := Tryd.sizeOf178
  v46 := Tryd.zeroValue178
  t51 := Tryd.underlying190
  a51 := Tryd.isAgg190
  z51 := Tryd.sizeOf190
  v51 := Tryd.zeroValue190
  t146 := Tryd.underlying191
  a146 := Tryd.isAgg191
  z146 := Tryd.sizeOf191
  v146 := Tryd.zeroValue191
  g1 := by kernel_rfl }
def Tryd.laysM144_ren : Go.Shelf.Ren := ⟨fun | 144 => 144 | 143 => 130 | 219 => 156 | 217 => 166 | 225 => 167 | 224 => 168 | 267 => 169 | 266 => 174 | 314 => 175 | n => n, fun | 9 => 9 | 4 => 4 | 3 => 3 | 5 => 5 | 46 => 178 | 146 => 191 | 51 => 190 | n => n, fun | 1 => 4 | n => n⟩
theorem Tryd.laysM144 : Go.Proofs.LaysM.n144 Tryd.prog Tryd.laysM144_ren := {
  mixed := by kernel_rfl
  f143 := Tryd.func130.trans (congrArg some (by kernel_rfl))
  f144 := Tryd.func144.trans (congrArg some (by kernel_rfl))
  f217 := Tryd.func166.trans (congrArg some (by kernel_rfl))
  f219 := Tryd.func156.trans (congrArg some (by kernel_rfl))
  f224 := Tryd.func168.trans (congrArg some (by kernel_rfl))
  f225 := Tryd.func167.trans (congrArg some (by kernel_rfl))
  f266 := Tryd.func174.trans (congrArg some (by kernel_rfl))
  f267 := Tryd.func169.trans (congrArg some (by kernel_rfl))
  f314 := Tryd.func175.trans (congrArg some (by kernel_rfl))
  t3 := Tryd.underlying3
  a3 := Tryd.isAgg3
  z3 := Tryd.sizeOf3
  v3 := Tryd.zeroValue3
  t4 := Tryd.underlying4
  a4 := Tryd.isAgg4
  z4 := Tryd.sizeOf4
  v4 := Tryd.zeroValue4
  t5 := Tryd.underlying5
  a5 := Tryd.isAgg5
  z5 := Tryd.sizeOf5
  v5 := Tryd.zeroValue5
  t9 := Tryd.underlying9
  a9 := Tryd.isAgg9
  z9 := Tryd.sizeOf9
  v9 := Tryd.zeroValue9
  t46 := Tryd.underlying178
  a46 := Tryd.isAgg178
  z46 := Tryd.sizeOf178
  v46 := Tryd.zeroValue178
  t51 := Tryd.underlying190
  a51 := Tryd.isAgg190
  z51 := Tryd.sizeOf190
  v51 := Tryd.zeroValue190
  t146 := Tryd.underlying191
  a146 := Tryd.isAgg191
  z146 := Tryd.sizeOf191
  v146 := Tryd.zeroValue191
  g1 := by kernel_rfl
  i3 := by kernel_rfl
  i4 := by kernel_rfl
  i5 := by kernel_rfl
  i9 := by kernel_rfl
  i46 := by kernel_rfl
  i51 := by kernel_rfl
  i146 := by kernel_rfl
  m1 := by kernel_rfl
  s1_3 := fun w h => Go.Proofs.cell_of_shapedOpen_int (zero := #[.int .i64 0]) (t := 3) h (of_decide_eq_true (by kernel_rfl)) (by kernel_rfl) rfl (by kernel_rfl) (by kernel_rfl) Tryd.underlying3 }
end Go.Proofs
