/- What the types and functions of this translation say, a fact a row. No condition. -/
import Derived.Test.YtmhabdopcbokoaaDoorProg
import Derived.Test.YtmhabdopcbokoaaDoorR14
import Derived.KernelRfl
import Derived.Test.YtmhabdopcbokoaaDoorRows
import Derived.ProofKit
import Derived.OpenShut
import Derived.JoinedCond
import Derived.Deep.Slices
import Derived.ChangeArms
import Derived.WideKeyArgs
set_option linter.all false
set_option linter.unusedSimpArgs false
set_option linter.unusedVariables false
namespace Go.Proofs.YtmhabdopcbokoaaDoor
open Go.Proofs.YtmhabdopcbokoaaDoor.Ab
theorem ti_mixed : Tryd.prog.follows .mixedOrders = true := by kernel_rfl
theorem ti_ag3 : agB Tryd.prog 3 = some false := by kernel_rfl
theorem ti_ag4 : agB Tryd.prog 4 = some false := by kernel_rfl
theorem ti_ag9 : agB Tryd.prog 9 = some false := by kernel_rfl
theorem ti_ag22 : agB Tryd.prog 22 = some false := by kernel_rfl
theorem ti_ag24 : agB Tryd.prog 24 = some true := by kernel_rfl
theorem ti_ag26 : agB Tryd.prog 26 = some true := by kernel_rfl
theorem ti_ag27 : agB Tryd.prog 27 = some false := by kernel_rfl
theorem ti_ag28 : agB Tryd.prog 28 = some false := by kernel_rfl
theorem ti_ag30 : agB Tryd.prog 30 = some true := by kernel_rfl
theorem ti_ag31 : agB Tryd.prog 31 = some false := by kernel_rfl
theorem ti_ag37 : agB Tryd.prog 37 = some true := by kernel_rfl
theorem ti_ag39 : agB Tryd.prog 39 = some false := by kernel_rfl
theorem ti_ag49 : agB Tryd.prog 49 = some true := by kernel_rfl
theorem ti_ag53 : agB Tryd.prog 53 = some false := by kernel_rfl
theorem ti_av54_26 : avI Tryd.prog 54 = some 26 := by kernel_rfl
theorem ti_av92_13 : avI Tryd.prog 92 = some 13 := by kernel_rfl
theorem ti_bo4 : boB Tryd.prog 4 = true := by kernel_rfl
theorem ti_el85 : elI Tryd.prog 85 = some (8, 1) := by kernel_rfl
theorem ti_fe24 : feI Tryd.prog 24 = some [(0, 0), (1, 0), (2, 1)] := by kernel_rfl
theorem ti_fe26 : feI Tryd.prog 26 = some [(0, 0), (1, 1)] := by kernel_rfl
theorem ti_fe37 : feI Tryd.prog 37 = some [(0, 0), (1, 1), (2, 0)] := by kernel_rfl
theorem ti_fl30_0 : flI Tryd.prog 30 0 = some (0, false, 1) := by kernel_rfl
theorem ti_fl30_1 : flI Tryd.prog 30 1 = some (1, true, 3) := by kernel_rfl
theorem ti_fl30_2 : flI Tryd.prog 30 2 = some (4, false, 1) := by kernel_rfl
theorem ti_fl30_3 : flI Tryd.prog 30 3 = some (5, false, 1) := by kernel_rfl
theorem ti_fl30_4 : flI Tryd.prog 30 4 = some (6, false, 1) := by kernel_rfl
theorem ti_fl30_5 : flI Tryd.prog 30 5 = some (7, true, 2) := by kernel_rfl
theorem ti_fl30_6 : flI Tryd.prog 30 6 = some (9, false, 1) := by kernel_rfl
theorem ti_fl30_7 : flI Tryd.prog 30 7 = some (10, false, 1) := by kernel_rfl
theorem ti_fl37_0 : flI Tryd.prog 37 0 = some (0, false, 1) := by kernel_rfl
theorem ti_fl37_1 : flI Tryd.prog 37 1 = some (1, false, 1) := by kernel_rfl
theorem ti_fl37_2 : flI Tryd.prog 37 2 = some (2, false, 1) := by kernel_rfl
theorem ti_fl42_0 : flI Tryd.prog 42 0 = some (0, false, 1) := by kernel_rfl
theorem ti_fl42_1 : flI Tryd.prog 42 1 = some (1, false, 1) := by kernel_rfl
theorem ti_fl42_2 : flI Tryd.prog 42 2 = some (2, false, 1) := by kernel_rfl
theorem ti_fl42_3 : flI Tryd.prog 42 3 = some (3, false, 1) := by kernel_rfl
theorem ti_fl46_0 : flI Tryd.prog 46 0 = some (0, false, 1) := by kernel_rfl
theorem ti_fl46_1 : flI Tryd.prog 46 1 = some (1, false, 1) := by kernel_rfl
theorem ti_fl46_2 : flI Tryd.prog 46 2 = some (2, false, 1) := by kernel_rfl
theorem ti_fl49_0 : flI Tryd.prog 49 0 = some (0, false, 1) := by kernel_rfl
theorem ti_fl49_1 : flI Tryd.prog 49 1 = some (1, false, 1) := by kernel_rfl
theorem ti_fl49_2 : flI Tryd.prog 49 2 = some (2, false, 1) := by kernel_rfl
theorem ti_fl49_3 : flI Tryd.prog 49 3 = some (3, false, 1) := by kernel_rfl
theorem ti_fl49_4 : flI Tryd.prog 49 4 = some (4, true, 11) := by kernel_rfl
theorem ti_fl57_0 : flI Tryd.prog 57 0 = some (0, false, 1) := by kernel_rfl
theorem ti_hb4 : hasBody Tryd.prog 4 = true := by kernel_rfl
theorem ti_hb5 : hasBody Tryd.prog 5 = true := by kernel_rfl
theorem ti_hb6 : hasBody Tryd.prog 6 = true := by kernel_rfl
theorem ti_hb7 : hasBody Tryd.prog 7 = true := by kernel_rfl
theorem ti_hb8 : hasBody Tryd.prog 8 = true := by kernel_rfl
theorem ti_hb9 : hasBody Tryd.prog 9 = true := by kernel_rfl
theorem ti_hb10 : hasBody Tryd.prog 10 = true := by kernel_rfl
theorem ti_hb11 : hasBody Tryd.prog 11 = true := by kernel_rfl
theorem ti_hb12 : hasBody Tryd.prog 12 = true := by kernel_rfl
theorem ti_hb13 : hasBody Tryd.prog 13 = true := by kernel_rfl
theorem ti_hb14 : hasBody Tryd.prog 14 = true := by kernel_rfl
theorem ti_hb15 : hasBody Tryd.prog 15 = true := by kernel_rfl
theorem ti_hb16 : hasBody Tryd.prog 16 = true := by kernel_rfl
theorem ti_hb17 : hasBody Tryd.prog 17 = true := by kernel_rfl
theorem ti_hb18 : hasBody Tryd.prog 18 = true := by kernel_rfl
theorem ti_hb19 : hasBody Tryd.prog 19 = true := by kernel_rfl
theorem ti_hb20 : hasBody Tryd.prog 20 = true := by kernel_rfl
theorem ti_hb21 : hasBody Tryd.prog 21 = true := by kernel_rfl
theorem ti_hb22 : hasBody Tryd.prog 22 = true := by kernel_rfl
theorem ti_hb23 : hasBody Tryd.prog 23 = true := by kernel_rfl
theorem ti_hb24 : hasBody Tryd.prog 24 = true := by kernel_rfl
theorem ti_hb25 : hasBody Tryd.prog 25 = true := by kernel_rfl
theorem ti_hb26 : hasBody Tryd.prog 26 = true := by kernel_rfl
theorem ti_hb27 : hasBody Tryd.prog 27 = true := by kernel_rfl
theorem ti_hb28 : hasBody Tryd.prog 28 = true := by kernel_rfl
theorem ti_hb29 : hasBody Tryd.prog 29 = true := by kernel_rfl
theorem ti_hb30 : hasBody Tryd.prog 30 = true := by kernel_rfl
theorem ti_hb31 : hasBody Tryd.prog 31 = true := by kernel_rfl
theorem ti_hb32 : hasBody Tryd.prog 32 = true := by kernel_rfl
theorem ti_hb33 : hasBody Tryd.prog 33 = true := by kernel_rfl
theorem ti_hb34 : hasBody Tryd.prog 34 = true := by kernel_rfl
theorem ti_hb35 : hasBody Tryd.prog 35 = true := by kernel_rfl
theorem ti_hb36 : hasBody Tryd.prog 36 = true := by kernel_rfl
theorem ti_hb37 : hasBody Tryd.prog 37 = true := by kernel_rfl
theorem ti_hb38 : hasBody Tryd.prog 38 = true := by kernel_rfl
theorem ti_hb39 : hasBody Tryd.prog 39 = true := by kernel_rfl
theorem ti_hb40 : hasBody Tryd.prog 40 = true := by kernel_rfl
theorem ti_hb41 : hasBody Tryd.prog 41 = true := by kernel_rfl
theorem ti_hb42 : hasBody Tryd.prog 42 = true := by kernel_rfl
theorem ti_hb43 : hasBody Tryd.prog 43 = true := by kernel_rfl
theorem ti_hb44 : hasBody Tryd.prog 44 = true := by kernel_rfl
theorem ti_hb45 : hasBody Tryd.prog 45 = true := by kernel_rfl
theorem ti_hb46 : hasBody Tryd.prog 46 = true := by kernel_rfl
theorem ti_hb47 : hasBody Tryd.prog 47 = true := by kernel_rfl
theorem ti_hb48 : hasBody Tryd.prog 48 = true := by kernel_rfl
theorem ti_hb49 : hasBody Tryd.prog 49 = true := by kernel_rfl
theorem ti_hb51 : hasBody Tryd.prog 51 = true := by kernel_rfl
theorem ti_hb52 : hasBody Tryd.prog 52 = true := by kernel_rfl
theorem ti_hb53 : hasBody Tryd.prog 53 = true := by kernel_rfl
theorem ti_hb54 : hasBody Tryd.prog 54 = true := by kernel_rfl
theorem ti_hb55 : hasBody Tryd.prog 55 = true := by kernel_rfl
theorem ti_hb56 : hasBody Tryd.prog 56 = true := by kernel_rfl
theorem ti_hb57 : hasBody Tryd.prog 57 = true := by kernel_rfl
theorem ti_hb58 : hasBody Tryd.prog 58 = true := by kernel_rfl
theorem ti_hb60 : hasBody Tryd.prog 60 = true := by kernel_rfl
theorem ti_hb61 : hasBody Tryd.prog 61 = true := by kernel_rfl
theorem ti_hb62 : hasBody Tryd.prog 62 = true := by kernel_rfl
theorem ti_hb63 : hasBody Tryd.prog 63 = true := by kernel_rfl
theorem ti_hb66 : hasBody Tryd.prog 66 = true := by kernel_rfl
theorem ti_hb67 : hasBody Tryd.prog 67 = true := by kernel_rfl
theorem ti_hb68 : hasBody Tryd.prog 68 = true := by kernel_rfl
theorem ti_hb69 : hasBody Tryd.prog 69 = true := by kernel_rfl
theorem ti_hb70 : hasBody Tryd.prog 70 = true := by kernel_rfl
theorem ti_hb71 : hasBody Tryd.prog 71 = true := by kernel_rfl
theorem ti_hb72 : hasBody Tryd.prog 72 = true := by kernel_rfl
theorem ti_hb73 : hasBody Tryd.prog 73 = true := by kernel_rfl
theorem ti_hb74 : hasBody Tryd.prog 74 = true := by kernel_rfl
theorem ti_hb75 : hasBody Tryd.prog 75 = true := by kernel_rfl
theorem ti_hb76 : hasBody Tryd.prog 76 = true := by kernel_rfl
theorem ti_hb77 : hasBody Tryd.prog 77 = true := by kernel_rfl
theorem ti_hb78 : hasBody Tryd.prog 78 = true := by kernel_rfl
theorem ti_hb79 : hasBody Tryd.prog 79 = true := by kernel_rfl
theorem ti_hb80 : hasBody Tryd.prog 80 = true := by kernel_rfl
theorem ti_hb81 : hasBody Tryd.prog 81 = true := by kernel_rfl
theorem ti_hb82 : hasBody Tryd.prog 82 = true := by kernel_rfl
theorem ti_hb83 : hasBody Tryd.prog 83 = true := by kernel_rfl
theorem ti_hb84 : hasBody Tryd.prog 84 = true := by kernel_rfl
theorem ti_pl24 : plI Tryd.prog 24 = some [(0, 1), (1, 1), (2, 1)] := by kernel_rfl
theorem ti_pl26 : plI Tryd.prog 26 = some [(0, 1), (1, 1)] := by kernel_rfl
theorem ti_pl30 : plI Tryd.prog 30 = some [(0, 1), (1, 3), (4, 1), (5, 1), (6, 1), (7, 2), (9, 1), (10, 1)] := by kernel_rfl
theorem ti_pl37 : plI Tryd.prog 37 = some [(0, 1), (1, 1), (2, 1)] := by kernel_rfl
theorem ti_pl42 : plI Tryd.prog 42 = some [(0, 1), (1, 1), (2, 1), (3, 1)] := by kernel_rfl
theorem ti_pl46 : plI Tryd.prog 46 = some [(0, 1), (1, 1), (2, 1)] := by kernel_rfl
theorem ti_pl49 : plI Tryd.prog 49 = some [(0, 1), (1, 1), (2, 1), (3, 1), (4, 11)] := by kernel_rfl
theorem ti_pl57 : plI Tryd.prog 57 = some [(0, 1), (1, 1), (2, 1)] := by kernel_rfl
theorem ti_sb22 : slB Tryd.prog 22 = true := by kernel_rfl
theorem ti_sb27 : slB Tryd.prog 27 = true := by kernel_rfl
theorem ti_sb28 : slB Tryd.prog 28 = true := by kernel_rfl
theorem ti_sb53 : slB Tryd.prog 53 = true := by kernel_rfl
theorem ti_sl22 : slI Tryd.prog 22 = some (37, 3, 32) := by kernel_rfl
theorem ti_sl27 : slI Tryd.prog 27 = some (30, 11, 144) := by kernel_rfl
theorem ti_sl28 : slI Tryd.prog 28 = some (49, 15, 192) := by kernel_rfl
theorem ti_sl53 : slI Tryd.prog 53 = some (9, 1, 16) := by kernel_rfl
theorem ti_sn85 : slI Tryd.prog 85 = none := by kernel_rfl
theorem ti_st9 : stB Tryd.prog 9 = true := by kernel_rfl
theorem ti_sz3 : szI Tryd.prog 3 = some 1 := by kernel_rfl
theorem ti_sz4 : szI Tryd.prog 4 = some 1 := by kernel_rfl
theorem ti_sz9 : szI Tryd.prog 9 = some 1 := by kernel_rfl
theorem ti_sz24 : szI Tryd.prog 24 = some 3 := by kernel_rfl
theorem ti_sz26 : szI Tryd.prog 26 = some 2 := by kernel_rfl
theorem ti_sz27 : szI Tryd.prog 27 = some 1 := by kernel_rfl
theorem ti_sz28 : szI Tryd.prog 28 = some 1 := by kernel_rfl
theorem ti_sz30 : szI Tryd.prog 30 = some 11 := by kernel_rfl
theorem ti_sz31 : szI Tryd.prog 31 = some 1 := by kernel_rfl
theorem ti_sz37 : szI Tryd.prog 37 = some 3 := by kernel_rfl
theorem ti_sz49 : szI Tryd.prog 49 = some 15 := by kernel_rfl
theorem ti_zr24 : zrI Tryd.prog 24 = some [.i .i64 0, .i .i64 0, .s []] := by kernel_rfl
theorem ti_zr26 : zrI Tryd.prog 26 = some [.i .i64 0, .s []] := by kernel_rfl
theorem ti_zr30 : zrI Tryd.prog 30 = some [.i .i64 0, .i .i64 0, .i .i64 0, .s [], .s [], .i .i64 0, .i .i64 0, .i .i64 0, .s [], .c (.slice none 0 0), .c (.slice none 0 0)] := by kernel_rfl
theorem ti_zr37 : zrI Tryd.prog 37 = some [.i .i64 0, .s [], .i .i64 0] := by kernel_rfl
theorem ti_zr42 : zrI Tryd.prog 42 = some [.c (.slice none 0 0), .i .i64 0, .i .i64 0, .i .i64 0] := by kernel_rfl
theorem ti_zr46 : zrI Tryd.prog 46 = some [.c (.slice none 0 0), .i .i64 0, .i .i64 0] := by kernel_rfl
theorem ti_zr49 : zrI Tryd.prog 49 = some [.i .i64 0, .s [], .s [], .b false, .i .i64 0, .i .i64 0, .i .i64 0, .s [], .s [], .i .i64 0, .i .i64 0, .i .i64 0, .s [], .c (.slice none 0 0), .c (.slice none 0 0)] := by kernel_rfl
theorem ti_zr57 : zrI Tryd.prog 57 = some [.s [], .i .i64 0, .c (.slice none 0 0)] := by kernel_rfl
attribute [go_sem] ti_ag3 ti_ag4 ti_ag9 ti_ag22 ti_ag24 ti_ag26 ti_ag27 ti_ag28 ti_ag30 ti_ag31 ti_ag37 ti_ag39 ti_ag49 ti_ag53 ti_av54_26 ti_av92_13 ti_bo4 ti_el85 ti_fe24 ti_fe26 ti_fe37 ti_fl30_0 ti_fl30_1 ti_fl30_2 ti_fl30_3 ti_fl30_4 ti_fl30_5 ti_fl30_6 ti_fl30_7 ti_fl37_0 ti_fl37_1 ti_fl37_2 ti_fl42_0 ti_fl42_1 ti_fl42_2 ti_fl42_3 ti_fl46_0 ti_fl46_1 ti_fl46_2 ti_fl49_0 ti_fl49_1 ti_fl49_2 ti_fl49_3 ti_fl49_4 ti_fl57_0 ti_hb4 ti_hb5 ti_hb6 ti_hb7 ti_hb8 ti_hb9 ti_hb10 ti_hb11 ti_hb12 ti_hb13 ti_hb14 ti_hb15 ti_hb16 ti_hb17 ti_hb18 ti_hb19 ti_hb20 ti_hb21 ti_hb22 ti_hb23 ti_hb24 ti_hb25 ti_hb26 ti_hb27 ti_hb28 ti_hb29 ti_hb30 ti_hb31 ti_hb32 ti_hb33 ti_hb34 ti_hb35 ti_hb36 ti_hb37 ti_hb38 ti_hb39 ti_hb40 ti_hb41 ti_hb42 ti_hb43 ti_hb44 ti_hb45 ti_hb46 ti_hb47 ti_hb48 ti_hb49 ti_hb51 ti_hb52 ti_hb53 ti_hb54 ti_hb55 ti_hb56 ti_hb57 ti_hb58 ti_hb60 ti_hb61 ti_hb62 ti_hb63 ti_hb66 ti_hb67 ti_hb68 ti_hb69 ti_hb70 ti_hb71 ti_hb72 ti_hb73 ti_hb74 ti_hb75 ti_hb76 ti_hb77 ti_hb78 ti_hb79 ti_hb80 ti_hb81 ti_hb82 ti_hb83 ti_hb84 ti_pl24 ti_pl26 ti_pl30 ti_pl37 ti_pl42 ti_pl46 ti_pl49 ti_pl57 ti_sb22 ti_sb27 ti_sb28 ti_sb53 ti_sl22 ti_sl27 ti_sl28 ti_sl53 ti_sn85 ti_st9 ti_sz3 ti_sz4 ti_sz9 ti_sz24 ti_sz26 ti_sz27 ti_sz28 ti_sz30 ti_sz31 ti_sz37 ti_sz49 ti_zr24 ti_zr26 ti_zr30 ti_zr37 ti_zr42 ti_zr46 ti_zr49 ti_zr57
end Go.Proofs.YtmhabdopcbokoaaDoor
namespace Go.Proofs.YtmhabdopcbokoaaDoor.Ab
open Go Go.RowKit
variable [Glo]
structure Still (w w' : World) : Prop where
  kept : w.keptBut w' (fun _ => False)
  size : w.heap.size ≤ w'.heap.size
theorem Pres.still {w w' : World} {σ σ' : Conc} {H' : Heap} (p : Pres w [] σ w' H' σ') : Still w w' := by
  have no : ∀ b, ¬ Own [] σ b := fun b ⟨id, ver, e, sz, rows, cap, h, _⟩ => by simp at h
  refine ⟨⟨p.os, p.output, fun i hi => ?_⟩, p.size⟩
  rw [p.blk i hi (no i)]
  have : w.heap[i]? = some w.heap[i] := Array.getElem?_eq_getElem hi
  rw [this]
  cases w.heap[i] <;> simp
def σ0 : Conc := fun _ => .no none
def Globs (w : World) : Prop := ∀ g row, glob g = some row → GRow w (fun _ => False) g row
theorem wok0 {w : World} (h : Globs w) : WOk w [] σ0 := ⟨fun _ _ _ _ _ h => by simp at h, fun _ _ _ _ _ _ _ _ _ _ _ _ _ h => by simp at h, fun g row hg => by
  obtain ⟨h1, _, f, h3, h4⟩ := h g row hg
  have no : ∀ b, ¬ Own [] σ0 b := fun b ⟨id, ver, e, sz, rows, cap, h, _⟩ => by simp at h
  exact ⟨h1, no g, f, h3, fun j x hx => (h4 j x hx).mono (Nat.le_refl _) (fun _ _ _ => rfl) (fun b _ hb => no b hb)⟩, fun _ a h => by cases h; rfl⟩
def rel0 (w : World) : List V → List Value → Prop
  | [], [] => True
  | v :: vs, u :: us => VRel w (Own [] σ0) [] σ0 v u ∧ rel0 w vs us
  | _, _ => False
theorem rel0_spec {w : World} : ∀ {vs : List V} {us : List Value}, rel0 w vs us → vs.length = us.length ∧ ∀ (j : Nat) (v : V) (u : Value), vs[j]? = some v → us[j]? = some u → VRel w (Own [] σ0) [] σ0 v u
  | [], [], _ => ⟨rfl, by simp⟩
  | v :: vs, u :: us, h => by
    obtain ⟨h1, h2⟩ := rel0_spec h.2
    refine ⟨by simp [h1], fun j v' u' hv hu => ?_⟩
    cases j with
    | zero => simp at hv hu; subst hv hu; exact h.1
    | succ j => exact h2 j v' u' (by simpa using hv) (by simpa using hu)
  | [], _ :: _, h => h.elim
  | _ :: _, [], h => h.elim
theorem own : ownKnob Tryd.prog.godebug = none := by kernel_rfl
end Go.Proofs.YtmhabdopcbokoaaDoor.Ab
namespace Go.Proofs.YtmhabdopcbokoaaDoor.Ab
open Go Go.RowKit Go.ChangeShapes Go.WideShapes
variable [Glo]
inductive Ty : Type where
  | i (k : IntKind)
  | b
  | s
  | sl (e : Ty)
  | nil
  | cons (h t : Ty)
  deriving DecidableEq
def Ty.size : Ty → Nat
  | .i _ | .b | .s | .sl _ => 1
  | .nil => 0
  | .cons h t => h.size + t.size
def tyFs (P : Program) (g : TypeId → Option Ty) : Nat → List Field → Option Ty
  | _, [] => some .nil
  | off, f :: fs => match g f.type with
    | some T => if f.offset = off ∧ P.cellsOf f.type = T.size then (match tyFs P g (off + T.size) fs with | some R => some (.cons T R) | none => none) else none
    | none => none
def tyB (P : Program) : Nat → TypeId → Option Ty
  | 0, _ => none
  | n + 1, t => match P.underlying t with
    | some .bool => some .b
    | some (.int k) => some (.i k)
    | some .string => some .s
    | some (.slice e) => (match tyB P n e with | some T => if P.cellsOf e = T.size ∧ 0 < T.size then some (.sl T) else none | none => none)
    | some (.struct fs) => (match tyFs P (tyB P n) 0 fs.toList with | some T => if P.cellsOf t = T.size then some T else none | none => none)
    | _ => none
def Typed : Ty → List D → Nat → Prop
  | .i k, [.i k' n], m => k' = k ∧ inR k n ∧ 1 ≤ m
  | .b, [.b _], m => 1 ≤ m
  | .s, [.s l], m => l.length + 1 ≤ m ∧ l.length ≤ maxLen
  | .sl e, [.sl z rows], m => z = e.size ∧ ∃ ws : List Nat, ws.length = rows.length ∧ ws.sum + 1 ≤ m ∧ ∀ (i : Nat) (row : List D) (w : Nat), rows[i]? = some row → ws[i]? = some w → Typed e row w
  | .nil, [], _ => True
  | .cons h t, ds, m => ∃ a c m1 m2, ds = a ++ c ∧ m1 + m2 ≤ m ∧ Typed h a m1 ∧ Typed t c m2
  | _, _, _ => False
theorem Typed.len : ∀ {T : Ty} {ds : List D} {m : Nat}, Typed T ds m → ds.length = T.size
  | .i k, ds, m, h => by
    unfold Typed at h
    split at h <;> simp_all [Ty.size]
  | .b, ds, m, h => by
    unfold Typed at h
    split at h <;> simp_all [Ty.size]
  | .s, ds, m, h => by
    unfold Typed at h
    split at h <;> simp_all [Ty.size]
  | .sl e, ds, m, h => by
    unfold Typed at h
    split at h <;> simp_all [Ty.size]
  | .nil, ds, m, h => by
    unfold Typed at h
    split at h <;> simp_all [Ty.size]
  | .cons x y, ds, m, h => by
    unfold Typed at h
    obtain ⟨a, c, m1, m2, rfl, _, h1, h2⟩ := h
    rw [List.length_append, h1.len, h2.len, Ty.size]
theorem typed_i {k : IntKind} {ds : List D} {m : Nat} (h : Typed (.i k) ds m) : ∃ n, ds = [.i k n] ∧ inR k n ∧ 1 ≤ m := by
  unfold Typed at h
  split at h <;> simp_all
theorem typed_s {ds : List D} {m : Nat} (h : Typed .s ds m) : ∃ l, ds = [.s l] ∧ l.length + 1 ≤ m := by
  unfold Typed at h
  split at h <;> simp_all
theorem typed_nil {ds : List D} {m : Nat} (h : Typed .nil ds m) : ds = [] := by
  unfold Typed at h
  split at h <;> simp_all
theorem typed_cons {x y : Ty} {ds : List D} {m : Nat} (h : Typed (.cons x y) ds m) : ∃ a c m1 m2, ds = a ++ c ∧ m1 + m2 ≤ m ∧ Typed x a m1 ∧ Typed y c m2 := by
  unfold Typed at h
  exact h
theorem typed_sl {e : Ty} {ds : List D} {m : Nat} (h : Typed (.sl e) ds m) : ∃ rows, ds = [.sl e.size rows] ∧ ∃ ws : List Nat, ws.length = rows.length ∧ ws.sum + 1 ≤ m ∧ ∀ (i : Nat) (row : List D) (w : Nat), rows[i]? = some row → ws[i]? = some w → Typed e row w := by
  cases ds with
  | nil => exact h.elim
  | cons d ds =>
    cases ds with
    | cons d' ds => cases d <;> exact h.elim
    | nil =>
      cases d with
      | sl z rows =>
        obtain ⟨h1, ws, h2, h3, h4⟩ := h
        exact ⟨rows, by rw [h1], ws, h2, h3, h4⟩
      | _ => exact h.elim
theorem Typed.mono : ∀ {T : Ty} {ds : List D} {m m' : Nat}, m ≤ m' → Typed T ds m → Typed T ds m'
  | .i k, ds, m, m', hm, h => by
    unfold Typed at h ⊢
    split at h <;> first | (simp_all; omega) | simp_all
  | .b, ds, m, m', hm, h => by
    unfold Typed at h ⊢
    split at h <;> first | (simp_all; omega) | simp_all
  | .s, ds, m, m', hm, h => by
    unfold Typed at h ⊢
    split at h <;> first | (simp_all; omega) | simp_all
  | .sl e, ds, m, m', hm, h => by
    cases ds with
    | nil => exact h.elim
    | cons d ds =>
      cases ds with
      | cons d' ds => cases d <;> exact h.elim
      | nil =>
        cases d with
        | sl z rows =>
          obtain ⟨h1, ws, h2, h3, h4⟩ := h
          exact ⟨h1, ws, h2, by omega, h4⟩
        | _ => exact h.elim
  | .nil, ds, m, m', hm, h => by
    unfold Typed at h ⊢
    split at h <;> simp_all
  | .cons x y, ds, m, m', hm, h => by
    unfold Typed at h ⊢
    obtain ⟨a, c, m1, m2, h0, h3, h1, h2⟩ := h
    exact ⟨a, c, m1, m2, h0, by omega, h1, h2⟩
section
variable {H : Type} {enc : TypeId × Value → H} {P : Program} {w : World} {base : Nat} {spare : Nat → Bool} {held : Bool} {o : Nat → Prop}
theorem bulk_range (D' : Nat → DataW H) (len : Nat) : ((List.range len).map fun i => Rows.uptoBulk (D' i)).sum = Rows.uptoBulkAll ((List.range len).map D') := by
  induction List.range len with
  | nil => rfl
  | cons x l ih => simp only [List.map_cons, List.sum_cons, Rows.uptoBulkAll, ih]
def Cells (w : World) (o : Nat → Prop) (ds : List D) (cs : List Value) : Prop := ds.length = cs.length ∧ ∀ (j : Nat) (d : D) (c : Value), ds[j]? = some d → cs[j]? = some c → DRel w o d c
theorem trod_typed (ho : ∀ b, ¬ o b) : ∀ (n : Nat) (t : TypeId) (T : Ty), tyB P n t = some T → ∀ (fuel : Nat) (cs : List Value) (x : DataW H × List MemPlace), DataW.trod enc P w base spare held fuel t cs = some x →
    ∃ ds, Typed T ds (Rows.uptoBulk x.1) ∧ Cells w o ds cs
  | 0, t, T, hT, _, _, _, _ => by cases hT
  | n + 1, t, T, hT, fuel, cs, x, h => by
    have ih := trod_typed ho n
    unfold tyB at hT
    split at hT
    · rename_i hu
      cases hT
      obtain ⟨b, rfl, rfl⟩ := DataW.trod_bool hu h
      refine ⟨[.b b], by simp [Typed, Rows.uptoBulk], rfl, fun j d c hd hc => ?_⟩
      cases j with
      | zero => simp at hd hc; subst hd hc; exact .b b
      | succ j => simp at hd
    · rename_i k hu
      cases hT
      obtain ⟨m, rfl, rfl, hwf⟩ := DataW.trod_int hu h
      refine ⟨[.i k m], ?_, rfl, fun j d c hd hc => ?_⟩
      · refine ⟨rfl, ?_, by simp [Rows.uptoBulk]⟩
        simpa [Lit.wf, inR] using hwf
      · cases j with
        | zero => simp at hd hc; subst hd hc; exact .i k m
        | succ j => simp at hd
    · rename_i hu
      cases hT
      obtain ⟨s, rfl, rfl, hs⟩ := DataW.trod_string hu h
      refine ⟨[.s s.data.toList], ?_, rfl, fun j d c hd hc => ?_⟩
      · refine ⟨by simp [Rows.uptoBulk], ?_⟩
        have : s.data.toList.length = s.size := by rw [Array.length_toList]; rfl
        omega
      · cases j with
        | zero => simp at hd hc; subst hd hc; simpa using DRel.s (w := w) (o := o) s.data.toList
        | succ j => simp at hd
    · rename_i e hu
      split at hT
      case h_2 => cases hT
      rename_i E hE
      split at hT
      case isFalse => cases hT
      rename_i hsz
      obtain ⟨hsz, hpos⟩ := hsz
      cases hT
      rcases Deep.open_slice hu h with ⟨rfl, rfl⟩ | ⟨a, len, cap, m, n', D', Pl, rfl, hb, hlc, hcap, hm, rfl, hel⟩
      · refine ⟨[.sl E.size []], ?_, rfl, fun j d c hd hc => ?_⟩
        · exact ⟨rfl, [], rfl, by simp [Rows.uptoBulk], by simp⟩
        · cases j with
          | zero => simp at hd hc; subst hd hc; exact .nil _ _ _
          | succ j => simp at hd
      · have hlm : len ≤ m := by rw [hm]; split <;> omega
        have hex : ∀ i, ∃ row : List D, i < len → ∃ cs', w.cells? base (a.add (i * P.cellsOf e)) (P.cellsOf e) = some cs' ∧ Typed E row (Rows.uptoBulk (D' i)) ∧ Cells w o row cs' := fun i => by
          by_cases hi : i < len
          · obtain ⟨cs', h1, h2⟩ := hel i (by omega)
            obtain ⟨ds, h3, h4⟩ := ih e E hE n' cs' _ h2
            exact ⟨ds, fun _ => ⟨cs', h1, h3, h4⟩⟩
          · exact ⟨[], fun hi' => absurd hi' hi⟩
        let row : Nat → List D := fun i => Classical.choose (hex i)
        have hrow : ∀ i, i < len → ∃ cs', w.cells? base (a.add (i * P.cellsOf e)) (P.cellsOf e) = some cs' ∧ Typed E (row i) (Rows.uptoBulk (D' i)) ∧ Cells w o (row i) cs' := fun i => Classical.choose_spec (hex i)
        have hget : ∀ (i : Nat) (r : List D), ((List.range len).map row)[i]? = some r → i < len ∧ r = row i := fun i r hr => by
          rw [List.getElem?_map] at hr
          by_cases hi : i < len
          · rw [List.getElem?_range hi] at hr
            simp at hr
            exact ⟨hi, hr.symm⟩
          · rw [List.getElem?_eq_none (by simpa using hi)] at hr
            cases hr
        refine ⟨[.sl E.size ((List.range len).map row)], ?_, rfl, fun j d c hd hc => ?_⟩
        · refine ⟨rfl, (List.range len).map fun i => Rows.uptoBulk (D' i), by simp, ?_, fun i r m' hr hw' => ?_⟩
          · rw [bulk_range, Rows.uptoBulk]
            omega
          · obtain ⟨hi, rfl⟩ := hget i r hr
            rw [List.getElem?_map, List.getElem?_range hi] at hw'
            obtain rfl : Rows.uptoBulk (D' i) = m' := by simpa using hw'
            exact (hrow i hi).choose_spec.2.1
        · cases j with
          | succ j => simp at hd
          | zero =>
            simp at hd hc
            subst hd hc
            by_cases h0 : len = 0
            · subst h0
              exact .nil _ _ _
            · -- a place in memory
              have hcell : ∀ i, i < len → ∀ (j : Nat) (x : D), (row i)[j]? = some x → ∃ v, w.cell? ((a.add (i * E.size)).add j) = some v ∧ DRel w o x v := fun i hi j x hx => by
                obtain ⟨cs', h1, h2, h3⟩ := hrow i hi
                obtain ⟨_, h4, h5⟩ := World.cells?_some h1
                have hj : j < cs'.length := by rw [← h3.1]; exact (List.getElem?_eq_some_iff.1 hx).1
                have hv : cs'[j]? = some cs'[j] := List.getElem?_eq_getElem hj
                rw [hsz] at h5
                exact ⟨_, (h5 j (by omega)).trans hv, h3.2 j x _ hx hv⟩
              have hlen : ∀ i, i < len → (row i).length = E.size := fun i hi => (hrow i hi).choose_spec.2.1.len
              have hr0 : 0 < (row 0).length := by rw [hlen 0 (by omega)]; exact hpos
              obtain ⟨v0, hv0, _⟩ := hcell 0 (by omega) 0 (row 0)[0] (List.getElem?_eq_getElem hr0)
              have ha : a.spot = none := by
                simp only [Nat.zero_mul, Addr.add, if_true] at hv0
                unfold World.cell? at hv0
                split at hv0
                · split at hv0
                  · cases hv0
                  · rename_i hsp; simpa using hsp
                · cases hv0
              obtain ⟨ab, aoff, asp⟩ := a
              simp only at ha
              subst ha
              have hadd : ∀ i j, ((⟨ab, aoff, none⟩ : Addr).add (i * E.size)).add j = ⟨ab, aoff + i * E.size + j, none⟩ := fun i j => by
                unfold Addr.add
                split <;> split <;> simp_all
              have hl' : ((List.range len).map row).length = len := by simp
              have hres : DRel w o (.sl E.size ((List.range len).map row)) (.slice (some ⟨ab, aoff, none⟩) ((List.range len).map row).length cap) :=
                .sl E.size _ ab aoff cap (fun i j => (w.cell? ⟨ab, aoff + i * E.size + j, none⟩).getD undef) (by rw [hl']; exact hlc)
                  (by
                    have := hv0
                    rw [hadd] at this
                    exact cell_lt this) (ho ab)
                  (fun i r hr => by obtain ⟨hi, rfl⟩ := hget i r hr; exact hlen i hi)
                  (fun i j r x hr hx => by
                    obtain ⟨hi, rfl⟩ := hget i r hr
                    obtain ⟨v, h1, _⟩ := hcell i hi j x hx
                    rw [hadd] at h1
                    rw [h1]; rfl)
                  (fun i j r x hr hx => by
                    obtain ⟨hi, rfl⟩ := hget i r hr
                    obtain ⟨v, h1, h2⟩ := hcell i hi j x hx
                    rw [hadd] at h1
                    rw [h1]; exact h2)
              rw [hl'] at hres
              exact hres
    · rename_i fs hu
      split at hT
      case h_2 => cases hT
      rename_i T' hT'
      split at hT
      case isFalse => cases hT
      rename_i hsz
      cases hT
      obtain ⟨xs, n', rfl, rfl, hcl, hxl, hfs⟩ := DataW.trod_struct hu h
      -- field by field
      have fields : ∀ (l : List Field) (k off : Nat) (R : Ty), tyFs P (tyB P n) off l = some R → (∀ i, l[i]? = fs[k + i]?) → k + l.length = fs.size → off + R.size = cs.length →
          ∃ ds, Typed R ds (Rows.uptoBulkAll ((xs.drop k).map (·.1))) ∧ Cells w o ds (cs.drop off) := by
        intro l
        induction l with
        | nil =>
          intro k off R hR _ _ hoff
          simp only [tyFs, Option.some.injEq] at hR
          subst hR
          refine ⟨[], trivial, ?_, by simp⟩
          simp [Ty.size] at hoff
          simp [hoff]
        | cons f l ihl =>
          intro k off R hR hl hk hoff
          simp only [tyFs] at hR
          split at hR
          case h_2 => cases hR
          rename_i F hF
          split at hR
          case isFalse => cases hR
          rename_i hfo
          obtain ⟨hfo, hfc⟩ := hfo
          split at hR
          case h_2 => cases hR
          rename_i R' hR'
          cases hR
          simp only [Ty.size] at hoff
          have h0 : fs[k]? = some f := by simpa using (hl 0).symm
          obtain ⟨ds2, t2, c2⟩ := ihl (k + 1) (off + F.size) R' hR' (fun i => by
            have := hl (i + 1)
            rw [List.getElem?_cons_succ] at this
            rw [this]; congr 1; omega) (by simp only [List.length_cons] at hk; omega) (by omega)
          have hlt : k < xs.length := by
            rw [hxl]
            simp only [List.length_cons] at hk
            omega
          have hx := hfs k f h0
          rw [List.getElem?_eq_getElem hlt] at hx
          obtain ⟨ds1, t1, c1⟩ := ih f.type F hF n' _ _ hx
          have e1 : (xs.drop k) = xs[k] :: xs.drop (k + 1) := List.drop_eq_getElem_cons hlt
          refine ⟨ds1 ++ ds2, ⟨ds1, ds2, _, _, rfl, ?_, t1, t2⟩, ?_⟩
          · rw [e1, List.map_cons, Rows.uptoBulkAll]
            exact Nat.le_refl _
          · have l1 := t1.len
            have l2 := c2.1
            rw [List.length_drop] at l2
            refine ⟨by rw [List.length_append, List.length_drop]; omega, fun j d c hd hc => ?_⟩
            rw [List.getElem?_append] at hd
            rw [List.getElem?_drop] at hc
            split at hd
            · rename_i hj
              refine c1.2 j d c hd ?_
              rw [List.getElem?_take_of_lt (by omega), List.getElem?_drop, hfo]
              exact hc
            · rename_i hj
              refine c2.2 (j - ds1.length) d c hd ?_
              rw [List.getElem?_drop, ← hc]
              congr 1
              omega
      obtain ⟨ds, h1, h2⟩ := fields fs.toList 0 0 T hT' (fun i => by simp) (by simp) (by omega)
      refine ⟨ds, h1.mono ?_, by simpa using h2⟩
      simp [Rows.uptoBulk]
    · cases hT
end
end Go.Proofs.YtmhabdopcbokoaaDoor.Ab
