/- What the types and functions of this translation say, a fact a row. No condition. -/
import Derived.Test.YtdmkfkjdielmiaaDoorProg
import Derived.Test.YtdmkfkjdielmiaaDoorP14
import Derived.KernelRfl
import Derived.Test.YtdmkfkjdielmiaaDoorRows
import Derived.ProofKit
import Derived.OpenShut
import Derived.JoinedCond
import Derived.Deep.Slices
import Derived.ChangeArms
import Derived.WideKeyArgs
import Derived.Lib.LaidU8T
set_option linter.all false
set_option linter.unusedSimpArgs false
set_option linter.unusedVariables false
namespace Go.Proofs.YtdmkfkjdielmiaaDoor
open Go.Proofs.YtdmkfkjdielmiaaDoor.Ab
theorem ti_mixed : Tryd.prog.follows .mixedOrders = true := by kernel_rfl
theorem ti_ag3 : agB Tryd.prog 3 = some false := by kernel_rfl
theorem ti_ag4 : agB Tryd.prog 4 = some false := by kernel_rfl
theorem ti_ag9 : agB Tryd.prog 9 = some false := by kernel_rfl
theorem ti_ag23 : agB Tryd.prog 23 = some true := by kernel_rfl
theorem ti_ag25 : agB Tryd.prog 25 = some true := by kernel_rfl
theorem ti_ag26 : agB Tryd.prog 26 = some false := by kernel_rfl
theorem ti_ag27 : agB Tryd.prog 27 = some false := by kernel_rfl
theorem ti_ag29 : agB Tryd.prog 29 = some true := by kernel_rfl
theorem ti_ag30 : agB Tryd.prog 30 = some false := by kernel_rfl
theorem ti_ag32 : agB Tryd.prog 32 = some true := by kernel_rfl
theorem ti_ag33 : agB Tryd.prog 33 = some false := by kernel_rfl
theorem ti_ag67 : agB Tryd.prog 67 = some true := by kernel_rfl
theorem ti_ag77 : agB Tryd.prog 77 = some false := by kernel_rfl
theorem ti_ag86 : agB Tryd.prog 86 = some false := by kernel_rfl
theorem ti_ag160 : agB Tryd.prog 160 = some false := by kernel_rfl
theorem ti_fe23 : feI Tryd.prog 23 = some [(0, 0), (1, 0), (2, 1)] := by kernel_rfl
theorem ti_fe25 : feI Tryd.prog 25 = some [(0, 0), (1, 1)] := by kernel_rfl
theorem ti_fl23_0 : flI Tryd.prog 23 0 = some (0, false, 1) := by kernel_rfl
theorem ti_fl23_1 : flI Tryd.prog 23 1 = some (1, false, 1) := by kernel_rfl
theorem ti_fl23_2 : flI Tryd.prog 23 2 = some (2, false, 1) := by kernel_rfl
theorem ti_fl25_0 : flI Tryd.prog 25 0 = some (0, false, 1) := by kernel_rfl
theorem ti_fl29_0 : flI Tryd.prog 29 0 = some (0, false, 1) := by kernel_rfl
theorem ti_fl29_1 : flI Tryd.prog 29 1 = some (1, true, 3) := by kernel_rfl
theorem ti_fl29_2 : flI Tryd.prog 29 2 = some (4, false, 1) := by kernel_rfl
theorem ti_fl29_3 : flI Tryd.prog 29 3 = some (5, false, 1) := by kernel_rfl
theorem ti_fl29_4 : flI Tryd.prog 29 4 = some (6, false, 1) := by kernel_rfl
theorem ti_fl29_5 : flI Tryd.prog 29 5 = some (7, true, 2) := by kernel_rfl
theorem ti_fl29_6 : flI Tryd.prog 29 6 = some (9, false, 1) := by kernel_rfl
theorem ti_fl29_7 : flI Tryd.prog 29 7 = some (10, false, 1) := by kernel_rfl
theorem ti_fl32_0 : flI Tryd.prog 32 0 = some (0, false, 1) := by kernel_rfl
theorem ti_fl32_1 : flI Tryd.prog 32 1 = some (1, true, 3) := by kernel_rfl
theorem ti_fl32_2 : flI Tryd.prog 32 2 = some (4, false, 1) := by kernel_rfl
theorem ti_fl32_3 : flI Tryd.prog 32 3 = some (5, false, 1) := by kernel_rfl
theorem ti_fl32_4 : flI Tryd.prog 32 4 = some (6, false, 1) := by kernel_rfl
theorem ti_fl32_5 : flI Tryd.prog 32 5 = some (7, false, 1) := by kernel_rfl
theorem ti_fl32_6 : flI Tryd.prog 32 6 = some (8, true, 2) := by kernel_rfl
theorem ti_fl32_7 : flI Tryd.prog 32 7 = some (10, false, 1) := by kernel_rfl
theorem ti_fl50_0 : flI Tryd.prog 50 0 = some (0, false, 1) := by kernel_rfl
theorem ti_fl67_0 : flI Tryd.prog 67 0 = some (0, false, 1) := by kernel_rfl
theorem ti_fl67_1 : flI Tryd.prog 67 1 = some (1, false, 1) := by kernel_rfl
theorem ti_fl67_2 : flI Tryd.prog 67 2 = some (2, false, 1) := by kernel_rfl
theorem ti_fl67_3 : flI Tryd.prog 67 3 = some (3, false, 1) := by kernel_rfl
theorem ti_fl67_4 : flI Tryd.prog 67 4 = some (4, true, 11) := by kernel_rfl
theorem ti_fl90_0 : flI Tryd.prog 90 0 = some (0, false, 1) := by kernel_rfl
theorem ti_fl90_1 : flI Tryd.prog 90 1 = some (1, false, 1) := by kernel_rfl
theorem ti_fl90_2 : flI Tryd.prog 90 2 = some (2, false, 1) := by kernel_rfl
theorem ti_hb6 : hasBody Tryd.prog 6 = true := by kernel_rfl
theorem ti_hb7 : hasBody Tryd.prog 7 = true := by kernel_rfl
theorem ti_hb8 : hasBody Tryd.prog 8 = true := by kernel_rfl
theorem ti_hb15 : hasBody Tryd.prog 15 = true := by kernel_rfl
theorem ti_hb16 : hasBody Tryd.prog 16 = true := by kernel_rfl
theorem ti_hb17 : hasBody Tryd.prog 17 = true := by kernel_rfl
theorem ti_hb18 : hasBody Tryd.prog 18 = true := by kernel_rfl
theorem ti_hb25 : hasBody Tryd.prog 25 = true := by kernel_rfl
theorem ti_hb34 : hasBody Tryd.prog 34 = true := by kernel_rfl
theorem ti_hb35 : hasBody Tryd.prog 35 = true := by kernel_rfl
theorem ti_hb36 : hasBody Tryd.prog 36 = true := by kernel_rfl
theorem ti_hb37 : hasBody Tryd.prog 37 = true := by kernel_rfl
theorem ti_hb38 : hasBody Tryd.prog 38 = true := by kernel_rfl
theorem ti_hb39 : hasBody Tryd.prog 39 = true := by kernel_rfl
theorem ti_hb40 : hasBody Tryd.prog 40 = true := by kernel_rfl
theorem ti_hb41 : hasBody Tryd.prog 41 = true := by kernel_rfl
theorem ti_hb42 : hasBody Tryd.prog 42 = true := by kernel_rfl
theorem ti_hb43 : hasBody Tryd.prog 43 = true := by kernel_rfl
theorem ti_hb44 : hasBody Tryd.prog 44 = true := by kernel_rfl
theorem ti_hb45 : hasBody Tryd.prog 45 = true := by kernel_rfl
theorem ti_hb46 : hasBody Tryd.prog 46 = true := by kernel_rfl
theorem ti_hb47 : hasBody Tryd.prog 47 = true := by kernel_rfl
theorem ti_hb48 : hasBody Tryd.prog 48 = true := by kernel_rfl
theorem ti_hb49 : hasBody Tryd.prog 49 = true := by kernel_rfl
theorem ti_hb50 : hasBody Tryd.prog 50 = true := by kernel_rfl
theorem ti_hb51 : hasBody Tryd.prog 51 = true := by kernel_rfl
theorem ti_hb52 : hasBody Tryd.prog 52 = true := by kernel_rfl
theorem ti_hb53 : hasBody Tryd.prog 53 = true := by kernel_rfl
theorem ti_hb54 : hasBody Tryd.prog 54 = true := by kernel_rfl
theorem ti_hb55 : hasBody Tryd.prog 55 = true := by kernel_rfl
theorem ti_hb56 : hasBody Tryd.prog 56 = true := by kernel_rfl
theorem ti_hb57 : hasBody Tryd.prog 57 = true := by kernel_rfl
theorem ti_hb58 : hasBody Tryd.prog 58 = true := by kernel_rfl
theorem ti_hb59 : hasBody Tryd.prog 59 = true := by kernel_rfl
theorem ti_hb60 : hasBody Tryd.prog 60 = true := by kernel_rfl
theorem ti_hb61 : hasBody Tryd.prog 61 = true := by kernel_rfl
theorem ti_hb62 : hasBody Tryd.prog 62 = true := by kernel_rfl
theorem ti_hb63 : hasBody Tryd.prog 63 = true := by kernel_rfl
theorem ti_hb65 : hasBody Tryd.prog 65 = true := by kernel_rfl
theorem ti_hb66 : hasBody Tryd.prog 66 = true := by kernel_rfl
theorem ti_hb72 : hasBody Tryd.prog 72 = true := by kernel_rfl
theorem ti_hb73 : hasBody Tryd.prog 73 = true := by kernel_rfl
theorem ti_hb74 : hasBody Tryd.prog 74 = true := by kernel_rfl
theorem ti_hb82 : hasBody Tryd.prog 82 = true := by kernel_rfl
theorem ti_hb92 : hasBody Tryd.prog 92 = true := by kernel_rfl
theorem ti_hb93 : hasBody Tryd.prog 93 = true := by kernel_rfl
theorem ti_hb94 : hasBody Tryd.prog 94 = true := by kernel_rfl
theorem ti_hb95 : hasBody Tryd.prog 95 = true := by kernel_rfl
theorem ti_hb96 : hasBody Tryd.prog 96 = true := by kernel_rfl
theorem ti_hb97 : hasBody Tryd.prog 97 = true := by kernel_rfl
theorem ti_hb98 : hasBody Tryd.prog 98 = true := by kernel_rfl
theorem ti_hb99 : hasBody Tryd.prog 99 = true := by kernel_rfl
theorem ti_hb100 : hasBody Tryd.prog 100 = true := by kernel_rfl
theorem ti_hb101 : hasBody Tryd.prog 101 = true := by kernel_rfl
theorem ti_hb102 : hasBody Tryd.prog 102 = true := by kernel_rfl
theorem ti_hb103 : hasBody Tryd.prog 103 = true := by kernel_rfl
theorem ti_hb104 : hasBody Tryd.prog 104 = true := by kernel_rfl
theorem ti_hb105 : hasBody Tryd.prog 105 = true := by kernel_rfl
theorem ti_hb106 : hasBody Tryd.prog 106 = true := by kernel_rfl
theorem ti_hb107 : hasBody Tryd.prog 107 = true := by kernel_rfl
theorem ti_hb108 : hasBody Tryd.prog 108 = true := by kernel_rfl
theorem ti_hb109 : hasBody Tryd.prog 109 = true := by kernel_rfl
theorem ti_hb110 : hasBody Tryd.prog 110 = true := by kernel_rfl
theorem ti_hb111 : hasBody Tryd.prog 111 = true := by kernel_rfl
theorem ti_hb112 : hasBody Tryd.prog 112 = true := by kernel_rfl
theorem ti_hb113 : hasBody Tryd.prog 113 = true := by kernel_rfl
theorem ti_hb115 : hasBody Tryd.prog 115 = true := by kernel_rfl
theorem ti_hb116 : hasBody Tryd.prog 116 = true := by kernel_rfl
theorem ti_hb137 : hasBody Tryd.prog 137 = true := by kernel_rfl
theorem ti_hb138 : hasBody Tryd.prog 138 = true := by kernel_rfl
theorem ti_hb139 : hasBody Tryd.prog 139 = true := by kernel_rfl
theorem ti_hb140 : hasBody Tryd.prog 140 = true := by kernel_rfl
theorem ti_hb141 : hasBody Tryd.prog 141 = true := by kernel_rfl
theorem ti_hb142 : hasBody Tryd.prog 142 = true := by kernel_rfl
theorem ti_hb143 : hasBody Tryd.prog 143 = true := by kernel_rfl
theorem ti_ky9 : kyI Tryd.prog 9 = some [.s] := by kernel_rfl
theorem ti_mp86 : mpI Tryd.prog 86 = some (9, 9) := by kernel_rfl
theorem ti_mp160 : mpI Tryd.prog 160 = some (9, 3) := by kernel_rfl
theorem ti_pl23 : plI Tryd.prog 23 = some [(0, 1), (1, 1), (2, 1)] := by kernel_rfl
theorem ti_pl32 : plI Tryd.prog 32 = some [(0, 1), (1, 3), (4, 1), (5, 1), (6, 1), (7, 1), (8, 2), (10, 1)] := by kernel_rfl
theorem ti_pl50 : plI Tryd.prog 50 = some [(0, 1)] := by kernel_rfl
theorem ti_pl90 : plI Tryd.prog 90 = some [(0, 1), (1, 1), (2, 1)] := by kernel_rfl
theorem ti_sb26 : slB Tryd.prog 26 = true := by kernel_rfl
theorem ti_sb27 : slB Tryd.prog 27 = true := by kernel_rfl
theorem ti_sb30 : slB Tryd.prog 30 = true := by kernel_rfl
theorem ti_sb77 : slB Tryd.prog 77 = true := by kernel_rfl
theorem ti_sb179 : slB Tryd.prog 179 = true := by kernel_rfl
theorem ti_sl26 : slI Tryd.prog 26 = some (29, 11, 144) := by kernel_rfl
theorem ti_sl27 : slI Tryd.prog 27 = some (67, 15, 192) := by kernel_rfl
theorem ti_sl30 : slI Tryd.prog 30 = some (32, 11, 136) := by kernel_rfl
theorem ti_sl77 : slI Tryd.prog 77 = some (9, 1, 16) := by kernel_rfl
theorem ti_sl179 : slI Tryd.prog 179 = some (77, 1, 24) := by kernel_rfl
theorem ti_st9 : stB Tryd.prog 9 = true := by kernel_rfl
theorem ti_sz3 : szI Tryd.prog 3 = some 1 := by kernel_rfl
theorem ti_sz9 : szI Tryd.prog 9 = some 1 := by kernel_rfl
theorem ti_sz23 : szI Tryd.prog 23 = some 3 := by kernel_rfl
theorem ti_sz25 : szI Tryd.prog 25 = some 2 := by kernel_rfl
theorem ti_sz29 : szI Tryd.prog 29 = some 11 := by kernel_rfl
theorem ti_sz32 : szI Tryd.prog 32 = some 11 := by kernel_rfl
theorem ti_sz33 : szI Tryd.prog 33 = some 1 := by kernel_rfl
theorem ti_sz67 : szI Tryd.prog 67 = some 15 := by kernel_rfl
theorem ti_zr23 : zrI Tryd.prog 23 = some [.i .i64 0, .i .i64 0, .s []] := by kernel_rfl
theorem ti_zr29 : zrI Tryd.prog 29 = some [.i .i64 0, .i .i64 0, .i .i64 0, .s [], .s [], .i .i64 0, .i .i64 0, .i .i64 0, .s [], .c (.slice none 0 0), .c (.slice none 0 0)] := by kernel_rfl
theorem ti_zr32 : zrI Tryd.prog 32 = some [.i .i64 0, .i .i64 0, .i .i64 0, .s [], .s [], .s [], .i .i64 0, .i .i64 0, .i .i64 0, .s [], .c (.slice none 0 0)] := by kernel_rfl
theorem ti_zr50 : zrI Tryd.prog 50 = some [.i .i64 0] := by kernel_rfl
theorem ti_zr67 : zrI Tryd.prog 67 = some [.i .i64 0, .s [], .s [], .b false, .i .i64 0, .i .i64 0, .i .i64 0, .s [], .s [], .i .i64 0, .i .i64 0, .i .i64 0, .s [], .c (.slice none 0 0), .c (.slice none 0 0)] := by kernel_rfl
theorem ti_zr90 : zrI Tryd.prog 90 = some [.i .i64 0, .i .i64 0, .i .i64 0] := by kernel_rfl
theorem ti_zv3 : zvI Tryd.prog 3 = some (.i .i64 0) := by kernel_rfl
theorem ti_zv9 : zvI Tryd.prog 9 = some (.s []) := by kernel_rfl
attribute [go_sem] ti_ag3 ti_ag4 ti_ag9 ti_ag23 ti_ag25 ti_ag26 ti_ag27 ti_ag29 ti_ag30 ti_ag32 ti_ag33 ti_ag67 ti_ag77 ti_ag86 ti_ag160 ti_fe23 ti_fe25 ti_fl23_0 ti_fl23_1 ti_fl23_2 ti_fl25_0 ti_fl29_0 ti_fl29_1 ti_fl29_2 ti_fl29_3 ti_fl29_4 ti_fl29_5 ti_fl29_6 ti_fl29_7 ti_fl32_0 ti_fl32_1 ti_fl32_2 ti_fl32_3 ti_fl32_4 ti_fl32_5 ti_fl32_6 ti_fl32_7 ti_fl50_0 ti_fl67_0 ti_fl67_1 ti_fl67_2 ti_fl67_3 ti_fl67_4 ti_fl90_0 ti_fl90_1 ti_fl90_2 ti_hb6 ti_hb7 ti_hb8 ti_hb15 ti_hb16 ti_hb17 ti_hb18 ti_hb25 ti_hb34 ti_hb35 ti_hb36 ti_hb37 ti_hb38 ti_hb39 ti_hb40 ti_hb41 ti_hb42 ti_hb43 ti_hb44 ti_hb45 ti_hb46 ti_hb47 ti_hb48 ti_hb49 ti_hb50 ti_hb51 ti_hb52 ti_hb53 ti_hb54 ti_hb55 ti_hb56 ti_hb57 ti_hb58 ti_hb59 ti_hb60 ti_hb61 ti_hb62 ti_hb63 ti_hb65 ti_hb66 ti_hb72 ti_hb73 ti_hb74 ti_hb82 ti_hb92 ti_hb93 ti_hb94 ti_hb95 ti_hb96 ti_hb97 ti_hb98 ti_hb99 ti_hb100 ti_hb101 ti_hb102 ti_hb103 ti_hb104 ti_hb105 ti_hb106 ti_hb107 ti_hb108 ti_hb109 ti_hb110 ti_hb111 ti_hb112 ti_hb113 ti_hb115 ti_hb116 ti_hb137 ti_hb138 ti_hb139 ti_hb140 ti_hb141 ti_hb142 ti_hb143 ti_ky9 ti_mp86 ti_mp160 ti_pl23 ti_pl32 ti_pl50 ti_pl90 ti_sb26 ti_sb27 ti_sb30 ti_sb77 ti_sb179 ti_sl26 ti_sl27 ti_sl30 ti_sl77 ti_sl179 ti_st9 ti_sz3 ti_sz9 ti_sz23 ti_sz25 ti_sz29 ti_sz32 ti_sz33 ti_sz67 ti_zr23 ti_zr29 ti_zr32 ti_zr50 ti_zr67 ti_zr90 ti_zv3 ti_zv9
end Go.Proofs.YtdmkfkjdielmiaaDoor
namespace Go.Proofs.YtdmkfkjdielmiaaDoor.Ab
open Go Go.RowKit
variable [Glo]
structure Still (w w' : World) : Prop where
  kept : w.keptBut w' (fun _ => False)
  size : w.heap.size ≤ w'.heap.size
theorem Pres.still {w w' : World} {σ σ' : Conc} {H' : Heap} (p : Pres w [] σ w' H' σ') : Still w w' := by
  have no : ∀ b, ¬ Own [] σ b := fun b ⟨id, ver, e, sz, rows, cap, h, _⟩ => by simp at h
  refine ⟨⟨p.os, p.output, fun i hi => ?_⟩, p.size⟩
  rw [p.blk i hi (no i)]
  have : w.heap[i]? = some w.heap[i] := Array.getElem?_eq_getElem hi
  rw [this]
  cases w.heap[i] <;> simp
def σ0 : Conc := fun _ => .no none
def Globs (w : World) : Prop := ∀ g row, glob g = some row → GRow w (fun _ => False) g row
theorem wok0 {w : World} (h : Globs w) : WOk w [] σ0 := ⟨fun _ _ _ _ _ h => by simp at h, fun _ _ _ _ _ _ _ _ _ _ _ _ _ h => by simp at h, fun g row hg => by
  obtain ⟨h1, _, f, h3, h4⟩ := h g row hg
  have no : ∀ b, ¬ Own [] σ0 b := fun b ⟨id, ver, e, sz, rows, cap, h, _⟩ => by simp at h
  exact ⟨h1, no g, f, h3, fun j x hx => (h4 j x hx).mono (Nat.le_refl _) (fun _ _ _ => rfl) (fun b _ hb => no b hb)⟩, fun _ a h => by cases h; rfl⟩
def rel0 (w : World) : List V → List Value → Prop
  | [], [] => True
  | v :: vs, u :: us => VRel w (Own [] σ0) [] σ0 v u ∧ rel0 w vs us
  | _, _ => False
theorem rel0_spec {w : World} : ∀ {vs : List V} {us : List Value}, rel0 w vs us → vs.length = us.length ∧ ∀ (j : Nat) (v : V) (u : Value), vs[j]? = some v → us[j]? = some u → VRel w (Own [] σ0) [] σ0 v u
  | [], [], _ => ⟨rfl, by simp⟩
  | v :: vs, u :: us, h => by
    obtain ⟨h1, h2⟩ := rel0_spec h.2
    refine ⟨by simp [h1], fun j v' u' hv hu => ?_⟩
    cases j with
    | zero => simp at hv hu; subst hv hu; exact h.1
    | succ j => exact h2 j v' u' (by simpa using hv) (by simpa using hu)
  | [], _ :: _, h => h.elim
  | _ :: _, [], h => h.elim
theorem own : ownKnob Tryd.prog.godebug = none := by kernel_rfl
end Go.Proofs.YtdmkfkjdielmiaaDoor.Ab
namespace Go.Proofs.YtdmkfkjdielmiaaDoor.Ab
open Go Go.RowKit Go.ChangeShapes Go.WideShapes
variable [Glo]
section
variable {H : Type} {enc : TypeId × Value → H} {P : Program} {w : World} {base : Nat} {spare : Nat → Bool} {held : Bool} {o : Nat → Prop}
theorem bulk_range (D' : Nat → DataW H) (len : Nat) : ((List.range len).map fun i => Rows.uptoBulk (D' i)).sum = Rows.uptoBulkAll ((List.range len).map D') := by
  induction List.range len with
  | nil => rfl
  | cons x l ih => simp only [List.map_cons, List.sum_cons, Rows.uptoBulkAll, ih]
def Cells (w : World) (o : Nat → Prop) (ds : List D) (cs : List Value) : Prop := ds.length = cs.length ∧ ∀ (j : Nat) (d : D) (c : Value), ds[j]? = some d → cs[j]? = some c → DRel w o d c
end
end Go.Proofs.YtdmkfkjdielmiaaDoor.Ab
namespace Go.Proofs.YtdmkfkjdielmiaaDoor.Ab
open Go Go.RowKit Go.ChangeShapes Go.WideShapes Go.ChangeAt
variable [Glo]
section
variable {H : Type} {enc : TypeId × Value → H} {P : Program} {w : World} {base : Nat} {spare : Nat → Bool} {held : Bool}
theorem no0 (b : Nat) : ¬ Own [] σ0 b := fun ⟨id, ver, e, sz, rows, cap, h, _⟩ => by simp at h
theorem trodAll_len : ∀ {ts : List TypeId} {vs : List Value} {ds : List (DataW H)} {p : List MemPlace}, DataW.TrodAll enc P w base spare held ts vs ds p → ds.length = ts.length
  | [], vs, ds, p, h => by
    obtain ⟨rfl, rfl, rfl⟩ := trodAll_nil h
    rfl
  | t :: ts, vs, ds, p, h => by
    obtain ⟨v, vs', d, ds', p1, p2, rfl, rfl, rfl, h1, h2⟩ := trodAll_cons h
    rw [List.length_cons, List.length_cons, trodAll_len h2]
end
end Go.Proofs.YtdmkfkjdielmiaaDoor.Ab
namespace Go.Proofs.YtdmkfkjdielmiaaDoor.Ab
open Go Go.RowKit Go.ChangeShapes Go.WideShapes Go.ChangeAt
variable [Glo]
set_option maxHeartbeats 1000000
def dsParts (g : TypeId → DataW Unit → Option (List D)) : List TypeId → List (DataW Unit) → Option (List (List D))
  | [], [] => some []
  | t :: ts, d :: ds => match g t d, dsParts g ts ds with | some x, some r => some (x :: r) | _, _ => none
  | _, _ => none
def offsB (P : Program) : Nat → List Field → Bool
  | _, [] => true
  | off, f :: fs => f.offset == off && offsB P (off + P.cellsOf f.type) fs
def fitB (P : Program) : List TypeId → List (List D) → Bool
  | [], [] => true
  | t :: ts, d :: ds => d.length == P.cellsOf t && fitB P ts ds
  | _, _ => false
def dsT (P : Program) : Nat → TypeId → DataW Unit → Option (List D)
  | 0, _, _ => none
  | n + 1, t, d => match P.underlying t, d with
    | some .bool, .lit (.bool b) => some [.b b]
    | some (.int _), .lit (.int k m) => some [.i k m]
    | some .string, .lit (.string l) => some [.s l]
    | some (.struct fs), .agg ds => (match dsParts (dsT P n) (fs.toList.map (·.type)) ds with
      | some dss => if offsB P 0 fs.toList = true ∧ fitB P (fs.toList.map (·.type)) dss = true ∧ dss.flatten.length = P.cellsOf t then some dss.flatten else none
      | none => none)
    | some (.array m e), .agg ds => (match dsParts (dsT P n) (List.replicate m e) ds with
      | some dss => if fitB P (List.replicate m e) dss = true ∧ dss.flatten.length = P.cellsOf t then some dss.flatten else none
      | none => none)
    | _, _ => none
theorem dsParts_get {g : TypeId → DataW Unit → Option (List D)} : ∀ {ts : List TypeId} {ds : List (DataW Unit)} {dss : List (List D)}, dsParts g ts ds = some dss →
    ds.length = ts.length ∧ dss.length = ts.length ∧ ∀ (k : Nat) (t : TypeId) (d : DataW Unit) (x : List D), ts[k]? = some t → ds[k]? = some d → dss[k]? = some x → g t d = some x
  | [], [], dss, h => by simp [dsParts] at h; subst h; simp
  | t :: ts, d :: ds, dss, h => by
    simp only [dsParts] at h
    split at h
    · rename_i x r hx hr
      cases h
      obtain ⟨h1, h2, h3⟩ := dsParts_get hr
      refine ⟨by simp [h1], by simp [h2], fun k t' d' x' ht hd hx' => ?_⟩
      cases k with
      | zero => simp at ht hd hx'; subst ht hd hx'; exact hx
      | succ k => exact h3 k t' d' x' (by simpa using ht) (by simpa using hd) (by simpa using hx')
    · cases h
  | [], _ :: _, _, h => by cases h
  | _ :: _, [], _, h => by cases h
theorem fitB_get {P : Program} : ∀ {ts : List TypeId} {dss : List (List D)}, fitB P ts dss = true → ∀ (k : Nat) (t : TypeId) (x : List D), ts[k]? = some t → dss[k]? = some x → x.length = P.cellsOf t
  | [], [], _, k, t, x, ht, _ => by simp at ht
  | t :: ts, d :: ds, h, k, t', x, ht, hx => by
    simp only [fitB, Bool.and_eq_true, beq_iff_eq] at h
    cases k with
    | zero => simp at ht hx; subst ht hx; exact h.1
    | succ k => exact fitB_get h.2 k t' x (by simpa using ht) (by simpa using hx)
  | [], _ :: _, h, _, _, _, _, _ => by cases h
  | _ :: _, [], h, _, _, _, _, _ => by cases h
section
variable {P : Program} {w : World} {o : Nat → Prop}
theorem cells_join (cs : List Value) : ∀ (dss : List (List D)) (offs : Nat → Nat) (off : Nat), (dss ≠ [] → offs 0 = off) → (∀ (k : Nat) (x y : List D), dss[k]? = some x → dss[k + 1]? = some y → offs (k + 1) = offs k + x.length) → (∀ (k : Nat) (x : List D), dss[k]? = some x → Cells w o x ((cs.drop (offs k)).take x.length)) →
    Cells w o dss.flatten ((cs.drop off).take dss.flatten.length)
  | [], offs, off, _, _, _ => ⟨by simp, by simp⟩
  | d :: dss, offs, off, h0, hs, hc => by
    have h0 := h0 (by simp)
    have c0 := hc 0 d rfl
    rw [h0] at c0
    have ih := cells_join cs dss (fun k => offs (k + 1)) (off + d.length) (fun hne => by
      cases dss with
      | nil => exact absurd rfl hne
      | cons y r => have := hs 0 d y rfl rfl; simp only [Nat.zero_add] at this ⊢; omega) (fun k x y hx hy => hs (k + 1) x y (by simpa using hx) (by simpa using hy)) (fun k x hx => hc (k + 1) x (by simpa using hx))
    have l0 := c0.1
    rw [List.length_take, List.length_drop] at l0
    have l1 := ih.1
    rw [List.length_take, List.length_drop] at l1
    refine ⟨?_, fun j x c hx hcj => ?_⟩
    · rw [List.flatten_cons, List.length_append, List.length_take, List.length_drop]
      omega
    · rw [List.flatten_cons, List.getElem?_append] at hx
      rw [List.flatten_cons, List.length_append, List.getElem?_take, List.getElem?_drop] at hcj
      split at hcj
      case isFalse => cases hcj
      rename_i hlt
      split at hx
      · rename_i hj
        refine c0.2 j x c hx ?_
        rw [List.getElem?_take, if_pos hj, List.getElem?_drop]
        exact hcj
      · rename_i hj
        refine ih.2 (j - d.length) x c hx ?_
        rw [List.getElem?_take, if_pos (by omega), List.getElem?_drop, ← hcj]
        congr 1
        omega
theorem cells_one {d : D} {c : Value} (h : DRel w o d c) : Cells w o [d] [c] := ⟨rfl, fun j x u hx hu => by
  cases j with
  | zero => simp at hx hu; subst hx hu; exact h
  | succ j => simp at hx⟩
theorem trod_data {enc : TypeId × Value → Unit} {base : Nat} {spare : Nat → Bool} {held : Bool} (ho : ∀ b, ¬ o b) : ∀ (n : Nat) (t : TypeId) (d : DataW Unit) (ds : List D), dsT P n t d = some ds → ∀ (fuel : Nat) (cs : List Value) (ps : List MemPlace), DataW.trod enc P w base spare held fuel t cs = some (d, ps) → Cells w o ds cs
  | 0, _, _, _, h, _, _, _, _ => by cases h
  | n + 1, t, d, ds, h, fuel, cs, ps, hr => by
    have ih := trod_data (enc := enc) (base := base) (spare := spare) (held := held) ho n
    unfold dsT at h
    split at h
    · rename_i hu
      cases h
      obtain ⟨b, rfl, hb⟩ := DataW.trod_bool hu hr
      cases hb
      exact cells_one (.b _)
    · rename_i k' k m hu
      cases h
      obtain ⟨m', rfl, hm, _⟩ := DataW.trod_int hu hr
      cases hm
      exact cells_one (.i _ _)
    · rename_i hu
      cases h
      obtain ⟨s, rfl, hs, _⟩ := DataW.trod_string hu hr
      cases hs
      refine cells_one ?_
      simpa using DRel.s (w := w) (o := o) s.data.toList
    · rename_i fs parts hu
      split at h
      case h_2 => cases h
      rename_i dss hp
      split at h
      case isFalse => cases h
      rename_i hc
      cases h
      obtain ⟨xs, n', rfl, hx, hcl, hxl, hfs⟩ := DataW.trod_struct hu hr
      obtain ⟨hx1, _⟩ := Prod.mk.inj hx
      cases hx1
      obtain ⟨g1, g2, g3⟩ := dsParts_get hp
      simp only [List.length_map] at g1 g2
      have hoff : ∀ (l : List Field) (a k : Nat), offsB P a l = true → (∀ f, l[0]? = some f → f.offset = a) ∧ (∀ f f', l[k]? = some f → l[k + 1]? = some f' → f'.offset = f.offset + P.cellsOf f.type) := by
        intro l
        induction l with
        | nil => intro a k _; simp
        | cons f l ih' =>
          intro a k hb
          simp only [offsB, Bool.and_eq_true, beq_iff_eq] at hb
          refine ⟨fun f' hf' => by simp at hf'; subst hf'; exact hb.1, fun f1 f2 h1 h2 => ?_⟩
          cases k with
          | zero =>
            simp at h1 h2
            subst h1
            have := (ih' _ 0 hb.2).1 f2 h2
            omega
          | succ k => exact (ih' _ k hb.2).2 f1 f2 (by simpa using h1) (by simpa using h2)
      have hfk : ∀ (k : Nat) (x : List D), dss[k]? = some x → ∃ f, fs.toList[k]? = some f ∧ x.length = P.cellsOf f.type ∧ Cells w o x ((cs.drop f.offset).take x.length) := fun k x hx => by
        have hk : k < fs.toList.length := by have := (List.getElem?_eq_some_iff.1 hx).1; simp only [Array.length_toList]; omega
        have hf : fs.toList[k]? = some fs.toList[k] := List.getElem?_eq_getElem hk
        have ht : (fs.toList.map (·.type))[k]? = some fs.toList[k].type := by rw [List.getElem?_map, hf]; rfl
        have hxl' : k < xs.length := by rw [hxl]; simpa using hk
        have hp1 : (xs.map (·.1))[k]? = some xs[k].1 := by rw [List.getElem?_map, List.getElem?_eq_getElem hxl']; rfl
        have hl := fitB_get hc.2.1 k _ x ht hx
        have h0 := hfs k _ (by rw [← Array.getElem?_toList]; exact hf)
        rw [List.getElem?_eq_getElem hxl'] at h0
        have := ih _ _ x (g3 k _ _ x ht hp1 hx) n' _ xs[k].2 h0
        rw [← hl] at this
        exact ⟨_, hf, hl, this⟩
      have hall := cells_join (w := w) (o := o) cs dss (fun k => ((fs.toList[k]?).map (·.offset)).getD 0) 0 (fun hne => by
        cases dss with
        | nil => exact absurd rfl hne
        | cons y r =>
          obtain ⟨f, hf, _⟩ := hfk 0 y rfl
          have := (hoff fs.toList 0 0 hc.1).1 f hf
          simp only [hf, Option.map_some, Option.getD_some, this]) (fun k x y hx hy => by
        obtain ⟨f, hf, hl, _⟩ := hfk k x hx
        obtain ⟨f', hf', _, _⟩ := hfk (k + 1) y hy
        have := (hoff fs.toList 0 k hc.1).2 f f' hf hf'
        simp only [hf, hf', Option.map_some, Option.getD_some, this, hl]) (fun k x hx => by
        obtain ⟨f, hf, _, hcx⟩ := hfk k x hx
        simp only [hf, Option.map_some, Option.getD_some]
        exact hcx)
      rw [List.drop_zero, List.take_of_length_le (by omega)] at hall
      exact hall
    · rename_i m e parts hu
      split at h
      case h_2 => cases h
      rename_i dss hp
      split at h
      case isFalse => cases h
      rename_i hc
      cases h
      obtain ⟨xs, n', rfl, hx, hcl, hxl, hfs⟩ := DataW.trod_array hu hr
      obtain ⟨hx1, _⟩ := Prod.mk.inj hx
      cases hx1
      obtain ⟨g1, g2, g3⟩ := dsParts_get hp
      simp only [List.length_replicate] at g1 g2
      have hfk : ∀ (k : Nat) (x : List D), dss[k]? = some x → x.length = P.cellsOf e ∧ Cells w o x ((cs.drop (k * P.cellsOf e)).take x.length) := fun k x hx => by
        have hk : k < m := by have := (List.getElem?_eq_some_iff.1 hx).1; omega
        have ht : (List.replicate m e)[k]? = some e := by rw [List.getElem?_replicate, if_pos hk]
        have hxl' : k < xs.length := by omega
        have hp1 : (xs.map (·.1))[k]? = some xs[k].1 := by rw [List.getElem?_map, List.getElem?_eq_getElem hxl']; rfl
        have hl := fitB_get hc.1 k _ x ht hx
        have h0 := hfs k hk
        rw [List.getElem?_eq_getElem hxl'] at h0
        have := ih _ _ x (g3 k _ _ x ht hp1 hx) n' _ xs[k].2 h0
        rw [← hl] at this ⊢
        exact ⟨rfl, this⟩
      have hall := cells_join (w := w) (o := o) cs dss (fun k => k * P.cellsOf e) 0 (fun _ => by simp) (fun k x y hx _ => by
        have := (hfk k x hx).1
        rw [Nat.add_mul, Nat.one_mul, this]) (fun k x hx => (hfk k x hx).2)
      rw [List.drop_zero, List.take_of_length_le (by omega)] at hall
      exact hall
    · cases h
theorem var_row {n : Nat} {name : String} {d : DataW Unit} {g : Nat} {t : TypeId} {ds : List D} (hg : P.globalNamed name = some g) (ht : (P.globals[g]?).map (·.type) = some t) (hd : dsT P n t d = some ds) (hpos : 0 < ds.length)
    (hr : Lib.VarReads P w name d) (ho : ∀ b, ¬ o b) : GRow w o g ds := by
  obtain ⟨g', t', cs, fuel, p, hg', ht', hv, htr⟩ := hr
  obtain rfl := Option.some.inj (hg.symm.trans hg')
  obtain rfl := Option.some.inj (ht.symm.trans ht')
  have hc := trod_data (w := w) ho n _ _ _ hd fuel cs.toList p htr
  have hcell : ∀ (j : Nat) (x : D), ds[j]? = some x → w.cell? ⟨g, j, none⟩ = some (cs.toList[j]?.getD undef) := fun j x hx => by
    have hj : j < cs.toList.length := by rw [← hc.1]; exact (List.getElem?_eq_some_iff.1 hx).1
    rw [World.var?_cell hg hv j, List.getElem?_eq_getElem hj]
    simp
  refine ⟨?_, ho g, fun j => cs.toList[j]?.getD undef, hcell, fun j x hx => ?_⟩
  · have := hcell 0 _ (List.getElem?_eq_getElem hpos)
    exact cell_lt this
  · have hj : j < cs.toList.length := by rw [← hc.1]; exact (List.getElem?_eq_some_iff.1 hx).1
    refine hc.2 j x _ hx ?_
    show cs.toList[j]? = some (cs.toList[j]?.getD undef)
    rw [List.getElem?_eq_getElem hj, Option.getD_some]
end
def valD : D → Value
  | .i k n => .int k n
  | .b t => .bool t
  | .s l => .string ⟨l.toArray⟩
  | .c v => v
  | .sl _ _ => undef
  | .m _ _ _ => undef
def putRow (h : Array Obj) (g : Nat) (row : List D) : Array Obj := h.modify g fun
  | .cells _ t frozen => .cells (row.map valD).toArray t frozen
  | o => o
end Go.Proofs.YtdmkfkjdielmiaaDoor.Ab
