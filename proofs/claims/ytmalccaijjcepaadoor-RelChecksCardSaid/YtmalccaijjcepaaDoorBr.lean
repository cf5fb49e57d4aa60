/- From a walk over the abstract reading to what a row asks: the answer, and that all that stood before stands as it stood. No condition. -/
import Derived.Test.YtmalccaijjcepaaDoorTi
import Derived.Test.YtmalccaijjcepaaDoorRows
import Derived.ProofKit
import Derived.OpenShut
import Derived.JoinedCond
set_option linter.all false
set_option linter.unusedSimpArgs false
set_option linter.unusedVariables false
namespace Go.Proofs.YtmalccaijjcepaaDoor.Ab
open Go Go.RowKit
variable [Glo]

/-- Of what stood when the call began nothing has turned. -/
structure Still (w w' : World) : Prop where
  kept : w.keptBut w' (fun _ => False)
  size : w.heap.size ≤ w'.heap.size
theorem Pres.still {w w' : World} {σ σ' : Conc} {H' : Heap} (p : Pres w [] σ w' H' σ') : Still w w' := by
  have no : ∀ b, ¬ Own [] σ b := fun b ⟨id, ver, e, sz, rows, cap, h, _⟩ => by simp at h
  refine ⟨⟨p.os, p.output, fun i hi => ?_⟩, p.size⟩
  rw [p.blk i hi (no i)]
  have : w.heap[i]? = some w.heap[i] := Array.getElem?_eq_getElem hi
  rw [this]
  cases w.heap[i] <;> simp

def σ0 : Conc := fun _ => .no none
/-- The package variables hold what is known of them. -/
def Globs (w : World) : Prop := ∀ g row, glob g = some row → GRow w (fun _ => False) g row
theorem wok0 {w : World} (h : Globs w) : WOk w [] σ0 := ⟨fun _ _ _ _ _ h => by simp at h, fun _ _ _ _ _ _ _ _ _ _ _ _ _ h => by simp at h, fun g row hg => by
  obtain ⟨h1, _, f, h3, h4⟩ := h g row hg
  have no : ∀ b, ¬ Own [] σ0 b := fun b ⟨id, ver, e, sz, rows, cap, h, _⟩ => by simp at h
  exact ⟨h1, no g, f, h3, fun j x hx => (h4 j x hx).mono (Nat.le_refl _) (fun _ _ _ => rfl) (fun b _ hb => no b hb)⟩, fun _ a h => by cases h; rfl⟩

def rel0 (w : World) : List V → List Value → Prop
  | [], [] => True
  | v :: vs, u :: us => VRel w (Own [] σ0) [] σ0 v u ∧ rel0 w vs us
  | _, _ => False
theorem rel0_spec {w : World} : ∀ {vs : List V} {us : List Value}, rel0 w vs us → vs.length = us.length ∧ ∀ (j : Nat) (v : V) (u : Value), vs[j]? = some v → us[j]? = some u → VRel w (Own [] σ0) [] σ0 v u
  | [], [], _ => ⟨rfl, by simp⟩
  | v :: vs, u :: us, h => by
    obtain ⟨h1, h2⟩ := rel0_spec h.2
    refine ⟨by simp [h1], fun j v' u' hv hu => ?_⟩
    cases j with
    | zero => simp at hv hu; subst hv hu; exact h.1
    | succ j => exact h2 j v' u' (by simpa using hv) (by simpa using hu)
  | [], _ :: _, h => h.elim
  | _ :: _, [], h => h.elim

theorem rel_string (w : World) (o : Nat → Prop) (H : Heap) (σ : Conc) (s : ByteArray) : VRel w o H σ (.d (.s s.data.toList)) (.string s) := by
  have := DRel.s (w := w) (o := o) s.data.toList
  exact .d _ _ (by simpa using this)
theorem rel_int (w : World) (o : Nat → Prop) (H : Heap) (σ : Conc) (k : IntKind) (n : Int) : VRel w o H σ (.d (.i k n)) (.int k n) := .d _ _ (.i k n)
theorem rel_bool (w : World) (o : Nat → Prop) (H : Heap) (σ : Conc) (t : Bool) : VRel w o H σ (.d (.b t)) (.bool t) := .d _ _ (.b t)

theorem own : ownKnob Tryd.prog.godebug = none := by kernel_rfl
end Go.Proofs.YtmalccaijjcepaaDoor.Ab
