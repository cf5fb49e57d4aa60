/- From a walk over the abstract reading to what a row asks: the answer, and that all that stood before stands as it stood. No condition. -/
import Derived.Test.YtjedhhdkgjchdaaTi
import Derived.Test.YtjedhhdkgjchdaaRows
import Derived.ProofKit
import Derived.OpenShut
import Derived.JoinedCond
set_option linter.all false
set_option linter.unusedSimpArgs false
set_option linter.unusedVariables false
namespace Go.Proofs.Ytjedhhdkgjchdaa.Ab
open Go Go.RowKit

theorem Pres.grown {w w' : World} {σ σ' : Conc} {H' : Heap} (p : Pres w [] σ w' H' σ') : Grown w w' := by
  have no : ∀ b, ¬ Own [] σ b := fun b ⟨id, ver, e, sz, rows, cap, h, _⟩ => by simp at h
  refine ⟨⟨p.os, p.output.1, fun i hi => ?_⟩, p.output.2, p.size⟩
  rw [p.blk i hi (no i)]
  have : w.heap[i]? = some w.heap[i] := Array.getElem?_eq_getElem hi
  rw [this]
  cases w.heap[i] <;> simp

def σ0 : Conc := fun _ => .no none
theorem wok0 (w : World) : WOk w [] σ0 := ⟨fun _ _ _ _ _ h => by simp at h, fun _ _ _ _ _ _ _ _ _ _ _ _ _ h => by simp at h⟩

def rel0 (w : World) : List V → List Value → Prop
  | [], [] => True
  | v :: vs, u :: us => VRel w (Own [] σ0) [] σ0 v u ∧ rel0 w vs us
  | _, _ => False
theorem rel0_spec {w : World} : ∀ {vs : List V} {us : List Value}, rel0 w vs us → vs.length = us.length ∧ ∀ (j : Nat) (v : V) (u : Value), vs[j]? = some v → us[j]? = some u → VRel w (Own [] σ0) [] σ0 v u
  | [], [], _ => ⟨rfl, by simp⟩
  | v :: vs, u :: us, h => by
    obtain ⟨h1, h2⟩ := rel0_spec h.2
    refine ⟨by simp [h1], fun j v' u' hv hu => ?_⟩
    cases j with
    | zero => simp at hv hu; subst hv hu; exact h.1
    | succ j => exact h2 j v' u' (by simpa using hv) (by simpa using hu)
  | [], _ :: _, h => h.elim
  | _ :: _, [], h => h.elim

theorem true_calls {P : Program} {f : Nat} {vs : List V} {w : World} {args : List Value} (h : ACalls P f vs [] fun v _ => v = .d (.b true)) (hr : rel0 w vs args) :
    Calls P f args.toArray w fun e w' => e = .returned (.bool true) ∧ Grown w w' := by
  obtain ⟨hl, hv⟩ := rel0_spec hr
  unfold ACalls at h
  refine (h w σ0 args.toArray (wok0 w) (by simpa using hl) (fun j v u h1 h2 => hv j v u h1 (by simpa using h2))).mono ?_
  rintro e w' ⟨val, v, H', σ', rfl, rfl, hval, _, hp⟩
  obtain rfl := hval.inv_d.inv_b
  exact ⟨rfl, hp.grown⟩

theorem rel_string (w : World) (o : Nat → Prop) (H : Heap) (σ : Conc) (s : ByteArray) : VRel w o H σ (.d (.s s.data.toList)) (.string s) := by
  have := DRel.s (w := w) (o := o) s.data.toList
  exact .d _ _ (by simpa using this)
theorem rel_int (w : World) (o : Nat → Prop) (H : Heap) (σ : Conc) (k : IntKind) (n : Int) : VRel w o H σ (.d (.i k n)) (.int k n) := .d _ _ (.i k n)
theorem rel_bool (w : World) (o : Nat → Prop) (H : Heap) (σ : Conc) (t : Bool) : VRel w o H σ (.d (.b t)) (.bool t) := .d _ _ (.b t)

theorem own : ownKnob Try.prog.godebug = none := by kernel_rfl
end Go.Proofs.Ytjedhhdkgjchdaa.Ab
