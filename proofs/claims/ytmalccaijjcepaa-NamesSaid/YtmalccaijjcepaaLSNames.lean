/- The law Names holds: it returns true at every argument, and its argument reads as it did. No condition. -/
import Derived.Test.YtmalccaijjcepaaLwS
import Derived.Test.YtmalccaijjcepaaBr
import Derived.Test.YtmalccaijjcepaaNames1
import Derived.Deep.DeepHandedRow
import Derived.LaidLaws
set_option linter.all false
set_option linter.unusedSimpArgs false
set_option linter.unusedVariables false
namespace Go.Proofs.Ytmalccaijjcepaa.names
open Go Go.ChangeShapes Go.WideShapes Go.ChangeAt Go.RowKit Go.Proofs.Ytmalccaijjcepaa.Ab
set_option maxHeartbeats 1000000
set_option maxRecDepth 20000
instance gl : Glo := ⟨fun _ => none⟩
theorem law (m : Nat) (dss : List (List D)) (h : TypedAll [] dss m) : ACalls Try.prog 3 (argsV [] dss) [] fun v _ => v = .d (.b true) := by
  match dss, h with
  | [], _ => exact names_A _ rfl
theorem globs {W : World} (h : laidMetH Try.prog Rows.namesRow.laid W) : Globs W := by
  intro g row hg
  change (none) = some row at hg
  cases hg
noncomputable def laidWorld (os : Os) : World :=
  let w0 := World.holding Try.prog os ⟨#[], #[], []⟩
  { w0 with heap := w0.heap }
theorem laid_met (os : Os) : laidMet Try.prog Rows.namesRow.laid ((laidWorld os).forCall (fun _ _ => 0) ⟨#[], #[], []⟩).memory :=
  laidMet_of_run' 8 (by kernel_rfl) (by kernel_rfl)
theorem reads (os : Os) {H : Type} (enc : TypeId × Value → H) : ∃ places, DataW.whole enc Try.prog ((laidWorld os).forCall (fun _ _ => 0) ⟨#[], #[], []⟩).memory Try.f3.params.toList Rows.namesSpec.vars false (#[] : Array Value).toList 8 = some ([], [], places) :=
  ⟨[], by kernel_rfl⟩
set_option maxRecDepth 100000 in
theorem lifted (os : Os) (started : os.Started) (H : Type) (enc : TypeId × Value → H) (F : Stop.Interp) :
    ReturnsInHanded {} Try.checked os 3 .any ((OpenSpec.ofChange Rows.namesSpec).preRow enc Try.prog Try.f3 Rows.namesRow.domain false Rows.namesRow.laid) (((OpenSpec.ofChange Rows.namesSpec).at F).post enc Try.prog Try.f3 false true false false) := by
  obtain ⟨places, hx⟩ := reads os enc
  refine returnsInHanded_of_row (C := Try.checked) (s := OpenSpec.ofChange Rows.namesSpec) own started (by kernel_rfl) Try.func3
    (witness_row_at (enc := enc) (C := Try.checked) false (laidWorld os) #[] rfl (by kernel_rfl) (by kernel_rfl) (by kernel_rfl)
      (OpenSpec.preRow_of_cond 8 hx (by kernel_rfl) (fun k hk => by cases hk) (by kernel_rfl) (laid_met os))) ?_
  intro W base args ds gs before hval hW _ _ _ hL _ _
  refine law_contractS (n := 12) (Ts := []) (bt := 4) rfl (by kernel_rfl) Try.underlying4 (by kernel_rfl) (by kernel_rfl) (fun ds hds => ?_) law W (globs hL) args ds gs before base hval hW
  match ds, hds with
  | [], _ => rfl
theorem said : Rows.NamesSaid :=
  OpenClaim.holds_of_cond 3 Try.f3 rfl rfl rfl rfl rfl rfl rfl ⟨rfl, rfl, rfl, rfl, rfl⟩ rfl rfl rfl rfl rfl (by kernel_rfl) Try.func3 (by kernel_rfl)
    (of_decide_eq_true (by kernel_rfl)) (by unfold Func.isWrapper; first | (rw [if_pos (by decide +kernel)]; kernel_rfl) | (rw [if_neg (by decide +kernel)]; exact ⟨rfl, rfl⟩))
    (fun os started H enc _ F => by rw [OpenClaim.pre_eq_preRow]; exact lifted os started H enc F)
theorem proved : Rows.NamesSaid := said
end Go.Proofs.Ytmalccaijjcepaa.names
