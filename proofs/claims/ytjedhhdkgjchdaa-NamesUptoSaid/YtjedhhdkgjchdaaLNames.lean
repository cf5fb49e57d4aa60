/- The law Names holds: it has no arguments, and it returns true. No condition. -/
import Derived.Test.YtjedhhdkgjchdaaLw
import Derived.Test.YtjedhhdkgjchdaaNames1
set_option linter.all false
set_option linter.unusedSimpArgs false
set_option linter.unusedVariables false
namespace Go.Proofs.Ytjedhhdkgjchdaa.names
open Go Go.ChangeShapes Go.WideShapes Go.ChangeAt Go.RowKit Go.Proofs.Ytjedhhdkgjchdaa.Ab
set_option maxHeartbeats 1000000

theorem law (dss : List (List D)) (h : TypedAll [] dss 1048576) : ACalls Try.prog 3 (argsV [] dss) [] fun v _ => v = .d (.b true) := by
  match dss, h with
  | [], _ => exact names_A _ rfl

set_option maxRecDepth 100000 in
theorem lifted (os : Os) (started : os.Started) (H : Type) (enc : TypeId × Value → H) (F : Stop.Interp) :
    ReturnsInHanded {} Try.checked os 3 .any ((Rows.OpenSpec.upto Rows.namesSpec).pre6 enc Try.prog Try.f3 Rows.namesUptoRow.domain false) (((Rows.OpenSpec.upto Rows.namesSpec).at F).post enc Try.prog Try.f3 false true false false) := by
  refine returnsInHanded_of_cond (C := Try.checked) (s := Rows.OpenSpec.upto Rows.namesSpec) (k := Rows.uptoSmall) rfl own started (by kernel_rfl) Try.func3
    (OpenSpec.witness (enc := enc) (C := Try.checked) (s := Rows.OpenSpec.upto Rows.namesSpec) (k := Rows.uptoSmall) rfl false ⟨#[], #[], []⟩ 8 (by kernel_rfl) (by kernel_rfl) (by kernel_rfl)
      (x := ([], [], [])) (by kernel_rfl) rfl (by kernel_rfl)) ?_
  intro W base args ds gs before hval hW _ hk _
  refine law_contract (n := 12) (Ts := []) (bt := 4) rfl (by kernel_rfl) Try.underlying4 (by kernel_rfl) (by kernel_rfl) (fun ds hds => ?_) law W args ds gs before base hval hW hk
  match ds, hds with
  | [], _ => rfl

theorem proved : Rows.NamesUptoSaid :=
  OpenClaim.holds_of_cond 3 Try.f3 rfl rfl rfl rfl rfl rfl rfl ⟨rfl, rfl, rfl, rfl, rfl⟩ rfl rfl rfl rfl rfl (by kernel_rfl) Try.func3 (by kernel_rfl)
    (of_decide_eq_true (by kernel_rfl)) (by unfold Func.isWrapper; first | (rw [if_pos (by decide +kernel)]; kernel_rfl) | (rw [if_neg (by decide +kernel)]; exact ⟨rfl, rfl⟩))
    (fun os started H enc _ F => lifted os started H enc F)
end Go.Proofs.Ytjedhhdkgjchdaa.names
