/- The law RelCompares holds wherever what it reads is of bulk at most 1048576: it returns true, and its arguments read as they did. -/
import Derived.Test.YtjedhhdkgjchdaaLw
import Derived.Test.YtjedhhdkgjchdaaRel1
set_option linter.all false
set_option linter.unusedSimpArgs false
set_option linter.unusedVariables false
namespace Go.Proofs.Ytjedhhdkgjchdaa.relCompares
open Go Go.ChangeShapes Go.WideShapes Go.ChangeAt Go.RowKit Go.Proofs.Ytjedhhdkgjchdaa.Ab
set_option maxHeartbeats 1000000

theorem item {ds : List D} {m : Nat} (h : Typed (.cons (.i .i64) (.cons (.i .i64) (.cons .s .nil))) ds m) : ∃ a b s, ds = [.i .i64 a, .i .i64 b, .s s] := by
  obtain ⟨_, _, _, _, rfl, _, h1, g1⟩ := typed_cons h
  obtain ⟨_, _, _, _, rfl, _, h2, g2⟩ := typed_cons g1
  obtain ⟨_, _, _, _, rfl, _, h3, g3⟩ := typed_cons g2
  obtain ⟨a, rfl, _⟩ := typed_i h1
  obtain ⟨b, rfl, _⟩ := typed_i h2
  obtain ⟨s, rfl, _⟩ := typed_s h3
  obtain rfl := typed_nil g3
  exact ⟨a, b, s, rfl⟩

theorem law (dss : List (List D)) (h : TypedAll [.cons (.i .i64) (.cons (.i .i64) (.cons (.s) (.nil))), .cons (.i .i64) (.cons (.i .i64) (.cons (.s) (.nil)))] dss 1048576) : ACalls Try.prog 5 (argsV [.cons (.i .i64) (.cons (.i .i64) (.cons (.s) (.nil))), .cons (.i .i64) (.cons (.i .i64) (.cons (.s) (.nil)))] dss) [] fun v _ => v = .d (.b true) := by
  match dss, h with
  | [d1, d2], ⟨_, _, _, h1, _, _, _, h2, _⟩ =>
    obtain ⟨a, b, s, rfl⟩ := item h1
    obtain ⟨a', b', s', rfl⟩ := item h2
    exact relCompares_A a b s a' b' s' [] _ rfl

set_option maxRecDepth 100000 in
theorem lifted (os : Os) (started : os.Started) (H : Type) (enc : TypeId × Value → H) (F : Stop.Interp) :
    ReturnsInHanded {} Try.checked os 5 .any ((Rows.OpenSpec.upto Rows.relComparesSpec).pre6 enc Try.prog Try.f5 Rows.relComparesUptoRow.domain false) (((Rows.OpenSpec.upto Rows.relComparesSpec).at F).post enc Try.prog Try.f5 false true false false) := by
  refine returnsInHanded_of_cond (C := Try.checked) (s := Rows.OpenSpec.upto Rows.relComparesSpec) (k := Rows.uptoSmall) rfl own started (by kernel_rfl) Try.func5
    (OpenSpec.witness (enc := enc) (C := Try.checked) (s := Rows.OpenSpec.upto Rows.relComparesSpec) (k := Rows.uptoSmall) rfl false ⟨#[], #[.agg #[.int .i64 0, .int .i64 0, .string .empty], .agg #[.int .i64 0, .int .i64 0, .string .empty]], []⟩ 8 (by kernel_rfl) (by kernel_rfl) (by kernel_rfl)
      (x := ([.agg [.lit (.int .i64 0), .lit (.int .i64 0), .lit (.string [])], .agg [.lit (.int .i64 0), .lit (.int .i64 0), .lit (.string [])]], [], [])) (by kernel_rfl) rfl (by kernel_rfl)) ?_
  intro W base args ds gs before hval hW _ hk _
  refine law_contract (n := 12) (Ts := [.cons (.i .i64) (.cons (.i .i64) (.cons (.s) (.nil))), .cons (.i .i64) (.cons (.i .i64) (.cons (.s) (.nil)))]) (bt := 4) rfl (by kernel_rfl) Try.underlying4 (by kernel_rfl) (by kernel_rfl) (fun ds hds => ?_) law W args ds gs before base hval hW hk
  match ds, hds with
  | [d0, d1], _ => rfl

theorem proved : Rows.RelComparesUptoSaid :=
  OpenClaim.holds_of_cond 5 Try.f5 rfl rfl rfl rfl rfl rfl rfl ⟨rfl, rfl, rfl, rfl, rfl⟩ rfl rfl rfl rfl rfl (by kernel_rfl) Try.func5 (by kernel_rfl)
    (of_decide_eq_true (by kernel_rfl)) (by unfold Func.isWrapper; first | (rw [if_pos (by decide +kernel)]; kernel_rfl) | (rw [if_neg (by decide +kernel)]; exact ⟨rfl, rfl⟩))
    (fun os started H enc _ F => lifted os started H enc F)
end Go.Proofs.Ytjedhhdkgjchdaa.relCompares
