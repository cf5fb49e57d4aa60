/- The law RelCompares holds: it returns true at every argument, and its argument reads as it did. No condition. -/
import Derived.Test.YtmalccaijjcepaaLwS
import Derived.Test.YtmalccaijjcepaaBr
import Derived.Test.YtmalccaijjcepaaRel1
import Derived.Deep.DeepHandedRow
import Derived.LaidLaws
set_option linter.all false
set_option linter.unusedSimpArgs false
set_option linter.unusedVariables false
namespace Go.Proofs.Ytmalccaijjcepaa.relCompares
open Go Go.ChangeShapes Go.WideShapes Go.ChangeAt Go.RowKit Go.Proofs.Ytmalccaijjcepaa.Ab
set_option maxHeartbeats 1000000
set_option maxRecDepth 20000
instance gl : Glo := ⟨fun _ => none⟩
theorem item {ds : List D} {m : Nat} (h : Typed (.cons (.i .i64) (.cons (.i .i64) (.cons .s .nil))) ds m) : ∃ a b s, ds = [.i .i64 a, .i .i64 b, .s s] := by
  obtain ⟨_, _, _, _, rfl, _, h1, g1⟩ := typed_cons h
  obtain ⟨_, _, _, _, rfl, _, h2, g2⟩ := typed_cons g1
  obtain ⟨_, _, _, _, rfl, _, h3, g3⟩ := typed_cons g2
  obtain ⟨a, rfl, _⟩ := typed_i h1
  obtain ⟨b, rfl, _⟩ := typed_i h2
  obtain ⟨s, rfl, _⟩ := typed_s h3
  obtain rfl := typed_nil g3
  exact ⟨a, b, s, rfl⟩
theorem law (m : Nat) (dss : List (List D)) (h : TypedAll [.cons (.i .i64) (.cons (.i .i64) (.cons (.s) (.nil))), .cons (.i .i64) (.cons (.i .i64) (.cons (.s) (.nil)))] dss m) : ACalls Try.prog 5 (argsV [.cons (.i .i64) (.cons (.i .i64) (.cons (.s) (.nil))), .cons (.i .i64) (.cons (.i .i64) (.cons (.s) (.nil)))] dss) [] fun v _ => v = .d (.b true) := by
  match dss, h with
  | [d1, d2], ⟨_, _, _, h1, _, _, _, h2, _⟩ =>
    obtain ⟨a, b, s, rfl⟩ := item h1
    obtain ⟨a', b', s', rfl⟩ := item h2
    exact relCompares_A a b s a' b' s' [] _ rfl
theorem globs {W : World} (h : laidMetH Try.prog Rows.relComparesRow.laid W) : Globs W := by
  intro g row hg
  change (none) = some row at hg
  cases hg
noncomputable def laidWorld (os : Os) : World :=
  let w0 := World.holding Try.prog os ⟨#[], #[], []⟩
  { w0 with heap := w0.heap }
theorem laid_met (os : Os) : laidMet Try.prog Rows.relComparesRow.laid ((laidWorld os).forCall (fun _ _ => 0) ⟨#[], #[.agg #[.int .i64 0, .int .i64 0, .string .empty], .agg #[.int .i64 0, .int .i64 0, .string .empty]], []⟩).memory :=
  laidMet_of_run' 8 (by kernel_rfl) (by kernel_rfl)
theorem reads (os : Os) {H : Type} (enc : TypeId × Value → H) : ∃ places, DataW.whole enc Try.prog ((laidWorld os).forCall (fun _ _ => 0) ⟨#[], #[.agg #[.int .i64 0, .int .i64 0, .string .empty], .agg #[.int .i64 0, .int .i64 0, .string .empty]], []⟩).memory Try.f5.params.toList Rows.relComparesSpec.vars false (#[.agg #[.int .i64 0, .int .i64 0, .string .empty], .agg #[.int .i64 0, .int .i64 0, .string .empty]] : Array Value).toList 8 = some ([.agg [.lit (.int .i64 0), .lit (.int .i64 0), .lit (.string [])], .agg [.lit (.int .i64 0), .lit (.int .i64 0), .lit (.string [])]], [], places) :=
  ⟨[], by kernel_rfl⟩
set_option maxRecDepth 100000 in
theorem lifted (os : Os) (started : os.Started) (H : Type) (enc : TypeId × Value → H) (F : Stop.Interp) :
    ReturnsInHanded {} Try.checked os 5 .any ((OpenSpec.ofChange Rows.relComparesSpec).preRow enc Try.prog Try.f5 Rows.relComparesRow.domain false Rows.relComparesRow.laid) (((OpenSpec.ofChange Rows.relComparesSpec).at F).post enc Try.prog Try.f5 false true false false) := by
  obtain ⟨places, hx⟩ := reads os enc
  refine returnsInHanded_of_row (C := Try.checked) (s := OpenSpec.ofChange Rows.relComparesSpec) own started (by kernel_rfl) Try.func5
    (witness_row_at (enc := enc) (C := Try.checked) false (laidWorld os) #[.agg #[.int .i64 0, .int .i64 0, .string .empty], .agg #[.int .i64 0, .int .i64 0, .string .empty]] rfl (by kernel_rfl) (by kernel_rfl) (by kernel_rfl)
      (OpenSpec.preRow_of_cond 8 hx (by kernel_rfl) (fun k hk => by cases hk) (by kernel_rfl) (laid_met os))) ?_
  intro W base args ds gs before hval hW _ _ _ hL _ _
  refine law_contractS (n := 12) (Ts := [.cons (.i .i64) (.cons (.i .i64) (.cons (.s) (.nil))), .cons (.i .i64) (.cons (.i .i64) (.cons (.s) (.nil)))]) (bt := 4) rfl (by kernel_rfl) Try.underlying4 (by kernel_rfl) (by kernel_rfl) (fun ds hds => ?_) law W (globs hL) args ds gs before base hval hW
  match ds, hds with
  | [d0, d1], _ => rfl
theorem said : Rows.RelComparesSaid :=
  OpenClaim.holds_of_cond 5 Try.f5 rfl rfl rfl rfl rfl rfl rfl ⟨rfl, rfl, rfl, rfl, rfl⟩ rfl rfl rfl rfl rfl (by kernel_rfl) Try.func5 (by kernel_rfl)
    (of_decide_eq_true (by kernel_rfl)) (by unfold Func.isWrapper; first | (rw [if_pos (by decide +kernel)]; kernel_rfl) | (rw [if_neg (by decide +kernel)]; exact ⟨rfl, rfl⟩))
    (fun os started H enc _ F => by rw [OpenClaim.pre_eq_preRow]; exact lifted os started H enc F)
theorem proved : Rows.RelComparesSaid := said
end Go.Proofs.Ytmalccaijjcepaa.relCompares
