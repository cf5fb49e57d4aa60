/- The law XmlNames holds: it returns true at every argument, and its argument reads as it did. No condition. -/
import Derived.Test.YtmalccaijjcepaaLwS
import Derived.Test.YtmalccaijjcepaaBr
import Derived.Test.YtmalccaijjcepaaXml1
import Derived.Deep.DeepHandedRow
import Derived.LaidLaws
set_option linter.all false
set_option linter.unusedSimpArgs false
set_option linter.unusedVariables false
namespace Go.Proofs.Ytmalccaijjcepaa.xmlNames
open Go Go.ChangeShapes Go.WideShapes Go.ChangeAt Go.RowKit Go.Proofs.Ytmalccaijjcepaa.Ab
set_option maxHeartbeats 1000000
set_option maxRecDepth 20000
instance gl : Glo := ⟨fun _ => none⟩
/- the live slots of pleacher/pleacherlaw.XmlNames -/
def ks_4 : Nat → List Nat
  | 0 => [0]
  | 1 => [0, 3]
  | 2 => [3, 4]
  | 3 => [2]
  | _ => []
def mu_4 : List Nat := []
def in_4 : List Nat := [0]
theorem walk (l : List UInt8) (hlen : l.length ≤ 9223372036854775807) (K : V → Heap → Prop) (hk : K (.d (.b true)) []) : ACalls Try.prog 4 [.d (.s l)] [] K := by
  refine ACalls_of Try.func4 rfl in_4 (Nat.le_of_ble_eq_true rfl) ?_
  intro F hF
  simp (dsimp := false) only [go_sem, Nat.reduceAdd, Nat.reduceBEq, Nat.reduceEqDiff, Nat.reduceLT, Nat.reduceLeDiff, Nat.reduceMul, Int.reduceToNat, reduceCtorEq, ↓reduceIte, Try.ntmps4, Try.results4, ks_4, mu_4, ti_hb6, ti_hb7, in_4] at hF
  subst hF
  repeat' (first | with_reducible (first | refine And.intro ?_ ?_ | intro _ | refine AWp_seq ?_ | refine AWp_block ?_ | (refine hKv _ _ (AWp_nop ?_); clear hKv Kv) | (refine hKA ?_; clear hKA hKB KA KB) | (refine hKB ?_; clear hKA hKB KA KB) | refine AWp_skipN ?_ | refine AWp_exitO (by repeat (first | exact Out.hit | apply Out.thenA | apply Out.out rfl)) ?_) | ((first | with_reducible (first | (refine hKv _ _ ?_; clear hKv Kv) | ((first | refine AWp_regC mu_4 ks_4 ?_ | refine AWp_regE mu_4 ks_4 ?_); intro Kv hKv) | refine AWp_retR ?_) | refine checkName_A _ hlen _ _ ?_ | refine nameFault_A _ hlen _ _ ?_); try simp (dsimp := false) only [go_sem, Nat.reduceAdd, Nat.reduceBEq, Nat.reduceEqDiff, Nat.reduceLT, Nat.reduceLeDiff, Nat.reduceMul, Int.reduceToNat, reduceCtorEq, ↓reduceIte, Try.ntmps4, Try.results4, ks_4, mu_4, ti_hb6, ti_hb7]) | (refine AWp_condC rfl ?_; intro KA KB hKA hKB; try simp only [onB_true, onB_false, onB_dec, onB_ndec, onB_not, onB_and, onB_or]) | (refine AWp_condA rfl ?_ ?_) | with_reducible (first | refine onB_of ?_ ?_ | rfl) | omega)
  all_goals exact keepD hk (by simp)
theorem law (m : Nat) (dss : List (List D)) (h : TypedAll [.s] dss m) : ACalls Try.prog 4 (argsV [.s] dss) [] fun v _ => v = .d (.b true) := by
  match dss, h with
  | [d1], ⟨_, _, _, h1, _⟩ =>
    obtain ⟨l, rfl, hl⟩ := typed_s2 h1
    exact walk l hl _ rfl
theorem globs {W : World} (h : laidMetH Try.prog Rows.xmlNamesRow.laid W) : Globs W := by
  intro g row hg
  change (none) = some row at hg
  cases hg
noncomputable def laidWorld (os : Os) : World :=
  let w0 := World.holding Try.prog os ⟨#[], #[], []⟩
  { w0 with heap := w0.heap }
theorem laid_met (os : Os) : laidMet Try.prog Rows.xmlNamesRow.laid ((laidWorld os).forCall (fun _ _ => 0) ⟨#[], #[.string .empty], []⟩).memory :=
  laidMet_of_run' 8 (by kernel_rfl) (by kernel_rfl)
theorem reads (os : Os) {H : Type} (enc : TypeId × Value → H) : ∃ places, DataW.whole enc Try.prog ((laidWorld os).forCall (fun _ _ => 0) ⟨#[], #[.string .empty], []⟩).memory Try.f4.params.toList Rows.xmlNamesSpec.vars false (#[.string .empty] : Array Value).toList 8 = some ([.lit (.string [])], [], places) :=
  ⟨[], by kernel_rfl⟩
set_option maxRecDepth 100000 in
theorem lifted (os : Os) (started : os.Started) (H : Type) (enc : TypeId × Value → H) (F : Stop.Interp) :
    ReturnsInHanded {} Try.checked os 4 .any ((OpenSpec.ofChange Rows.xmlNamesSpec).preRow enc Try.prog Try.f4 Rows.xmlNamesRow.domain false Rows.xmlNamesRow.laid) (((OpenSpec.ofChange Rows.xmlNamesSpec).at F).post enc Try.prog Try.f4 false true false false) := by
  obtain ⟨places, hx⟩ := reads os enc
  refine returnsInHanded_of_row (C := Try.checked) (s := OpenSpec.ofChange Rows.xmlNamesSpec) own started (by kernel_rfl) Try.func4
    (witness_row_at (enc := enc) (C := Try.checked) false (laidWorld os) #[.string .empty] rfl (by kernel_rfl) (by kernel_rfl) (by kernel_rfl)
      (OpenSpec.preRow_of_cond 8 hx (by kernel_rfl) (fun k hk => by cases hk) (by kernel_rfl) (laid_met os))) ?_
  intro W base args ds gs before hval hW _ _ _ hL _ _
  refine law_contractS (n := 12) (Ts := [.s]) (bt := 4) rfl (by kernel_rfl) Try.underlying4 (by kernel_rfl) (by kernel_rfl) (fun ds hds => ?_) law W (globs hL) args ds gs before base hval hW
  match ds, hds with
  | [d0], _ => rfl
theorem said : Rows.XmlNamesSaid :=
  OpenClaim.holds_of_cond 4 Try.f4 rfl rfl rfl rfl rfl rfl rfl ⟨rfl, rfl, rfl, rfl, rfl⟩ rfl rfl rfl rfl rfl (by kernel_rfl) Try.func4 (by kernel_rfl)
    (of_decide_eq_true (by kernel_rfl)) (by unfold Func.isWrapper; first | (rw [if_pos (by decide +kernel)]; kernel_rfl) | (rw [if_neg (by decide +kernel)]; exact ⟨rfl, rfl⟩))
    (fun os started H enc _ F => by rw [OpenClaim.pre_eq_preRow]; exact lifted os started H enc F)
theorem proved : Rows.XmlNamesSaid := said
end Go.Proofs.Ytmalccaijjcepaa.xmlNames
