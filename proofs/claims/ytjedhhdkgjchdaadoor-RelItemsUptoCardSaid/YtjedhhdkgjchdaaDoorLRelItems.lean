/- The law RelItems holds wherever what it reads is of bulk at most 1048576: it returns true, and its argument reads as it did; the tables of package unicode/utf8 as the row lists them. -/
import Derived.Test.YtjedhhdkgjchdaaDoorGv
import Derived.Test.YtjedhhdkgjchdaaDoorRel2
import Derived.Test.YtjedhhdkgjchdaaDoorCards
import Derived.Test.YtjedhhdkgjchdaaDoorTie
import Derived.Deep.DeepHandedRow
import Derived.SevenTiedAt
set_option linter.all false
set_option linter.unusedSimpArgs false
set_option linter.unusedVariables false
namespace Go.Proofs.YtjedhhdkgjchdaaDoor.relItems
open Go Go.ChangeShapes Go.WideShapes Go.ChangeAt Go.RowKit Go.Proofs.YtjedhhdkgjchdaaDoor.Ab
set_option maxHeartbeats 1000000
set_option maxRecDepth 20000
section
variable [Glo] [U8]

/- the live slots of pleacher/pleacherlaw.RelItems -/
def ks_4 : Nat → List Nat
  | 0 => [1]
  | 1 => [1, 3]
  | 2 => [3, 4]
  | 3 => [2]
  | _ => []
def mu_4 : List Nat := []
def in_4 : List Nat := [0]
theorem walk (x : It) (hs : x.s.length ≤ 9223372036854775807) (K : V → Heap → Prop) (hk : K (.d (.b true)) []) : ACalls Tryd.prog 4 [itV x] [] K := by
  refine ACalls_of Tryd.func4 rfl in_4 (Nat.le_of_ble_eq_true rfl) ?_
  simp only [go_sem, Nat.reduceAdd, Nat.reduceBEq, Nat.reduceEqDiff, Nat.reduceLT, Nat.reduceLeDiff, Nat.reduceMul, Int.reduceToNat, reduceCtorEq, ↓reduceIte, Tryd.ntmps4, Tryd.results4, ks_4, mu_4, ti_ag26, ti_hb14, ti_hb15, ti_sz26, itD, itV, in_4]
  repeat' (first
    | refine AWp_seq ?_
    | refine AWp_block ?_
    | (refine AWp_reg mu_4 ks_4 ?_; simp only [go_sem, Nat.reduceAdd, Nat.reduceBEq, Nat.reduceEqDiff, Nat.reduceLT, Nat.reduceLeDiff, Nat.reduceMul, Int.reduceToNat, reduceCtorEq, ↓reduceIte, Tryd.ntmps4, Tryd.results4, ks_4, mu_4, ti_ag26, ti_hb14, ti_hb15, ti_sz26, itD, itV])
    | (refine AWp_cond rfl ?_; try simp only [go_sem, Nat.reduceAdd, Nat.reduceBEq, Nat.reduceEqDiff, Nat.reduceLT, Nat.reduceLeDiff, Nat.reduceMul, Int.reduceToNat, reduceCtorEq, ↓reduceIte, Tryd.ntmps4, Tryd.results4, ks_4, mu_4, ti_ag26, ti_hb14, ti_hb15, ti_sz26, itD, itV])
    | (refine AWp_skip ?_; simp only [go_sem, Nat.reduceAdd, Nat.reduceBEq, Nat.reduceEqDiff, Nat.reduceLT, Nat.reduceLeDiff, Nat.reduceMul, Int.reduceToNat, reduceCtorEq, ↓reduceIte, Tryd.ntmps4, Tryd.results4, ks_4, mu_4, ti_ag26, ti_hb14, ti_hb15, ti_sz26, itD, itV])
    | (refine AWp_ret ?_; simp only [go_sem, Nat.reduceAdd, Nat.reduceBEq, Nat.reduceEqDiff, Nat.reduceLT, Nat.reduceLeDiff, Nat.reduceMul, Int.reduceToNat, reduceCtorEq, ↓reduceIte, Tryd.ntmps4, Tryd.results4, ks_4, mu_4, ti_ag26, ti_hb14, ti_hb15, ti_sz26, itD, itV])
    | (refine AWp_exit ?_; simp only [go_sem, Nat.reduceAdd, Nat.reduceBEq, Nat.reduceEqDiff, Nat.reduceLT, Nat.reduceLeDiff, Nat.reduceMul, Int.reduceToNat, reduceCtorEq, ↓reduceIte, Tryd.ntmps4, Tryd.results4, ks_4, mu_4, ti_ag26, ti_hb14, ti_hb15, ti_sz26, itD, itV])
    | (refine checkItem_A _ hs _ _ ?_; try simp only [go_sem, Nat.reduceAdd, Nat.reduceBEq, Nat.reduceEqDiff, Nat.reduceLT, Nat.reduceLeDiff, Nat.reduceMul, Int.reduceToNat, reduceCtorEq, ↓reduceIte, Tryd.ntmps4, Tryd.results4, ks_4, mu_4, ti_ag26, ti_hb14, ti_hb15, ti_sz26, itD, itV])
    | (refine itemFault_A _ hs _ _ ?_; try simp only [go_sem, Nat.reduceAdd, Nat.reduceBEq, Nat.reduceEqDiff, Nat.reduceLT, Nat.reduceLeDiff, Nat.reduceMul, Int.reduceToNat, reduceCtorEq, ↓reduceIte, Tryd.ntmps4, Tryd.results4, ks_4, mu_4, ti_ag26, ti_hb14, ti_hb15, ti_sz26, itD, itV])
    | refine And.intro ?_ ?_
    | intro _
    | refine onB_of ?_ ?_
    | with_reducible rfl
    | omega)
  all_goals exact keepD hk (by simp)
end
instance gl : Glo := ⟨fun g => if g = 1 then some acceptRow else if g = 0 then some firstRow else none⟩
instance : U8 := ⟨rfl, rfl⟩
theorem law (dss : List (List D)) (h : TypedAll [.cons (.i .i64) (.cons (.i .i64) (.cons (.s) (.nil)))] dss 1048576) : ACalls Tryd.prog 4 (argsV [.cons (.i .i64) (.cons (.i .i64) (.cons (.s) (.nil)))] dss) [] fun v _ => v = .d (.b true) := by
  match dss, h with
  | [d1], ⟨_, _, _, h1, _⟩ =>
    obtain ⟨x, rfl, hx, _⟩ := typed_it h1
    exact walk x (by omega) _ rfl
theorem globs {W : World} (h : laidMetH Tryd.prog Rows.relItemsUptoRow.laid W) : Globs W := by
  have r0 := Lib.laidMet.reads h (.head _)
  have r1 := Lib.laidMet.reads h (.tail _ (.head _))
  intro g row hg
  change (if g = 1 then some acceptRow else if g = 0 then some firstRow else none) = some row at hg
  split at hg
  · rename_i e
    subst e
    cases hg
    exact var_row (n := 8) (t := 105) (by kernel_rfl) (by kernel_rfl) (by kernel_rfl) (by decide) r0 (fun _ h => h)
  ·
    split at hg
    · rename_i e
      subst e
      cases hg
      exact var_row (n := 8) (t := 102) (by kernel_rfl) (by kernel_rfl) (by kernel_rfl) (by decide) r1 (fun _ h => h)
    ·
      cases hg
noncomputable def laidWorld (os : Os) : World :=
  let w0 := World.holding Tryd.prog os ⟨#[], #[], []⟩
  { w0 with heap := putRow (putRow (w0.heap) 1 acceptRow) 0 firstRow }
theorem laid_met (os : Os) : laidMet Tryd.prog Rows.relItemsUptoRow.laid ((laidWorld os).forCall (fun _ _ => 0) ⟨#[], #[.agg #[.int .i64 0, .int .i64 0, .string .empty]], []⟩).memory :=
  laidMet_of_run' 8 (by kernel_rfl) (by kernel_rfl)
theorem reads (os : Os) {H : Type} (enc : TypeId × Value → H) : ∃ places, DataW.whole enc Tryd.prog ((laidWorld os).forCall (fun _ _ => 0) ⟨#[], #[.agg #[.int .i64 0, .int .i64 0, .string .empty]], []⟩).memory Tryd.f4.params.toList Rows.relItemsSpec.vars false (#[.agg #[.int .i64 0, .int .i64 0, .string .empty]] : Array Value).toList 8 = some ([.agg [.lit (.int .i64 0), .lit (.int .i64 0), .lit (.string [])]], [], places) :=
  ⟨[], by kernel_rfl⟩
set_option maxRecDepth 100000 in
theorem lifted (os : Os) (started : os.Started) (H : Type) (enc : TypeId × Value → H) (F : Stop.Interp) :
    ReturnsInHanded {} Tryd.checked os 4 .any ((Rows.OpenSpec.upto Rows.relItemsSpec).preRow enc Tryd.prog Tryd.f4 Rows.relItemsUptoRow.domain false Rows.relItemsUptoRow.laid) (((Rows.OpenSpec.upto Rows.relItemsSpec).at F).post enc Tryd.prog Tryd.f4 false true false false) := by
  obtain ⟨places, hx⟩ := reads os enc
  refine returnsInHanded_of_row (C := Tryd.checked) (s := Rows.OpenSpec.upto Rows.relItemsSpec) own started (by kernel_rfl) Tryd.func4
    (witness_row_at (enc := enc) (C := Tryd.checked) false (laidWorld os) #[.agg #[.int .i64 0, .int .i64 0, .string .empty]] rfl (by kernel_rfl) (by kernel_rfl) (by kernel_rfl)
      (OpenSpec.preRow_of_cond 8 hx (by kernel_rfl) (fun k hk => by cases hk; kernel_rfl) (by kernel_rfl) (laid_met os))) ?_
  intro W base args ds gs before hval hW _ hcond _ hL _ _
  refine law_contract (n := 12) (Ts := [.cons (.i .i64) (.cons (.i .i64) (.cons (.s) (.nil)))]) (bt := 4) rfl (by kernel_rfl) Tryd.underlying4 (by kernel_rfl) (by kernel_rfl) (fun ds hds => ?_) law W (globs hL) args ds gs before base hval hW (hcond _ rfl)
  match ds, hds with
  | [d0], _ => rfl
theorem said : Rows.RelItemsUptoSaid :=
  OpenClaim.holds_of_cond 4 Tryd.f4 rfl rfl rfl rfl rfl rfl rfl ⟨rfl, rfl, rfl, rfl, rfl⟩ rfl rfl rfl rfl rfl (by kernel_rfl) Tryd.func4 (by kernel_rfl)
    (of_decide_eq_true (by kernel_rfl)) (by unfold Func.isWrapper; first | (rw [if_pos (by decide +kernel)]; kernel_rfl) | (rw [if_neg (by decide +kernel)]; exact ⟨rfl, rfl⟩))
    (fun os started H enc _ F => by rw [OpenClaim.pre_eq_preRow]; exact lifted os started H enc F)
theorem plain (f : FuncId) (fn : Func) (hf : Tryd.pinned.checked.prog.funcNamed Rows.relItemsUptoRow.func = some f) (hfn : Tryd.pinned.checked.prog.funcs[f]? = some fn) :
    false = Tryd.pinned.checked.prog.looks [] ∧ ∀ (j : Nat) t, fn.params[j]? = some t → Tryd.pinned.checked.prog.wantsStandIn t = false := by
  obtain rfl : f = 4 := Option.some.inj ((show Tryd.prog.funcNamed Rows.relItemsUptoRow.func = some 4 by kernel_rfl).symm.trans hf) |>.symm
  obtain rfl : fn = Tryd.f4 := (Option.some.inj (Tryd.func4.symm.trans hfn)).symm
  refine ⟨by kernel_rfl, fun j t ht => ?_⟩
  have hm : t ∈ Tryd.f4.params.toList := by simpa using Array.mem_of_getElem? ht
  have hall : (Tryd.f4.params.toList.all fun u => !Tryd.prog.wantsStandIn u) = true := by kernel_rfl
  exact (show Tryd.prog.wantsStandIn t = false by simpa using List.all_eq_true.1 hall t hm)
theorem proved : Rows.RelItemsUptoCardSaid :=
  Claim7.holds_tied_plain_at .later [] _ _ _ _ said (fun _ h => by cases h) (by kernel_rfl) (fun _ h => by cases h) relItemsUpto_row_tie rfl ⟨rfl, rfl⟩ (by kernel_rfl) rfl plain (by kernel_rfl)
end Go.Proofs.YtjedhhdkgjchdaaDoor.relItems
