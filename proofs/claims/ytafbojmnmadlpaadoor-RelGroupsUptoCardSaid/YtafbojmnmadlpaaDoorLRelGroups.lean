/- The law RelGroups holds wherever what it reads is of bulk at most 1048576: it returns true, and its arguments read as they did; the tables of package unicode/utf8 as the row lists them. -/
import Derived.Test.YtafbojmnmadlpaaDoorGv
import Derived.Test.YtafbojmnmadlpaaDoorGp2
import Derived.Test.YtafbojmnmadlpaaDoorGp3
import Derived.Test.YtafbojmnmadlpaaDoorAb17
import Derived.Test.YtafbojmnmadlpaaDoorCards
import Derived.Test.YtafbojmnmadlpaaDoorTie
import Derived.Deep.DeepHandedRow
import Derived.SevenTiedAt
set_option linter.all false
set_option linter.unusedSimpArgs false
set_option linter.unusedVariables false
namespace Go.Proofs.YtafbojmnmadlpaaDoor.relGroups
open Go Go.ChangeShapes Go.WideShapes Go.ChangeAt Go.RowKit Go.Proofs.YtafbojmnmadlpaaDoor.Ab
set_option maxHeartbeats 1000000
set_option maxRecDepth 20000
section
variable [Glo] [U8]

/- the live slots of pleacher/pleacherlaw.RelGroups -/
def ks_3 : Nat → List Nat
  | 0 => [1, 2, 3, 4, 5]
  | 1 => [1, 2, 3, 4, 5, 11, 12]
  | 2 => [11, 12, 13, 14]
  | 3 => [10]
  | _ => []
def mu_3 : List Nat := []
def in_3 : List Nat := [0, 1, 2, 3, 4]
def ro_3 : Nat → List Nat
  | 1 => [11]
  | 2 => [13]
  | _ => []
theorem walk (r : Rl) (hS : ShR r) (name part which col : List UInt8) (hn : name.length ≤ 1048576) (hp : part.length ≤ 1048576) (K : V → Heap → Prop) (hk : K (.d (.b true)) []) : ACalls Tryd.prog 3 [rlV r, .d (.s name), .d (.s part), .d (.s which), .d (.s col)] [] K := by
  have h1 := grouped_sh hS name part which col
  refine ACalls_of Tryd.func3 rfl in_3 (Nat.le_of_ble_eq_true rfl) ?_
  intro F hF
  simp (dsimp := false) only [go_sem, Nat.reduceAdd, Nat.reduceBEq, Nat.reduceEqDiff, Nat.reduceLT, Nat.reduceLeDiff, Nat.reduceMul, Int.reduceToNat, reduceCtorEq, ↓reduceIte, Tryd.ntmps3, Tryd.results3, ks_3, mu_3, ro_3, ti_ag25, ti_hb15, ti_hb16, ti_hb17, ti_hb18, ti_sz25, ti_zr25, rlV, rlD, relE, in_3] at hF
  subst hF
  repeat' (first
    | with_reducible refine And.intro ?_ ?_
    | with_reducible intro _
    | with_reducible refine AWp_seq ?_
    | with_reducible refine AWp_block ?_
    | (with_reducible refine hKv _ _ (AWp_nop ?_); clear hKv Kv)
    | (with_reducible refine hKv _ _ ?_; clear hKv Kv; simp (dsimp := false) only [go_sem, Nat.reduceAdd, Nat.reduceBEq, Nat.reduceEqDiff, Nat.reduceLT, Nat.reduceLeDiff, Nat.reduceMul, Int.reduceToNat, reduceCtorEq, ↓reduceIte, Tryd.ntmps3, Tryd.results3, ks_3, mu_3, ro_3, ti_ag25, ti_hb15, ti_hb16, ti_hb17, ti_hb18, ti_sz25, ti_zr25, rlV, rlD, relE])
    | (with_reducible refine hKA ?_; clear hKA hKB KA KB)
    | (with_reducible refine hKB ?_; clear hKA hKB KA KB)
    | ((first | with_reducible refine AWp_regro mu_3 ks_3 ro_3 ?_ | with_reducible refine AWp_regC mu_3 ks_3 ?_); intro Kv hKv; simp (dsimp := false) only [go_sem, Nat.reduceAdd, Nat.reduceBEq, Nat.reduceEqDiff, Nat.reduceLT, Nat.reduceLeDiff, Nat.reduceMul, Int.reduceToNat, reduceCtorEq, ↓reduceIte, Tryd.ntmps3, Tryd.results3, ks_3, mu_3, ro_3, ti_ag25, ti_hb15, ti_hb16, ti_hb17, ti_hb18, ti_sz25, ti_zr25, rlV, rlD, relE])
    | with_reducible refine AWp_skipN ?_
    | with_reducible refine AWp_exitO (by repeat (first | with_reducible exact Out.hit | with_reducible apply Out.thenA | with_reducible apply Out.out rfl)) ?_
    | (with_reducible refine AWp_retR ?_; simp (dsimp := false) only [go_sem, Nat.reduceAdd, Nat.reduceBEq, Nat.reduceEqDiff, Nat.reduceLT, Nat.reduceLeDiff, Nat.reduceMul, Int.reduceToNat, reduceCtorEq, ↓reduceIte, Tryd.ntmps3, Tryd.results3, ks_3, mu_3, ro_3, ti_ag25, ti_hb15, ti_hb16, ti_hb17, ti_hb18, ti_sz25, ti_zr25, rlV, rlD, relE])
    | (with_reducible refine AWp_regE mu_3 ks_3 ?_; intro Kv hKv; simp (dsimp := false) only [go_sem, Nat.reduceAdd, Nat.reduceBEq, Nat.reduceEqDiff, Nat.reduceLT, Nat.reduceLeDiff, Nat.reduceMul, Int.reduceToNat, reduceCtorEq, ↓reduceIte, Tryd.ntmps3, Tryd.results3, ks_3, mu_3, ro_3, ti_ag25, ti_hb15, ti_hb16, ti_hb17, ti_hb18, ti_sz25, ti_zr25, rlV, rlD, relE])
    | (refine AWp_condC rfl ?_; intro KA KB hKA hKB; try simp only [onB_true, onB_false, onB_dec, onB_ndec, onB_not, onB_and, onB_or])
    | (refine AWp_condA rfl ?_ ?_)
    | ((first | refine rels_A r hS _ _ ?_ | refine group_A r hS name part which col hn hp _ _ ?_ | refine groupedOf_A r hS name part which col hn hp _ _ ?_ | refine sameRel_A (grouped r name part which col).1 h1.1 h1.2.1 h1.2.2 _ _ ?_); try simp (dsimp := false) only [go_sem, Nat.reduceAdd, Nat.reduceBEq, Nat.reduceEqDiff, Nat.reduceLT, Nat.reduceLeDiff, Nat.reduceMul, Int.reduceToNat, reduceCtorEq, ↓reduceIte, Tryd.ntmps3, Tryd.results3, ks_3, mu_3, ro_3, ti_ag25, ti_hb15, ti_hb16, ti_hb17, ti_hb18, ti_sz25, ti_zr25, rlV, rlD, relE])
    | with_reducible refine onB_of ?_ ?_
    | with_reducible rfl
    | omega)
  all_goals first
    | exact keepD hk rfl
    | exact keepD hk (by simp)
    | exact dropD hk rfl
    | exact dropD hk (by simp)
end
instance gl : Glo := ⟨fun g => if g = 3 then some acceptRow else if g = 2 then some firstRow else none⟩
instance : U8 := ⟨rfl, rfl⟩
theorem law (dss : List (List D)) (h : TypedAll [.cons (.sl (.s)) (.cons (.sl (.sl (.cons (.i .i64) (.cons (.i .i64) (.cons (.s) (.nil)))))) (.nil)), .s, .s, .s, .s] dss 1048576) : ACalls Tryd.prog 3 (argsV [.cons (.sl (.s)) (.cons (.sl (.sl (.cons (.i .i64) (.cons (.i .i64) (.cons (.s) (.nil)))))) (.nil)), .s, .s, .s, .s] dss) [] fun v _ => v = .d (.b true) := by
  match dss, h with
  | [d1, d2, d3, d4, d5], ⟨_, _, _, h1, _, _, _, h2, _, _, _, h3, _, _, _, h4, _, _, _, h5, _⟩ =>
    obtain ⟨r, rfl, hr⟩ := typed_rl (by omega) h1
    obtain ⟨a, rfl, ha⟩ := typed_s h2
    obtain ⟨b, rfl, hb⟩ := typed_s h3
    obtain ⟨c, rfl, hc⟩ := typed_s h4
    obtain ⟨d, rfl, hd⟩ := typed_s h5
    exact walk r hr a b c d (by omega) (by omega) _ rfl
theorem globs {W : World} (h : laidMetH Tryd.prog Rows.relGroupsUptoRow.laid W) : Globs W := by
  have r0 := Lib.laidMet.reads h (.head _)
  have r1 := Lib.laidMet.reads h (.tail _ (.head _))
  intro g row hg
  change (if g = 3 then some acceptRow else if g = 2 then some firstRow else none) = some row at hg
  split at hg
  · rename_i e
    subst e
    cases hg
    exact var_row (n := 8) (t := 177) (by kernel_rfl) (by kernel_rfl) (by kernel_rfl) (by decide) r0 (fun _ h => h)
  ·
    split at hg
    · rename_i e
      subst e
      cases hg
      exact var_row (n := 8) (t := 174) (by kernel_rfl) (by kernel_rfl) (by kernel_rfl) (by decide) r1 (fun _ h => h)
    ·
      cases hg
noncomputable def laidWorld (os : Os) : World :=
  let w0 := World.holding Tryd.prog os ⟨#[], #[], []⟩
  { w0 with heap := putRow (putRow (w0.heap) 3 acceptRow) 2 firstRow }
theorem laid_met (os : Os) : laidMet Tryd.prog Rows.relGroupsUptoRow.laid ((laidWorld os).forCall (fun _ _ => 0) ⟨#[], #[.agg #[.slice none 0 0, .slice none 0 0], .string .empty, .string .empty, .string .empty, .string .empty], []⟩).memory :=
  laidMet_of_run' 8 (by kernel_rfl) (by kernel_rfl)
theorem reads (os : Os) {H : Type} (enc : TypeId × Value → H) : ∃ places, DataW.whole enc Tryd.prog ((laidWorld os).forCall (fun _ _ => 0) ⟨#[], #[.agg #[.slice none 0 0, .slice none 0 0], .string .empty, .string .empty, .string .empty, .string .empty], []⟩).memory Tryd.f3.params.toList Rows.relGroupsSpec.vars false (#[.agg #[.slice none 0 0, .slice none 0 0], .string .empty, .string .empty, .string .empty, .string .empty] : Array Value).toList 8 = some ([.agg [.nil, .nil], .lit (.string []), .lit (.string []), .lit (.string []), .lit (.string [])], [], places) :=
  ⟨[], by kernel_rfl⟩
set_option maxRecDepth 100000 in
theorem lifted (os : Os) (started : os.Started) (H : Type) (enc : TypeId × Value → H) (F : Stop.Interp) :
    ReturnsInHanded {} Tryd.checked os 3 .any ((Rows.OpenSpec.upto Rows.relGroupsSpec).preRow enc Tryd.prog Tryd.f3 Rows.relGroupsUptoRow.domain false Rows.relGroupsUptoRow.laid) (((Rows.OpenSpec.upto Rows.relGroupsSpec).at F).post enc Tryd.prog Tryd.f3 false true false false) := by
  obtain ⟨places, hx⟩ := reads os enc
  refine returnsInHanded_of_row (C := Tryd.checked) (s := Rows.OpenSpec.upto Rows.relGroupsSpec) own started (by kernel_rfl) Tryd.func3
    (witness_row_at (enc := enc) (C := Tryd.checked) false (laidWorld os) #[.agg #[.slice none 0 0, .slice none 0 0], .string .empty, .string .empty, .string .empty, .string .empty] rfl (by kernel_rfl) (by kernel_rfl) (by kernel_rfl)
      (OpenSpec.preRow_of_cond 8 hx (by kernel_rfl) (fun k hk => by cases hk; kernel_rfl) (by kernel_rfl) (laid_met os))) ?_
  intro W base args ds gs before hval hW _ hcond _ hL _ _
  refine law_contract (n := 12) (Ts := [.cons (.sl (.s)) (.cons (.sl (.sl (.cons (.i .i64) (.cons (.i .i64) (.cons (.s) (.nil)))))) (.nil)), .s, .s, .s, .s]) (bt := 4) rfl (by kernel_rfl) Tryd.underlying4 (by kernel_rfl) (by kernel_rfl) (fun ds hds => ?_) law W (globs hL) args ds gs before base hval hW (hcond _ rfl)
  match ds, hds with
  | [d0, d1, d2, d3, d4], _ => rfl
theorem said : Rows.RelGroupsUptoSaid :=
  OpenClaim.holds_of_cond 3 Tryd.f3 rfl rfl rfl rfl rfl rfl rfl ⟨rfl, rfl, rfl, rfl, rfl⟩ rfl rfl rfl rfl rfl (by kernel_rfl) Tryd.func3 (by kernel_rfl)
    (of_decide_eq_true (by kernel_rfl)) (by unfold Func.isWrapper; first | (rw [if_pos (by decide +kernel)]; kernel_rfl) | (rw [if_neg (by decide +kernel)]; exact ⟨rfl, rfl⟩))
    (fun os started H enc _ F => by rw [OpenClaim.pre_eq_preRow]; exact lifted os started H enc F)
theorem plain (f : FuncId) (fn : Func) (hf : Tryd.pinned.checked.prog.funcNamed Rows.relGroupsUptoRow.func = some f) (hfn : Tryd.pinned.checked.prog.funcs[f]? = some fn) :
    false = Tryd.pinned.checked.prog.looks [] ∧ ∀ (j : Nat) t, fn.params[j]? = some t → Tryd.pinned.checked.prog.wantsStandIn t = false := by
  obtain rfl : f = 3 := Option.some.inj ((show Tryd.prog.funcNamed Rows.relGroupsUptoRow.func = some 3 by kernel_rfl).symm.trans hf) |>.symm
  obtain rfl : fn = Tryd.f3 := (Option.some.inj (Tryd.func3.symm.trans hfn)).symm
  refine ⟨by kernel_rfl, fun j t ht => ?_⟩
  have hm : t ∈ Tryd.f3.params.toList := by simpa using Array.mem_of_getElem? ht
  have hall : (Tryd.f3.params.toList.all fun u => !Tryd.prog.wantsStandIn u) = true := by kernel_rfl
  exact (show Tryd.prog.wantsStandIn t = false by simpa using List.all_eq_true.1 hall t hm)
theorem proved : Rows.RelGroupsUptoCardSaid :=
  Claim7.holds_tied_plain_at .later [] _ _ _ _ said (fun _ h => by cases h) (by kernel_rfl) (fun _ h => by cases h) relGroupsUpto_row_tie rfl ⟨rfl, rfl⟩ (by kernel_rfl) rfl plain (by kernel_rfl)
end Go.Proofs.YtafbojmnmadlpaaDoor.relGroups
