/- The law ReadTokens holds: it returns true at every argument, and its argument reads as it did; the tables as the row lists them. No condition. -/
import Derived.Test.YtmalccaijjcepaaDoorGv
import Derived.Test.YtmalccaijjcepaaDoorLwS
import Derived.Test.YtmalccaijjcepaaDoorRt0
import Derived.Test.YtmalccaijjcepaaDoorCards
import Derived.Test.YtmalccaijjcepaaDoorTie
import Derived.Deep.DeepHandedRow
import Derived.SevenTiedAt
set_option linter.all false
set_option linter.unusedSimpArgs false
set_option linter.unusedVariables false
namespace Go.Proofs.YtmalccaijjcepaaDoor.readTokens
open Go Go.ChangeShapes Go.WideShapes Go.ChangeAt Go.RowKit Go.Proofs.YtmalccaijjcepaaDoor.Ab
set_option maxHeartbeats 1000000
set_option maxRecDepth 20000
section
variable [Glo] [U8] [Mk]
theorem typed_tk2 {ds : List D} {m : Nat} (h : Typed tyTk ds m) : ∃ x : Tk, ds = tkD x ∧ x.s.length ≤ 9223372036854775807 := by
  obtain ⟨_, _, _, _, rfl, _, h1, g1⟩ := typed_cons h
  obtain ⟨_, _, _, _, rfl, _, h2, g2⟩ := typed_cons g1
  obtain ⟨_, _, _, _, rfl, _, h3, g3⟩ := typed_cons g2
  obtain ⟨a, rfl, _⟩ := typed_i h1
  obtain ⟨b, rfl, hs⟩ := typed_s2 h2
  obtain ⟨s, rfl, _⟩ := typed_i h3
  obtain rfl := typed_nil g3
  exact ⟨⟨a, b, s⟩, rfl, hs⟩

/- the live slots of pleacher/pleacherlaw.ReadTokens -/
def ks_10 : Nat → List Nat
  | 0 => [1]
  | 1 => [1, 3]
  | 2 => [3, 4]
  | 3 => [2]
  | _ => []
def mu_10 : List Nat := []
def in_10 : List Nat := [0]
theorem walk (t : Tk) (hs : t.s.length ≤ 9223372036854775807) (K : V → Heap → Prop) (hk : K (.d (.b true)) []) : ACalls Tryd.prog 10 [tkV t] [] K := by
  refine ACalls_of Tryd.func10 rfl in_10 (Nat.le_of_ble_eq_true rfl) ?_
  intro F hF
  simp (dsimp := false) only [go_sem, Nat.reduceAdd, Nat.reduceBEq, Nat.reduceEqDiff, Nat.reduceLT, Nat.reduceLeDiff, Nat.reduceMul, Int.reduceToNat, reduceCtorEq, ↓reduceIte, Tryd.ntmps10, Tryd.results10, ks_10, mu_10, ti_ag52, ti_hb29, ti_hb30, ti_sz52, tkD, tkV, in_10] at hF
  subst hF
  repeat' (first | with_reducible (first | refine And.intro ?_ ?_ | intro _ | refine AWp_seq ?_ | refine AWp_block ?_ | (refine hKv _ _ (AWp_nop ?_); clear hKv Kv) | (refine hKA ?_; clear hKA hKB KA KB) | (refine hKB ?_; clear hKA hKB KA KB) | refine AWp_skipN ?_ | refine AWp_exitO (by repeat (first | exact Out.hit | apply Out.thenA | apply Out.out rfl)) ?_) | ((first | with_reducible (first | (refine hKv _ _ ?_; clear hKv Kv) | ((first | refine AWp_regC mu_10 ks_10 ?_ | refine AWp_regE mu_10 ks_10 ?_); intro Kv hKv) | refine AWp_retR ?_) | refine checkToken_A t hs _ _ ?_ | refine tokenFault_A t hs _ _ ?_); try simp (dsimp := false) only [go_sem, Nat.reduceAdd, Nat.reduceBEq, Nat.reduceEqDiff, Nat.reduceLT, Nat.reduceLeDiff, Nat.reduceMul, Int.reduceToNat, reduceCtorEq, ↓reduceIte, Tryd.ntmps10, Tryd.results10, ks_10, mu_10, ti_ag52, ti_hb29, ti_hb30, ti_sz52, tkD, tkV]) | (refine AWp_condC rfl ?_; intro KA KB hKA hKB; try simp only [onB_true, onB_false, onB_dec, onB_ndec, onB_not, onB_and, onB_or]) | (refine AWp_condA rfl ?_ ?_) | with_reducible (first | refine onB_of ?_ ?_ | rfl) | omega)
  all_goals first
    | exact keepD hk rfl
    | exact keepD hk (by simp)
end
instance gl : Glo := ⟨fun g => if g = 2 then some acceptRow else if g = 0 then some marksRow else if g = 1 then some firstRow else none⟩
instance : U8 := ⟨rfl, rfl⟩
instance : Mk := ⟨rfl⟩
theorem law (m : Nat) (dss : List (List D)) (h : TypedAll [.cons (.i .i64) (.cons (.s) (.cons (.i .i64) (.nil)))] dss m) : ACalls Tryd.prog 10 (argsV [.cons (.i .i64) (.cons (.s) (.cons (.i .i64) (.nil)))] dss) [] fun v _ => v = .d (.b true) := by
  match dss, h with
  | [d1], ⟨_, _, _, h1, _⟩ =>
    obtain ⟨t, rfl, hs⟩ := typed_tk2 h1
    exact walk t hs _ rfl
theorem globs {W : World} (h : laidMetH Tryd.prog Rows.readTokensRow.laid W) : Globs W := by
  have r0 := Lib.laidMet.reads h (.head _)
  have r1 := Lib.laidMet.reads h (.tail _ (.head _))
  have r2 := Lib.laidMet.reads h (.tail _ (.tail _ (.head _)))
  intro g row hg
  change (if g = 2 then some acceptRow else if g = 0 then some marksRow else if g = 1 then some firstRow else none) = some row at hg
  split at hg
  · rename_i e
    subst e
    cases hg
    exact var_row (n := 8) (t := 99) (by kernel_rfl) (by kernel_rfl) (by kernel_rfl) (by decide) r0 (fun _ h => h)
  ·
    split at hg
    · rename_i e
      subst e
      cases hg
      exact var_row (n := 8) (t := 87) (by kernel_rfl) (by kernel_rfl) (by kernel_rfl) (by decide) r1 (fun _ h => h)
    ·
      split at hg
      · rename_i e
        subst e
        cases hg
        exact var_row (n := 8) (t := 96) (by kernel_rfl) (by kernel_rfl) (by kernel_rfl) (by decide) r2 (fun _ h => h)
      ·
        cases hg
noncomputable def laidWorld (os : Os) : World :=
  let w0 := World.holding Tryd.prog os ⟨#[], #[], []⟩
  { w0 with heap := putRow (putRow (putRow (w0.heap) 2 acceptRow) 0 marksRow) 1 firstRow }
theorem laid_met (os : Os) : laidMet Tryd.prog Rows.readTokensRow.laid ((laidWorld os).forCall (fun _ _ => 0) ⟨#[], #[.agg #[.int .i64 0, .string .empty, .int .i64 0]], []⟩).memory :=
  laidMet_of_run' 8 (by kernel_rfl) (by kernel_rfl)
theorem reads (os : Os) {H : Type} (enc : TypeId × Value → H) : ∃ places, DataW.whole enc Tryd.prog ((laidWorld os).forCall (fun _ _ => 0) ⟨#[], #[.agg #[.int .i64 0, .string .empty, .int .i64 0]], []⟩).memory Tryd.f10.params.toList Rows.readTokensSpec.vars false (#[.agg #[.int .i64 0, .string .empty, .int .i64 0]] : Array Value).toList 8 = some ([.agg [.lit (.int .i64 0), .lit (.string []), .lit (.int .i64 0)]], [], places) :=
  ⟨[], by kernel_rfl⟩
set_option maxRecDepth 100000 in
theorem lifted (os : Os) (started : os.Started) (H : Type) (enc : TypeId × Value → H) (F : Stop.Interp) :
    ReturnsInHanded {} Tryd.checked os 10 .any ((OpenSpec.ofChange Rows.readTokensSpec).preRow enc Tryd.prog Tryd.f10 Rows.readTokensRow.domain false Rows.readTokensRow.laid) (((OpenSpec.ofChange Rows.readTokensSpec).at F).post enc Tryd.prog Tryd.f10 false true false false) := by
  obtain ⟨places, hx⟩ := reads os enc
  refine returnsInHanded_of_row (C := Tryd.checked) (s := OpenSpec.ofChange Rows.readTokensSpec) own started (by kernel_rfl) Tryd.func10
    (witness_row_at (enc := enc) (C := Tryd.checked) false (laidWorld os) #[.agg #[.int .i64 0, .string .empty, .int .i64 0]] rfl (by kernel_rfl) (by kernel_rfl) (by kernel_rfl)
      (OpenSpec.preRow_of_cond 8 hx (by kernel_rfl) (fun k hk => by cases hk) (by kernel_rfl) (laid_met os))) ?_
  intro W base args ds gs before hval hW _ _ _ hL _ _
  refine law_contractS (n := 12) (Ts := [.cons (.i .i64) (.cons (.s) (.cons (.i .i64) (.nil)))]) (bt := 4) rfl (by kernel_rfl) Tryd.underlying4 (by kernel_rfl) (by kernel_rfl) (fun ds hds => ?_) law W (globs hL) args ds gs before base hval hW
  match ds, hds with
  | [d0], _ => rfl
theorem said : Rows.ReadTokensSaid :=
  OpenClaim.holds_of_cond 10 Tryd.f10 rfl rfl rfl rfl rfl rfl rfl ⟨rfl, rfl, rfl, rfl, rfl⟩ rfl rfl rfl rfl rfl (by kernel_rfl) Tryd.func10 (by kernel_rfl)
    (of_decide_eq_true (by kernel_rfl)) (by unfold Func.isWrapper; first | (rw [if_pos (by decide +kernel)]; kernel_rfl) | (rw [if_neg (by decide +kernel)]; exact ⟨rfl, rfl⟩))
    (fun os started H enc _ F => by rw [OpenClaim.pre_eq_preRow]; exact lifted os started H enc F)
theorem plain (f : FuncId) (fn : Func) (hf : Tryd.pinned.checked.prog.funcNamed Rows.readTokensRow.func = some f) (hfn : Tryd.pinned.checked.prog.funcs[f]? = some fn) :
    false = Tryd.pinned.checked.prog.looks [] ∧ ∀ (j : Nat) t, fn.params[j]? = some t → Tryd.pinned.checked.prog.wantsStandIn t = false := by
  obtain rfl : f = 10 := Option.some.inj ((show Tryd.prog.funcNamed Rows.readTokensRow.func = some 10 by kernel_rfl).symm.trans hf) |>.symm
  obtain rfl : fn = Tryd.f10 := (Option.some.inj (Tryd.func10.symm.trans hfn)).symm
  refine ⟨by kernel_rfl, fun j t ht => ?_⟩
  have hm : t ∈ Tryd.f10.params.toList := by simpa using Array.mem_of_getElem? ht
  have hall : (Tryd.f10.params.toList.all fun u => !Tryd.prog.wantsStandIn u) = true := by kernel_rfl
  exact (show Tryd.prog.wantsStandIn t = false by simpa using List.all_eq_true.1 hall t hm)
theorem proved : Rows.ReadTokensCardSaid :=
  Claim7.holds_tied_plain_at .later [] _ _ _ _ said (fun _ h => by cases h) (by kernel_rfl) (fun _ h => by cases h) readTokens_row_tie rfl ⟨rfl, rfl⟩ (by kernel_rfl) rfl plain (by kernel_rfl)
end Go.Proofs.YtmalccaijjcepaaDoor.readTokens
