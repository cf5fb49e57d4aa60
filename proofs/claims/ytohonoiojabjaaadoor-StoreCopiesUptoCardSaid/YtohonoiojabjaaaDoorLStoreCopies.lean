/- The law StoreCopies holds wherever what it reads is of bulk at most 1048576: it returns true, and its arguments read as they did; the tables of package unicode/utf8 as the row lists them. -/
import Derived.Test.YtohonoiojabjaaaDoorGv
import Derived.Test.YtohonoiojabjaaaDoorCp1
import Derived.Test.YtohonoiojabjaaaDoorStT
import Derived.Test.YtohonoiojabjaaaDoorCards
import Derived.Test.YtohonoiojabjaaaDoorTie
import Derived.Deep.DeepHandedRow
import Derived.SevenTiedAt
set_option linter.all false
set_option linter.unusedSimpArgs false
set_option linter.unusedVariables false
namespace Go.Proofs.YtohonoiojabjaaaDoor.storeCopies
open Go Go.ChangeShapes Go.WideShapes Go.ChangeAt Go.RowKit Go.Proofs.YtohonoiojabjaaaDoor.Ab
set_option maxHeartbeats 1000000
set_option maxRecDepth 20000
section
variable [Glo] [U8]
/- the live slots of pleacher/pleacherlaw.StoreCopies -/
def ks_3 : Nat → List Nat
  | 0 => [0, 1, 2, 3]
  | 1 => [0, 1, 2, 3, 9]
  | 2 => [0, 1, 2, 3, 9, 10]
  | 3 => [0, 1, 2, 3, 9, 10, 11, 12]
  | 4 => [0, 2, 9, 10, 11, 12, 13, 14]
  | 5 => [8]
  | _ => []
def mu_3 : List Nat := []
def in_3 : List Nat := [0, 1, 2, 3]
theorem walk (l : List Nd) (n : Int) (tl : List Nd) (parent : Int) (hlen : l.length ≤ 1048576) (hS : Short l) (hto : tl.length ≤ 1048576) (K : V → Heap → Prop) (hk : K (.d (.b true)) []) :
    ACalls Tryd.prog 3 [.d (.sl 6 (l.map ndD)), .d (.i .i64 n), .d (.sl 6 (tl.map ndD)), .d (.i .i64 parent)] [] K := by
  have hC : (copied l n tl parent).length ≤ 9223372036854775807 := by
    unfold copied
    split
    · rename_i hf
      have hf' : atFault l n = 0 := by
        unfold cpFault at hf
        split at hf
        · assumption
        · exact hf
      obtain ⟨hnf, hn0, hnl⟩ := atFault_ok hf'
      obtain ⟨hN, hg⟩ := good_of hnf
      obtain ⟨_, _, _, h2, _⟩ := good_bd' hg hn0 hnl
      rw [List.length_append, cps_len]
      omega
    · simp
  have hl2 : l.length ≤ 9223372036854775807 := by omega
  have ht2 : tl.length ≤ 9223372036854775807 := by omega
  refine ACalls_of Tryd.func3 rfl in_3 (Nat.le_of_ble_eq_true rfl) ?_
  intro F hF
  simp (dsimp := false) only [go_sem, Nat.reduceAdd, Nat.reduceBEq, Nat.reduceEqDiff, Nat.reduceLT, Nat.reduceLeDiff, Nat.reduceMul, Int.reduceToNat, reduceCtorEq, ↓reduceIte, Tryd.ntmps3, Tryd.results3, ks_3, mu_3, ti_hb10, ti_hb11, ti_hb12, ti_hb13, in_3] at hF
  subst hF
  repeat' (first
    | with_reducible refine And.intro ?_ ?_
    | with_reducible intro _
    | with_reducible refine AWp_seq ?_
    | with_reducible refine AWp_block ?_
    | (with_reducible refine hKv _ _ (AWp_nop ?_); clear hKv Kv)
    | (with_reducible refine hKv _ _ ?_; clear hKv Kv; simp (dsimp := false) only [go_sem, Nat.reduceAdd, Nat.reduceBEq, Nat.reduceEqDiff, Nat.reduceLT, Nat.reduceLeDiff, Nat.reduceMul, Int.reduceToNat, reduceCtorEq, ↓reduceIte, Tryd.ntmps3, Tryd.results3, ks_3, mu_3, ti_hb10, ti_hb11, ti_hb12, ti_hb13])
    | (with_reducible refine hKA ?_; clear hKA hKB KA KB)
    | (with_reducible refine hKB ?_; clear hKA hKB KA KB)
    | (with_reducible refine AWp_regC mu_3 ks_3 ?_; intro Kv hKv; simp (dsimp := false) only [go_sem, Nat.reduceAdd, Nat.reduceBEq, Nat.reduceEqDiff, Nat.reduceLT, Nat.reduceLeDiff, Nat.reduceMul, Int.reduceToNat, reduceCtorEq, ↓reduceIte, Tryd.ntmps3, Tryd.results3, ks_3, mu_3, ti_hb10, ti_hb11, ti_hb12, ti_hb13])
    | with_reducible refine AWp_skipN ?_
    | with_reducible refine AWp_exitO (by repeat (first | with_reducible exact Out.hit | with_reducible apply Out.thenA | with_reducible apply Out.out rfl)) ?_
    | (with_reducible refine AWp_retR ?_; simp (dsimp := false) only [go_sem, Nat.reduceAdd, Nat.reduceBEq, Nat.reduceEqDiff, Nat.reduceLT, Nat.reduceLeDiff, Nat.reduceMul, Int.reduceToNat, reduceCtorEq, ↓reduceIte, Tryd.ntmps3, Tryd.results3, ks_3, mu_3, ti_hb10, ti_hb11, ti_hb12, ti_hb13])
    | (with_reducible refine AWp_regE mu_3 ks_3 ?_; intro Kv hKv; simp (dsimp := false) only [go_sem, Nat.reduceAdd, Nat.reduceBEq, Nat.reduceEqDiff, Nat.reduceLT, Nat.reduceLeDiff, Nat.reduceMul, Int.reduceToNat, reduceCtorEq, ↓reduceIte, Tryd.ntmps3, Tryd.results3, ks_3, mu_3, ti_hb10, ti_hb11, ti_hb12, ti_hb13])
    | (refine AWp_condC rfl ?_; intro KA KB hKA hKB; try simp only [onB_true, onB_false, onB_dec, onB_ndec, onB_not, onB_and, onB_or])
    | (refine AWp_condA rfl ?_ ?_)
    | (refine nodes_A _ (by omega) _ _ ?_; try simp (dsimp := false) only [go_sem, Nat.reduceAdd, Nat.reduceBEq, Nat.reduceEqDiff, Nat.reduceLT, Nat.reduceLeDiff, Nat.reduceMul, Int.reduceToNat, reduceCtorEq, ↓reduceIte, Tryd.ntmps3, Tryd.results3, ks_3, mu_3, ti_hb10, ti_hb11, ti_hb12, ti_hb13])
    | (refine storeCopy_A _ _ _ _ (by omega) hS hto _ _ ?_; try simp (dsimp := false) only [go_sem, Nat.reduceAdd, Nat.reduceBEq, Nat.reduceEqDiff, Nat.reduceLT, Nat.reduceLeDiff, Nat.reduceMul, Int.reduceToNat, reduceCtorEq, ↓reduceIte, Tryd.ntmps3, Tryd.results3, ks_3, mu_3, ti_hb10, ti_hb11, ti_hb12, ti_hb13])
    | (refine refCopied_A _ _ _ _ (by omega) hS hto _ _ ?_; try simp (dsimp := false) only [go_sem, Nat.reduceAdd, Nat.reduceBEq, Nat.reduceEqDiff, Nat.reduceLT, Nat.reduceLeDiff, Nat.reduceMul, Int.reduceToNat, reduceCtorEq, ↓reduceIte, Tryd.ntmps3, Tryd.results3, ks_3, mu_3, ti_hb10, ti_hb11, ti_hb12, ti_hb13])
    | (refine sameNodes_A _ (by assumption) _ _ ?_; try simp (dsimp := false) only [go_sem, Nat.reduceAdd, Nat.reduceBEq, Nat.reduceEqDiff, Nat.reduceLT, Nat.reduceLeDiff, Nat.reduceMul, Int.reduceToNat, reduceCtorEq, ↓reduceIte, Tryd.ntmps3, Tryd.results3, ks_3, mu_3, ti_hb10, ti_hb11, ti_hb12, ti_hb13])
    | with_reducible refine onB_of ?_ ?_
    | with_reducible rfl
    | omega)
  all_goals first
    | exact keepD hk rfl
    | exact keepD hk (by simp)
end
instance gl : Glo := ⟨fun g => if g = 2 then some acceptRow else if g = 1 then some firstRow else none⟩
instance : U8 := ⟨rfl, rfl⟩
theorem law (dss : List (List D)) (h : TypedAll [.sl (.cons (.i .i64) (.cons (.s) (.cons (.s) (.cons (.i .i64) (.cons (.i .i64) (.cons (.i .i64) (.nil))))))), .i .i64, .sl (.cons (.i .i64) (.cons (.s) (.cons (.s) (.cons (.i .i64) (.cons (.i .i64) (.cons (.i .i64) (.nil))))))), .i .i64] dss 1048576) : ACalls Tryd.prog 3 (argsV [.sl (.cons (.i .i64) (.cons (.s) (.cons (.s) (.cons (.i .i64) (.cons (.i .i64) (.cons (.i .i64) (.nil))))))), .i .i64, .sl (.cons (.i .i64) (.cons (.s) (.cons (.s) (.cons (.i .i64) (.cons (.i .i64) (.cons (.i .i64) (.nil))))))), .i .i64] dss) [] fun v _ => v = .d (.b true) := by
  match dss, h with
  | [d1, d2, d3, d4], ⟨_, _, _, h1, _, _, _, h2, _, _, _, h3, _, _, _, h4, _⟩ =>
    obtain ⟨l, rfl, hl, hx⟩ := typed_nds h1
    obtain ⟨n, rfl, hn, _⟩ := typed_i h2
    obtain ⟨tl, rfl, ht, _⟩ := typed_nds h3
    obtain ⟨p, rfl, hp, _⟩ := typed_i h4
    exact walk l n tl p (by omega) (fun x h => ⟨by have := (hx x h).1; omega, by have := (hx x h).1; omega⟩) (by omega) _ rfl
theorem globs {W : World} (h : laidMetH Tryd.prog Rows.storeCopiesUptoRow.laid W) : Globs W := by
  have r0 := Lib.laidMet.reads h (.head _)
  have r1 := Lib.laidMet.reads h (.tail _ (.head _))
  intro g row hg
  change (if g = 2 then some acceptRow else if g = 1 then some firstRow else none) = some row at hg
  split at hg
  · rename_i e
    subst e
    cases hg
    exact var_row (n := 8) (t := 116) (by kernel_rfl) (by kernel_rfl) (by kernel_rfl) (by decide) r0 (fun _ h => h)
  ·
    split at hg
    · rename_i e
      subst e
      cases hg
      exact var_row (n := 8) (t := 113) (by kernel_rfl) (by kernel_rfl) (by kernel_rfl) (by decide) r1 (fun _ h => h)
    ·
      cases hg
noncomputable def laidWorld (os : Os) : World :=
  let w0 := World.holding Tryd.prog os ⟨#[], #[], []⟩
  { w0 with heap := putRow (putRow (w0.heap) 2 acceptRow) 1 firstRow }
theorem laid_met (os : Os) : laidMet Tryd.prog Rows.storeCopiesUptoRow.laid ((laidWorld os).forCall (fun _ _ => 0) ⟨#[], #[.slice none 0 0, .int .i64 0, .slice none 0 0, .int .i64 0], []⟩).memory :=
  laidMet_of_run' 8 (by kernel_rfl) (by kernel_rfl)
theorem reads (os : Os) {H : Type} (enc : TypeId × Value → H) : ∃ places, DataW.whole enc Tryd.prog ((laidWorld os).forCall (fun _ _ => 0) ⟨#[], #[.slice none 0 0, .int .i64 0, .slice none 0 0, .int .i64 0], []⟩).memory Tryd.f3.params.toList Rows.storeCopiesSpec.vars false (#[.slice none 0 0, .int .i64 0, .slice none 0 0, .int .i64 0] : Array Value).toList 8 = some ([.nil, .lit (.int .i64 0), .nil, .lit (.int .i64 0)], [], places) :=
  ⟨[], by kernel_rfl⟩
set_option maxRecDepth 100000 in
theorem lifted (os : Os) (started : os.Started) (H : Type) (enc : TypeId × Value → H) (F : Stop.Interp) :
    ReturnsInHanded {} Tryd.checked os 3 .any ((Rows.OpenSpec.upto Rows.storeCopiesSpec).preRow enc Tryd.prog Tryd.f3 Rows.storeCopiesUptoRow.domain false Rows.storeCopiesUptoRow.laid) (((Rows.OpenSpec.upto Rows.storeCopiesSpec).at F).post enc Tryd.prog Tryd.f3 false true false false) := by
  obtain ⟨places, hx⟩ := reads os enc
  refine returnsInHanded_of_row (C := Tryd.checked) (s := Rows.OpenSpec.upto Rows.storeCopiesSpec) own started (by kernel_rfl) Tryd.func3
    (witness_row_at (enc := enc) (C := Tryd.checked) false (laidWorld os) #[.slice none 0 0, .int .i64 0, .slice none 0 0, .int .i64 0] rfl (by kernel_rfl) (by kernel_rfl) (by kernel_rfl)
      (OpenSpec.preRow_of_cond 8 hx (by kernel_rfl) (fun k hk => by cases hk; kernel_rfl) (by kernel_rfl) (laid_met os))) ?_
  intro W base args ds gs before hval hW _ hcond _ hL _ _
  refine law_contract (n := 12) (Ts := [.sl (.cons (.i .i64) (.cons (.s) (.cons (.s) (.cons (.i .i64) (.cons (.i .i64) (.cons (.i .i64) (.nil))))))), .i .i64, .sl (.cons (.i .i64) (.cons (.s) (.cons (.s) (.cons (.i .i64) (.cons (.i .i64) (.cons (.i .i64) (.nil))))))), .i .i64]) (bt := 4) rfl (by kernel_rfl) Tryd.underlying4 (by kernel_rfl) (by kernel_rfl) (fun ds hds => ?_) law W (globs hL) args ds gs before base hval hW (hcond _ rfl)
  match ds, hds with
  | [d0, d1, d2, d3], _ => rfl
theorem said : Rows.StoreCopiesUptoSaid :=
  OpenClaim.holds_of_cond 3 Tryd.f3 rfl rfl rfl rfl rfl rfl rfl ⟨rfl, rfl, rfl, rfl, rfl⟩ rfl rfl rfl rfl rfl (by kernel_rfl) Tryd.func3 (by kernel_rfl)
    (of_decide_eq_true (by kernel_rfl)) (by unfold Func.isWrapper; first | (rw [if_pos (by decide +kernel)]; kernel_rfl) | (rw [if_neg (by decide +kernel)]; exact ⟨rfl, rfl⟩))
    (fun os started H enc _ F => by rw [OpenClaim.pre_eq_preRow]; exact lifted os started H enc F)
theorem plain (f : FuncId) (fn : Func) (hf : Tryd.pinned.checked.prog.funcNamed Rows.storeCopiesUptoRow.func = some f) (hfn : Tryd.pinned.checked.prog.funcs[f]? = some fn) :
    false = Tryd.pinned.checked.prog.looks [] ∧ ∀ (j : Nat) t, fn.params[j]? = some t → Tryd.pinned.checked.prog.wantsStandIn t = false := by
  obtain rfl : f = 3 := Option.some.inj ((show Tryd.prog.funcNamed Rows.storeCopiesUptoRow.func = some 3 by kernel_rfl).symm.trans hf) |>.symm
  obtain rfl : fn = Tryd.f3 := (Option.some.inj (Tryd.func3.symm.trans hfn)).symm
  refine ⟨by kernel_rfl, fun j t ht => ?_⟩
  have hm : t ∈ Tryd.f3.params.toList := by simpa using Array.mem_of_getElem? ht
  have hall : (Tryd.f3.params.toList.all fun u => !Tryd.prog.wantsStandIn u) = true := by kernel_rfl
  exact (show Tryd.prog.wantsStandIn t = false by simpa using List.all_eq_true.1 hall t hm)
theorem proved : Rows.StoreCopiesUptoCardSaid :=
  Claim7.holds_tied_plain_at .later [] _ _ _ _ said (fun _ h => by cases h) (by kernel_rfl) (fun _ h => by cases h) storeCopiesUpto_row_tie rfl ⟨rfl, rfl⟩ (by kernel_rfl) rfl plain (by kernel_rfl)
end Go.Proofs.YtohonoiojabjaaaDoor.storeCopies
