/- The law XmlTexts holds: it returns true at every argument, and its argument reads as it did; the tables as the row lists them. No condition. -/
import Derived.Test.YtmalccaijjcepaaDoorGv
import Derived.Test.YtmalccaijjcepaaDoorLwS
import Derived.Test.YtmalccaijjcepaaDoorXml2
import Derived.Test.YtmalccaijjcepaaDoorCards
import Derived.Test.YtmalccaijjcepaaDoorTie
import Derived.Deep.DeepHandedRow
import Derived.SevenTiedAt
set_option linter.all false
set_option linter.unusedSimpArgs false
set_option linter.unusedVariables false
namespace Go.Proofs.YtmalccaijjcepaaDoor.xmlTexts
open Go Go.ChangeShapes Go.WideShapes Go.ChangeAt Go.RowKit Go.Proofs.YtmalccaijjcepaaDoor.Ab
set_option maxHeartbeats 1000000
set_option maxRecDepth 20000
section
variable [Glo] [U8]
/- the live slots of pleacher/pleacherlaw.XmlTexts -/
def ks_3 : Nat → List Nat
  | 0 => [0]
  | 1 => [0, 3]
  | 2 => [3, 4]
  | 3 => [2]
  | _ => []
def mu_3 : List Nat := []
def in_3 : List Nat := [0]
theorem walk (l : List UInt8) (hlen : l.length ≤ 9223372036854775807) (K : V → Heap → Prop) (hk : K (.d (.b true)) []) : ACalls Tryd.prog 3 [.d (.s l)] [] K := by
  refine ACalls_of Tryd.func3 rfl in_3 (Nat.le_of_ble_eq_true rfl) ?_
  intro F hF
  simp (dsimp := false) only [go_sem, Nat.reduceAdd, Nat.reduceBEq, Nat.reduceEqDiff, Nat.reduceLT, Nat.reduceLeDiff, Nat.reduceMul, Int.reduceToNat, reduceCtorEq, ↓reduceIte, Tryd.ntmps3, Tryd.results3, ks_3, mu_3, ti_hb11, ti_hb12, in_3] at hF
  subst hF
  repeat' (first | with_reducible (first | refine And.intro ?_ ?_ | intro _ | refine AWp_seq ?_ | refine AWp_block ?_ | (refine hKv _ _ (AWp_nop ?_); clear hKv Kv) | (refine hKA ?_; clear hKA hKB KA KB) | (refine hKB ?_; clear hKA hKB KA KB) | refine AWp_skipN ?_ | refine AWp_exitO (by repeat (first | exact Out.hit | apply Out.thenA | apply Out.out rfl)) ?_) | ((first | with_reducible (first | (refine hKv _ _ ?_; clear hKv Kv) | ((first | refine AWp_regC mu_3 ks_3 ?_ | refine AWp_regE mu_3 ks_3 ?_); intro Kv hKv) | refine AWp_retR ?_) | refine checkText_A _ hlen _ _ ?_ | refine valueFault_A _ hlen _ _ ?_); try simp (dsimp := false) only [go_sem, Nat.reduceAdd, Nat.reduceBEq, Nat.reduceEqDiff, Nat.reduceLT, Nat.reduceLeDiff, Nat.reduceMul, Int.reduceToNat, reduceCtorEq, ↓reduceIte, Tryd.ntmps3, Tryd.results3, ks_3, mu_3, ti_hb11, ti_hb12]) | (refine AWp_condC rfl ?_; intro KA KB hKA hKB; try simp only [onB_true, onB_false, onB_dec, onB_ndec, onB_not, onB_and, onB_or]) | (refine AWp_condA rfl ?_ ?_) | with_reducible (first | refine onB_of ?_ ?_ | rfl) | omega)
  all_goals exact keepD hk (by simp)
end
instance gl : Glo := ⟨fun g => if g = 2 then some acceptRow else if g = 1 then some firstRow else none⟩
instance : U8 := ⟨rfl, rfl⟩
theorem law (m : Nat) (dss : List (List D)) (h : TypedAll [.s] dss m) : ACalls Tryd.prog 3 (argsV [.s] dss) [] fun v _ => v = .d (.b true) := by
  match dss, h with
  | [d1], ⟨_, _, _, h1, _⟩ =>
    obtain ⟨l, rfl, hl⟩ := typed_s2 h1
    exact walk l hl _ rfl
theorem globs {W : World} (h : laidMetH Tryd.prog Rows.xmlTextsRow.laid W) : Globs W := by
  have r0 := Lib.laidMet.reads h (.head _)
  have r1 := Lib.laidMet.reads h (.tail _ (.head _))
  intro g row hg
  change (if g = 2 then some acceptRow else if g = 1 then some firstRow else none) = some row at hg
  split at hg
  · rename_i e
    subst e
    cases hg
    exact var_row (n := 8) (t := 99) (by kernel_rfl) (by kernel_rfl) (by kernel_rfl) (by decide) r0 (fun _ h => h)
  ·
    split at hg
    · rename_i e
      subst e
      cases hg
      exact var_row (n := 8) (t := 96) (by kernel_rfl) (by kernel_rfl) (by kernel_rfl) (by decide) r1 (fun _ h => h)
    ·
      cases hg
noncomputable def laidWorld (os : Os) : World :=
  let w0 := World.holding Tryd.prog os ⟨#[], #[], []⟩
  { w0 with heap := putRow (putRow (w0.heap) 2 acceptRow) 1 firstRow }
theorem laid_met (os : Os) : laidMet Tryd.prog Rows.xmlTextsRow.laid ((laidWorld os).forCall (fun _ _ => 0) ⟨#[], #[.string .empty], []⟩).memory :=
  laidMet_of_run' 8 (by kernel_rfl) (by kernel_rfl)
theorem reads (os : Os) {H : Type} (enc : TypeId × Value → H) : ∃ places, DataW.whole enc Tryd.prog ((laidWorld os).forCall (fun _ _ => 0) ⟨#[], #[.string .empty], []⟩).memory Tryd.f3.params.toList Rows.xmlTextsSpec.vars false (#[.string .empty] : Array Value).toList 8 = some ([.lit (.string [])], [], places) :=
  ⟨[], by kernel_rfl⟩
set_option maxRecDepth 100000 in
theorem lifted (os : Os) (started : os.Started) (H : Type) (enc : TypeId × Value → H) (F : Stop.Interp) :
    ReturnsInHanded {} Tryd.checked os 3 .any ((OpenSpec.ofChange Rows.xmlTextsSpec).preRow enc Tryd.prog Tryd.f3 Rows.xmlTextsRow.domain false Rows.xmlTextsRow.laid) (((OpenSpec.ofChange Rows.xmlTextsSpec).at F).post enc Tryd.prog Tryd.f3 false true false false) := by
  obtain ⟨places, hx⟩ := reads os enc
  refine returnsInHanded_of_row (C := Tryd.checked) (s := OpenSpec.ofChange Rows.xmlTextsSpec) own started (by kernel_rfl) Tryd.func3
    (witness_row_at (enc := enc) (C := Tryd.checked) false (laidWorld os) #[.string .empty] rfl (by kernel_rfl) (by kernel_rfl) (by kernel_rfl)
      (OpenSpec.preRow_of_cond 8 hx (by kernel_rfl) (fun k hk => by cases hk) (by kernel_rfl) (laid_met os))) ?_
  intro W base args ds gs before hval hW _ _ _ hL _ _
  refine law_contractS (n := 12) (Ts := [.s]) (bt := 4) rfl (by kernel_rfl) Tryd.underlying4 (by kernel_rfl) (by kernel_rfl) (fun ds hds => ?_) law W (globs hL) args ds gs before base hval hW
  match ds, hds with
  | [d0], _ => rfl
theorem said : Rows.XmlTextsSaid :=
  OpenClaim.holds_of_cond 3 Tryd.f3 rfl rfl rfl rfl rfl rfl rfl ⟨rfl, rfl, rfl, rfl, rfl⟩ rfl rfl rfl rfl rfl (by kernel_rfl) Tryd.func3 (by kernel_rfl)
    (of_decide_eq_true (by kernel_rfl)) (by unfold Func.isWrapper; first | (rw [if_pos (by decide +kernel)]; kernel_rfl) | (rw [if_neg (by decide +kernel)]; exact ⟨rfl, rfl⟩))
    (fun os started H enc _ F => by rw [OpenClaim.pre_eq_preRow]; exact lifted os started H enc F)
theorem plain (f : FuncId) (fn : Func) (hf : Tryd.pinned.checked.prog.funcNamed Rows.xmlTextsRow.func = some f) (hfn : Tryd.pinned.checked.prog.funcs[f]? = some fn) :
    false = Tryd.pinned.checked.prog.looks [] ∧ ∀ (j : Nat) t, fn.params[j]? = some t → Tryd.pinned.checked.prog.wantsStandIn t = false := by
  obtain rfl : f = 3 := Option.some.inj ((show Tryd.prog.funcNamed Rows.xmlTextsRow.func = some 3 by kernel_rfl).symm.trans hf) |>.symm
  obtain rfl : fn = Tryd.f3 := (Option.some.inj (Tryd.func3.symm.trans hfn)).symm
  refine ⟨by kernel_rfl, fun j t ht => ?_⟩
  have hm : t ∈ Tryd.f3.params.toList := by simpa using Array.mem_of_getElem? ht
  have hall : (Tryd.f3.params.toList.all fun u => !Tryd.prog.wantsStandIn u) = true := by kernel_rfl
  exact (show Tryd.prog.wantsStandIn t = false by simpa using List.all_eq_true.1 hall t hm)
theorem proved : Rows.XmlTextsCardSaid :=
  Claim7.holds_tied_plain_at .later [] _ _ _ _ said (fun _ h => by cases h) (by kernel_rfl) (fun _ h => by cases h) xmlTexts_row_tie rfl ⟨rfl, rfl⟩ (by kernel_rfl) rfl plain (by kernel_rfl)
end Go.Proofs.YtmalccaijjcepaaDoor.xmlTexts
