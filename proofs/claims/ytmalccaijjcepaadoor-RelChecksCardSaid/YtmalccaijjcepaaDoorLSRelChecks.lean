/- The law RelChecks holds: it returns true at every argument, and its argument reads as it did; the tables as the row lists them. No condition. -/
import Derived.Test.YtmalccaijjcepaaDoorGv
import Derived.Test.YtmalccaijjcepaaDoorSzd
import Derived.Test.YtmalccaijjcepaaDoorRl1
import Derived.Test.YtmalccaijjcepaaDoorCards
import Derived.Test.YtmalccaijjcepaaDoorTie
import Derived.Deep.DeepHandedRow
import Derived.SevenTiedAt
set_option linter.all false
set_option linter.unusedSimpArgs false
set_option linter.unusedVariables false
namespace Go.Proofs.YtmalccaijjcepaaDoor.relChecks
open Go Go.ChangeShapes Go.WideShapes Go.ChangeAt Go.RowKit Go.Proofs.YtmalccaijjcepaaDoor.Ab
set_option maxHeartbeats 1000000
set_option maxRecDepth 20000
section
variable [Glo] [U8]
theorem typed_it2 {ds : List D} {m : Nat} (h : Typed tyIt ds m) : ∃ x : It, ds = itD x ∧ x.s.length ≤ 9223372036854775807 := by
  obtain ⟨_, _, _, _, rfl, _, h1, g1⟩ := typed_cons h
  obtain ⟨_, _, _, _, rfl, _, h2, g2⟩ := typed_cons g1
  obtain ⟨_, _, _, _, rfl, _, h3, g3⟩ := typed_cons g2
  obtain ⟨a, rfl, _⟩ := typed_i h1
  obtain ⟨b, rfl, _⟩ := typed_i h2
  obtain ⟨s, rfl, hs⟩ := typed_s2 h3
  obtain rfl := typed_nil g3
  exact ⟨⟨a, b, s⟩, rfl, hs⟩
theorem typed_all2 {α : Type} {E : Ty} {f : α → List D} {p : α → Prop} (hE : ∀ ds m, Typed E ds m → ∃ x, ds = f x ∧ p x) {ds : List D} {m : Nat} (h : Typed (.sl E) ds m) : ∃ l : List α, ds = [.sl E.size (l.map f)] ∧ ∀ x, x ∈ l → p x := by
  obtain ⟨xs, ws, rfl, h1, h2, h3⟩ := typed_list (p := fun (x : α) _ => p x) (fun ds m h => hE ds m h) h
  refine ⟨xs, rfl, fun x hx => ?_⟩
  obtain ⟨i, hi, rfl⟩ := List.mem_iff_getElem.1 hx
  obtain ⟨w, hw⟩ : ∃ w, ws[i]? = some w := ⟨ws[i]'(by omega), List.getElem?_eq_getElem (by omega)⟩
  exact h3 i _ w (List.getElem?_eq_getElem hi) hw
theorem typed_rl3 {ds : List D} {m : Nat} (h : Typed tyRl ds m) (hz : SizedD tyRl ds) : ∃ r : Rl, ds = rlD r ∧ ShR r := by
  obtain ⟨_, _, _, _, rfl, e1, h1, g1⟩ := typed_cons h
  obtain ⟨_, _, _, _, rfl, e2, h2, g2⟩ := typed_cons g1
  obtain rfl := typed_nil g2
  obtain ⟨cols, rfl, c2⟩ := typed_all2 (f := strRow) (p := fun (x : List UInt8) => x.length ≤ 9223372036854775807) (fun ds m h => by
    obtain ⟨s, rfl, hs⟩ := typed_s2 h
    exact ⟨s, rfl, hs⟩) h1
  obtain ⟨rows, rfl, k2⟩ := typed_all2 (f := rowD) (p := fun (l : List It) => ∀ x, x ∈ l → x.s.length ≤ 9223372036854775807) (fun ds m h => by
    obtain ⟨l, rfl, hl⟩ := typed_all2 (f := itD) (p := fun (x : It) => x.s.length ≤ 9223372036854775807) (fun ds m h => typed_it2 h) h
    exact ⟨l, rfl, hl⟩) h2
  obtain ⟨a, c, he, ha, z1, z2⟩ := hz
  obtain ⟨x, rfl⟩ := List.length_eq_one_iff.1 ha
  obtain ⟨rfl, rfl⟩ := List.cons.inj he
  obtain ⟨a, c, he, ha, z3, z4⟩ := z2
  obtain ⟨x, rfl⟩ := List.length_eq_one_iff.1 ha
  obtain ⟨rfl, rfl⟩ := List.cons.inj he
  have b1 : cols.length * 16 ≤ 140737488351232 := by
    have := z1.1
    rw [List.length_map] at this
    exact this
  have b2 : rows.length * 24 ≤ 140737488351232 := by
    have := z3.1
    rw [List.length_map] at this
    exact this
  refine ⟨⟨cols, rows⟩, rfl, ⟨b1, b2, c2, fun row hr => ?_, k2⟩⟩
  have := (z3.2 _ (List.mem_map_of_mem hr)).1
  rw [List.length_map] at this
  exact this

/- the live slots of pleacher/pleacherlaw.RelChecks -/
def ks_6 : Nat → List Nat
  | 0 => [1]
  | 1 => [1, 3]
  | 2 => [3, 4]
  | 3 => [2]
  | _ => []
def mu_6 : List Nat := []
def in_6 : List Nat := [0]
theorem walk (r : Rl) (hS : ShR r) (K : V → Heap → Prop) (hk : K (.d (.b true)) []) : ACalls Tryd.prog 6 [rlV r] [] K := by
  refine ACalls_of Tryd.func6 rfl in_6 (Nat.le_of_ble_eq_true rfl) ?_
  intro F hF
  simp (dsimp := false) only [go_sem, Nat.reduceAdd, Nat.reduceBEq, Nat.reduceEqDiff, Nat.reduceLT, Nat.reduceLeDiff, Nat.reduceMul, Int.reduceToNat, reduceCtorEq, ↓reduceIte, Tryd.ntmps6, Tryd.results6, ks_6, mu_6, ti_ag36, ti_hb18, ti_hb19, ti_hb20, ti_sz36, rlV, rlD, in_6] at hF
  subst hF
  repeat' (first | with_reducible (first | refine And.intro ?_ ?_ | intro _ | refine AWp_seq ?_ | refine AWp_block ?_ | (refine hKv _ _ (AWp_nop ?_); clear hKv Kv) | (refine hKA ?_; clear hKA hKB KA KB) | (refine hKB ?_; clear hKA hKB KA KB) | refine AWp_skipN ?_ | refine AWp_exitO (by repeat (first | exact Out.hit | apply Out.thenA | apply Out.out rfl)) ?_) | ((first | with_reducible (first | (refine hKv _ _ ?_; clear hKv Kv) | ((first | refine AWp_regC mu_6 ks_6 ?_ | refine AWp_regE mu_6 ks_6 ?_); intro Kv hKv) | refine AWp_retR ?_) | refine rels_A r hS _ _ ?_ | refine relCheck_A r hS _ _ ?_ | refine relFault_A r hS _ _ ?_); try simp (dsimp := false) only [go_sem, Nat.reduceAdd, Nat.reduceBEq, Nat.reduceEqDiff, Nat.reduceLT, Nat.reduceLeDiff, Nat.reduceMul, Int.reduceToNat, reduceCtorEq, ↓reduceIte, Tryd.ntmps6, Tryd.results6, ks_6, mu_6, ti_ag36, ti_hb18, ti_hb19, ti_hb20, ti_sz36, rlV, rlD]) | (refine AWp_condC rfl ?_; intro KA KB hKA hKB; try simp only [onB_true, onB_false, onB_dec, onB_ndec, onB_not, onB_and, onB_or]) | (refine AWp_condA rfl ?_ ?_) | with_reducible (first | refine onB_of ?_ ?_ | rfl) | omega)
  all_goals exact keepD hk (by simp)
end
instance gl : Glo := ⟨fun g => if g = 2 then some acceptRow else if g = 1 then some firstRow else none⟩
instance : U8 := ⟨rfl, rfl⟩
theorem law (m : Nat) (dss : List (List D)) (h : TypedAll [.cons (.sl (.s)) (.cons (.sl (.sl (.cons (.i .i64) (.cons (.i .i64) (.cons (.s) (.nil)))))) (.nil))] dss m) (hz : SizedAll [.cons (.sl (.s)) (.cons (.sl (.sl (.cons (.i .i64) (.cons (.i .i64) (.cons (.s) (.nil)))))) (.nil))] dss) : ACalls Tryd.prog 6 (argsV [.cons (.sl (.s)) (.cons (.sl (.sl (.cons (.i .i64) (.cons (.i .i64) (.cons (.s) (.nil)))))) (.nil))] dss) [] fun v _ => v = .d (.b true) := by
  match dss, h, hz with
  | [d1], ⟨_, _, _, h1, _⟩, ⟨z1, _⟩ =>
    obtain ⟨r, rfl, hr⟩ := typed_rl3 h1 z1
    exact walk r hr _ rfl
theorem globs {W : World} (h : laidMetH Tryd.prog Rows.relChecksRow.laid W) : Globs W := by
  have r0 := Lib.laidMet.reads h (.head _)
  have r1 := Lib.laidMet.reads h (.tail _ (.head _))
  intro g row hg
  change (if g = 2 then some acceptRow else if g = 1 then some firstRow else none) = some row at hg
  split at hg
  · rename_i e
    subst e
    cases hg
    exact var_row (n := 8) (t := 99) (by kernel_rfl) (by kernel_rfl) (by kernel_rfl) (by decide) r0 (fun _ h => h)
  ·
    split at hg
    · rename_i e
      subst e
      cases hg
      exact var_row (n := 8) (t := 96) (by kernel_rfl) (by kernel_rfl) (by kernel_rfl) (by decide) r1 (fun _ h => h)
    ·
      cases hg
noncomputable def laidWorld (os : Os) : World :=
  let w0 := World.holding Tryd.prog os ⟨#[], #[], []⟩
  { w0 with heap := putRow (putRow (w0.heap) 2 acceptRow) 1 firstRow }
theorem laid_met (os : Os) : laidMet Tryd.prog Rows.relChecksRow.laid ((laidWorld os).forCall (fun _ _ => 0) ⟨#[], #[.agg #[.slice none 0 0, .slice none 0 0]], []⟩).memory :=
  laidMet_of_run' 8 (by kernel_rfl) (by kernel_rfl)
theorem reads (os : Os) {H : Type} (enc : TypeId × Value → H) : ∃ places, DataW.whole enc Tryd.prog ((laidWorld os).forCall (fun _ _ => 0) ⟨#[], #[.agg #[.slice none 0 0, .slice none 0 0]], []⟩).memory Tryd.f6.params.toList Rows.relChecksSpec.vars false (#[.agg #[.slice none 0 0, .slice none 0 0]] : Array Value).toList 8 = some ([.agg [.nil, .nil]], [], places) :=
  ⟨[], by kernel_rfl⟩
set_option maxRecDepth 100000 in
theorem lifted (os : Os) (started : os.Started) (H : Type) (enc : TypeId × Value → H) (F : Stop.Interp) :
    ReturnsInHanded {} Tryd.checked os 6 .any ((OpenSpec.ofChange Rows.relChecksSpec).preRow enc Tryd.prog Tryd.f6 Rows.relChecksRow.domain false Rows.relChecksRow.laid) (((OpenSpec.ofChange Rows.relChecksSpec).at F).post enc Tryd.prog Tryd.f6 false true false false) := by
  obtain ⟨places, hx⟩ := reads os enc
  refine returnsInHanded_of_row (C := Tryd.checked) (s := OpenSpec.ofChange Rows.relChecksSpec) own started (by kernel_rfl) Tryd.func6
    (witness_row_at (enc := enc) (C := Tryd.checked) false (laidWorld os) #[.agg #[.slice none 0 0, .slice none 0 0]] rfl (by kernel_rfl) (by kernel_rfl) (by kernel_rfl)
      (OpenSpec.preRow_of_cond 8 hx (by kernel_rfl) (fun k hk => by cases hk) (by kernel_rfl) (laid_met os))) ?_
  intro W base args ds gs before hval hW _ _ hz hL _ _
  refine law_contractS3 (n := 12) (Ts := [.cons (.sl (.s)) (.cons (.sl (.sl (.cons (.i .i64) (.cons (.i .i64) (.cons (.s) (.nil)))))) (.nil))]) (bt := 4) rfl (by kernel_rfl) Tryd.underlying4 (by kernel_rfl) (by kernel_rfl) (by kernel_rfl) (fun ds hds => ?_) law W (globs hL) args ds gs before base hval hW hz
  match ds, hds with
  | [d0], _ => rfl
theorem said : Rows.RelChecksSaid :=
  OpenClaim.holds_of_cond 6 Tryd.f6 rfl rfl rfl rfl rfl rfl rfl ⟨rfl, rfl, rfl, rfl, rfl⟩ rfl rfl rfl rfl rfl (by kernel_rfl) Tryd.func6 (by kernel_rfl)
    (of_decide_eq_true (by kernel_rfl)) (by unfold Func.isWrapper; first | (rw [if_pos (by decide +kernel)]; kernel_rfl) | (rw [if_neg (by decide +kernel)]; exact ⟨rfl, rfl⟩))
    (fun os started H enc _ F => by rw [OpenClaim.pre_eq_preRow]; exact lifted os started H enc F)
theorem plain (f : FuncId) (fn : Func) (hf : Tryd.pinned.checked.prog.funcNamed Rows.relChecksRow.func = some f) (hfn : Tryd.pinned.checked.prog.funcs[f]? = some fn) :
    false = Tryd.pinned.checked.prog.looks [] ∧ ∀ (j : Nat) t, fn.params[j]? = some t → Tryd.pinned.checked.prog.wantsStandIn t = false := by
  obtain rfl : f = 6 := Option.some.inj ((show Tryd.prog.funcNamed Rows.relChecksRow.func = some 6 by kernel_rfl).symm.trans hf) |>.symm
  obtain rfl : fn = Tryd.f6 := (Option.some.inj (Tryd.func6.symm.trans hfn)).symm
  refine ⟨by kernel_rfl, fun j t ht => ?_⟩
  have hm : t ∈ Tryd.f6.params.toList := by simpa using Array.mem_of_getElem? ht
  have hall : (Tryd.f6.params.toList.all fun u => !Tryd.prog.wantsStandIn u) = true := by kernel_rfl
  exact (show Tryd.prog.wantsStandIn t = false by simpa using List.all_eq_true.1 hall t hm)
theorem proved : Rows.RelChecksCardSaid :=
  Claim7.holds_tied_plain_at .later [] _ _ _ _ said (fun _ h => by cases h) (by kernel_rfl) (fun _ h => by cases h) relChecks_row_tie rfl ⟨rfl, rfl⟩ (by kernel_rfl) rfl plain (by kernel_rfl)
end Go.Proofs.YtmalccaijjcepaaDoor.relChecks
