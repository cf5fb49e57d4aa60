/- The law RelRanks holds wherever what it reads is of bulk at most 1048576: it returns true, and its arguments read as they did; the tables of package unicode/utf8 as the row lists them. -/
import Derived.Test.YtpgdflhcmijaiaaDoorQ19
import Derived.Test.YtpgdflhcmijaiaaDoorQ49
import Derived.Test.YtpgdflhcmijaiaaDoorCards
import Derived.Test.YtpgdflhcmijaiaaDoorTie
import Derived.Deep.DeepHandedRow
import Derived.SevenTiedAt
set_option linter.all false
set_option linter.unusedSimpArgs false
set_option linter.unusedVariables false
namespace Go.Proofs.YtpgdflhcmijaiaaDoor.relRanks
open Go Go.ChangeShapes Go.WideShapes Go.ChangeAt Go.RowKit Go.Proofs.YtpgdflhcmijaiaaDoor.Ab
set_option maxHeartbeats 1000000
set_option maxRecDepth 20000
section
variable [Glo] [U8]
def ks_4 : Nat → List Nat
  | 0 => [1, 2, 3, 4]
  | 1 => [1, 2, 3, 4, 9]
  | 2 => [1, 2, 3, 4, 9, 10, 11]
  | 3 => [4, 9, 10, 11, 12, 13]
  | 4 => [8]
  | _ => []
def mu_4 : List Nat := []
def in_4 : List Nat := [0, 1, 2, 3]
def xa_4 : Nat → Nat × Nat × List Nat
  | 2 => (9, 10, [0, 3, 3, 0, 3, 0, 3, 3, 3, 2])
  | _ => (0, 0, [])
theorem copy_strs (l : List (List UInt8)) : (l.map strRow).map (fun r => r.map V.d) = l.map strC := by simp [strRow, strC]
theorem walk (r : Rl) (hS : ShR r) (name : List UInt8) (hname : name.length ≤ 1048576) (by_ : List (List UInt8)) (hby : by_.length ≤ 1048576) (part : List UInt8) (K : V → Heap → Prop) (hk : K (.d (.b true)) []) :
    ACalls Tryd.prog 4 [rlV r, .d (.s name), .d (.sl 1 (by_.map strRow)), .d (.s part)] [] K := by
  have h1 := ranked_sh hS name by_ part
  have q1 := hS.ncols
  have q2 := hS.nrows
  refine ACalls_of Tryd.func4 rfl in_4 (Nat.le_of_ble_eq_true rfl) ?_
  intro F hF
  simp (dsimp := false) only [go_sem, Nat.reduceAdd, Nat.reduceBEq, Nat.reduceEqDiff, Nat.reduceLT, Nat.reduceLeDiff, Nat.reduceMul, Int.reduceToNat, reduceCtorEq, ↓reduceIte, Tryd.ntmps4, Tryd.results4, ks_4, mu_4, xa_4, ti_ag25, ti_hb6, ti_hb9, ti_hb10, ti_hb11, ti_sl22, ti_sz25, ti_zr25, rlV, rlD, relE, in_4] at hF
  subst hF
  repeat' (first | with_reducible (first | refine And.intro ?_ ?_ | intro _ | refine AWp_seq ?_ | refine AWp_block ?_ | (refine hKv _ _ (AWp_nop ?_); clear hKv Kv) | (refine hKA ?_; clear hKA hKB KA KB) | (refine hKB ?_; clear hKA hKB KA KB) | refine AWp_skipN ?_ | refine AWp_exitO (by repeat (first | exact Out.hit | apply Out.thenA | apply Out.out rfl)) ?_) | ((first | with_reducible (first | (refine hKv _ _ ?_; clear hKv Kv) | ((first | refine AWp_regC mu_4 ks_4 ?_ | refine AWp_drawA xa_4 mu_4 ks_4 (by decide) ti_mixed (by kernel_rfl) ?_ | refine AWp_regE mu_4 ks_4 ?_); intro Kv hKv) | refine AWp_retR ?_) | refine rels_A r hS _ _ ?_ | refine QCall_of (rels_A r hS _ _ (Two_intro _ _)) ?_ | refine rank_A r hS name hname by_ hby part _ _ ?_ | refine QCall_of (rank_A r hS name hname by_ hby part _ _ (Two_intro _ _)) ?_ | refine rankedOf_A r hS name hname by_ hby part _ _ ?_ | refine QCall_of (rankedOf_A r hS name hname by_ hby part _ _ (Two_intro _ _)) ?_ | refine sameRel_A (ranked r name by_ part).1 h1.1 h1.2.1 h1.2.2 _ _ ?_ | refine QCall_of (sameRel_A (ranked r name by_ part).1 h1.1 h1.2.1 h1.2.2 _ _ (Two_intro _ _)) ?_ | refine sameRel_A r (by omega) (by omega) (fun l hl => by have := hS.row l hl; omega) _ _ ?_ | refine QCall_of (sameRel_A r (by omega) (by omega) (fun l hl => by have := hS.row l hl; omega) _ _ (Two_intro _ _)) ?_); try simp (dsimp := false) only [go_sem, Nat.reduceAdd, Nat.reduceBEq, Nat.reduceEqDiff, Nat.reduceLT, Nat.reduceLeDiff, Nat.reduceMul, Int.reduceToNat, reduceCtorEq, ↓reduceIte, Tryd.ntmps4, Tryd.results4, ks_4, mu_4, xa_4, ti_ag25, ti_hb6, ti_hb9, ti_hb10, ti_hb11, ti_sl22, ti_sz25, ti_zr25, rlV, rlD, relE]) | (refine AWp_condC rfl ?_; intro KA KB hKA hKB; try simp only [onB_true, onB_false, onB_dec, onB_ndec, onB_not, onB_and, onB_or]) | (refine AWp_condA rfl ?_ ?_) | with_reducible (first | refine onB_of ?_ ?_ | rfl) | omega)
  all_goals first
    | exact keepD hk rfl
    | exact keepD hk (by simp)
    | exact dropD hk rfl
end
instance gl : Glo := ⟨fun g => if g = 1 then some acceptRow else if g = 0 then some firstRow else none⟩
instance : U8 := ⟨rfl, rfl⟩
theorem law (dss : List (List D)) (h : TypedAll [.cons (.sl (.s)) (.cons (.sl (.sl (.cons (.i .i64) (.cons (.i .i64) (.cons (.s) (.nil)))))) (.nil)), .s, .sl (.s), .s] dss 1048576) : ACalls Tryd.prog 4 (argsV [.cons (.sl (.s)) (.cons (.sl (.sl (.cons (.i .i64) (.cons (.i .i64) (.cons (.s) (.nil)))))) (.nil)), .s, .sl (.s), .s] dss) [] fun v _ => v = .d (.b true) := by
  match dss, h with
  | [d1, d2, d3, d4], ⟨_, _, _, h1, _, _, _, h2, _, _, _, h3, _, _, _, h4, _⟩ =>
    obtain ⟨r, rfl, hr⟩ := typed_rl (by omega) h1
    obtain ⟨a, rfl, ha⟩ := typed_s h2
    obtain ⟨by_, rfl, c1, c2⟩ := typed_strs h3
    obtain ⟨b, rfl, hb⟩ := typed_s h4
    exact walk r hr a (by omega) by_ (by omega) b _ rfl
theorem globs {W : World} (h : laidMetH Tryd.prog Rows.relRanksUptoRow.laid W) : Globs W := by
  have r0 := Lib.laidMet.reads h (.head _)
  have r1 := Lib.laidMet.reads h (.tail _ (.head _))
  intro g row hg
  change (if g = 1 then some acceptRow else if g = 0 then some firstRow else none) = some row at hg
  split at hg
  · rename_i e
    subst e
    cases hg
    exact var_row (n := 8) (t := 152) (by kernel_rfl) (by kernel_rfl) (by kernel_rfl) (by decide) r0 (fun _ h => h)
  ·
    split at hg
    · rename_i e
      subst e
      cases hg
      exact var_row (n := 8) (t := 149) (by kernel_rfl) (by kernel_rfl) (by kernel_rfl) (by decide) r1 (fun _ h => h)
    ·
      cases hg
noncomputable def laidWorld (os : Os) : World :=
  let w0 := World.holding Tryd.prog os ⟨#[], #[], []⟩
  { w0 with heap := putRow (putRow (w0.heap) 1 acceptRow) 0 firstRow }
theorem laid_met (os : Os) : laidMet Tryd.prog Rows.relRanksUptoRow.laid ((laidWorld os).forCall (fun _ _ => 0) ⟨#[], #[.agg #[.slice none 0 0, .slice none 0 0], .string .empty, .slice none 0 0, .string .empty], []⟩).memory :=
  laidMet_of_run' 8 (by kernel_rfl) (by kernel_rfl)
theorem reads (os : Os) {H : Type} (enc : TypeId × Value → H) : ∃ places, DataW.whole enc Tryd.prog ((laidWorld os).forCall (fun _ _ => 0) ⟨#[], #[.agg #[.slice none 0 0, .slice none 0 0], .string .empty, .slice none 0 0, .string .empty], []⟩).memory Tryd.f4.params.toList Rows.relRanksSpec.vars false (#[.agg #[.slice none 0 0, .slice none 0 0], .string .empty, .slice none 0 0, .string .empty] : Array Value).toList 8 = some ([.agg [.nil, .nil], .lit (.string []), .nil, .lit (.string [])], [], places) :=
  ⟨[], by kernel_rfl⟩
set_option maxRecDepth 100000 in
theorem lifted (os : Os) (started : os.Started) (H : Type) (enc : TypeId × Value → H) (F : Stop.Interp) :
    ReturnsInHanded {} Tryd.checked os 4 .any ((Rows.OpenSpec.upto Rows.relRanksSpec).preRow enc Tryd.prog Tryd.f4 Rows.relRanksUptoRow.domain false Rows.relRanksUptoRow.laid) (((Rows.OpenSpec.upto Rows.relRanksSpec).at F).post enc Tryd.prog Tryd.f4 false true false false) := by
  obtain ⟨places, hx⟩ := reads os enc
  refine returnsInHanded_of_row (C := Tryd.checked) (s := Rows.OpenSpec.upto Rows.relRanksSpec) own started (by kernel_rfl) Tryd.func4
    (witness_row_at (enc := enc) (C := Tryd.checked) false (laidWorld os) #[.agg #[.slice none 0 0, .slice none 0 0], .string .empty, .slice none 0 0, .string .empty] rfl (by kernel_rfl) (by kernel_rfl) (by kernel_rfl)
      (OpenSpec.preRow_of_cond 8 hx (by kernel_rfl) (fun k hk => by cases hk; kernel_rfl) (by kernel_rfl) (laid_met os))) ?_
  intro W base args ds gs before hval hW _ hcond _ hL _ _
  refine law_contract (n := 12) (Ts := [.cons (.sl (.s)) (.cons (.sl (.sl (.cons (.i .i64) (.cons (.i .i64) (.cons (.s) (.nil)))))) (.nil)), .s, .sl (.s), .s]) (bt := 4) rfl (by kernel_rfl) Tryd.underlying4 (by kernel_rfl) (by kernel_rfl) (fun ds hds => ?_) law W (globs hL) args ds gs before base hval hW (hcond _ rfl)
  match ds, hds with
  | [d0, d1, d2, d3], _ => rfl
theorem said : Rows.RelRanksUptoSaid :=
  OpenClaim.holds_of_cond 4 Tryd.f4 rfl rfl rfl rfl rfl rfl rfl ⟨rfl, rfl, rfl, rfl, rfl⟩ rfl rfl rfl rfl rfl (by kernel_rfl) Tryd.func4 (by kernel_rfl)
    (of_decide_eq_true (by kernel_rfl)) (by unfold Func.isWrapper; first | (rw [if_pos (by decide +kernel)]; kernel_rfl) | (rw [if_neg (by decide +kernel)]; exact ⟨rfl, rfl⟩))
    (fun os started H enc _ F => by rw [OpenClaim.pre_eq_preRow]; exact lifted os started H enc F)
theorem plain (f : FuncId) (fn : Func) (hf : Tryd.pinned.checked.prog.funcNamed Rows.relRanksUptoRow.func = some f) (hfn : Tryd.pinned.checked.prog.funcs[f]? = some fn) :
    false = Tryd.pinned.checked.prog.looks [] ∧ ∀ (j : Nat) t, fn.params[j]? = some t → Tryd.pinned.checked.prog.wantsStandIn t = false := by
  obtain rfl : f = 4 := Option.some.inj ((show Tryd.prog.funcNamed Rows.relRanksUptoRow.func = some 4 by kernel_rfl).symm.trans hf) |>.symm
  obtain rfl : fn = Tryd.f4 := (Option.some.inj (Tryd.func4.symm.trans hfn)).symm
  refine ⟨by kernel_rfl, fun j t ht => ?_⟩
  have hm : t ∈ Tryd.f4.params.toList := by simpa using Array.mem_of_getElem? ht
  have hall : (Tryd.f4.params.toList.all fun u => !Tryd.prog.wantsStandIn u) = true := by kernel_rfl
  exact (show Tryd.prog.wantsStandIn t = false by simpa using List.all_eq_true.1 hall t hm)
theorem proved : Rows.RelRanksUptoCardSaid :=
  Claim7.holds_tied_plain_at .later [] _ _ _ _ said (fun _ h => by cases h) (by kernel_rfl) (fun _ h => by cases h) relRanksUpto_row_tie rfl ⟨rfl, rfl⟩ (by kernel_rfl) rfl plain (by kernel_rfl)
end Go.Proofs.YtpgdflhcmijaiaaDoor.relRanks
