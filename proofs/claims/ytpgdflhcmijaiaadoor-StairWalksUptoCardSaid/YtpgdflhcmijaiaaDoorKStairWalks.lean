/- The law StairWalks holds wherever what it reads is of bulk at most 1048576: it returns true, and its arguments read as they did; the tables of package unicode/utf8 as the row lists them. -/
import Derived.Test.YtpgdflhcmijaiaaDoorZ17
import Derived.Test.YtpgdflhcmijaiaaDoorZ43
import Derived.Test.YtpgdflhcmijaiaaDoorZ47
import Derived.Test.YtpgdflhcmijaiaaDoorZ48
import Derived.Test.YtpgdflhcmijaiaaDoorCards
import Derived.Test.YtpgdflhcmijaiaaDoorTie
import Derived.Deep.DeepHandedRow
import Derived.SevenTiedAt
set_option linter.all false
set_option linter.unusedSimpArgs false
set_option linter.unusedVariables false
namespace Go.Proofs.YtpgdflhcmijaiaaDoor.stairWalks
open Go Go.ChangeShapes Go.WideShapes Go.ChangeAt Go.RowKit Go.Proofs.YtpgdflhcmijaiaaDoor.Ab
set_option maxHeartbeats 1000000
set_option maxRecDepth 20000
section
variable [Glo]
theorem typed_ints {ds : List D} {m : Nat} (h : Typed (.sl (.i .i64)) ds m) : ∃ zs : List Int, ds = [.sl 1 (zs.map zR)] ∧ zs.length ≤ m := by
  obtain ⟨xs, ws, rfl, h1, h2, h3⟩ := typed_list (f := zR) (p := fun (x : Int) m => 1 ≤ m) (fun ds m h => by
    obtain ⟨n, rfl, _, hm⟩ := typed_i h
    exact ⟨n, rfl, hm⟩) h
  refine ⟨xs, rfl, ?_⟩
  have := len_sum (ws := ws) 1 fun i w hw' => by
    have hi : i < ws.length := lt_of_get hw'
    exact h3 i _ w (List.getElem?_eq_getElem (by omega)) hw'
  omega
theorem typed_ts {ds : List D} {m : Nat} (h : Typed (.cons (.i .i64) (.cons .s .nil)) ds m) : ∃ x : Ts, ds = tsD x := by
  obtain ⟨_, _, _, _, rfl, e1, h1, g1⟩ := typed_cons h
  obtain ⟨_, _, _, _, rfl, e2, h2, g2⟩ := typed_cons g1
  obtain ⟨a, rfl, ra, la⟩ := typed_i h1
  obtain ⟨s, rfl, lb⟩ := typed_s h2
  obtain rfl := typed_nil g2
  exact ⟨⟨a, s⟩, rfl⟩
variable [U8]
theorem walkR_len (l : List Nd) (zs : List Int) (axis : Int) (t : Ts) : (walkR l zs axis t).length ≤ l.length := by
  unfold walkR
  split
  · exact colF_len _ _
  · exact Nat.zero_le _
def ks_5 : Nat → List Nat
  | 0 => [0, 1, 2, 7]
  | 1 => [0, 1, 2, 7, 9]
  | 2 => [0, 1, 2, 7, 9, 10, 11]
  | 3 => [1, 9, 10, 11, 12, 13]
  | 4 => [8]
  | _ => []
def mu_5 : List Nat := []
def in_5 : List Nat := [0, 1, 2, 3]
def nd_5 : Nat → Nat
  | 2 => 10
  | _ => 0
theorem walk (l : List Nd) (hlen : l.length ≤ 1048576) (hS : Short l) (zs : List Int) (hz : zs.length ≤ 1048576) (axis : Int) (t : Ts) (K : V → Heap → Prop) (hk : K (.d (.b true)) []) :
    ACalls Tryd.prog 5 [.d (.sl 6 (l.map ndD)), .d (.sl 1 (zs.map zR)), .d (.i .i64 axis), tsV t] [] K := by
  have hw := walkR_len l zs axis t
  have hsi : ∀ H K, K (.d (.b true)) H → ACalls Tryd.prog 16 [.d (.sl 1 ((walkR l zs axis t).map natR)), .d (.sl 1 ((walkR l zs axis t).map natR))] H K := fun H K hk => by
    have e : (walkR l zs axis t).map natR = ((walkR l zs axis t).map fun i : Nat => (i : Int)).map zR := by rw [List.map_map]; rfl
    rw [e]
    exact sameInts_A _ (by rw [List.length_map]; omega) H K hk
  have h1 := fun H K hk => stairWalk_A l hlen hS t axis zs hz H K hk
  have h2 := fun H K hk => walkedOf_A l hlen hS t axis zs hz H K hk
  rw [tsV] at h1 h2
  refine ACalls_of Tryd.func5 rfl in_5 (Nat.le_of_ble_eq_true rfl) ?_
  intro F hF
  simp (dsimp := false) only [go_sem, Nat.reduceAdd, Nat.reduceBEq, Nat.reduceEqDiff, Nat.reduceLT, Nat.reduceLeDiff, Nat.reduceMul, Int.reduceToNat, reduceCtorEq, ↓reduceIte, Tryd.ntmps5, Tryd.results5, ks_5, mu_5, nd_5, ti_ag37, ti_hb12, ti_hb13, ti_hb14, ti_hb15, ti_hb16, ti_sz37, ndD, ndV, tsV, tsD, in_5] at hF
  subst hF
  repeat' (first | with_reducible (first | refine And.intro ?_ ?_ | intro _ | refine AWp_seq ?_ | refine AWp_block ?_ | (refine hKv _ _ (AWp_nop ?_); clear hKv Kv) | (refine hKA ?_; clear hKA hKB KA KB) | (refine hKB ?_; clear hKA hKB KA KB) | refine AWp_skipN ?_ | refine AWp_exitO (by repeat (first | exact Out.hit | apply Out.thenA | apply Out.out rfl)) ?_) | ((first | with_reducible (first | (refine hKv _ _ ?_; clear hKv Kv) | ((first | refine AWp_regC mu_5 ks_5 ?_ | refine AWp_draw nd_5 mu_5 ks_5 ti_mixed (by kernel_rfl) ?_ | refine AWp_regE mu_5 ks_5 ?_ | refine AWp_drawE nd_5 mu_5 ks_5 ti_mixed (by kernel_rfl) ?_); intro Kv hKv) | refine AWp_retR ?_) | refine ints_A zs hz _ _ ?_ | refine QCall_of (ints_A zs hz _ _ (Two_intro _ _)) ?_ | refine nodes_A l (by omega) _ _ ?_ | refine QCall_of (nodes_A l (by omega) _ _ (Two_intro _ _)) ?_ | refine h1 _ _ ?_ | refine QCall_of (h1 _ _ (Two_intro _ _)) ?_ | refine h2 _ _ ?_ | refine QCall_of (h2 _ _ (Two_intro _ _)) ?_ | refine hsi _ _ ?_ | refine QCall_of (hsi _ _ (Two_intro _ _)) ?_ | refine sameInts_A zs (by omega) _ _ ?_ | refine QCall_of (sameInts_A zs (by omega) _ _ (Two_intro _ _)) ?_); try simp (dsimp := false) only [go_sem, Nat.reduceAdd, Nat.reduceBEq, Nat.reduceEqDiff, Nat.reduceLT, Nat.reduceLeDiff, Nat.reduceMul, Int.reduceToNat, reduceCtorEq, ↓reduceIte, Tryd.ntmps5, Tryd.results5, ks_5, mu_5, nd_5, ti_ag37, ti_hb12, ti_hb13, ti_hb14, ti_hb15, ti_hb16, ti_sz37, ndD, ndV, tsV, tsD]) | (refine AWp_condC rfl ?_; intro KA KB hKA hKB; try simp only [onB_true, onB_false, onB_dec, onB_ndec, onB_not, onB_and, onB_or]) | (refine AWp_condA rfl ?_ ?_) | with_reducible (first | refine onB_of ?_ ?_ | rfl) | omega)
  all_goals first
    | omega
    | exact keepD hk rfl
    | exact keepD hk (by simp)
    | exact dropD hk rfl
end
instance gl : Glo := ⟨fun g => if g = 1 then some acceptRow else if g = 0 then some firstRow else none⟩
instance : U8 := ⟨rfl, rfl⟩
theorem law (dss : List (List D)) (h : TypedAll [.sl (.cons (.i .i64) (.cons (.s) (.cons (.s) (.cons (.i .i64) (.cons (.i .i64) (.cons (.i .i64) (.nil))))))), .sl (.i .i64), .i .i64, .cons (.i .i64) (.cons (.s) (.nil))] dss 1048576) : ACalls Tryd.prog 5 (argsV [.sl (.cons (.i .i64) (.cons (.s) (.cons (.s) (.cons (.i .i64) (.cons (.i .i64) (.cons (.i .i64) (.nil))))))), .sl (.i .i64), .i .i64, .cons (.i .i64) (.cons (.s) (.nil))] dss) [] fun v _ => v = .d (.b true) := by
  match dss, h with
  | [d1, d2, d3, d4], ⟨_, _, _, h1, _, _, _, h2, _, _, _, h3, _, _, _, h4, _⟩ =>
    obtain ⟨l, rfl, hl, hx⟩ := typed_nds h1
    obtain ⟨zs, rfl, hzl⟩ := typed_ints h2
    obtain ⟨axis, rfl, _, _⟩ := typed_i h3
    obtain ⟨t, rfl⟩ := typed_ts h4
    exact walk l (by omega) (fun x h => ⟨by have := (hx x h).1; omega, by have := (hx x h).1; omega⟩) zs (by omega) axis t _ rfl
theorem globs {W : World} (h : laidMetH Tryd.prog Rows.stairWalksUptoRow.laid W) : Globs W := by
  have r0 := Lib.laidMet.reads h (.head _)
  have r1 := Lib.laidMet.reads h (.tail _ (.head _))
  intro g row hg
  change (if g = 1 then some acceptRow else if g = 0 then some firstRow else none) = some row at hg
  split at hg
  · rename_i e
    subst e
    cases hg
    exact var_row (n := 8) (t := 152) (by kernel_rfl) (by kernel_rfl) (by kernel_rfl) (by decide) r0 (fun _ h => h)
  ·
    split at hg
    · rename_i e
      subst e
      cases hg
      exact var_row (n := 8) (t := 149) (by kernel_rfl) (by kernel_rfl) (by kernel_rfl) (by decide) r1 (fun _ h => h)
    ·
      cases hg
noncomputable def laidWorld (os : Os) : World :=
  let w0 := World.holding Tryd.prog os ⟨#[], #[], []⟩
  { w0 with heap := putRow (putRow (w0.heap) 1 acceptRow) 0 firstRow }
theorem laid_met (os : Os) : laidMet Tryd.prog Rows.stairWalksUptoRow.laid ((laidWorld os).forCall (fun _ _ => 0) ⟨#[], #[.slice none 0 0, .slice none 0 0, .int .i64 0, .agg #[.int .i64 0, .string .empty]], []⟩).memory :=
  laidMet_of_run' 8 (by kernel_rfl) (by kernel_rfl)
theorem reads (os : Os) {H : Type} (enc : TypeId × Value → H) : ∃ places, DataW.whole enc Tryd.prog ((laidWorld os).forCall (fun _ _ => 0) ⟨#[], #[.slice none 0 0, .slice none 0 0, .int .i64 0, .agg #[.int .i64 0, .string .empty]], []⟩).memory Tryd.f5.params.toList Rows.stairWalksSpec.vars false (#[.slice none 0 0, .slice none 0 0, .int .i64 0, .agg #[.int .i64 0, .string .empty]] : Array Value).toList 8 = some ([.nil, .nil, .lit (.int .i64 0), .agg [.lit (.int .i64 0), .lit (.string [])]], [], places) :=
  ⟨[], by kernel_rfl⟩
set_option maxRecDepth 100000 in
theorem lifted (os : Os) (started : os.Started) (H : Type) (enc : TypeId × Value → H) (F : Stop.Interp) :
    ReturnsInHanded {} Tryd.checked os 5 .any ((Rows.OpenSpec.upto Rows.stairWalksSpec).preRow enc Tryd.prog Tryd.f5 Rows.stairWalksUptoRow.domain false Rows.stairWalksUptoRow.laid) (((Rows.OpenSpec.upto Rows.stairWalksSpec).at F).post enc Tryd.prog Tryd.f5 false true false false) := by
  obtain ⟨places, hx⟩ := reads os enc
  refine returnsInHanded_of_row (C := Tryd.checked) (s := Rows.OpenSpec.upto Rows.stairWalksSpec) own started (by kernel_rfl) Tryd.func5
    (witness_row_at (enc := enc) (C := Tryd.checked) false (laidWorld os) #[.slice none 0 0, .slice none 0 0, .int .i64 0, .agg #[.int .i64 0, .string .empty]] rfl (by kernel_rfl) (by kernel_rfl) (by kernel_rfl)
      (OpenSpec.preRow_of_cond 8 hx (by kernel_rfl) (fun k hk => by cases hk; kernel_rfl) (by kernel_rfl) (laid_met os))) ?_
  intro W base args ds gs before hval hW _ hcond _ hL _ _
  refine law_contract (n := 12) (Ts := [.sl (.cons (.i .i64) (.cons (.s) (.cons (.s) (.cons (.i .i64) (.cons (.i .i64) (.cons (.i .i64) (.nil))))))), .sl (.i .i64), .i .i64, .cons (.i .i64) (.cons (.s) (.nil))]) (bt := 4) rfl (by kernel_rfl) Tryd.underlying4 (by kernel_rfl) (by kernel_rfl) (fun ds hds => ?_) law W (globs hL) args ds gs before base hval hW (hcond _ rfl)
  match ds, hds with
  | [d0, d1, d2, d3], _ => rfl
theorem said : Rows.StairWalksUptoSaid :=
  OpenClaim.holds_of_cond 5 Tryd.f5 rfl rfl rfl rfl rfl rfl rfl ⟨rfl, rfl, rfl, rfl, rfl⟩ rfl rfl rfl rfl rfl (by kernel_rfl) Tryd.func5 (by kernel_rfl)
    (of_decide_eq_true (by kernel_rfl)) (by unfold Func.isWrapper; first | (rw [if_pos (by decide +kernel)]; kernel_rfl) | (rw [if_neg (by decide +kernel)]; exact ⟨rfl, rfl⟩))
    (fun os started H enc _ F => by rw [OpenClaim.pre_eq_preRow]; exact lifted os started H enc F)
theorem plain (f : FuncId) (fn : Func) (hf : Tryd.pinned.checked.prog.funcNamed Rows.stairWalksUptoRow.func = some f) (hfn : Tryd.pinned.checked.prog.funcs[f]? = some fn) :
    false = Tryd.pinned.checked.prog.looks [] ∧ ∀ (j : Nat) t, fn.params[j]? = some t → Tryd.pinned.checked.prog.wantsStandIn t = false := by
  obtain rfl : f = 5 := Option.some.inj ((show Tryd.prog.funcNamed Rows.stairWalksUptoRow.func = some 5 by kernel_rfl).symm.trans hf) |>.symm
  obtain rfl : fn = Tryd.f5 := (Option.some.inj (Tryd.func5.symm.trans hfn)).symm
  refine ⟨by kernel_rfl, fun j t ht => ?_⟩
  have hm : t ∈ Tryd.f5.params.toList := by simpa using Array.mem_of_getElem? ht
  have hall : (Tryd.f5.params.toList.all fun u => !Tryd.prog.wantsStandIn u) = true := by kernel_rfl
  exact (show Tryd.prog.wantsStandIn t = false by simpa using List.all_eq_true.1 hall t hm)
theorem proved : Rows.StairWalksUptoCardSaid :=
  Claim7.holds_tied_plain_at .later [] _ _ _ _ said (fun _ h => by cases h) (by kernel_rfl) (fun _ h => by cases h) stairWalksUpto_row_tie rfl ⟨rfl, rfl⟩ (by kernel_rfl) rfl plain (by kernel_rfl)
end Go.Proofs.YtpgdflhcmijaiaaDoor.stairWalks
