/- The law StoreTexts holds: it returns true at every argument, and its arguments read as they did; the tables as the row lists them. No condition. -/
import Derived.Test.YtmalccaijjcepaaDoorGv
import Derived.Test.YtmalccaijjcepaaDoorLwT
import Derived.Test.YtmalccaijjcepaaDoorTx
import Derived.Test.YtmalccaijjcepaaDoorCards
import Derived.Test.YtmalccaijjcepaaDoorTie
import Derived.Deep.DeepHandedRow
import Derived.SevenTiedAt
set_option linter.all false
set_option linter.unusedSimpArgs false
set_option linter.unusedVariables false
namespace Go.Proofs.YtmalccaijjcepaaDoor.storeTexts
open Go Go.ChangeShapes Go.WideShapes Go.ChangeAt Go.RowKit Go.Proofs.YtmalccaijjcepaaDoor.Ab
set_option maxHeartbeats 1000000
set_option maxRecDepth 20000
section
variable [Glo] [U8]
theorem typed_nd2 {ds : List D} {m : Nat} (h : Typed tyNd ds m) : ∃ x : Nd, ds = ndD x ∧ x.nm.length ≤ 9223372036854775807 ∧ x.vl.length ≤ 9223372036854775807 := by
  obtain ⟨_, _, _, _, rfl, e1, h1, g1⟩ := typed_cons h
  obtain ⟨_, _, _, _, rfl, e2, h2, g2⟩ := typed_cons g1
  obtain ⟨_, _, _, _, rfl, e3, h3, g3⟩ := typed_cons g2
  obtain ⟨_, _, _, _, rfl, e4, h4, g4⟩ := typed_cons g3
  obtain ⟨_, _, _, _, rfl, e5, h5, g5⟩ := typed_cons g4
  obtain ⟨_, _, _, _, rfl, e6, h6, g6⟩ := typed_cons g5
  obtain ⟨k, rfl, _⟩ := typed_i h1
  obtain ⟨nm, rfl, b1⟩ := typed_s2 h2
  obtain ⟨vl, rfl, b2⟩ := typed_s2 h3
  obtain ⟨sz, rfl, _⟩ := typed_i h4
  obtain ⟨lv, rfl, _⟩ := typed_i h5
  obtain ⟨up, rfl, _⟩ := typed_i h6
  obtain rfl := typed_nil g6
  exact ⟨⟨k, nm, vl, sz, lv, up⟩, rfl, b1, b2⟩
theorem typed_nds2 {ds : List D} {m : Nat} (h : Typed (.sl tyNd) ds m) : ∃ l : List Nd, ds = [.sl 6 (l.map ndD)] ∧ ∀ x, x ∈ l → x.nm.length ≤ 9223372036854775807 ∧ x.vl.length ≤ 9223372036854775807 := by
  obtain ⟨xs, ws, rfl, h1, h2, h3⟩ := typed_list (p := fun (x : Nd) m => x.nm.length ≤ 9223372036854775807 ∧ x.vl.length ≤ 9223372036854775807) (fun ds m h => typed_nd2 h) h
  refine ⟨xs, rfl, fun x hx => ?_⟩
  obtain ⟨i, hi, rfl⟩ := List.mem_iff_getElem.1 hx
  obtain ⟨w, hw⟩ : ∃ w, ws[i]? = some w := ⟨ws[i]'(by omega), List.getElem?_eq_getElem (by omega)⟩
  exact h3 i _ w (List.getElem?_eq_getElem hi) hw
/- the live slots of pleacher/pleacherlaw.StoreTexts -/
def ks_8 : Nat → List Nat
  | 0 => [0, 1]
  | 1 => [0, 1, 5, 6]
  | 2 => [5, 6, 7, 8]
  | 3 => [4]
  | _ => []
def mu_8 : List Nat := []
def in_8 : List Nat := [0, 1]
theorem walk (l : List Nd) (n : Int) (hlen : l.length * 64 ≤ 140737488351232) (hn : inR .i64 n) (hS : Short l) (K : V → Heap → Prop) (hk : K (.d (.b true)) []) : ACalls Tryd.prog 8 [.d (.sl 6 (l.map ndD)), .d (.i .i64 n)] [] K := by
  refine ACalls_of Tryd.func8 rfl in_8 (Nat.le_of_ble_eq_true rfl) ?_
  intro F hF
  simp (dsimp := false) only [go_sem, Nat.reduceAdd, Nat.reduceBEq, Nat.reduceEqDiff, Nat.reduceLT, Nat.reduceLeDiff, Nat.reduceMul, Int.reduceToNat, reduceCtorEq, ↓reduceIte, Tryd.ntmps8, Tryd.results8, ks_8, mu_8, ti_hb16, ti_hb24, ti_hb25, in_8] at hF
  subst hF
  repeat' (first | with_reducible (first | refine And.intro ?_ ?_ | intro _ | refine AWp_seq ?_ | refine AWp_block ?_ | (refine hKv _ _ (AWp_nop ?_); clear hKv Kv) | (refine hKA ?_; clear hKA hKB KA KB) | (refine hKB ?_; clear hKA hKB KA KB) | refine AWp_skipN ?_ | refine AWp_exitO (by repeat (first | exact Out.hit | apply Out.thenA | apply Out.out rfl)) ?_) | ((first | with_reducible (first | (refine hKv _ _ ?_; clear hKv Kv) | ((first | refine AWp_regC mu_8 ks_8 ?_ | refine AWp_regE mu_8 ks_8 ?_); intro Kv hKv) | refine AWp_retR ?_) | refine nodes_A _ (by omega) _ _ ?_ | refine storeText_A _ _ (by omega) hS _ _ ?_ | refine refTextOf_A _ _ (by omega) hS _ _ ?_); try simp (dsimp := false) only [go_sem, Nat.reduceAdd, Nat.reduceBEq, Nat.reduceEqDiff, Nat.reduceLT, Nat.reduceLeDiff, Nat.reduceMul, Int.reduceToNat, reduceCtorEq, ↓reduceIte, Tryd.ntmps8, Tryd.results8, ks_8, mu_8, ti_hb16, ti_hb24, ti_hb25]) | (refine AWp_condC rfl ?_; intro KA KB hKA hKB; try simp only [onB_true, onB_false, onB_dec, onB_ndec, onB_not, onB_and, onB_or]) | (refine AWp_condA rfl ?_ ?_) | with_reducible (first | refine onB_of ?_ ?_ | rfl) | omega)
  all_goals exact keepD hk rfl
end
instance gl : Glo := ⟨fun g => if g = 2 then some acceptRow else if g = 1 then some firstRow else none⟩
instance : U8 := ⟨rfl, rfl⟩
theorem law (m : Nat) (dss : List (List D)) (h : TypedAll [.sl (.cons (.i .i64) (.cons (.s) (.cons (.s) (.cons (.i .i64) (.cons (.i .i64) (.cons (.i .i64) (.nil))))))), .i .i64] dss m) (hz : SizedV Tryd.prog Tryd.f8.params.toList (argsV [.sl (.cons (.i .i64) (.cons (.s) (.cons (.s) (.cons (.i .i64) (.cons (.i .i64) (.cons (.i .i64) (.nil))))))), .i .i64] dss)) : ACalls Tryd.prog 8 (argsV [.sl (.cons (.i .i64) (.cons (.s) (.cons (.s) (.cons (.i .i64) (.cons (.i .i64) (.cons (.i .i64) (.nil))))))), .i .i64] dss) [] fun v _ => v = .d (.b true) := by
  match dss, h, hz with
  | [d1, d2], ⟨_, _, _, h1, _, _, _, h2, _⟩, hz =>
    obtain ⟨l, rfl, hx⟩ := typed_nds2 h1
    obtain ⟨n, rfl, hn, _⟩ := typed_i h2
    have hb : Tryd.prog.bytesOf 57 = 64 := by kernel_rfl
    have hl := hz 0 29 57 6 (l.map ndD) (by kernel_rfl) Tryd.underlying29 rfl
    rw [hb, List.length_map] at hl
    exact walk l n hl hn hx _ rfl
theorem globs {W : World} (h : laidMetH Tryd.prog Rows.storeTextsRow.laid W) : Globs W := by
  have r0 := Lib.laidMet.reads h (.head _)
  have r1 := Lib.laidMet.reads h (.tail _ (.head _))
  intro g row hg
  change (if g = 2 then some acceptRow else if g = 1 then some firstRow else none) = some row at hg
  split at hg
  · rename_i e
    subst e
    cases hg
    exact var_row (n := 8) (t := 99) (by kernel_rfl) (by kernel_rfl) (by kernel_rfl) (by decide) r0 (fun _ h => h)
  ·
    split at hg
    · rename_i e
      subst e
      cases hg
      exact var_row (n := 8) (t := 96) (by kernel_rfl) (by kernel_rfl) (by kernel_rfl) (by decide) r1 (fun _ h => h)
    ·
      cases hg
noncomputable def laidWorld (os : Os) : World :=
  let w0 := World.holding Tryd.prog os ⟨#[], #[], []⟩
  { w0 with heap := putRow (putRow (w0.heap) 2 acceptRow) 1 firstRow }
theorem laid_met (os : Os) : laidMet Tryd.prog Rows.storeTextsRow.laid ((laidWorld os).forCall (fun _ _ => 0) ⟨#[], #[.slice none 0 0, .int .i64 0], []⟩).memory :=
  laidMet_of_run' 8 (by kernel_rfl) (by kernel_rfl)
theorem reads (os : Os) {H : Type} (enc : TypeId × Value → H) : ∃ places, DataW.whole enc Tryd.prog ((laidWorld os).forCall (fun _ _ => 0) ⟨#[], #[.slice none 0 0, .int .i64 0], []⟩).memory Tryd.f8.params.toList Rows.storeTextsSpec.vars false (#[.slice none 0 0, .int .i64 0] : Array Value).toList 8 = some ([.nil, .lit (.int .i64 0)], [], places) :=
  ⟨[], by kernel_rfl⟩
set_option maxRecDepth 100000 in
theorem lifted (os : Os) (started : os.Started) (H : Type) (enc : TypeId × Value → H) (F : Stop.Interp) :
    ReturnsInHanded {} Tryd.checked os 8 .any ((OpenSpec.ofChange Rows.storeTextsSpec).preRow enc Tryd.prog Tryd.f8 Rows.storeTextsRow.domain false Rows.storeTextsRow.laid) (((OpenSpec.ofChange Rows.storeTextsSpec).at F).post enc Tryd.prog Tryd.f8 false true false false) := by
  obtain ⟨places, hx⟩ := reads os enc
  refine returnsInHanded_of_row (C := Tryd.checked) (s := OpenSpec.ofChange Rows.storeTextsSpec) own started (by kernel_rfl) Tryd.func8
    (witness_row_at (enc := enc) (C := Tryd.checked) false (laidWorld os) #[.slice none 0 0, .int .i64 0] rfl (by kernel_rfl) (by kernel_rfl) (by kernel_rfl)
      (OpenSpec.preRow_of_cond 8 hx (by kernel_rfl) (fun k hk => by cases hk) (by kernel_rfl) (laid_met os))) ?_
  intro W base args ds gs before hval hW _ _ hz hL _ _
  refine law_contractS2 (n := 12) (Ts := [.sl (.cons (.i .i64) (.cons (.s) (.cons (.s) (.cons (.i .i64) (.cons (.i .i64) (.cons (.i .i64) (.nil))))))), .i .i64]) (bt := 4) rfl (by kernel_rfl) Tryd.underlying4 (by kernel_rfl) (by kernel_rfl) (fun ds hds => ?_) law W (globs hL) args ds gs before base hval hW hz
  match ds, hds with
  | [d0, d1], _ => rfl
theorem said : Rows.StoreTextsSaid :=
  OpenClaim.holds_of_cond 8 Tryd.f8 rfl rfl rfl rfl rfl rfl rfl ⟨rfl, rfl, rfl, rfl, rfl⟩ rfl rfl rfl rfl rfl (by kernel_rfl) Tryd.func8 (by kernel_rfl)
    (of_decide_eq_true (by kernel_rfl)) (by unfold Func.isWrapper; first | (rw [if_pos (by decide +kernel)]; kernel_rfl) | (rw [if_neg (by decide +kernel)]; exact ⟨rfl, rfl⟩))
    (fun os started H enc _ F => by rw [OpenClaim.pre_eq_preRow]; exact lifted os started H enc F)
theorem plain (f : FuncId) (fn : Func) (hf : Tryd.pinned.checked.prog.funcNamed Rows.storeTextsRow.func = some f) (hfn : Tryd.pinned.checked.prog.funcs[f]? = some fn) :
    false = Tryd.pinned.checked.prog.looks [] ∧ ∀ (j : Nat) t, fn.params[j]? = some t → Tryd.pinned.checked.prog.wantsStandIn t = false := by
  obtain rfl : f = 8 := Option.some.inj ((show Tryd.prog.funcNamed Rows.storeTextsRow.func = some 8 by kernel_rfl).symm.trans hf) |>.symm
  obtain rfl : fn = Tryd.f8 := (Option.some.inj (Tryd.func8.symm.trans hfn)).symm
  refine ⟨by kernel_rfl, fun j t ht => ?_⟩
  have hm : t ∈ Tryd.f8.params.toList := by simpa using Array.mem_of_getElem? ht
  have hall : (Tryd.f8.params.toList.all fun u => !Tryd.prog.wantsStandIn u) = true := by kernel_rfl
  exact (show Tryd.prog.wantsStandIn t = false by simpa using List.all_eq_true.1 hall t hm)
theorem proved : Rows.StoreTextsCardSaid :=
  Claim7.holds_tied_plain_at .later [] _ _ _ _ said (fun _ h => by cases h) (by kernel_rfl) (fun _ h => by cases h) storeTexts_row_tie rfl ⟨rfl, rfl⟩ (by kernel_rfl) rfl plain (by kernel_rfl)
end Go.Proofs.YtmalccaijjcepaaDoor.storeTexts
