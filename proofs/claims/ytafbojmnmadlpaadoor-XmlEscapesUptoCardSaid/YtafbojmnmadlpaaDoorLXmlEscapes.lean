/- The law XmlEscapes holds wherever what it reads is of bulk at most 1048576: it returns true, and its argument reads as it did; the tables of package unicode/utf8 and of marks as the row lists them. -/
import Derived.Test.YtafbojmnmadlpaaDoorGv
import Derived.Test.YtafbojmnmadlpaaDoorEs1
import Derived.Test.YtafbojmnmadlpaaDoorU8
import Derived.Test.YtafbojmnmadlpaaDoorCards
import Derived.Test.YtafbojmnmadlpaaDoorTie
import Derived.Deep.DeepHandedRow
import Derived.SevenTiedAt
set_option linter.all false
set_option linter.unusedSimpArgs false
set_option linter.unusedVariables false
namespace Go.Proofs.YtafbojmnmadlpaaDoor.xmlEscapes
open Go Go.ChangeShapes Go.WideShapes Go.ChangeAt Go.RowKit Go.Proofs.YtafbojmnmadlpaaDoor.Ab
set_option maxHeartbeats 1000000
set_option maxRecDepth 20000
section
variable [Glo] [Ml] [Ec]
/- the live slots of pleacher/pleacherlaw.XmlEscapes -/
def ks_8 : Nat → List Nat
  | 0 => [0]
  | 1 => [0, 3]
  | 2 => [3, 4]
  | 3 => [2]
  | _ => []
def mu_8 : List Nat := []
def in_8 : List Nat := [0]
theorem walk (s : List UInt8) (hs : s.length ≤ 1048576) (K : V → Heap → Prop) (hk : K (.d (.b true)) []) : ACalls Tryd.prog 8 [.d (.s s)] [] K := by
  refine ACalls_of Tryd.func8 rfl in_8 (Nat.le_of_ble_eq_true rfl) ?_
  intro F hF
  simp (dsimp := false) only [go_sem, Nat.reduceAdd, Nat.reduceBEq, Nat.reduceEqDiff, Nat.reduceLT, Nat.reduceLeDiff, Nat.reduceMul, Int.reduceToNat, reduceCtorEq, ↓reduceIte, Tryd.ntmps8, Tryd.results8, ks_8, mu_8, ti_hb27, ti_hb28, in_8] at hF
  subst hF
  repeat' (first
    | with_reducible refine And.intro ?_ ?_
    | with_reducible intro _
    | with_reducible refine AWp_seq ?_
    | with_reducible refine AWp_block ?_
    | (with_reducible refine hKv _ _ (AWp_nop ?_); clear hKv Kv)
    | (with_reducible refine hKv _ _ ?_; clear hKv Kv; simp (dsimp := false) only [go_sem, Nat.reduceAdd, Nat.reduceBEq, Nat.reduceEqDiff, Nat.reduceLT, Nat.reduceLeDiff, Nat.reduceMul, Int.reduceToNat, reduceCtorEq, ↓reduceIte, Tryd.ntmps8, Tryd.results8, ks_8, mu_8, ti_hb27, ti_hb28])
    | (with_reducible refine hKA ?_; clear hKA hKB KA KB)
    | (with_reducible refine hKB ?_; clear hKA hKB KA KB)
    | (with_reducible refine AWp_regC mu_8 ks_8 ?_; intro Kv hKv; simp (dsimp := false) only [go_sem, Nat.reduceAdd, Nat.reduceBEq, Nat.reduceEqDiff, Nat.reduceLT, Nat.reduceLeDiff, Nat.reduceMul, Int.reduceToNat, reduceCtorEq, ↓reduceIte, Tryd.ntmps8, Tryd.results8, ks_8, mu_8, ti_hb27, ti_hb28])
    | with_reducible refine AWp_skipN ?_
    | with_reducible refine AWp_exitO (by repeat (first | with_reducible exact Out.hit | with_reducible apply Out.thenA | with_reducible apply Out.out rfl)) ?_
    | (with_reducible refine AWp_retR ?_; simp (dsimp := false) only [go_sem, Nat.reduceAdd, Nat.reduceBEq, Nat.reduceEqDiff, Nat.reduceLT, Nat.reduceLeDiff, Nat.reduceMul, Int.reduceToNat, reduceCtorEq, ↓reduceIte, Tryd.ntmps8, Tryd.results8, ks_8, mu_8, ti_hb27, ti_hb28])
    | (with_reducible refine AWp_regE mu_8 ks_8 ?_; intro Kv hKv; simp (dsimp := false) only [go_sem, Nat.reduceAdd, Nat.reduceBEq, Nat.reduceEqDiff, Nat.reduceLT, Nat.reduceLeDiff, Nat.reduceMul, Int.reduceToNat, reduceCtorEq, ↓reduceIte, Tryd.ntmps8, Tryd.results8, ks_8, mu_8, ti_hb27, ti_hb28])
    | (refine AWp_condC rfl ?_; intro KA KB hKA hKB; try simp only [onB_true, onB_false, onB_dec, onB_ndec, onB_not, onB_and, onB_or])
    | (refine AWp_condA rfl ?_ ?_)
    | (refine escape_A s hs _ _ ?_; try simp (dsimp := false) only [go_sem, Nat.reduceAdd, Nat.reduceBEq, Nat.reduceEqDiff, Nat.reduceLT, Nat.reduceLeDiff, Nat.reduceMul, Int.reduceToNat, reduceCtorEq, ↓reduceIte, Tryd.ntmps8, Tryd.results8, ks_8, mu_8, ti_hb27, ti_hb28])
    | (refine escaped_A s hs _ _ ?_; try simp (dsimp := false) only [go_sem, Nat.reduceAdd, Nat.reduceBEq, Nat.reduceEqDiff, Nat.reduceLT, Nat.reduceLeDiff, Nat.reduceMul, Int.reduceToNat, reduceCtorEq, ↓reduceIte, Tryd.ntmps8, Tryd.results8, ks_8, mu_8, ti_hb27, ti_hb28])
    | with_reducible refine onB_of ?_ ?_
    | with_reducible rfl
    | omega)
  all_goals first
    | exact keepD hk rfl
    | exact keepD hk (by simp)
end
abbrev gl (m : Int) : Glo := ⟨fun g => if g = 3 then some acceptRow else if g = 0 then some escRow else if g = 2 then some firstRow else if g = 4 then some [D.i .i64 m] else none⟩
theorem maxl_of {W : World} (h : W.ShapedOpen Tryd.prog) : ∃ m, W.cell? ⟨4, 0, none⟩ = some (.int .i64 m) := by
  have e1 : Tryd.laysM155_ren.g 1 = 4 := by first | rfl | kernel_rfl
  obtain ⟨m, hm⟩ := Tryd.laysM155.s1_3 W h
  rw [e1] at hm
  exact ⟨m, hm⟩
theorem int_row [Glo] {w : World} {o : Nat → Prop} {g : Nat} {m : Int} (h : w.cell? ⟨g, 0, none⟩ = some (.int .i64 m)) (ho : ∀ b, ¬ o b := by exact fun _ h => h) : GRow w o g [D.i .i64 m] := by
  refine ⟨cell_lt h, ho g, fun _ => .int .i64 m, fun j x hx => ?_, fun j x hx => ?_⟩
  · match j, hx with
    | 0, _ => exact h
  · match j, hx with
    | 0, hx => cases hx; exact .i _ _
theorem law (m : Int) (dss : List (List D)) (h : TypedAll [.s] dss 1048576) : @ACalls (gl m) Tryd.prog 8 (argsV [.s] dss) [] fun v _ => v = .d (.b true) := by
  letI : Glo := gl m
  match dss, h with
  | [d1], ⟨_, _, _, h1, _⟩ =>
    obtain ⟨t, rfl, hs⟩ := typed_s h1
    letI : Ml := ⟨m, rfl⟩
    letI : Ec := ⟨rfl⟩
    exact walk t (by omega) _ rfl
theorem globs {W : World} (h : laidMetH Tryd.prog Rows.xmlEscapesUptoRow.laid W) {m : Int} (hm : W.cell? ⟨4, 0, none⟩ = some (.int .i64 m)) : @Globs (gl m) W := by
  letI : Glo := gl m
  have r0 := Lib.laidMet.reads h (.head _)
  have r1 := Lib.laidMet.reads h (.tail _ (.head _))
  have r2 := Lib.laidMet.reads h (.tail _ (.tail _ (.head _)))
  intro g row hg
  change (if g = 3 then some acceptRow else if g = 0 then some escRow else if g = 2 then some firstRow else if g = 4 then some [D.i .i64 m] else none) = some row at hg
  split at hg
  · rename_i e
    subst e
    cases hg
    exact var_row (n := 8) (t := 177) (by kernel_rfl) (by kernel_rfl) (by kernel_rfl) (by decide) r0 (fun _ h => h)
  ·
    split at hg
    · rename_i e
      subst e
      cases hg
      exact var_row (n := 8) (t := 96) (by kernel_rfl) (by kernel_rfl) (by kernel_rfl) (by decide) r1 (fun _ h => h)
    ·
      split at hg
      · rename_i e
        subst e
        cases hg
        exact var_row (n := 8) (t := 174) (by kernel_rfl) (by kernel_rfl) (by kernel_rfl) (by decide) r2 (fun _ h => h)
      ·
        split at hg
        · rename_i e
          subst e
          cases hg
          exact int_row hm
        · cases hg
noncomputable def laidWorld (os : Os) : World :=
  let w0 := World.holding Tryd.prog os ⟨#[], #[], []⟩
  { w0 with heap := putRow (putRow (putRow (w0.heap) 3 acceptRow) 0 escRow) 2 firstRow }
theorem laid_met (os : Os) : laidMet Tryd.prog Rows.xmlEscapesUptoRow.laid ((laidWorld os).forCall (fun _ _ => 0) ⟨#[], #[.string .empty], []⟩).memory :=
  laidMet_of_run' 8 (by kernel_rfl) (by kernel_rfl)
theorem reads (os : Os) {H : Type} (enc : TypeId × Value → H) : ∃ places, DataW.whole enc Tryd.prog ((laidWorld os).forCall (fun _ _ => 0) ⟨#[], #[.string .empty], []⟩).memory Tryd.f8.params.toList Rows.xmlEscapesSpec.vars false (#[.string .empty] : Array Value).toList 8 = some ([.lit (.string [])], [], places) :=
  ⟨[], by kernel_rfl⟩
set_option maxRecDepth 100000 in
theorem lifted (os : Os) (started : os.Started) (H : Type) (enc : TypeId × Value → H) (F : Stop.Interp) :
    ReturnsInHanded {} Tryd.checked os 8 .any ((Rows.OpenSpec.upto Rows.xmlEscapesSpec).preRow enc Tryd.prog Tryd.f8 Rows.xmlEscapesUptoRow.domain false Rows.xmlEscapesUptoRow.laid) (((Rows.OpenSpec.upto Rows.xmlEscapesSpec).at F).post enc Tryd.prog Tryd.f8 false true false false) := by
  obtain ⟨places, hx⟩ := reads os enc
  refine returnsInHanded_of_row (C := Tryd.checked) (s := Rows.OpenSpec.upto Rows.xmlEscapesSpec) (letI : Glo := gl 0; own) started (by kernel_rfl) Tryd.func8
    (witness_row_at (enc := enc) (C := Tryd.checked) false (laidWorld os) #[.string .empty] rfl (by kernel_rfl) (by kernel_rfl) (by kernel_rfl)
      (OpenSpec.preRow_of_cond 8 hx (by kernel_rfl) (fun k hk => by cases hk; kernel_rfl) (by kernel_rfl) (laid_met os))) ?_
  intro W base args ds gs before hval hW _ hcond _ hL hsh _
  obtain ⟨m, hm⟩ := maxl_of hsh
  letI : Glo := gl m
  refine law_contract (n := 12) (Ts := [.s]) (bt := 4) rfl (by kernel_rfl) Tryd.underlying4 (by kernel_rfl) (by kernel_rfl) (fun ds hds => ?_) (law m) W (globs hL hm) args ds gs before base hval hW (hcond _ rfl)
  match ds, hds with
  | [d0], _ => rfl
theorem said : Rows.XmlEscapesUptoSaid :=
  OpenClaim.holds_of_cond 8 Tryd.f8 rfl rfl rfl rfl rfl rfl rfl ⟨rfl, rfl, rfl, rfl, rfl⟩ rfl rfl rfl rfl rfl (by kernel_rfl) Tryd.func8 (by kernel_rfl)
    (of_decide_eq_true (by kernel_rfl)) (by unfold Func.isWrapper; first | (rw [if_pos (by decide +kernel)]; kernel_rfl) | (rw [if_neg (by decide +kernel)]; exact ⟨rfl, rfl⟩))
    (fun os started H enc _ F => by rw [OpenClaim.pre_eq_preRow]; exact lifted os started H enc F)
theorem plain (f : FuncId) (fn : Func) (hf : Tryd.pinned.checked.prog.funcNamed Rows.xmlEscapesUptoRow.func = some f) (hfn : Tryd.pinned.checked.prog.funcs[f]? = some fn) :
    false = Tryd.pinned.checked.prog.looks [] ∧ ∀ (j : Nat) t, fn.params[j]? = some t → Tryd.pinned.checked.prog.wantsStandIn t = false := by
  obtain rfl : f = 8 := Option.some.inj ((show Tryd.prog.funcNamed Rows.xmlEscapesUptoRow.func = some 8 by kernel_rfl).symm.trans hf) |>.symm
  obtain rfl : fn = Tryd.f8 := (Option.some.inj (Tryd.func8.symm.trans hfn)).symm
  refine ⟨by kernel_rfl, fun j t ht => ?_⟩
  have hm : t ∈ Tryd.f8.params.toList := by simpa using Array.mem_of_getElem? ht
  have hall : (Tryd.f8.params.toList.all fun u => !Tryd.prog.wantsStandIn u) = true := by kernel_rfl
  exact (show Tryd.prog.wantsStandIn t = false by simpa using List.all_eq_true.1 hall t hm)
theorem proved : Rows.XmlEscapesUptoCardSaid :=
  Claim7.holds_tied_plain_at .later [] _ _ _ _ said (fun _ h => by cases h) (by kernel_rfl) (fun _ h => by cases h) xmlEscapesUpto_row_tie rfl ⟨rfl, rfl⟩ (by kernel_rfl) rfl plain (by kernel_rfl)
end Go.Proofs.YtafbojmnmadlpaaDoor.xmlEscapes
