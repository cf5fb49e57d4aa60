/- The law XmlShows holds wherever what it reads is of bulk at most 1048576: it returns true, and its argument reads as it did; the tables of package unicode/utf8 and of marks as the row lists them. -/
import Derived.Test.YtafbojmnmadlpaaDoorGv
import Derived.Test.YtafbojmnmadlpaaDoorSw1
import Derived.Test.YtafbojmnmadlpaaDoorSw2
import Derived.Test.YtafbojmnmadlpaaDoorU8
import Derived.Test.YtafbojmnmadlpaaDoorEvT
import Derived.Test.YtafbojmnmadlpaaDoorCards
import Derived.Test.YtafbojmnmadlpaaDoorTie
import Derived.Deep.DeepHandedRow
import Derived.SevenTiedAt
set_option linter.all false
set_option linter.unusedSimpArgs false
set_option linter.unusedVariables false
namespace Go.Proofs.YtafbojmnmadlpaaDoor.xmlShows
open Go Go.ChangeShapes Go.WideShapes Go.ChangeAt Go.RowKit Go.Proofs.YtafbojmnmadlpaaDoor.Ab
set_option maxHeartbeats 1000000
set_option maxRecDepth 20000
section
variable [Glo] [U8] [Ml] [Ec]
/- the live slots of pleacher/pleacherlaw.XmlShows -/
def ks_13 : Nat → List Nat
  | 0 => [0]
  | 1 => [0, 3, 4]
  | 2 => [3, 4, 5, 6]
  | 3 => [2]
  | _ => []
def mu_13 : List Nat := []
def in_13 : List Nat := [0]
theorem walk (l : List Ev) (hS : EvSh l) (K : V → Heap → Prop) (hk : K (.d (.b true)) []) : ACalls Tryd.prog 13 [.d (.sl 3 (l.map evD))] [] K := by
  have hS1 := hS.1
  refine ACalls_of Tryd.func13 rfl in_13 (Nat.le_of_ble_eq_true rfl) ?_
  intro F hF
  simp (dsimp := false) only [go_sem, Nat.reduceAdd, Nat.reduceBEq, Nat.reduceEqDiff, Nat.reduceLT, Nat.reduceLeDiff, Nat.reduceMul, Int.reduceToNat, reduceCtorEq, ↓reduceIte, Tryd.ntmps13, Tryd.results13, ks_13, mu_13, ti_hb38, ti_hb39, ti_sl49, in_13] at hF
  subst hF
  repeat' (first
    | with_reducible refine And.intro ?_ ?_
    | with_reducible intro _
    | with_reducible refine AWp_seq ?_
    | with_reducible refine AWp_block ?_
    | (with_reducible refine hKv _ _ (AWp_nop ?_); clear hKv Kv)
    | (with_reducible refine hKv _ _ ?_; clear hKv Kv; simp (dsimp := false) only [go_sem, Nat.reduceAdd, Nat.reduceBEq, Nat.reduceEqDiff, Nat.reduceLT, Nat.reduceLeDiff, Nat.reduceMul, Int.reduceToNat, reduceCtorEq, ↓reduceIte, Tryd.ntmps13, Tryd.results13, ks_13, mu_13, ti_hb38, ti_hb39, ti_sl49])
    | (with_reducible refine hKA ?_; clear hKA hKB KA KB)
    | (with_reducible refine hKB ?_; clear hKA hKB KA KB)
    | (with_reducible refine AWp_regC mu_13 ks_13 ?_; intro Kv hKv; simp (dsimp := false) only [go_sem, Nat.reduceAdd, Nat.reduceBEq, Nat.reduceEqDiff, Nat.reduceLT, Nat.reduceLeDiff, Nat.reduceMul, Int.reduceToNat, reduceCtorEq, ↓reduceIte, Tryd.ntmps13, Tryd.results13, ks_13, mu_13, ti_hb38, ti_hb39, ti_sl49])
    | with_reducible refine AWp_skipN ?_
    | with_reducible refine AWp_exitO (by repeat (first | with_reducible exact Out.hit | with_reducible apply Out.thenA | with_reducible apply Out.out rfl)) ?_
    | (with_reducible refine AWp_retR ?_; simp (dsimp := false) only [go_sem, Nat.reduceAdd, Nat.reduceBEq, Nat.reduceEqDiff, Nat.reduceLT, Nat.reduceLeDiff, Nat.reduceMul, Int.reduceToNat, reduceCtorEq, ↓reduceIte, Tryd.ntmps13, Tryd.results13, ks_13, mu_13, ti_hb38, ti_hb39, ti_sl49])
    | (with_reducible refine AWp_regE mu_13 ks_13 ?_; intro Kv hKv; simp (dsimp := false) only [go_sem, Nat.reduceAdd, Nat.reduceBEq, Nat.reduceEqDiff, Nat.reduceLT, Nat.reduceLeDiff, Nat.reduceMul, Int.reduceToNat, reduceCtorEq, ↓reduceIte, Tryd.ntmps13, Tryd.results13, ks_13, mu_13, ti_hb38, ti_hb39, ti_sl49])
    | (refine AWp_condC rfl ?_; intro KA KB hKA hKB; try simp only [onB_true, onB_false, onB_dec, onB_ndec, onB_not, onB_and, onB_or])
    | (refine AWp_condA rfl ?_ ?_)
    | ((first | refine show_A l hS _ _ ?_ | refine eventsText_A l hS _ _ ?_); try simp (dsimp := false) only [go_sem, Nat.reduceAdd, Nat.reduceBEq, Nat.reduceEqDiff, Nat.reduceLT, Nat.reduceLeDiff, Nat.reduceMul, Int.reduceToNat, reduceCtorEq, ↓reduceIte, Tryd.ntmps13, Tryd.results13, ks_13, mu_13, ti_hb38, ti_hb39, ti_sl49])
    | with_reducible refine onB_of ?_ ?_
    | with_reducible rfl
    | omega)
  all_goals first
    | exact keepD hk rfl
    | exact keepD hk (by simp)
    | omega
    | (simp; omega)
end
abbrev gl (m : Int) : Glo := ⟨fun g => if g = 3 then some acceptRow else if g = 0 then some escRow else if g = 2 then some firstRow else if g = 4 then some [D.i .i64 m] else none⟩
theorem maxl_of {W : World} (h : W.ShapedOpen Tryd.prog) : ∃ m, W.cell? ⟨4, 0, none⟩ = some (.int .i64 m) := by
  have e1 : Tryd.laysM144_ren.g 1 = 4 := by first | rfl | kernel_rfl
  obtain ⟨m, hm⟩ := Tryd.laysM144.s1_3 W h
  rw [e1] at hm
  exact ⟨m, hm⟩
theorem int_row [Glo] {w : World} {o : Nat → Prop} {g : Nat} {m : Int} (h : w.cell? ⟨g, 0, none⟩ = some (.int .i64 m)) (ho : ∀ b, ¬ o b := by exact fun _ h => h) : GRow w o g [D.i .i64 m] := by
  refine ⟨cell_lt h, ho g, fun _ => .int .i64 m, fun j x hx => ?_, fun j x hx => ?_⟩
  · match j, hx with
    | 0, _ => exact h
  · match j, hx with
    | 0, hx => cases hx; exact .i _ _
theorem law (m : Int) (dss : List (List D)) (h : TypedAll [.sl (.cons (.i .i64) (.cons (.s) (.cons (.s) (.nil))))] dss 1048576) : @ACalls (gl m) Tryd.prog 13 (argsV [.sl (.cons (.i .i64) (.cons (.s) (.cons (.s) (.nil))))] dss) [] fun v _ => v = .d (.b true) := by
  letI : Glo := gl m
  match dss, h with
  | [d1], ⟨_, _, _, h1, _⟩ =>
    obtain ⟨l, rfl, hl, hx⟩ := typed_evs h1
    have hS : EvSh l := ⟨by omega, fun x h => by have := (hx x h).1; omega⟩
    letI : Ml := ⟨m, rfl⟩
    letI : U8 := ⟨rfl, rfl⟩
    letI : Ec := ⟨rfl⟩
    exact walk l hS _ rfl
theorem globs {W : World} (h : laidMetH Tryd.prog Rows.xmlShowsUptoRow.laid W) {m : Int} (hm : W.cell? ⟨4, 0, none⟩ = some (.int .i64 m)) : @Globs (gl m) W := by
  letI : Glo := gl m
  have r0 := Lib.laidMet.reads h (.head _)
  have r1 := Lib.laidMet.reads h (.tail _ (.head _))
  have r2 := Lib.laidMet.reads h (.tail _ (.tail _ (.head _)))
  intro g row hg
  change (if g = 3 then some acceptRow else if g = 0 then some escRow else if g = 2 then some firstRow else if g = 4 then some [D.i .i64 m] else none) = some row at hg
  split at hg
  · rename_i e
    subst e
    cases hg
    exact var_row (n := 8) (t := 177) (by kernel_rfl) (by kernel_rfl) (by kernel_rfl) (by decide) r0 (fun _ h => h)
  ·
    split at hg
    · rename_i e
      subst e
      cases hg
      exact var_row (n := 8) (t := 96) (by kernel_rfl) (by kernel_rfl) (by kernel_rfl) (by decide) r1 (fun _ h => h)
    ·
      split at hg
      · rename_i e
        subst e
        cases hg
        exact var_row (n := 8) (t := 174) (by kernel_rfl) (by kernel_rfl) (by kernel_rfl) (by decide) r2 (fun _ h => h)
      ·
        split at hg
        · rename_i e
          subst e
          cases hg
          exact int_row hm
        · cases hg
noncomputable def laidWorld (os : Os) : World :=
  let w0 := World.holding Tryd.prog os ⟨#[], #[], []⟩
  { w0 with heap := putRow (putRow (putRow (w0.heap) 3 acceptRow) 0 escRow) 2 firstRow }
theorem laid_met (os : Os) : laidMet Tryd.prog Rows.xmlShowsUptoRow.laid ((laidWorld os).forCall (fun _ _ => 0) ⟨#[], #[.slice none 0 0], []⟩).memory :=
  laidMet_of_run' 8 (by kernel_rfl) (by kernel_rfl)
theorem reads (os : Os) {H : Type} (enc : TypeId × Value → H) : ∃ places, DataW.whole enc Tryd.prog ((laidWorld os).forCall (fun _ _ => 0) ⟨#[], #[.slice none 0 0], []⟩).memory Tryd.f13.params.toList Rows.xmlShowsSpec.vars false (#[.slice none 0 0] : Array Value).toList 8 = some ([.nil], [], places) :=
  ⟨[], by kernel_rfl⟩
set_option maxRecDepth 100000 in
theorem lifted (os : Os) (started : os.Started) (H : Type) (enc : TypeId × Value → H) (F : Stop.Interp) :
    ReturnsInHanded {} Tryd.checked os 13 .any ((Rows.OpenSpec.upto Rows.xmlShowsSpec).preRow enc Tryd.prog Tryd.f13 Rows.xmlShowsUptoRow.domain false Rows.xmlShowsUptoRow.laid) (((Rows.OpenSpec.upto Rows.xmlShowsSpec).at F).post enc Tryd.prog Tryd.f13 false true false false) := by
  obtain ⟨places, hx⟩ := reads os enc
  refine returnsInHanded_of_row (C := Tryd.checked) (s := Rows.OpenSpec.upto Rows.xmlShowsSpec) (letI : Glo := gl 0; own) started (by kernel_rfl) Tryd.func13
    (witness_row_at (enc := enc) (C := Tryd.checked) false (laidWorld os) #[.slice none 0 0] rfl (by kernel_rfl) (by kernel_rfl) (by kernel_rfl)
      (OpenSpec.preRow_of_cond 8 hx (by kernel_rfl) (fun k hk => by cases hk; kernel_rfl) (by kernel_rfl) (laid_met os))) ?_
  intro W base args ds gs before hval hW _ hcond _ hL hsh _
  obtain ⟨m, hm⟩ := maxl_of hsh
  letI : Glo := gl m
  refine law_contract (n := 12) (Ts := [.sl (.cons (.i .i64) (.cons (.s) (.cons (.s) (.nil))))]) (bt := 4) rfl (by kernel_rfl) Tryd.underlying4 (by kernel_rfl) (by kernel_rfl) (fun ds hds => ?_) (law m) W (globs hL hm) args ds gs before base hval hW (hcond _ rfl)
  match ds, hds with
  | [d0], _ => rfl
theorem said : Rows.XmlShowsUptoSaid :=
  OpenClaim.holds_of_cond 13 Tryd.f13 rfl rfl rfl rfl rfl rfl rfl ⟨rfl, rfl, rfl, rfl, rfl⟩ rfl rfl rfl rfl rfl (by kernel_rfl) Tryd.func13 (by kernel_rfl)
    (of_decide_eq_true (by kernel_rfl)) (by unfold Func.isWrapper; first | (rw [if_pos (by decide +kernel)]; kernel_rfl) | (rw [if_neg (by decide +kernel)]; exact ⟨rfl, rfl⟩))
    (fun os started H enc _ F => by rw [OpenClaim.pre_eq_preRow]; exact lifted os started H enc F)
theorem plain (f : FuncId) (fn : Func) (hf : Tryd.pinned.checked.prog.funcNamed Rows.xmlShowsUptoRow.func = some f) (hfn : Tryd.pinned.checked.prog.funcs[f]? = some fn) :
    false = Tryd.pinned.checked.prog.looks [] ∧ ∀ (j : Nat) t, fn.params[j]? = some t → Tryd.pinned.checked.prog.wantsStandIn t = false := by
  obtain rfl : f = 13 := Option.some.inj ((show Tryd.prog.funcNamed Rows.xmlShowsUptoRow.func = some 13 by kernel_rfl).symm.trans hf) |>.symm
  obtain rfl : fn = Tryd.f13 := (Option.some.inj (Tryd.func13.symm.trans hfn)).symm
  refine ⟨by kernel_rfl, fun j t ht => ?_⟩
  have hm : t ∈ Tryd.f13.params.toList := by simpa using Array.mem_of_getElem? ht
  have hall : (Tryd.f13.params.toList.all fun u => !Tryd.prog.wantsStandIn u) = true := by kernel_rfl
  exact (show Tryd.prog.wantsStandIn t = false by simpa using List.all_eq_true.1 hall t hm)
theorem proved : Rows.XmlShowsUptoCardSaid :=
  Claim7.holds_tied_plain_at .later [] _ _ _ _ said (fun _ h => by cases h) (by kernel_rfl) (fun _ h => by cases h) xmlShowsUpto_row_tie rfl ⟨rfl, rfl⟩ (by kernel_rfl) rfl plain (by kernel_rfl)
end Go.Proofs.YtafbojmnmadlpaaDoor.xmlShows
