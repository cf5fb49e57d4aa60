/- The law ReadParses holds: it returns true at every argument, and its argument reads as it did; the tables of package unicode/utf8, of marks, of axes and of operators as the row lists them. -/
import Derived.Test.YtmhabdopcbokoaaDoorR18
import Derived.Test.YtmhabdopcbokoaaDoorR20
import Derived.Test.YtmhabdopcbokoaaDoorR42
import Derived.Test.YtmhabdopcbokoaaDoorR43
import Derived.Test.YtmhabdopcbokoaaDoorCards
import Derived.Test.YtmhabdopcbokoaaDoorTie
import Derived.Deep.DeepWitnessRowRef
import Derived.SevenTiedAt
set_option linter.all false
set_option linter.unusedSimpArgs false
set_option linter.unusedVariables false
namespace Go.Proofs.YtmhabdopcbokoaaDoor.Gq
open Go Go.Proofs.YtmhabdopcbokoaaDoor.Ab
variable [Glo]
theorem typed_tk2 {ds : List D} {m : Nat} (h : Typed tyTk ds m) : ∃ x : Tk, ds = tkD x ∧ x.s.length ≤ 9223372036854775807 := by
  obtain ⟨_, _, _, _, rfl, _, h1, g1⟩ := typed_cons h
  obtain ⟨_, _, _, _, rfl, _, h2, g2⟩ := typed_cons g1
  obtain ⟨_, _, _, _, rfl, _, h3, g3⟩ := typed_cons g2
  obtain ⟨a, rfl, _⟩ := typed_i h1
  obtain ⟨b, rfl, hs⟩ := typed_s2 h2
  obtain ⟨s, rfl, _⟩ := typed_i h3
  obtain rfl := typed_nil g3
  exact ⟨⟨a, b, s⟩, rfl, hs⟩
theorem typed_tks2 {ds : List D} {m : Nat} (h : Typed (.sl tyTk) ds m) : ∃ l : List Tk, ds = [.sl 3 (l.map tkD)] ∧ ∀ x, x ∈ l → x.s.length ≤ 9223372036854775807 := by
  obtain ⟨xs, ws, rfl, h1, h2, h3⟩ := typed_list (p := fun (x : Tk) m => x.s.length ≤ 9223372036854775807) (fun ds m h => typed_tk2 h) h
  refine ⟨xs, rfl, fun x hx => ?_⟩
  obtain ⟨i, hi, rfl⟩ := List.mem_iff_getElem.1 hx
  obtain ⟨w, hw⟩ : ∃ w, ws[i]? = some w := ⟨ws[i]'(by omega), List.getElem?_eq_getElem (by omega)⟩
  exact h3 i _ w (List.getElem?_eq_getElem hi) hw
end Go.Proofs.YtmhabdopcbokoaaDoor.Gq
namespace Go.Proofs.YtmhabdopcbokoaaDoor.readParses
open Go Go.ChangeShapes Go.WideShapes Go.ChangeAt Go.RowKit Go.Proofs.YtmhabdopcbokoaaDoor.Ab Go.Proofs.YtmhabdopcbokoaaDoor.Gq
set_option maxHeartbeats 1000000
set_option maxRecDepth 20000
section
variable [Glo] [U8] [Mk] [Gx]
namespace FN3
def tks : Nat → List Nat | 0 => [0] | 1 => [0, 3, 4, 5] | 2 => [3, 4, 5, 6, 7, 8] | 3 => [2] | _ => []
def tmu : List Nat := []
def tin : List Nat := [0]
def tro : Nat → List Nat | 1 => [3] | 2 => [6] | _ => []
abbrev tfn := @Tryd.func3
end FN3
attribute [go_sem] FN3.tks FN3.tmu FN3.tin FN3.tro Tryd.ntmps3 Tryd.results3
open FN3 in
theorem walk (l : List Tk) (hl : l.length * 32 ≤ 140737488351232) (hS : ∀ t, t ∈ l → t.s.length ≤ 9223372036854775807) (K : V → Heap → Prop) (hk : K (.d (.b true)) []) : ACalls Tryd.prog 3 [.d (.sl 3 (l.map tkD))] [] K := by
  have h1 := fun H K hk => gParse_A l (by omega) hS H K hk
  have h2 := fun H K hk => rPhraseOf_A l (by omega) hS H K hk
  rw [parseP_agr pOdd pNil] at h1
  have hn := parse_N l
  have h3 := samePhrase_A 801 (parseP pNil l).1 hn (by omega)
  generalize parseP pNil l = r at h1 h2 h3
  obtain ⟨x, i, e⟩ := r
  simp only [phV, phW] at h1 h2 h3
  refine We ?_
  have c21 := h1; have c22 := h2; have c23 := h3; have us := eq_self (0 : Nat)
  exact W70
end
instance gl : Glo := ⟨fun g => if g = 2 then some acceptRow else if g = 0 then some marksRow else if g = 5 then some axesRow else if g = 4 then some binRow else if g = 1 then some firstRow else none⟩
instance : U8 := ⟨rfl, rfl⟩
instance : Mk := ⟨rfl⟩
instance : Gx := ⟨rfl, rfl⟩
theorem law (m : Nat) (dss : List (List D)) (h : TypedAll [.sl (.cons (.i .i64) (.cons (.s) (.cons (.i .i64) (.nil))))] dss m) (hz : SizedV Tryd.prog Tryd.f3.params.toList (argsV [.sl (.cons (.i .i64) (.cons (.s) (.cons (.i .i64) (.nil))))] dss)) : ACalls Tryd.prog 3 (argsV [.sl (.cons (.i .i64) (.cons (.s) (.cons (.i .i64) (.nil))))] dss) [] fun v _ => v = .d (.b true) := by
  match dss, h, hz with
  | [d1], ⟨_, _, _, h1, _⟩, hz =>
    obtain ⟨l, rfl, hx⟩ := typed_tks2 h1
    have hb : Tryd.prog.bytesOf 37 = 32 := by kernel_rfl
    have hl := hz 0 22 37 3 (l.map tkD) (by kernel_rfl) Tryd.underlying22 rfl
    rw [hb, List.length_map] at hl
    exact walk l hl hx _ rfl
theorem globs {W : World} (h : laidMetH Tryd.prog Rows.readParsesRow.laid W) : Globs W := by
  have r0 := Lib.laidMet.reads h (.head _)
  have r1 := Lib.laidMet.reads h (.tail _ (.head _))
  have r2 := Lib.laidMet.reads h (.tail _ (.tail _ (.head _)))
  have r3 := Lib.laidMet.reads h (.tail _ (.tail _ (.tail _ (.head _))))
  have r4 := Lib.laidMet.reads h (.tail _ (.tail _ (.tail _ (.tail _ (.head _)))))
  intro g row hg
  change (if g = 2 then some acceptRow else if g = 0 then some marksRow else if g = 5 then some axesRow else if g = 4 then some binRow else if g = 1 then some firstRow else none) = some row at hg
  split at hg
  · rename_i e
    subst e
    cases hg
    exact var_row (n := 8) (t := 80) (by kernel_rfl) (by kernel_rfl) (by kernel_rfl) (by decide) r0 (fun _ h => h)
  ·
    split at hg
    · rename_i e
      subst e
      cases hg
      exact var_row (n := 8) (t := 54) (by kernel_rfl) (by kernel_rfl) (by kernel_rfl) (by decide) r1 (fun _ h => h)
    ·
      split at hg
      · rename_i e
        subst e
        cases hg
        exact var_row (n := 8) (t := 92) (by kernel_rfl) (by kernel_rfl) (by kernel_rfl) (by decide) r2 (fun _ h => h)
      ·
        split at hg
        · rename_i e
          subst e
          cases hg
          exact var_row (n := 8) (t := 85) (by kernel_rfl) (by kernel_rfl) (by kernel_rfl) (by decide) r3 (fun _ h => h)
        ·
          split at hg
          · rename_i e
            subst e
            cases hg
            exact var_row (n := 8) (t := 77) (by kernel_rfl) (by kernel_rfl) (by kernel_rfl) (by decide) r4 (fun _ h => h)
          ·
            cases hg
noncomputable def laidWorld (os : Os) : World :=
  let w0 := World.holding Tryd.prog os ⟨#[], #[], []⟩
  { w0 with heap := putRow (putRowS (putRow (putRow (putRow (w0.heap) 2 acceptRow) 0 marksRow) 5 axesRow) 4 9 binRow) 1 firstRow }
theorem laid_met (os : Os) : laidMet Tryd.prog Rows.readParsesRow.laid ((laidWorld os).forCall (fun _ _ => 0) ⟨#[], #[.slice none 0 0], []⟩).memory :=
  laidMet_of_run' 8 (by kernel_rfl) (by kernel_rfl)
theorem reads (os : Os) {H : Type} (enc : TypeId × Value → H) : ∃ places, DataW.whole enc Tryd.prog ((laidWorld os).forCall (fun _ _ => 0) ⟨#[], #[.slice none 0 0], []⟩).memory Tryd.f3.params.toList Rows.readParsesSpec.vars false (#[.slice none 0 0] : Array Value).toList 8 = some ([.nil], [], places) :=
  ⟨[], by kernel_rfl⟩
set_option maxRecDepth 100000 in
theorem lifted (os : Os) (started : os.Started) (H : Type) (enc : TypeId × Value → H) (F : Stop.Interp) :
    ReturnsInHanded {} Tryd.checked os 3 .any ((OpenSpec.ofChange Rows.readParsesSpec).preRow enc Tryd.prog Tryd.f3 Rows.readParsesRow.domain false Rows.readParsesRow.laid) (((OpenSpec.ofChange Rows.readParsesSpec).at F).post enc Tryd.prog Tryd.f3 false true false false) := by
  obtain ⟨places, hx⟩ := reads os enc
  refine returnsInHanded_of_row (C := Tryd.checked) (s := OpenSpec.ofChange Rows.readParsesSpec) own started (by kernel_rfl) Tryd.func3
    (witness_row_atRef (enc := enc) (C := Tryd.checked) false (laidWorld os) #[.slice none 0 0] rfl (by kernel_rfl) (by kernel_rfl) (by kernel_rfl)
      (OpenSpec.preRow_of_cond 8 hx (by kernel_rfl) (fun k hk => by cases hk) (by kernel_rfl) (laid_met os))) ?_
  intro W base args ds gs before hval hW _ _ hz hL _ _
  refine law_contractS2 (n := 12) (Ts := [.sl (.cons (.i .i64) (.cons (.s) (.cons (.i .i64) (.nil))))]) (bt := 4) rfl (by kernel_rfl) Tryd.underlying4 (by kernel_rfl) (by kernel_rfl) (fun ds hds => ?_) law W (globs hL) args ds gs before base hval hW hz
  match ds, hds with
  | [d0], _ => rfl
theorem said : Rows.ReadParsesSaid :=
  OpenClaim.holds_of_cond 3 Tryd.f3 rfl rfl rfl rfl rfl rfl rfl ⟨rfl, rfl, rfl, rfl, rfl⟩ rfl rfl rfl rfl rfl (by kernel_rfl) Tryd.func3 (by kernel_rfl)
    (of_decide_eq_true (by kernel_rfl)) (by unfold Func.isWrapper; first | (rw [if_pos (by decide +kernel)]; kernel_rfl) | (rw [if_neg (by decide +kernel)]; exact ⟨rfl, rfl⟩))
    (fun os started H enc _ F => by rw [OpenClaim.pre_eq_preRow]; exact lifted os started H enc F)
theorem plain (f : FuncId) (fn : Func) (hf : Tryd.pinned.checked.prog.funcNamed Rows.readParsesRow.func = some f) (hfn : Tryd.pinned.checked.prog.funcs[f]? = some fn) :
    false = Tryd.pinned.checked.prog.looks [] ∧ ∀ (j : Nat) t, fn.params[j]? = some t → Tryd.pinned.checked.prog.wantsStandIn t = false := by
  obtain rfl : f = 3 := Option.some.inj ((show Tryd.prog.funcNamed Rows.readParsesRow.func = some 3 by kernel_rfl).symm.trans hf) |>.symm
  obtain rfl : fn = Tryd.f3 := (Option.some.inj (Tryd.func3.symm.trans hfn)).symm
  refine ⟨by kernel_rfl, fun j t ht => ?_⟩
  have hm : t ∈ Tryd.f3.params.toList := by simpa using Array.mem_of_getElem? ht
  have hall : (Tryd.f3.params.toList.all fun u => !Tryd.prog.wantsStandIn u) = true := by kernel_rfl
  exact (show Tryd.prog.wantsStandIn t = false by simpa using List.all_eq_true.1 hall t hm)
theorem proved : Rows.ReadParsesCardSaid :=
  Claim7.holds_tied_plain_at .later [] _ _ _ _ said (fun _ h => by cases h) (by kernel_rfl) (fun _ h => by cases h) readParses_row_tie rfl ⟨rfl, rfl⟩ (by kernel_rfl) rfl plain (by kernel_rfl)
end Go.Proofs.YtmhabdopcbokoaaDoor.readParses
