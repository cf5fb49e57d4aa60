/- The law XmlParses holds wherever what it reads is of bulk at most 1048576: it returns true, and its argument reads as it did; the tables of package unicode/utf8 and of marks as the row lists them. -/
import Derived.Test.YtjghnaohlfgloaaDoorJ18
import Derived.Test.YtjghnaohlfgloaaDoorJ37
import Derived.Test.YtjghnaohlfgloaaDoorJ43
import Derived.Test.YtjghnaohlfgloaaDoorJ44
import Derived.Test.YtjghnaohlfgloaaDoorCards
import Derived.Test.YtjghnaohlfgloaaDoorTie
import Derived.Deep.DeepHandedRow
import Derived.SevenTiedAt
set_option linter.all false
set_option linter.unusedSimpArgs false
set_option linter.unusedVariables false
namespace Go.Proofs.YtjghnaohlfgloaaDoor.xmlParses
open Go Go.ChangeShapes Go.WideShapes Go.ChangeAt Go.RowKit Go.Proofs.YtjghnaohlfgloaaDoor.Ab
set_option maxHeartbeats 1000000
set_option maxRecDepth 20000
theorem parseT_len [Glo] {s : List UInt8} (hs : s.length ≤ 1048576) : (parseT s).1.length ≤ 9223372036854775807 := by
  by_cases hb : 4000 < s.length
  · rw [parseT, if_pos hb]; decide
  have hE : ∀ a f l, l.length ≤ 100000000 → (endT s a f l).1.length ≤ 9223372036854775807 := fun a f l h => by
    unfold endT
    repeat' split
    all_goals first
      | exact Nat.zero_le _
      | (show l.length ≤ _; omega)
  have h1 : (psT s).evs.length ≤ s.length + 4 := by
    obtain ⟨r, r1, _, r3⟩ := tgOf_evs s (psA s) (psF s) (mustAt_le (Nat.zero_le _))
    rw [psT, r1, List.length_cons]; omega
  rw [parseT_eq hb]
  split
  · exact hE _ _ _ (by omega)
  · by_cases hf : (psC s).f = 0
    · have h2 := ctOf_few (F := s.length + 1) (ns := [psN s]) (s := s) (at_ := psA s + (psT s).n) (f := (psT s).f) hf
      have h3 := ctOf_le (F := s.length + 1) (ns := [psN s]) (s := s) (at_ := psA s + (psT s).n) (f := (psT s).f) (tgOf_le (mustAt_le (Nat.zero_le _))) hf
      rw [← psC] at h2 h3
      exact hE _ _ _ (by rw [List.length_append]; omega)
    · rw [endT, if_pos hf]; exact Nat.zero_le _
section
variable [Glo] [U8] [Ml] [Ec]
def ks_6 : Nat → List Nat
  | 0 => [0]
  | 1 => [0, 3, 4]
  | 2 => [3, 4, 5, 6]
  | 3 => [2]
  | _ => []
def mu_6 : List Nat := []
def in_6 : List Nat := [0]
theorem walk (s : List UInt8) (hs : s.length ≤ 1048576) (K : V → Heap → Prop) (hk : K (.d (.b true)) []) : ACalls Tryd.prog 6 [.d (.s s)] [] K := by
  have hl : (parseT s).1.length ≤ 9223372036854775807 := parseT_len hs
  refine ACalls_of Tryd.func6 rfl in_6 (Nat.le_of_ble_eq_true rfl) ?_
  intro F hF
  simp (dsimp := false) only [go_sem, Nat.reduceAdd, Nat.reduceBEq, Nat.reduceEqDiff, Nat.reduceLT, Nat.reduceLeDiff, Nat.reduceMul, Int.reduceToNat, reduceCtorEq, ↓reduceIte, Tryd.ntmps6, Tryd.results6, ks_6, mu_6, ti_hb16, ti_hb17, ti_hb18, in_6] at hF
  subst hF
  repeat' (first | with_reducible (first | refine And.intro ?_ ?_ | intro _ | refine AWp_seq ?_ | refine AWp_block ?_ | (refine hKv _ _ (AWp_nop ?_); clear hKv Kv) | (refine hKA ?_; clear hKA hKB KA KB) | (refine hKB ?_; clear hKA hKB KA KB) | refine AWp_skipN ?_ | refine AWp_exitO (by repeat (first | exact Out.hit | apply Out.thenA | apply Out.out rfl)) ?_) | ((first | with_reducible (first | (refine hKv _ _ ?_; clear hKv Kv) | ((first | refine AWp_regC mu_6 ks_6 ?_ | refine AWp_regE mu_6 ks_6 ?_); intro Kv hKv) | refine AWp_retR ?_) | refine parse_A s _ _ hs ?_ | refine eventsOf_A s _ _ hs ?_ | refine sameEvents_A (parseT s).1 hl _ _ ?_); try simp (dsimp := false) only [go_sem, Nat.reduceAdd, Nat.reduceBEq, Nat.reduceEqDiff, Nat.reduceLT, Nat.reduceLeDiff, Nat.reduceMul, Int.reduceToNat, reduceCtorEq, ↓reduceIte, Tryd.ntmps6, Tryd.results6, ks_6, mu_6, ti_hb16, ti_hb17, ti_hb18]) | (refine AWp_condC rfl ?_; intro KA KB hKA hKB; try simp only [onB_true, onB_false, onB_dec, onB_ndec, onB_not, onB_and, onB_or]) | (refine AWp_condA rfl ?_ ?_) | with_reducible (first | refine onB_of ?_ ?_ | rfl) | omega)
  all_goals first
    | exact keepD hk rfl
    | exact keepD hk (by simp)
    | omega
    | (simp; omega)
end
abbrev gl (m : Int) : Glo := ⟨fun g => if g = 4 then some acceptRow else if g = 1 then some escRow else if g = 3 then some firstRow else if g = 2 then some [D.i .i64 m] else none⟩
theorem maxl_of {W : World} (h : W.ShapedOpen Tryd.prog) : ∃ m, W.cell? ⟨2, 0, none⟩ = some (.int .i64 m) := by
  have e1 : Tryd.laysM144_ren.g 1 = 2 := by first | rfl | kernel_rfl
  obtain ⟨m, hm⟩ := Tryd.laysM144.s1_3 W h
  rw [e1] at hm
  exact ⟨m, hm⟩
theorem int_row [Glo] {w : World} {o : Nat → Prop} {g : Nat} {m : Int} (h : w.cell? ⟨g, 0, none⟩ = some (.int .i64 m)) (ho : ∀ b, ¬ o b := by exact fun _ h => h) : GRow w o g [D.i .i64 m] := by
  refine ⟨cell_lt h, ho g, fun _ => .int .i64 m, fun j x hx => ?_, fun j x hx => ?_⟩
  · match j, hx with
    | 0, _ => exact h
  · match j, hx with
    | 0, hx => cases hx; exact .i _ _
theorem law (m : Int) (dss : List (List D)) (h : TypedAll [.s] dss 1048576) : @ACalls (gl m) Tryd.prog 6 (argsV [.s] dss) [] fun v _ => v = .d (.b true) := by
  letI : Glo := gl m
  match dss, h with
  | [d1], ⟨_, _, _, h1, _⟩ =>
    obtain ⟨t, rfl, hs⟩ := typed_s h1
    letI : Ml := ⟨m, rfl⟩
    letI : Ec := ⟨rfl⟩
    letI : U8 := ⟨rfl, rfl⟩
    exact walk t (by omega) _ rfl
theorem globs {W : World} (h : laidMetH Tryd.prog Rows.xmlParsesUptoRow.laid W) {m : Int} (hm : W.cell? ⟨2, 0, none⟩ = some (.int .i64 m)) : @Globs (gl m) W := by
  letI : Glo := gl m
  have r0 := Lib.laidMet.reads h (.head _)
  have r1 := Lib.laidMet.reads h (.tail _ (.head _))
  have r2 := Lib.laidMet.reads h (.tail _ (.tail _ (.head _)))
  intro g row hg
  change (if g = 4 then some acceptRow else if g = 1 then some escRow else if g = 3 then some firstRow else if g = 2 then some [D.i .i64 m] else none) = some row at hg
  split at hg
  · rename_i e
    subst e
    cases hg
    exact var_row (n := 8) (t := 199) (by kernel_rfl) (by kernel_rfl) (by kernel_rfl) (by decide) r0 (fun _ h => h)
  ·
    split at hg
    · rename_i e
      subst e
      cases hg
      exact var_row (n := 8) (t := 175) (by kernel_rfl) (by kernel_rfl) (by kernel_rfl) (by decide) r1 (fun _ h => h)
    ·
      split at hg
      · rename_i e
        subst e
        cases hg
        exact var_row (n := 8) (t := 196) (by kernel_rfl) (by kernel_rfl) (by kernel_rfl) (by decide) r2 (fun _ h => h)
      ·
        split at hg
        · rename_i e
          subst e
          cases hg
          exact int_row hm
        · cases hg
noncomputable def laidWorld (os : Os) : World :=
  let w0 := World.holding Tryd.prog os ⟨#[], #[], []⟩
  { w0 with heap := putRow (putRow (putRow (w0.heap) 4 acceptRow) 1 escRow) 3 firstRow }
theorem laid_met (os : Os) : laidMet Tryd.prog Rows.xmlParsesUptoRow.laid ((laidWorld os).forCall (fun _ _ => 0) ⟨#[], #[.string .empty], []⟩).memory :=
  laidMet_of_run' 8 (by kernel_rfl) (by kernel_rfl)
theorem reads (os : Os) {H : Type} (enc : TypeId × Value → H) : ∃ places, DataW.whole enc Tryd.prog ((laidWorld os).forCall (fun _ _ => 0) ⟨#[], #[.string .empty], []⟩).memory Tryd.f6.params.toList Rows.xmlParsesSpec.vars false (#[.string .empty] : Array Value).toList 8 = some ([.lit (.string [])], [], places) :=
  ⟨[], by kernel_rfl⟩
set_option maxRecDepth 100000 in
theorem lifted (os : Os) (started : os.Started) (H : Type) (enc : TypeId × Value → H) (F : Stop.Interp) :
    ReturnsInHanded {} Tryd.checked os 6 .any ((Rows.OpenSpec.upto Rows.xmlParsesSpec).preRow enc Tryd.prog Tryd.f6 Rows.xmlParsesUptoRow.domain false Rows.xmlParsesUptoRow.laid) (((Rows.OpenSpec.upto Rows.xmlParsesSpec).at F).post enc Tryd.prog Tryd.f6 false true false false) := by
  obtain ⟨places, hx⟩ := reads os enc
  refine returnsInHanded_of_row (C := Tryd.checked) (s := Rows.OpenSpec.upto Rows.xmlParsesSpec) (letI : Glo := gl 0; own) started (by kernel_rfl) Tryd.func6
    (witness_row_at (enc := enc) (C := Tryd.checked) false (laidWorld os) #[.string .empty] rfl (by kernel_rfl) (by kernel_rfl) (by kernel_rfl)
      (OpenSpec.preRow_of_cond 8 hx (by kernel_rfl) (fun k hk => by cases hk; kernel_rfl) (by kernel_rfl) (laid_met os))) ?_
  intro W base args ds gs before hval hW _ hcond _ hL hsh _
  obtain ⟨m, hm⟩ := maxl_of hsh
  letI : Glo := gl m
  refine law_contract (n := 12) (Ts := [.s]) (bt := 4) rfl (by kernel_rfl) Tryd.underlying4 (by kernel_rfl) (by kernel_rfl) (fun ds hds => ?_) (law m) W (globs hL hm) args ds gs before base hval hW (hcond _ rfl)
  match ds, hds with
  | [d0], _ => rfl
theorem said : Rows.XmlParsesUptoSaid :=
  OpenClaim.holds_of_cond 6 Tryd.f6 rfl rfl rfl rfl rfl rfl rfl ⟨rfl, rfl, rfl, rfl, rfl⟩ rfl rfl rfl rfl rfl (by kernel_rfl) Tryd.func6 (by kernel_rfl)
    (of_decide_eq_true (by kernel_rfl)) (by unfold Func.isWrapper; first | (rw [if_pos (by decide +kernel)]; kernel_rfl) | (rw [if_neg (by decide +kernel)]; exact ⟨rfl, rfl⟩))
    (fun os started H enc _ F => by rw [OpenClaim.pre_eq_preRow]; exact lifted os started H enc F)
theorem plain (f : FuncId) (fn : Func) (hf : Tryd.pinned.checked.prog.funcNamed Rows.xmlParsesUptoRow.func = some f) (hfn : Tryd.pinned.checked.prog.funcs[f]? = some fn) :
    false = Tryd.pinned.checked.prog.looks [] ∧ ∀ (j : Nat) t, fn.params[j]? = some t → Tryd.pinned.checked.prog.wantsStandIn t = false := by
  obtain rfl : f = 6 := Option.some.inj ((show Tryd.prog.funcNamed Rows.xmlParsesUptoRow.func = some 6 by kernel_rfl).symm.trans hf) |>.symm
  obtain rfl : fn = Tryd.f6 := (Option.some.inj (Tryd.func6.symm.trans hfn)).symm
  refine ⟨by kernel_rfl, fun j t ht => ?_⟩
  have hm : t ∈ Tryd.f6.params.toList := by simpa using Array.mem_of_getElem? ht
  have hall : (Tryd.f6.params.toList.all fun u => !Tryd.prog.wantsStandIn u) = true := by kernel_rfl
  exact (show Tryd.prog.wantsStandIn t = false by simpa using List.all_eq_true.1 hall t hm)
theorem proved : Rows.XmlParsesUptoCardSaid :=
  Claim7.holds_tied_plain_at .later [] _ _ _ _ said (fun _ h => by cases h) (by kernel_rfl) (fun _ h => by cases h) xmlParsesUpto_row_tie rfl ⟨rfl, rfl⟩ (by kernel_rfl) rfl plain (by kernel_rfl)
end Go.Proofs.YtjghnaohlfgloaaDoor.xmlParses
