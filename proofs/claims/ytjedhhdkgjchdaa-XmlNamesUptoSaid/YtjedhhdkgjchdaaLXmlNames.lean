/- The law XmlNames holds wherever what it reads is of bulk at most 1048576: it returns true, and its argument reads as it did. -/
import Derived.Test.YtjedhhdkgjchdaaBr
import Derived.Test.YtjedhhdkgjchdaaXml1
set_option linter.all false
set_option linter.unusedSimpArgs false
set_option linter.unusedVariables false
namespace Go.Proofs.Ytjedhhdkgjchdaa.xmlNames
open Go Go.ChangeShapes Go.WideShapes Go.ChangeAt Go.RowKit Go.Proofs.Ytjedhhdkgjchdaa.Ab
open Go.ChangeMaps (open_string shut_string)
set_option maxHeartbeats 1000000
set_option maxRecDepth 20000

/- the live slots of pleacher/pleacherlaw.XmlNames -/
def ks_4 : Nat → List Nat
  | 0 => [0]
  | 1 => [0, 3]
  | 2 => [3, 4]
  | 3 => [2]
  | _ => []
def mu_4 : List Nat := []
def in_4 : List Nat := [0]
theorem law (l : List UInt8) (hlen : l.length ≤ 9223372036854775807) (K : V → Heap → Prop) (hk : K (.d (.b true)) []) : ACalls Try.prog 4 [.d (.s l)] [] K := by
  refine ACalls_of Try.func4 rfl in_4 (Nat.le_of_ble_eq_true rfl) ?_
  simp only [go_sem, Nat.reduceAdd, Nat.reduceBEq, Nat.reduceEqDiff, Nat.reduceLT, Nat.reduceLeDiff, Nat.reduceMul, Int.reduceToNat, reduceCtorEq, ↓reduceIte, Try.ntmps4, Try.results4, ks_4, mu_4, ti_hb6, ti_hb7, in_4]
  repeat' (first
    | refine AWp_seq ?_
    | refine AWp_block ?_
    | (refine AWp_reg mu_4 ks_4 ?_; simp only [go_sem, Nat.reduceAdd, Nat.reduceBEq, Nat.reduceEqDiff, Nat.reduceLT, Nat.reduceLeDiff, Nat.reduceMul, Int.reduceToNat, reduceCtorEq, ↓reduceIte, Try.ntmps4, Try.results4, ks_4, mu_4, ti_hb6, ti_hb7])
    | (refine AWp_cond rfl ?_; try simp only [go_sem, Nat.reduceAdd, Nat.reduceBEq, Nat.reduceEqDiff, Nat.reduceLT, Nat.reduceLeDiff, Nat.reduceMul, Int.reduceToNat, reduceCtorEq, ↓reduceIte, Try.ntmps4, Try.results4, ks_4, mu_4, ti_hb6, ti_hb7])
    | (refine AWp_skip ?_; simp only [go_sem, Nat.reduceAdd, Nat.reduceBEq, Nat.reduceEqDiff, Nat.reduceLT, Nat.reduceLeDiff, Nat.reduceMul, Int.reduceToNat, reduceCtorEq, ↓reduceIte, Try.ntmps4, Try.results4, ks_4, mu_4, ti_hb6, ti_hb7])
    | (refine AWp_ret ?_; simp only [go_sem, Nat.reduceAdd, Nat.reduceBEq, Nat.reduceEqDiff, Nat.reduceLT, Nat.reduceLeDiff, Nat.reduceMul, Int.reduceToNat, reduceCtorEq, ↓reduceIte, Try.ntmps4, Try.results4, ks_4, mu_4, ti_hb6, ti_hb7])
    | (refine AWp_exit ?_; simp only [go_sem, Nat.reduceAdd, Nat.reduceBEq, Nat.reduceEqDiff, Nat.reduceLT, Nat.reduceLeDiff, Nat.reduceMul, Int.reduceToNat, reduceCtorEq, ↓reduceIte, Try.ntmps4, Try.results4, ks_4, mu_4, ti_hb6, ti_hb7])
    | (refine checkName_A _ hlen _ _ ?_; try simp only [go_sem, Nat.reduceAdd, Nat.reduceBEq, Nat.reduceEqDiff, Nat.reduceLT, Nat.reduceLeDiff, Nat.reduceMul, Int.reduceToNat, reduceCtorEq, ↓reduceIte, Try.ntmps4, Try.results4, ks_4, mu_4, ti_hb6, ti_hb7])
    | (refine nameFault_A _ hlen _ _ ?_; try simp only [go_sem, Nat.reduceAdd, Nat.reduceBEq, Nat.reduceEqDiff, Nat.reduceLT, Nat.reduceLeDiff, Nat.reduceMul, Int.reduceToNat, reduceCtorEq, ↓reduceIte, Try.ntmps4, Try.results4, ks_4, mu_4, ti_hb6, ti_hb7])
    | refine And.intro ?_ ?_
    | intro _
    | refine onB_of ?_ ?_
    | omega)
  all_goals exact keepD hk (by simp)

theorem short {H : Type} {s : ByteArray} (hk : Rows.uptoSmall H [.lit (.string s.data.toList)] = true) : s.data.toList.length ≤ 1048576 := by
  have h : Rows.uptoBulkAll [DataW.lit (H := H) (.string s.data.toList)] ≤ 1048576 := of_decide_eq_true hk
  simp only [Rows.uptoBulkAll, Rows.uptoBulk] at h
  omega

theorem contract (H : Type) (enc : TypeId × Value → H) (W : World) (base : Nat) (args : Array Value) (ds gs : List (DataW H)) (before : List MemPlace)
    (hval : ∀ (j : Nat) t v, Try.f4.params[j]? = some t → args[j]? = some v → Value.okWide Try.prog W .any base t v)
    (hW : DataW.Whole enc Try.prog Try.f4.params.toList Rows.xmlNamesSpec.vars false W args.toList ds gs before) (hk : Rows.uptoSmall H (ds ++ gs) = true) :
    Calls Try.prog 4 args W fun e W' => ∃ v, e = .returned v ∧ Rows.xmlNamesSpec.post enc Try.prog Try.f4 false true false false W args v W' := by
  have hW' := hW
  obtain ⟨p, q, hA0, hV, rfl, hfz, hnd⟩ := hW
  have hA : DataW.TrodAll enc Try.prog W 0 (fun _ => true) true Try.f4.params.toList args.toList ds p := hA0
  rw [Try.params4] at hA hval
  obtain ⟨v0, vs0, d0, ds0, p0, q0, hargs, rfl, rfl, h0, r0⟩ := trodAll_cons hA
  obtain ⟨rfl, rfl, rfl⟩ := trodAll_nil r0
  obtain rfl : args = #[v0] := by cases args; simp_all
  obtain ⟨rfl, rfl⟩ := trodVars_none hV
  obtain ⟨s, rfl, rfl, rfl, hmax⟩ := open_string Try.underlying9 (hval 0 _ v0 rfl rfl) h0
  clear hA0
  simp only [List.append_nil] at hW' hk
  have hs := short hk
  refine (true_calls (args := [.string s]) (law s.data.toList (by omega) _ rfl) ⟨rel_string _ _ _ _ s, trivial⟩).mono fun e W' ⟨he, hg⟩ => ?_
  subst he
  exact ⟨_, rfl, post_of_same (pa := []) (pv := []) hW' (fun _ _ _ => trodAll_cons_mk (shut_bool Try.underlying4 _) trodAll_mk0) (fun _ _ => trodAll_cons_mk (shut_string Try.underlying9 hmax) trodAll_mk0) (fun _ _ => rfl) rfl
    (hg.frame _) hg.2.1 (ok_one (by kernel_rfl) rfl (okWide_bool_mk Try.underlying4 _))⟩

set_option maxRecDepth 100000 in
theorem lifted (os : Os) (started : os.Started) (H : Type) (enc : TypeId × Value → H) (F : Stop.Interp) :
    ReturnsInHanded {} Try.checked os 4 .any ((Rows.OpenSpec.upto Rows.xmlNamesSpec).pre6 enc Try.prog Try.f4 Rows.xmlNamesUptoRow.domain false) (((Rows.OpenSpec.upto Rows.xmlNamesSpec).at F).post enc Try.prog Try.f4 false true false false) := by
  refine returnsInHanded_of_cond (C := Try.checked) (s := Rows.OpenSpec.upto Rows.xmlNamesSpec) (k := Rows.uptoSmall) rfl own started (by kernel_rfl) Try.func4
    (OpenSpec.witness (enc := enc) (C := Try.checked) (s := Rows.OpenSpec.upto Rows.xmlNamesSpec) (k := Rows.uptoSmall) rfl false ⟨#[], #[.string .empty], []⟩ 8 (by kernel_rfl) (by kernel_rfl) (by kernel_rfl)
      (x := ([.lit (.string [])], [], [])) (by kernel_rfl) rfl (by kernel_rfl)) ?_
  intro W base args ds gs before hval hW _ hk _
  exact contract H enc W base args ds gs before hval hW hk

theorem proved : Rows.XmlNamesUptoSaid :=
  OpenClaim.holds_of_cond 4 Try.f4 rfl rfl rfl rfl rfl rfl rfl ⟨rfl, rfl, rfl, rfl, rfl⟩ rfl rfl rfl rfl rfl (by kernel_rfl) Try.func4 (by kernel_rfl)
    (of_decide_eq_true (by kernel_rfl)) (by unfold Func.isWrapper; first | (rw [if_pos (by decide +kernel)]; kernel_rfl) | (rw [if_neg (by decide +kernel)]; exact ⟨rfl, rfl⟩))
    (fun os started H enc _ F => lifted os started H enc F)
end Go.Proofs.Ytjedhhdkgjchdaa.xmlNames
