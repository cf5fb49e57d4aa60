/- The law ReadCuts holds wherever what it reads is of bulk at most 1048576: it returns true, and its argument reads as it did; the tables of package unicode/utf8 and of marks as the row lists them. -/
import Derived.Test.YtalalhngpcmoeaaDoorGv
import Derived.Test.YtalalhngpcmoeaaDoorRc4
import Derived.Test.YtalalhngpcmoeaaDoorCards
import Derived.Test.YtalalhngpcmoeaaDoorTie
import Derived.Deep.DeepHandedRow
import Derived.SevenTiedAt
set_option linter.all false
set_option linter.unusedSimpArgs false
set_option linter.unusedVariables false
namespace Go.Proofs.YtalalhngpcmoeaaDoor.readCuts
open Go Go.ChangeShapes Go.WideShapes Go.ChangeAt Go.RowKit Go.Proofs.YtalalhngpcmoeaaDoor.Ab
set_option maxHeartbeats 1000000
set_option maxRecDepth 20000
section
variable [Glo] [U8] [Mk]

/- the live slots of pleacher/pleacherlaw.sameTokens -/
def ks_17 : Nat → List Nat
  | 0 => [0, 1]
  | 1 => [0, 1, 10]
  | 2 => [4]
  | 3 => [0, 1, 5]
  | 4 => [0, 1, 5, 14]
  | 5 => [0, 1, 5]
  | 6 => [0, 1, 5, 25]
  | 7 => [4]
  | 8 => [4]
  | _ => []
def mu_17 : List Nat := []
def in_17 : List Nat := [0, 1]
def nd_17 : Nat → Nat
  | 6 => 8
  | _ => 0
theorem sameTokens_A (l : List Tk) (hlen : l.length ≤ 9223372036854775807) (H : Heap) (K : V → Heap → Prop) (hk : K (.d (.b true)) H) :
    ACalls Tryd.prog 17 [.d (.sl 3 (l.map tkD)), .d (.sl 3 (l.map tkD))] H K := by
  refine ACalls_of Tryd.func17 rfl in_17 (Nat.le_of_ble_eq_true rfl) ?_
  intro F hF
  simp (dsimp := false) only [go_sem, Nat.reduceAdd, Nat.reduceBEq, Nat.reduceEqDiff, Nat.reduceLT, Nat.reduceLeDiff, Nat.reduceMul, Int.reduceToNat, reduceCtorEq, ↓reduceIte, Tryd.ntmps17, Tryd.results17, ks_17, mu_17, nd_17, ti_ag79, ti_fe79, ti_sb22, ti_sl22, ti_sz79, tkD, tkV, in_17] at hF
  subst hF
  repeat' (first
    | with_reducible refine And.intro ?_ ?_
    | with_reducible intro _
    | with_reducible refine AWp_seq ?_
    | with_reducible refine AWp_block ?_
    | (with_reducible refine hKv _ _ (AWp_nop ?_); clear hKv Kv)
    | (with_reducible refine hKv _ _ ?_; clear hKv Kv; simp (dsimp := false) only [go_sem, Nat.reduceAdd, Nat.reduceBEq, Nat.reduceEqDiff, Nat.reduceLT, Nat.reduceLeDiff, Nat.reduceMul, Int.reduceToNat, reduceCtorEq, ↓reduceIte, Tryd.ntmps17, Tryd.results17, ks_17, mu_17, nd_17, ti_ag79, ti_fe79, ti_sb22, ti_sl22, ti_sz79, tkD, tkV])
    | (with_reducible refine hKA ?_; clear hKA hKB KA KB)
    | (with_reducible refine hKB ?_; clear hKA hKB KA KB)
    | (with_reducible refine AWp_regC mu_17 ks_17 ?_; intro Kv hKv; simp (dsimp := false) only [go_sem, Nat.reduceAdd, Nat.reduceBEq, Nat.reduceEqDiff, Nat.reduceLT, Nat.reduceLeDiff, Nat.reduceMul, Int.reduceToNat, reduceCtorEq, ↓reduceIte, Tryd.ntmps17, Tryd.results17, ks_17, mu_17, nd_17, ti_ag79, ti_fe79, ti_sb22, ti_sl22, ti_sz79, tkD, tkV])
    | (with_reducible refine AWp_draw nd_17 mu_17 ks_17 ti_mixed (by kernel_rfl) ?_; intro Kv hKv; simp (dsimp := false) only [go_sem, Nat.reduceAdd, Nat.reduceBEq, Nat.reduceEqDiff, Nat.reduceLT, Nat.reduceLeDiff, Nat.reduceMul, Int.reduceToNat, reduceCtorEq, ↓reduceIte, Tryd.ntmps17, Tryd.results17, ks_17, mu_17, nd_17, ti_ag79, ti_fe79, ti_sb22, ti_sl22, ti_sz79, tkD, tkV])
    | with_reducible refine AWp_skipN ?_
    | with_reducible refine AWp_exitO (by repeat (first | with_reducible exact Out.hit | with_reducible apply Out.thenA | with_reducible apply Out.out rfl)) ?_
    | (with_reducible refine AWp_retR ?_; simp (dsimp := false) only [go_sem, Nat.reduceAdd, Nat.reduceBEq, Nat.reduceEqDiff, Nat.reduceLT, Nat.reduceLeDiff, Nat.reduceMul, Int.reduceToNat, reduceCtorEq, ↓reduceIte, Tryd.ntmps17, Tryd.results17, ks_17, mu_17, nd_17, ti_ag79, ti_fe79, ti_sb22, ti_sl22, ti_sz79, tkD, tkV])
    | (with_reducible refine AWp_regE mu_17 ks_17 ?_; intro Kv hKv; simp (dsimp := false) only [go_sem, Nat.reduceAdd, Nat.reduceBEq, Nat.reduceEqDiff, Nat.reduceLT, Nat.reduceLeDiff, Nat.reduceMul, Int.reduceToNat, reduceCtorEq, ↓reduceIte, Tryd.ntmps17, Tryd.results17, ks_17, mu_17, nd_17, ti_ag79, ti_fe79, ti_sb22, ti_sl22, ti_sz79, tkD, tkV])
    | (with_reducible refine AWp_drawE nd_17 mu_17 ks_17 ti_mixed (by kernel_rfl) ?_; intro Kv hKv; simp (dsimp := false) only [go_sem, Nat.reduceAdd, Nat.reduceBEq, Nat.reduceEqDiff, Nat.reduceLT, Nat.reduceLeDiff, Nat.reduceMul, Int.reduceToNat, reduceCtorEq, ↓reduceIte, Tryd.ntmps17, Tryd.results17, ks_17, mu_17, nd_17, ti_ag79, ti_fe79, ti_sb22, ti_sl22, ti_sz79, tkD, tkV])
    | (refine AWp_condC rfl ?_; intro KA KB hKA hKB; try simp only [onB_true, onB_false, onB_dec, onB_ndec, onB_not, onB_and, onB_or])
    | (refine AWp_condA rfl ?_ ?_)
    | with_reducible refine onB_of ?_ ?_
    | with_reducible rfl
    | omega)
  refine AWp_while0 (fun i : Nat => i ≤ l.length) (fun i => [(0, .d (.sl 3 (l.map tkD))), (1, .d (.sl 3 (l.map tkD))), (5, .d (.i .i64 i))]) (fun i => l.length - i) 0 (Nat.zero_le _) ?_ ?_
  · simp (dsimp := false) only [go_sem, Nat.reduceAdd, Nat.reduceBEq, Nat.reduceEqDiff, Nat.reduceLT, Nat.reduceLeDiff, Nat.reduceMul, Int.reduceToNat, reduceCtorEq, ↓reduceIte, Tryd.ntmps17, Tryd.results17, ks_17, mu_17, nd_17, ti_ag79, ti_fe79, ti_sb22, ti_sl22, ti_sz79, tkD, tkV]
    first | done | simp
  rintro i hi
  repeat' (first
    | with_reducible refine And.intro ?_ ?_
    | with_reducible intro _
    | with_reducible refine AWp_seq ?_
    | with_reducible refine AWp_block ?_
    | (with_reducible refine hKv _ _ (AWp_nop ?_); clear hKv Kv)
    | (with_reducible refine hKv _ _ ?_; clear hKv Kv; simp (dsimp := false) only [go_sem, Nat.reduceAdd, Nat.reduceBEq, Nat.reduceEqDiff, Nat.reduceLT, Nat.reduceLeDiff, Nat.reduceMul, Int.reduceToNat, reduceCtorEq, ↓reduceIte, Tryd.ntmps17, Tryd.results17, ks_17, mu_17, nd_17, ti_ag79, ti_fe79, ti_sb22, ti_sl22, ti_sz79, tkD, tkV])
    | (with_reducible refine hKA ?_; clear hKA hKB KA KB)
    | (with_reducible refine hKB ?_; clear hKA hKB KA KB)
    | (with_reducible refine AWp_regC mu_17 ks_17 ?_; intro Kv hKv; simp (dsimp := false) only [go_sem, Nat.reduceAdd, Nat.reduceBEq, Nat.reduceEqDiff, Nat.reduceLT, Nat.reduceLeDiff, Nat.reduceMul, Int.reduceToNat, reduceCtorEq, ↓reduceIte, Tryd.ntmps17, Tryd.results17, ks_17, mu_17, nd_17, ti_ag79, ti_fe79, ti_sb22, ti_sl22, ti_sz79, tkD, tkV])
    | (with_reducible refine AWp_draw nd_17 mu_17 ks_17 ti_mixed (by kernel_rfl) ?_; intro Kv hKv; simp (dsimp := false) only [go_sem, Nat.reduceAdd, Nat.reduceBEq, Nat.reduceEqDiff, Nat.reduceLT, Nat.reduceLeDiff, Nat.reduceMul, Int.reduceToNat, reduceCtorEq, ↓reduceIte, Tryd.ntmps17, Tryd.results17, ks_17, mu_17, nd_17, ti_ag79, ti_fe79, ti_sb22, ti_sl22, ti_sz79, tkD, tkV])
    | with_reducible refine AWp_skipN ?_
    | with_reducible refine AWp_exitO (by repeat (first | with_reducible exact Out.hit | with_reducible apply Out.thenA | with_reducible apply Out.out rfl)) ?_
    | (with_reducible refine AWp_retR ?_; simp (dsimp := false) only [go_sem, Nat.reduceAdd, Nat.reduceBEq, Nat.reduceEqDiff, Nat.reduceLT, Nat.reduceLeDiff, Nat.reduceMul, Int.reduceToNat, reduceCtorEq, ↓reduceIte, Tryd.ntmps17, Tryd.results17, ks_17, mu_17, nd_17, ti_ag79, ti_fe79, ti_sb22, ti_sl22, ti_sz79, tkD, tkV])
    | (with_reducible refine AWp_regE mu_17 ks_17 ?_; intro Kv hKv; simp (dsimp := false) only [go_sem, Nat.reduceAdd, Nat.reduceBEq, Nat.reduceEqDiff, Nat.reduceLT, Nat.reduceLeDiff, Nat.reduceMul, Int.reduceToNat, reduceCtorEq, ↓reduceIte, Tryd.ntmps17, Tryd.results17, ks_17, mu_17, nd_17, ti_ag79, ti_fe79, ti_sb22, ti_sl22, ti_sz79, tkD, tkV])
    | (with_reducible refine AWp_drawE nd_17 mu_17 ks_17 ti_mixed (by kernel_rfl) ?_; intro Kv hKv; simp (dsimp := false) only [go_sem, Nat.reduceAdd, Nat.reduceBEq, Nat.reduceEqDiff, Nat.reduceLT, Nat.reduceLeDiff, Nat.reduceMul, Int.reduceToNat, reduceCtorEq, ↓reduceIte, Tryd.ntmps17, Tryd.results17, ks_17, mu_17, nd_17, ti_ag79, ti_fe79, ti_sb22, ti_sl22, ti_sz79, tkD, tkV])
    | (refine AWp_condC rfl ?_; intro KA KB hKA hKB; try simp only [onB_true, onB_false, onB_dec, onB_ndec, onB_not, onB_and, onB_or])
    | (refine AWp_condA rfl ?_ ?_)
    | with_reducible refine onB_of ?_ ?_
    | with_reducible rfl
    | omega)
  all_goals first
    | exact ⟨i + 1, by omega, by omega, by omega⟩
    | exact keepD hk rfl
    | (exfalso; simp_all)
theorem cutGo_len (s : List UInt8) : ∀ (m p : Nat) (out : List Tk), s.length - p ≤ m → out.length ≤ 200 → (cutGo s p out).1.length ≤ 200
  | 0, p, out, h, ho => by rw [cutGo_end (by omega)]; exact ho
  | m + 1, p, out, h, ho => by
    by_cases hp : p < s.length
    · have hc : s[p]? = some s[p] := List.getElem?_eq_getElem hp
      rw [cutGo_next hc]
      split
      · exact cutGo_len s m _ _ (by omega) ho
      · split
        · simp
        · split
          · simp
          · rename_i h1 h2 h3
            have := oneT_adv hc (by simpa using h3)
            exact cutGo_len s m _ _ (by omega) (by simp; omega)
    · rw [cutGo_end (by omega)]; exact ho
theorem cut_len (s : List UInt8) : (cut s).1.length ≤ 200 := by
  unfold cut
  split
  · exact cutGo_len s _ _ _ (Nat.le_refl _) (by simp)
  · simp
/- the live slots of pleacher/pleacherlaw.ReadCuts -/
def ks_3 : Nat → List Nat
  | 0 => [0]
  | 1 => [0, 3, 4, 5]
  | 2 => [3, 4, 5, 6, 7, 8]
  | 3 => [2]
  | _ => []
def mu_3 : List Nat := []
def in_3 : List Nat := [0]
theorem walk (s : List UInt8) (hs : s.length ≤ 1048576) (K : V → Heap → Prop) (hk : K (.d (.b true)) []) : ACalls Tryd.prog 3 [.d (.s s)] [] K := by
  have hl := cut_len s
  
  refine ACalls_of Tryd.func3 rfl in_3 (Nat.le_of_ble_eq_true rfl) ?_
  intro F hF
  simp (dsimp := false) only [go_sem, Nat.reduceAdd, Nat.reduceBEq, Nat.reduceEqDiff, Nat.reduceLT, Nat.reduceLeDiff, Nat.reduceMul, Int.reduceToNat, reduceCtorEq, ↓reduceIte, Tryd.ntmps3, Tryd.results3, ks_3, mu_3, ti_hb15, ti_hb16, ti_hb17, cutV, in_3] at hF
  subst hF
  repeat' (first
    | with_reducible refine And.intro ?_ ?_
    | with_reducible intro _
    | with_reducible refine AWp_seq ?_
    | with_reducible refine AWp_block ?_
    | (with_reducible refine hKv _ _ (AWp_nop ?_); clear hKv Kv)
    | (with_reducible refine hKv _ _ ?_; clear hKv Kv; simp (dsimp := false) only [go_sem, Nat.reduceAdd, Nat.reduceBEq, Nat.reduceEqDiff, Nat.reduceLT, Nat.reduceLeDiff, Nat.reduceMul, Int.reduceToNat, reduceCtorEq, ↓reduceIte, Tryd.ntmps3, Tryd.results3, ks_3, mu_3, ti_hb15, ti_hb16, ti_hb17, cutV])
    | (with_reducible refine hKA ?_; clear hKA hKB KA KB)
    | (with_reducible refine hKB ?_; clear hKA hKB KA KB)
    | (with_reducible refine AWp_regC mu_3 ks_3 ?_; intro Kv hKv; simp (dsimp := false) only [go_sem, Nat.reduceAdd, Nat.reduceBEq, Nat.reduceEqDiff, Nat.reduceLT, Nat.reduceLeDiff, Nat.reduceMul, Int.reduceToNat, reduceCtorEq, ↓reduceIte, Tryd.ntmps3, Tryd.results3, ks_3, mu_3, ti_hb15, ti_hb16, ti_hb17, cutV])
    | with_reducible refine AWp_skipN ?_
    | with_reducible refine AWp_exitO (by repeat (first | with_reducible exact Out.hit | with_reducible apply Out.thenA | with_reducible apply Out.out rfl)) ?_
    | (with_reducible refine AWp_retR ?_; simp (dsimp := false) only [go_sem, Nat.reduceAdd, Nat.reduceBEq, Nat.reduceEqDiff, Nat.reduceLT, Nat.reduceLeDiff, Nat.reduceMul, Int.reduceToNat, reduceCtorEq, ↓reduceIte, Tryd.ntmps3, Tryd.results3, ks_3, mu_3, ti_hb15, ti_hb16, ti_hb17, cutV])
    | (with_reducible refine AWp_regE mu_3 ks_3 ?_; intro Kv hKv; simp (dsimp := false) only [go_sem, Nat.reduceAdd, Nat.reduceBEq, Nat.reduceEqDiff, Nat.reduceLT, Nat.reduceLeDiff, Nat.reduceMul, Int.reduceToNat, reduceCtorEq, ↓reduceIte, Tryd.ntmps3, Tryd.results3, ks_3, mu_3, ti_hb15, ti_hb16, ti_hb17, cutV])
    | (refine AWp_condC rfl ?_; intro KA KB hKA hKB; try simp only [onB_true, onB_false, onB_dec, onB_ndec, onB_not, onB_and, onB_or])
    | (refine AWp_condA rfl ?_ ?_)
    | (refine cut_A s hs _ _ ?_; try simp (dsimp := false) only [go_sem, Nat.reduceAdd, Nat.reduceBEq, Nat.reduceEqDiff, Nat.reduceLT, Nat.reduceLeDiff, Nat.reduceMul, Int.reduceToNat, reduceCtorEq, ↓reduceIte, Tryd.ntmps3, Tryd.results3, ks_3, mu_3, ti_hb15, ti_hb16, ti_hb17, cutV])
    | (refine tokensOf_A s hs _ _ ?_; try simp (dsimp := false) only [go_sem, Nat.reduceAdd, Nat.reduceBEq, Nat.reduceEqDiff, Nat.reduceLT, Nat.reduceLeDiff, Nat.reduceMul, Int.reduceToNat, reduceCtorEq, ↓reduceIte, Tryd.ntmps3, Tryd.results3, ks_3, mu_3, ti_hb15, ti_hb16, ti_hb17, cutV])
    | (refine sameTokens_A (cut s).1 (by omega) _ _ ?_; try simp (dsimp := false) only [go_sem, Nat.reduceAdd, Nat.reduceBEq, Nat.reduceEqDiff, Nat.reduceLT, Nat.reduceLeDiff, Nat.reduceMul, Int.reduceToNat, reduceCtorEq, ↓reduceIte, Tryd.ntmps3, Tryd.results3, ks_3, mu_3, ti_hb15, ti_hb16, ti_hb17, cutV])
    | with_reducible refine onB_of ?_ ?_
    | with_reducible rfl
    | omega)
  all_goals first
    | exact keepD hk rfl
    | exact keepD hk (by simp)
end
instance gl : Glo := ⟨fun g => if g = 4 then some acceptRow else if g = 1 then some marksRow else if g = 3 then some firstRow else none⟩
instance : U8 := ⟨rfl, rfl⟩
instance : Mk := ⟨rfl⟩
theorem law (dss : List (List D)) (h : TypedAll [.s] dss 1048576) : ACalls Tryd.prog 3 (argsV [.s] dss) [] fun v _ => v = .d (.b true) := by
  match dss, h with
  | [d1], ⟨_, _, _, h1, _⟩ =>
    obtain ⟨t, rfl, hs⟩ := typed_s h1
    exact walk t (by omega) _ rfl
theorem globs {W : World} (h : laidMetH Tryd.prog Rows.readCutsUptoRow.laid W) : Globs W := by
  have r0 := Lib.laidMet.reads h (.head _)
  have r1 := Lib.laidMet.reads h (.tail _ (.head _))
  have r2 := Lib.laidMet.reads h (.tail _ (.tail _ (.head _)))
  intro g row hg
  change (if g = 4 then some acceptRow else if g = 1 then some marksRow else if g = 3 then some firstRow else none) = some row at hg
  split at hg
  · rename_i e
    subst e
    cases hg
    exact var_row (n := 8) (t := 221) (by kernel_rfl) (by kernel_rfl) (by kernel_rfl) (by decide) r0 (fun _ h => h)
  ·
    split at hg
    · rename_i e
      subst e
      cases hg
      exact var_row (n := 8) (t := 176) (by kernel_rfl) (by kernel_rfl) (by kernel_rfl) (by decide) r1 (fun _ h => h)
    ·
      split at hg
      · rename_i e
        subst e
        cases hg
        exact var_row (n := 8) (t := 218) (by kernel_rfl) (by kernel_rfl) (by kernel_rfl) (by decide) r2 (fun _ h => h)
      ·
        cases hg
noncomputable def laidWorld (os : Os) : World :=
  let w0 := World.holding Tryd.prog os ⟨#[], #[], []⟩
  { w0 with heap := putRow (putRow (putRow (w0.heap) 4 acceptRow) 1 marksRow) 3 firstRow }
theorem laid_met (os : Os) : laidMet Tryd.prog Rows.readCutsUptoRow.laid ((laidWorld os).forCall (fun _ _ => 0) ⟨#[], #[.string .empty], []⟩).memory :=
  laidMet_of_run' 8 (by kernel_rfl) (by kernel_rfl)
theorem reads (os : Os) {H : Type} (enc : TypeId × Value → H) : ∃ places, DataW.whole enc Tryd.prog ((laidWorld os).forCall (fun _ _ => 0) ⟨#[], #[.string .empty], []⟩).memory Tryd.f3.params.toList Rows.readCutsSpec.vars false (#[.string .empty] : Array Value).toList 8 = some ([.lit (.string [])], [], places) :=
  ⟨[], by kernel_rfl⟩
set_option maxRecDepth 100000 in
theorem lifted (os : Os) (started : os.Started) (H : Type) (enc : TypeId × Value → H) (F : Stop.Interp) :
    ReturnsInHanded {} Tryd.checked os 3 .any ((Rows.OpenSpec.upto Rows.readCutsSpec).preRow enc Tryd.prog Tryd.f3 Rows.readCutsUptoRow.domain false Rows.readCutsUptoRow.laid) (((Rows.OpenSpec.upto Rows.readCutsSpec).at F).post enc Tryd.prog Tryd.f3 false true false false) := by
  obtain ⟨places, hx⟩ := reads os enc
  refine returnsInHanded_of_row (C := Tryd.checked) (s := Rows.OpenSpec.upto Rows.readCutsSpec) own started (by kernel_rfl) Tryd.func3
    (witness_row_at (enc := enc) (C := Tryd.checked) false (laidWorld os) #[.string .empty] rfl (by kernel_rfl) (by kernel_rfl) (by kernel_rfl)
      (OpenSpec.preRow_of_cond 8 hx (by kernel_rfl) (fun k hk => by cases hk; kernel_rfl) (by kernel_rfl) (laid_met os))) ?_
  intro W base args ds gs before hval hW _ hcond _ hL _ _
  refine law_contract (n := 12) (Ts := [.s]) (bt := 4) rfl (by kernel_rfl) Tryd.underlying4 (by kernel_rfl) (by kernel_rfl) (fun ds hds => ?_) law W (globs hL) args ds gs before base hval hW (hcond _ rfl)
  match ds, hds with
  | [d0], _ => rfl
theorem said : Rows.ReadCutsUptoSaid :=
  OpenClaim.holds_of_cond 3 Tryd.f3 rfl rfl rfl rfl rfl rfl rfl ⟨rfl, rfl, rfl, rfl, rfl⟩ rfl rfl rfl rfl rfl (by kernel_rfl) Tryd.func3 (by kernel_rfl)
    (of_decide_eq_true (by kernel_rfl)) (by unfold Func.isWrapper; first | (rw [if_pos (by decide +kernel)]; kernel_rfl) | (rw [if_neg (by decide +kernel)]; exact ⟨rfl, rfl⟩))
    (fun os started H enc _ F => by rw [OpenClaim.pre_eq_preRow]; exact lifted os started H enc F)
theorem plain (f : FuncId) (fn : Func) (hf : Tryd.pinned.checked.prog.funcNamed Rows.readCutsUptoRow.func = some f) (hfn : Tryd.pinned.checked.prog.funcs[f]? = some fn) :
    false = Tryd.pinned.checked.prog.looks [] ∧ ∀ (j : Nat) t, fn.params[j]? = some t → Tryd.pinned.checked.prog.wantsStandIn t = false := by
  obtain rfl : f = 3 := Option.some.inj ((show Tryd.prog.funcNamed Rows.readCutsUptoRow.func = some 3 by kernel_rfl).symm.trans hf) |>.symm
  obtain rfl : fn = Tryd.f3 := (Option.some.inj (Tryd.func3.symm.trans hfn)).symm
  refine ⟨by kernel_rfl, fun j t ht => ?_⟩
  have hm : t ∈ Tryd.f3.params.toList := by simpa using Array.mem_of_getElem? ht
  have hall : (Tryd.f3.params.toList.all fun u => !Tryd.prog.wantsStandIn u) = true := by kernel_rfl
  exact (show Tryd.prog.wantsStandIn t = false by simpa using List.all_eq_true.1 hall t hm)
theorem proved : Rows.ReadCutsUptoCardSaid :=
  Claim7.holds_tied_plain_at .later [] _ _ _ _ said (fun _ h => by cases h) (by kernel_rfl) (fun _ h => by cases h) readCutsUpto_row_tie rfl ⟨rfl, rfl⟩ (by kernel_rfl) rfl plain (by kernel_rfl)
end Go.Proofs.YtalalhngpcmoeaaDoor.readCuts
