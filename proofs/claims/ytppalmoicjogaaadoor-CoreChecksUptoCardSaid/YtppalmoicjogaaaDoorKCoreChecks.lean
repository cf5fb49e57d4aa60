/- The law CoreChecks holds wherever what it reads is of bulk at most 1048576: it returns true, and its argument reads as it did; the tables of package unicode/utf8 and of the core's functions as the row lists them. -/
import Derived.Test.YtppalmoicjogaaaDoorC17
import Derived.Test.YtppalmoicjogaaaDoorC51
import Derived.Test.YtppalmoicjogaaaDoorCards
import Derived.Test.YtppalmoicjogaaaDoorTie
import Derived.Deep.DeepHandedRow
import Derived.SevenTiedAt
set_option linter.all false
set_option linter.unusedSimpArgs false
set_option linter.unusedVariables false
namespace Go.Proofs.YtppalmoicjogaaaDoor.coreChecks
open Go Go.ChangeShapes Go.WideShapes Go.ChangeAt Go.RowKit Go.Proofs.YtppalmoicjogaaaDoor Go.Proofs.YtppalmoicjogaaaDoor.Ab
set_option maxHeartbeats 1000000
set_option maxRecDepth 20000
section
variable [Glo] [U8] [CAr]
def ks_4 : Nat → List Nat
  | 0 => [1]
  | 1 => [1, 3]
  | 2 => [3, 4]
  | 3 => [2]
  | _ => []
def mu_4 : List Nat := []
def in_4 : List Nat := [0]
theorem walk (x : Ex) (ok : ExOk x) (hn : exN x ≤ 100000) (K : V → Heap → Prop) (hk : K (.d (.b true)) []) : ACalls Tryd.prog 4 [exV x.h x.args] [] K := by
  have h1 := coreCheck_A x ok hn
  have h2 := coreFault_A x ok hn
  have ii : (coreQ x = coreQ x) = True := eq_true rfl
  refine ACalls_of Tryd.func4 rfl in_4 (Nat.le_of_ble_eq_true rfl) ?_
  intro F hF
  simp (dsimp := false) only [go_sem, Nat.reduceAdd, Nat.reduceBEq, Nat.reduceEqDiff, Nat.reduceLT, Nat.reduceLeDiff, Nat.reduceMul, Int.reduceToNat, reduceCtorEq, ↓reduceIte, Tryd.ntmps4, Tryd.results4, ks_4, mu_4, ti_ag36, ti_hb9, ti_hb10, ti_sz36, exV, ii, in_4] at hF
  subst hF
  repeat' (first | with_reducible (first | refine And.intro ?_ ?_ | intro _ | refine AWp_seq ?_ | refine AWp_block ?_ | (refine hKv _ _ (AWp_nop ?_); clear hKv Kv) | (refine hKA ?_; clear hKA hKB KA KB) | (refine hKB ?_; clear hKA hKB KA KB) | refine AWp_skipN ?_ | refine AWp_exitO (by repeat (first | exact Out.hit | apply Out.thenA | apply Out.out rfl)) ?_) | ((first | with_reducible (first | (refine hKv _ _ ?_; clear hKv Kv) | ((first | refine AWp_regC mu_4 ks_4 ?_ | refine AWp_regE mu_4 ks_4 ?_); intro Kv hKv) | refine AWp_retR ?_) | refine h1 _ _ ?_ | refine h2 _ _ ?_); try simp (dsimp := false) only [go_sem, Nat.reduceAdd, Nat.reduceBEq, Nat.reduceEqDiff, Nat.reduceLT, Nat.reduceLeDiff, Nat.reduceMul, Int.reduceToNat, reduceCtorEq, ↓reduceIte, Tryd.ntmps4, Tryd.results4, ks_4, mu_4, ti_ag36, ti_hb9, ti_hb10, ti_sz36, exV, ii]) | (refine AWp_condC rfl ?_; intro KA KB hKA hKB; try simp only [onB_true, onB_false, onB_dec, onB_ndec, onB_not, onB_and, onB_or]) | (refine AWp_condA rfl ?_ ?_) | with_reducible (first | refine onB_of ?_ ?_ | rfl) | omega)
  all_goals first
    | exact keepD hk rfl
    | exact keepD hk (by simp)
end
abbrev gl (L : List (List UInt8 × Int)) : Glo := ⟨fun g => if g = 6 then some acceptRow else if g = 3 then some (mapRow L) else if g = 5 then some firstRow else none⟩
theorem law (L : List (List UInt8 × Int)) (hp : L.Perm coreArE) (dss : List (List D)) (h : TypedAllR (tyR Tryd.prog [36] 12) [.cons (.i .i64) (.cons (.cons (.i .i64) (.cons (.i .i64) (.cons (.s) (.nil)))) (.cons (.s) (.cons (.s) (.cons (.i .i64) (.cons (.i .i64) (.cons (.cons (.i .i64) (.cons (.s) (.nil))) (.cons (.sl (.rf 36 11)) (.nil))))))))] dss 1048576) : @ACalls (gl L) Tryd.prog 4 (argsVR [.cons (.i .i64) (.cons (.cons (.i .i64) (.cons (.i .i64) (.cons (.s) (.nil)))) (.cons (.s) (.cons (.s) (.cons (.i .i64) (.cons (.i .i64) (.cons (.cons (.i .i64) (.cons (.s) (.nil))) (.cons (.sl (.rf 36 11)) (.nil))))))))] dss) [] fun v _ => v = .d (.b true) := by
  letI : Glo := gl L
  match dss, h with
  | [d1], ⟨_, _, _, h1, _⟩ =>
    letI : U8 := ⟨rfl, rfl⟩
    letI : CAr := ⟨L, hp, rfl⟩
    obtain ⟨x, rfl, ok, hn⟩ := typed_ex (env := tyR Tryd.prog [36] 12) (by kernel_rfl) _ _ (by omega) h1
    rw [exD_1]
    exact walk x ok (by omega) _ rfl
theorem map_of {W : World} (h : laidMetH Tryd.prog Rows.coreChecksUptoRow.laid W) : ∃ L : List (List UInt8 × Int), L.Perm coreArE ∧ GRow W (fun _ => False) 3 (mapRow L) := by
  letI : Glo := gl []
  exact map_var (t := 82) (k := 9) (e := 3) (by kernel_rfl) (by kernel_rfl) (by kernel_rfl) (by kernel_rfl) (by kernel_rfl) (Lib.laidMet.reads h (.tail _ (.head _))) (fun _ h => h)
theorem globs {W : World} (h : laidMetH Tryd.prog Rows.coreChecksUptoRow.laid W) {L : List (List UInt8 × Int)} (hmap : GRow W (fun _ => False) 3 (mapRow L)) : @Globs (gl L) W := by
  letI : Glo := gl L
  have r0 := Lib.laidMet.reads h (.head _)
  have r1 := Lib.laidMet.reads h (.tail _ (.head _))
  have r2 := Lib.laidMet.reads h (.tail _ (.tail _ (.head _)))
  intro g row hg
  change (if g = 6 then some acceptRow else if g = 3 then some (mapRow L) else if g = 5 then some firstRow else none) = some row at hg
  split at hg
  · rename_i e
    subst e
    cases hg
    exact var_row (n := 8) (t := 129) (by kernel_rfl) (by kernel_rfl) (by kernel_rfl) (by decide) r0 (fun _ h => h)
  ·
    split at hg
    · rename_i e
      subst e
      cases hg
      exact hmap
    ·
      split at hg
      · rename_i e
        subst e
        cases hg
        exact var_row (n := 8) (t := 126) (by kernel_rfl) (by kernel_rfl) (by kernel_rfl) (by decide) r2 (fun _ h => h)
      ·
        cases hg
noncomputable def laidWorld (os : Os) : World :=
  let w0 := World.holding Tryd.prog os ⟨#[], #[], []⟩
  { w0 with heap := putRow (putMap (putRow (w0.heap) 6 acceptRow) 3 coreArE) 5 firstRow }
theorem laid_met (os : Os) : laidMet Tryd.prog Rows.coreChecksUptoRow.laid ((laidWorld os).forCall (fun _ _ => 0) ⟨#[], #[.agg #[.int .i64 0, .int .i64 0, .int .i64 0, .string .empty, .string .empty, .string .empty, .int .i64 0, .int .i64 0, .int .i64 0, .string .empty, .slice none 0 0]], []⟩).memory :=
  laidMet_of_run' 8 (by kernel_rfl) (by kernel_rfl)
theorem reads (os : Os) {H : Type} (enc : TypeId × Value → H) : ∃ places, DataW.whole enc Tryd.prog ((laidWorld os).forCall (fun _ _ => 0) ⟨#[], #[.agg #[.int .i64 0, .int .i64 0, .int .i64 0, .string .empty, .string .empty, .string .empty, .int .i64 0, .int .i64 0, .int .i64 0, .string .empty, .slice none 0 0]], []⟩).memory Tryd.f4.params.toList Rows.coreChecksSpec.vars false (#[.agg #[.int .i64 0, .int .i64 0, .int .i64 0, .string .empty, .string .empty, .string .empty, .int .i64 0, .int .i64 0, .int .i64 0, .string .empty, .slice none 0 0]] : Array Value).toList 8 = some ([.agg [.lit (.int .i64 0), .agg [.lit (.int .i64 0), .lit (.int .i64 0), .lit (.string [])], .lit (.string []), .lit (.string []), .lit (.int .i64 0), .lit (.int .i64 0), .agg [.lit (.int .i64 0), .lit (.string [])], .nil]], [], places) :=
  ⟨[], by kernel_rfl⟩
set_option maxRecDepth 100000 in
theorem lifted (os : Os) (started : os.Started) (H : Type) (enc : TypeId × Value → H) (F : Stop.Interp) :
    ReturnsInHanded {} Tryd.checked os 4 .any ((Rows.OpenSpec.upto Rows.coreChecksSpec).preRow enc Tryd.prog Tryd.f4 Rows.coreChecksUptoRow.domain false Rows.coreChecksUptoRow.laid) (((Rows.OpenSpec.upto Rows.coreChecksSpec).at F).post enc Tryd.prog Tryd.f4 false true false false) := by
  obtain ⟨places, hx⟩ := reads os enc
  refine returnsInHanded_of_row (C := Tryd.checked) (s := Rows.OpenSpec.upto Rows.coreChecksSpec) (letI : Glo := gl []; own) started (by kernel_rfl) Tryd.func4
    (witness_row_at (enc := enc) (C := Tryd.checked) false (laidWorld os) #[.agg #[.int .i64 0, .int .i64 0, .int .i64 0, .string .empty, .string .empty, .string .empty, .int .i64 0, .int .i64 0, .int .i64 0, .string .empty, .slice none 0 0]] rfl (by kernel_rfl) (by kernel_rfl) (by kernel_rfl)
      (OpenSpec.preRow_of_cond 8 hx (by kernel_rfl) (fun k hk => by cases hk; kernel_rfl) (by kernel_rfl) (laid_met os))) ?_
  intro W base args ds gs before hval hW _ hcond _ hL _ _
  obtain ⟨L, hp, hmap⟩ := map_of hL
  letI : Glo := gl L
  refine law_contractR (n := 12) (rs := [36]) (Ts := [.cons (.i .i64) (.cons (.cons (.i .i64) (.cons (.i .i64) (.cons (.s) (.nil)))) (.cons (.s) (.cons (.s) (.cons (.i .i64) (.cons (.i .i64) (.cons (.cons (.i .i64) (.cons (.s) (.nil))) (.cons (.sl (.rf 36 11)) (.nil))))))))]) (bt := 4) (by kernel_rfl) rfl (by kernel_rfl) Tryd.underlying4 (by kernel_rfl) (by kernel_rfl) (fun ds hds => ?_) (law L hp) W (globs hL hmap) args ds gs before base hval hW (hcond _ rfl)
  match ds, hds with
  | [d0], _ => rfl
theorem said : Rows.CoreChecksUptoSaid :=
  OpenClaim.holds_of_cond 4 Tryd.f4 rfl rfl rfl rfl rfl rfl rfl ⟨rfl, rfl, rfl, rfl, rfl⟩ rfl rfl rfl rfl rfl (by kernel_rfl) Tryd.func4 (by kernel_rfl)
    (of_decide_eq_true (by kernel_rfl)) (by unfold Func.isWrapper; first | (rw [if_pos (by decide +kernel)]; kernel_rfl) | (rw [if_neg (by decide +kernel)]; exact ⟨rfl, rfl⟩))
    (fun os started H enc _ F => by rw [OpenClaim.pre_eq_preRow]; exact lifted os started H enc F)
theorem plain (f : FuncId) (fn : Func) (hf : Tryd.pinned.checked.prog.funcNamed Rows.coreChecksUptoRow.func = some f) (hfn : Tryd.pinned.checked.prog.funcs[f]? = some fn) :
    false = Tryd.pinned.checked.prog.looks [] ∧ ∀ (j : Nat) t, fn.params[j]? = some t → Tryd.pinned.checked.prog.wantsStandIn t = false := by
  obtain rfl : f = 4 := Option.some.inj ((show Tryd.prog.funcNamed Rows.coreChecksUptoRow.func = some 4 by kernel_rfl).symm.trans hf) |>.symm
  obtain rfl : fn = Tryd.f4 := (Option.some.inj (Tryd.func4.symm.trans hfn)).symm
  refine ⟨by kernel_rfl, fun j t ht => ?_⟩
  have hm : t ∈ Tryd.f4.params.toList := by simpa using Array.mem_of_getElem? ht
  have hall : (Tryd.f4.params.toList.all fun u => !Tryd.prog.wantsStandIn u) = true := by kernel_rfl
  exact (show Tryd.prog.wantsStandIn t = false by simpa using List.all_eq_true.1 hall t hm)
theorem proved : Rows.CoreChecksUptoCardSaid :=
  Claim7.holds_tied_plain_at .later [] _ _ _ _ said (fun _ h => by cases h) (by kernel_rfl) (fun _ h => by cases h) coreChecksUpto_row_tie rfl ⟨rfl, rfl⟩ (by kernel_rfl) rfl plain (by kernel_rfl)
end Go.Proofs.YtppalmoicjogaaaDoor.coreChecks
