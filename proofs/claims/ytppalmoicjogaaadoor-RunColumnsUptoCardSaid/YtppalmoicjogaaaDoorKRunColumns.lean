/- The law RunColumns holds wherever what it reads is of bulk at most 1048576: it returns true, and its argument reads as it did; the tables of package unicode/utf8, of inputs and of arities as the row lists them. -/
import Derived.Test.YtppalmoicjogaaaDoorR17
import Derived.Test.YtppalmoicjogaaaDoorR49
import Derived.Test.YtppalmoicjogaaaDoorCards
import Derived.Test.YtppalmoicjogaaaDoorTie
import Derived.Deep.DeepHandedRow
import Derived.SevenTiedAt
set_option linter.all false
set_option linter.unusedSimpArgs false
set_option linter.unusedVariables false
namespace Go.Proofs.YtppalmoicjogaaaDoor.runColumns
open Go Go.ChangeShapes Go.WideShapes Go.ChangeAt Go.RowKit Go.Proofs.YtppalmoicjogaaaDoor Go.Proofs.YtppalmoicjogaaaDoor.Ab
set_option maxHeartbeats 1000000
set_option maxRecDepth 20000
section
variable [Glo]
theorem typed_ints {ds : List D} {m : Nat} (h : Typed (.sl (.i .i64)) ds m) : ∃ l : List Int, ds = [.sl 1 (l.map inR1)] ∧ l.length ≤ m := by
  obtain ⟨xs, ws, rfl, h1, h2, h3⟩ := typed_list (f := inR1) (p := fun (x : Int) m => 1 ≤ m) (fun ds m h => by
    obtain ⟨n, rfl, _, hs⟩ := typed_i h
    exact ⟨n, rfl, hs⟩) h
  refine ⟨xs, rfl, ?_⟩
  have := len_sum (ws := ws) 1 fun i w hw => by
    have hi : i < ws.length := lt_of_get hw
    exact h3 i _ w (List.getElem?_eq_getElem (by omega)) hw
  omega
abbrev tyOp : Ty := .cons (.i .i64) (.cons (.sl (.i .i64)) (.cons .s (.cons (.sl .s) (.cons (.sl .s) (.cons .s (.cons .s (.cons (.i .i64) (.cons (.i .i64) (.cons (.cons (.i .i64) (.cons .s .nil)) (.cons tyRl .nil))))))))))
theorem typed_op {ds : List D} {m : Nat} (hm : m ≤ 1048576) (h : Typed tyOp ds m) : ∃ o : Opp, ds = opD o ∧ OkO o ∧ 1 ≤ m := by
  obtain ⟨_, _, _, _, rfl, e1, h1, g1⟩ := typed_cons h
  obtain ⟨_, _, _, _, rfl, e2, h2, g2⟩ := typed_cons g1
  obtain ⟨_, _, _, _, rfl, e3, h3, g3⟩ := typed_cons g2
  obtain ⟨_, _, _, _, rfl, e4, h4, g4⟩ := typed_cons g3
  obtain ⟨_, _, _, _, rfl, e5, h5, g5⟩ := typed_cons g4
  obtain ⟨_, _, _, _, rfl, e6, h6, g6⟩ := typed_cons g5
  obtain ⟨_, _, _, _, rfl, e7, h7, g7⟩ := typed_cons g6
  obtain ⟨_, _, _, _, rfl, e8, h8, g8⟩ := typed_cons g7
  obtain ⟨_, _, _, _, rfl, e9, h9, g9⟩ := typed_cons g8
  obtain ⟨_, _, _, _, rfl, e10, h10, g10⟩ := typed_cons g9
  obtain ⟨_, _, _, _, rfl, e11, h11, g11⟩ := typed_cons g10
  obtain rfl := typed_nil g11
  obtain ⟨_, _, _, _, rfl, f1, i1, j1⟩ := typed_cons h10
  obtain ⟨_, _, _, _, rfl, f2, i2, j2⟩ := typed_cons j1
  obtain rfl := typed_nil j2
  obtain ⟨k, rfl, _, l1⟩ := typed_i h1
  obtain ⟨inn, rfl, l2⟩ := typed_ints h2
  obtain ⟨new, rfl, l3⟩ := typed_s h3
  obtain ⟨cols, rfl, l4, l4'⟩ := typed_strs h4
  obtain ⟨olds, rfl, l5, l5'⟩ := typed_strs h5
  obtain ⟨part, rfl, l6⟩ := typed_s h6
  obtain ⟨name, rfl, l7⟩ := typed_s h7
  obtain ⟨n, rfl, _, l8⟩ := typed_i h8
  obtain ⟨ax, rfl, _, l9⟩ := typed_i h9
  obtain ⟨tk, rfl, _, l10⟩ := typed_i i1
  obtain ⟨tn, rfl, l11⟩ := typed_s i2
  obtain ⟨r, rfl, l12⟩ := typed_rl (by omega) h11
  exact ⟨⟨k, inn, new, cols, olds, part, name, n, ax, tk, tn, r⟩, rfl, ⟨by simp only; omega, by simp only; omega, by simp only; omega, fun s hs => by have := l4' s hs; omega, fun s hs => by have := l5' s hs; omega, by simp only; omega, by simp only; omega, by simp only; omega, l12⟩, by omega⟩
theorem typed_ops {ds : List D} (h : Typed (.sl tyOp) ds 1048576) : ∃ p : List Opp, ds = [.sl 13 (p.map opD)] ∧ p.length ≤ 1048576 ∧ ∀ o, o ∈ p → OkO o := by
  obtain ⟨rows, rfl, ws, h1, h2, h3⟩ := typed_sl h
  have key : ∀ (rows : List (List D)) (ws : List Nat), ws.length = rows.length → ws.sum ≤ 1048576 → (∀ (i : Nat) (row : List D) (w : Nat), rows[i]? = some row → ws[i]? = some w → Typed tyOp row w) → ∃ p : List Opp, rows = p.map opD ∧ p.length ≤ ws.sum ∧ ∀ o, o ∈ p → OkO o := by
    intro rows
    induction rows with
    | nil => intro ws _ _ _; exact ⟨[], rfl, by simp, by simp⟩
    | cons r rows ih =>
      intro ws hl hs hw
      cases ws with
      | nil => simp at hl
      | cons w ws =>
        rw [List.sum_cons] at hs
        obtain ⟨o, rfl, ho, h1⟩ := typed_op (m := w) (by omega) (hw 0 r w rfl rfl)
        obtain ⟨p, rfl, hp1, hp2⟩ := ih ws (by simpa using hl) (by omega) (fun i row w' h1 h2 => hw (i + 1) row w' (by simpa using h1) (by simpa using h2))
        refine ⟨o :: p, rfl, by rw [List.length_cons, List.sum_cons]; omega, fun x hx => ?_⟩
        rcases List.mem_cons.1 hx with rfl | hx
        · exact ho
        · exact hp2 x hx
  obtain ⟨p, rfl, h4, h5⟩ := key rows ws h1 (by omega) h3
  exact ⟨p, rfl, by omega, h5⟩
theorem columnsQ_len (p : List Opp) : (columnsQ p).2.length ≤ 200000 ∧ ∀ l, l ∈ (columnsQ p).2 → l.length ≤ 8 := by
  have key : ∀ (q : List Opp) (out : List (List (List UInt8))), (∀ l, l ∈ out → l.length ≤ 8) → (planQ q out).2.length ≤ out.length + q.length ∧ ∀ l, l ∈ (planQ q out).2 → l.length ≤ 8 := by
    intro q
    induction q with
    | nil => intro out h; exact ⟨Nat.le_refl _, h⟩
    | cons o q ih =>
      intro out h
      rw [planQ]
      split
      · rename_i hs
        have := ih (out ++ [(stepQ out o).2]) fun l hl => by
          rcases List.mem_append.1 hl with hl | hl
          · exact h l hl
          · rw [List.mem_singleton.1 hl]; exact colsFault_short (stepQ_ok hs)
        rw [List.length_append, List.length_singleton] at this
        exact ⟨by rw [List.length_cons]; omega, this.2⟩
      · exact ⟨by simp, by simp⟩
  have h0 := key p [] (by simp)
  rw [List.length_nil, Nat.zero_add] at h0
  unfold columnsQ
  split
  · simp
  · rename_i hb
    split
    · simp
    · split
      · split
        · exact ⟨by omega, h0.2⟩
        · simp
      · simp
variable [U8] [Ar] [Inp]
def ks_3 : Nat → List Nat
  | 0 => [0]
  | 1 => [0, 3, 4]
  | 2 => [3, 4, 5, 6]
  | 3 => [2]
  | _ => []
def mu_3 : List Nat := []
def in_3 : List Nat := [0]
theorem walk (p : List Opp) (hlen : p.length ≤ 1048576) (ok : ∀ o, o ∈ p → OkO o) (K : V → Heap → Prop) (hk : K (.d (.b true)) []) : ACalls Tryd.prog 3 [.d (.sl 13 (p.map opD))] [] K := by
  have hq := columnsQ_len p
  have h1 := runColumns_A p hlen ok
  have h2 := columnsOf_A p hlen ok
  have h3 := sameLists_A (columnsQ p).2 (by omega) (fun l hl => by have := hq.2 l hl; omega)
  have ii : ((columnsQ p).1 = (columnsQ p).1) = True := eq_true rfl
  refine ACalls_of Tryd.func3 rfl in_3 (Nat.le_of_ble_eq_true rfl) ?_
  intro F hF
  simp (dsimp := false) only [go_sem, Nat.reduceAdd, Nat.reduceBEq, Nat.reduceEqDiff, Nat.reduceLT, Nat.reduceLeDiff, Nat.reduceMul, Int.reduceToNat, reduceCtorEq, ↓reduceIte, Tryd.ntmps3, Tryd.results3, ks_3, mu_3, ti_hb6, ti_hb7, ti_hb8, strRow, colsR, ii, in_3] at hF
  subst hF
  repeat' (first | with_reducible (first | refine And.intro ?_ ?_ | intro _ | refine AWp_seq ?_ | refine AWp_block ?_ | (refine hKv _ _ (AWp_nop ?_); clear hKv Kv) | (refine hKA ?_; clear hKA hKB KA KB) | (refine hKB ?_; clear hKA hKB KA KB) | refine AWp_skipN ?_ | refine AWp_exitO (by repeat (first | exact Out.hit | apply Out.thenA | apply Out.out rfl)) ?_) | ((first | with_reducible (first | (refine hKv _ _ ?_; clear hKv Kv) | ((first | refine AWp_regC mu_3 ks_3 ?_ | refine AWp_regE mu_3 ks_3 ?_); intro Kv hKv) | refine AWp_retR ?_) | refine h1 _ _ ?_ | refine h2 _ _ ?_ | refine h3 _ _ ?_); try simp (dsimp := false) only [go_sem, Nat.reduceAdd, Nat.reduceBEq, Nat.reduceEqDiff, Nat.reduceLT, Nat.reduceLeDiff, Nat.reduceMul, Int.reduceToNat, reduceCtorEq, ↓reduceIte, Tryd.ntmps3, Tryd.results3, ks_3, mu_3, ti_hb6, ti_hb7, ti_hb8, strRow, colsR, ii]) | (refine AWp_condC rfl ?_; intro KA KB hKA hKB; try simp only [onB_true, onB_false, onB_dec, onB_ndec, onB_not, onB_and, onB_or]) | (refine AWp_condA rfl ?_ ?_) | with_reducible (first | refine onB_of ?_ ?_ | rfl) | omega)
  all_goals first
    | exact keepD hk rfl
    | exact keepD hk (by simp)
end
abbrev gl (L : List (List UInt8 × Int)) : Glo := ⟨fun g => if g = 6 then some acceptRow else if g = 0 then some inputsRow else if g = 1 then some (mapRow L) else if g = 5 then some firstRow else none⟩
theorem law (L : List (List UInt8 × Int)) (hp : L.Perm arE) (dss : List (List D)) (h : TypedAll [.sl (.cons (.i .i64) (.cons (.sl (.i .i64)) (.cons (.s) (.cons (.sl (.s)) (.cons (.sl (.s)) (.cons (.s) (.cons (.s) (.cons (.i .i64) (.cons (.i .i64) (.cons (.cons (.i .i64) (.cons (.s) (.nil))) (.cons (.cons (.sl (.s)) (.cons (.sl (.sl (.cons (.i .i64) (.cons (.i .i64) (.cons (.s) (.nil)))))) (.nil))) (.nil))))))))))))] dss 1048576) : @ACalls (gl L) Tryd.prog 3 (argsV [.sl (.cons (.i .i64) (.cons (.sl (.i .i64)) (.cons (.s) (.cons (.sl (.s)) (.cons (.sl (.s)) (.cons (.s) (.cons (.s) (.cons (.i .i64) (.cons (.i .i64) (.cons (.cons (.i .i64) (.cons (.s) (.nil))) (.cons (.cons (.sl (.s)) (.cons (.sl (.sl (.cons (.i .i64) (.cons (.i .i64) (.cons (.s) (.nil)))))) (.nil))) (.nil))))))))))))] dss) [] fun v _ => v = .d (.b true) := by
  letI : Glo := gl L
  match dss, h with
  | [d1], ⟨_, _, _, h1, _⟩ =>
    letI : U8 := ⟨rfl, rfl⟩
    letI : Ar := ⟨L, hp, rfl⟩
    letI : Inp := ⟨rfl⟩
    obtain ⟨p, rfl, hl, ho⟩ := typed_ops (h1.mono (by omega))
    exact walk p hl ho _ rfl
theorem map_of {W : World} (h : laidMetH Tryd.prog Rows.runColumnsUptoRow.laid W) : ∃ L : List (List UInt8 × Int), L.Perm arE ∧ GRow W (fun _ => False) 1 (mapRow L) := by
  letI : Glo := gl []
  exact map_var (t := 82) (k := 9) (e := 3) (by kernel_rfl) (by kernel_rfl) (by kernel_rfl) (by kernel_rfl) (by kernel_rfl) (Lib.laidMet.reads h (.tail _ (.tail _ (.head _)))) (fun _ h => h)
theorem globs {W : World} (h : laidMetH Tryd.prog Rows.runColumnsUptoRow.laid W) {L : List (List UInt8 × Int)} (hmap : GRow W (fun _ => False) 1 (mapRow L)) : @Globs (gl L) W := by
  letI : Glo := gl L
  have r0 := Lib.laidMet.reads h (.head _)
  have r1 := Lib.laidMet.reads h (.tail _ (.head _))
  have r2 := Lib.laidMet.reads h (.tail _ (.tail _ (.head _)))
  have r3 := Lib.laidMet.reads h (.tail _ (.tail _ (.tail _ (.head _))))
  intro g row hg
  change (if g = 6 then some acceptRow else if g = 0 then some inputsRow else if g = 1 then some (mapRow L) else if g = 5 then some firstRow else none) = some row at hg
  split at hg
  · rename_i e
    subst e
    cases hg
    exact var_row (n := 8) (t := 129) (by kernel_rfl) (by kernel_rfl) (by kernel_rfl) (by decide) r0 (fun _ h => h)
  ·
    split at hg
    · rename_i e
      subst e
      cases hg
      exact var_row (n := 8) (t := 54) (by kernel_rfl) (by kernel_rfl) (by kernel_rfl) (by decide) r1 (fun _ h => h)
    ·
      split at hg
      · rename_i e
        subst e
        cases hg
        exact hmap
      ·
        split at hg
        · rename_i e
          subst e
          cases hg
          exact var_row (n := 8) (t := 126) (by kernel_rfl) (by kernel_rfl) (by kernel_rfl) (by decide) r3 (fun _ h => h)
        ·
          cases hg
noncomputable def laidWorld (os : Os) : World :=
  let w0 := World.holding Tryd.prog os ⟨#[], #[], []⟩
  { w0 with heap := putRow (putMap (putRow (putRow (w0.heap) 6 acceptRow) 0 inputsRow) 1 arE) 5 firstRow }
theorem laid_met (os : Os) : laidMet Tryd.prog Rows.runColumnsUptoRow.laid ((laidWorld os).forCall (fun _ _ => 0) ⟨#[], #[.slice none 0 0], []⟩).memory :=
  laidMet_of_run' 8 (by kernel_rfl) (by kernel_rfl)
theorem reads (os : Os) {H : Type} (enc : TypeId × Value → H) : ∃ places, DataW.whole enc Tryd.prog ((laidWorld os).forCall (fun _ _ => 0) ⟨#[], #[.slice none 0 0], []⟩).memory Tryd.f3.params.toList Rows.runColumnsSpec.vars false (#[.slice none 0 0] : Array Value).toList 8 = some ([.nil], [], places) :=
  ⟨[], by kernel_rfl⟩
set_option maxRecDepth 100000 in
theorem lifted (os : Os) (started : os.Started) (H : Type) (enc : TypeId × Value → H) (F : Stop.Interp) :
    ReturnsInHanded {} Tryd.checked os 3 .any ((Rows.OpenSpec.upto Rows.runColumnsSpec).preRow enc Tryd.prog Tryd.f3 Rows.runColumnsUptoRow.domain false Rows.runColumnsUptoRow.laid) (((Rows.OpenSpec.upto Rows.runColumnsSpec).at F).post enc Tryd.prog Tryd.f3 false true false false) := by
  obtain ⟨places, hx⟩ := reads os enc
  refine returnsInHanded_of_row (C := Tryd.checked) (s := Rows.OpenSpec.upto Rows.runColumnsSpec) (letI : Glo := gl []; own) started (by kernel_rfl) Tryd.func3
    (witness_row_at (enc := enc) (C := Tryd.checked) false (laidWorld os) #[.slice none 0 0] rfl (by kernel_rfl) (by kernel_rfl) (by kernel_rfl)
      (OpenSpec.preRow_of_cond 8 hx (by kernel_rfl) (fun k hk => by cases hk; kernel_rfl) (by kernel_rfl) (laid_met os))) ?_
  intro W base args ds gs before hval hW _ hcond _ hL _ _
  obtain ⟨L, hp, hmap⟩ := map_of hL
  letI : Glo := gl L
  refine law_contract (n := 12) (Ts := [.sl (.cons (.i .i64) (.cons (.sl (.i .i64)) (.cons (.s) (.cons (.sl (.s)) (.cons (.sl (.s)) (.cons (.s) (.cons (.s) (.cons (.i .i64) (.cons (.i .i64) (.cons (.cons (.i .i64) (.cons (.s) (.nil))) (.cons (.cons (.sl (.s)) (.cons (.sl (.sl (.cons (.i .i64) (.cons (.i .i64) (.cons (.s) (.nil)))))) (.nil))) (.nil))))))))))))]) (bt := 4) rfl (by kernel_rfl) Tryd.underlying4 (by kernel_rfl) (by kernel_rfl) (fun ds hds => ?_) (law L hp) W (globs hL hmap) args ds gs before base hval hW (hcond _ rfl)
  match ds, hds with
  | [d0], _ => rfl
theorem said : Rows.RunColumnsUptoSaid :=
  OpenClaim.holds_of_cond 3 Tryd.f3 rfl rfl rfl rfl rfl rfl rfl ⟨rfl, rfl, rfl, rfl, rfl⟩ rfl rfl rfl rfl rfl (by kernel_rfl) Tryd.func3 (by kernel_rfl)
    (of_decide_eq_true (by kernel_rfl)) (by unfold Func.isWrapper; first | (rw [if_pos (by decide +kernel)]; kernel_rfl) | (rw [if_neg (by decide +kernel)]; exact ⟨rfl, rfl⟩))
    (fun os started H enc _ F => by rw [OpenClaim.pre_eq_preRow]; exact lifted os started H enc F)
theorem plain (f : FuncId) (fn : Func) (hf : Tryd.pinned.checked.prog.funcNamed Rows.runColumnsUptoRow.func = some f) (hfn : Tryd.pinned.checked.prog.funcs[f]? = some fn) :
    false = Tryd.pinned.checked.prog.looks [] ∧ ∀ (j : Nat) t, fn.params[j]? = some t → Tryd.pinned.checked.prog.wantsStandIn t = false := by
  obtain rfl : f = 3 := Option.some.inj ((show Tryd.prog.funcNamed Rows.runColumnsUptoRow.func = some 3 by kernel_rfl).symm.trans hf) |>.symm
  obtain rfl : fn = Tryd.f3 := (Option.some.inj (Tryd.func3.symm.trans hfn)).symm
  refine ⟨by kernel_rfl, fun j t ht => ?_⟩
  have hm : t ∈ Tryd.f3.params.toList := by simpa using Array.mem_of_getElem? ht
  have hall : (Tryd.f3.params.toList.all fun u => !Tryd.prog.wantsStandIn u) = true := by kernel_rfl
  exact (show Tryd.prog.wantsStandIn t = false by simpa using List.all_eq_true.1 hall t hm)
theorem proved : Rows.RunColumnsUptoCardSaid :=
  Claim7.holds_tied_plain_at .later [] _ _ _ _ said (fun _ h => by cases h) (by kernel_rfl) (fun _ h => by cases h) runColumnsUpto_row_tie rfl ⟨rfl, rfl⟩ (by kernel_rfl) rfl plain (by kernel_rfl)
end Go.Proofs.YtppalmoicjogaaaDoor.runColumns
