/- Rows that are there once, and rows that are not there: what the program and the reference make. No condition but that the tables of package unicode/utf8 are there. -/
import Derived.Test.YtafbojmnmadlpaaDoorKy0
import Derived.Test.YtafbojmnmadlpaaDoorPj1
set_option linter.all false
set_option linter.unusedSimpArgs false
set_option linter.unusedVariables false
namespace Go.Proofs.YtafbojmnmadlpaaDoor
open Go Go.Proofs.YtafbojmnmadlpaaDoor.Ab
variable [Glo] [U8]
set_option maxHeartbeats 4000000
set_option maxRecDepth 20000
theorem obBel_tru (m ver e : Nat) (sh : List Kd) (ks : List (List D)) (n : Nat) : ObBel m (.row ver e 0 [[.mp sh ks (tru n)]]) := by
  intro row hr v hv
  simp at hr
  subst hr
  simp at hv
  subst hv
  refine .mp _ _ _ fun c hc => ?_
  rw [List.eq_of_mem_replicate hc]
  exact .d _
theorem tru_app (n : Nat) : tru n ++ [.d (.b true)] = tru (n + 1) := by simp [tru, List.replicate_succ']
theorem mputV_miss {ks : List (List D)} {k : List D} {v : V} (h : k ∉ ks) (vs : List V) : mputV ks vs k v = vs ++ [v] := by
  have : mix ks k = none := mix_none.2 fun x hx e => h (e ▸ hx)
  simp [mputV, this]
theorem itemsOk {r : Rl} (hS : ShR r) (hall : ∀ row, row ∈ r.rows → row.length = r.cols.length ∧ row.all itemB = true) {row : List It} (h : row ∈ r.rows) : ∀ x, x ∈ row → KeyOk x := fun x hx =>
  keyOk_of (List.all_eq_true.1 (hall row h).2 x hx) (by have := hS.it row h x hx; omega)
theorem projRow_len (p : List Int) (row : List It) : (projRow p row).length = p.length := by simp [projRow]
theorem projRow_s {p : List Int} {row : List It} {n : Nat} (hp : ∀ i, i ∈ p → 0 ≤ i ∧ i < n) (hr : row.length = n) (hs : ∀ x, x ∈ row → x.s.length ≤ 1048576) : ∀ x, x ∈ projRow p row → x.s.length ≤ 1048576 := fun x hx => by
  obtain ⟨i, h1, rfl⟩ := List.mem_map.1 hx
  have := hp i h1
  have hlt : i.toNat < row.length := by omega
  rw [rg_get (List.getElem?_eq_getElem hlt)]
  exact hs _ (List.getElem_mem hlt)

/- the live slots of pleacher/rel.Unique -/
def ks_23 : Nat → List Nat
  | 0 => [1, 2, 4]
  | 1 => [1, 2, 4, 6]
  | 2 => [1, 2, 4, 6, 17]
  | 3 => [4, 5]
  | 4 => [2, 4, 7, 8]
  | 5 => [2, 4, 7, 8, 27]
  | 6 => [4, 5]
  | 7 => [2, 4, 7, 9]
  | 8 => [2, 4, 7, 9, 10]
  | 9 => [2, 4, 7, 9, 10, 32, 33, 34]
  | 10 => [2, 4, 7, 9, 10, 32, 33, 34, 35]
  | 11 => [2, 4, 7, 9, 10, 12, 32, 33, 34]
  | 12 => [2, 4, 7, 9, 10, 12, 13, 32, 33, 34]
  | 13 => [2, 4, 7, 9, 10, 12, 13, 32, 33, 34, 45]
  | 14 => [2, 4, 7, 9, 10, 12, 32, 33, 34]
  | 15 => [2, 4, 7, 9, 10, 32, 33, 34]
  | 16 => [2, 4, 7, 9, 10, 32, 33, 34]
  | 17 => [4, 5]
  | _ => []
def mu_23 : List Nat := [10]
def in_23 : List Nat := [0, 1]
theorem unique_A (r : Rl) (hS : ShR r) (cols : List (List UInt8)) (hc : cols.length ≤ 1048576) (H : Heap) (K : V → Heap → Prop) (hk : K (relE (uniqued r cols).1 (uniqued r cols).2) H) :
    ACalls Tryd.prog 23 [rlV r, .d (.sl 1 (cols.map strRow))] H K := by
  have q1 := hS.ncols
  have q2 := hS.nrows
  by_cases hf : relFault r = 0
  · cases hp : places r.cols cols with
    | none =>
      rw [uniqued, if_pos hf, hp] at hk
      
      refine ACalls_of Tryd.func23 rfl in_23 (Nat.le_of_ble_eq_true rfl) ?_
      intro F hF
      simp (dsimp := false) only [go_sem, Nat.reduceAdd, Nat.reduceBEq, Nat.reduceEqDiff, Nat.reduceLT, Nat.reduceLeDiff, Nat.reduceMul, Int.reduceToNat, reduceCtorEq, ↓reduceIte, Tryd.ntmps23, Tryd.results23, ks_23, mu_23, ti_ag22, ti_ag23, ti_ag25, ti_ag68, ti_fl25_0, ti_fl25_1, ti_hb43, ti_hb44, ti_hb46, ti_hb64, ti_hb65, ti_hb66, ti_ky9, ti_mp89, ti_pl25, ti_sb23, ti_sl23, ti_sz25, ti_zr25, ti_zv4, itD, itV, rlV, rowD, rlD, hf, hp, Option.getD_none, Option.isSome_none, in_23] at hF
      subst hF
      repeat' (first
        | with_reducible refine And.intro ?_ ?_
        | with_reducible intro _
        | with_reducible refine AWp_seq ?_
        | with_reducible refine AWp_block ?_
        | (with_reducible refine hKv _ _ (AWp_nop ?_); clear hKv Kv)
        | (with_reducible refine hKv _ _ ?_; clear hKv Kv; simp (dsimp := false) only [go_sem, Nat.reduceAdd, Nat.reduceBEq, Nat.reduceEqDiff, Nat.reduceLT, Nat.reduceLeDiff, Nat.reduceMul, Int.reduceToNat, reduceCtorEq, ↓reduceIte, Tryd.ntmps23, Tryd.results23, ks_23, mu_23, ti_ag22, ti_ag23, ti_ag25, ti_ag68, ti_fl25_0, ti_fl25_1, ti_hb43, ti_hb44, ti_hb46, ti_hb64, ti_hb65, ti_hb66, ti_ky9, ti_mp89, ti_pl25, ti_sb23, ti_sl23, ti_sz25, ti_zr25, ti_zv4, itD, itV, rlV, rowD, rlD, hf, hp, Option.getD_none, Option.isSome_none])
        | (with_reducible refine hKA ?_; clear hKA hKB KA KB)
        | (with_reducible refine hKB ?_; clear hKA hKB KA KB)
        | (with_reducible refine AWp_regC mu_23 ks_23 ?_; intro Kv hKv; simp (dsimp := false) only [go_sem, Nat.reduceAdd, Nat.reduceBEq, Nat.reduceEqDiff, Nat.reduceLT, Nat.reduceLeDiff, Nat.reduceMul, Int.reduceToNat, reduceCtorEq, ↓reduceIte, Tryd.ntmps23, Tryd.results23, ks_23, mu_23, ti_ag22, ti_ag23, ti_ag25, ti_ag68, ti_fl25_0, ti_fl25_1, ti_hb43, ti_hb44, ti_hb46, ti_hb64, ti_hb65, ti_hb66, ti_ky9, ti_mp89, ti_pl25, ti_sb23, ti_sl23, ti_sz25, ti_zr25, ti_zv4, itD, itV, rlV, rowD, rlD, hf, hp, Option.getD_none, Option.isSome_none])
        | with_reducible refine AWp_skipN ?_
        | with_reducible refine AWp_exitO (by repeat (first | with_reducible exact Out.hit | with_reducible apply Out.thenA | with_reducible apply Out.out rfl)) ?_
        | (with_reducible refine AWp_retR ?_; simp (dsimp := false) only [go_sem, Nat.reduceAdd, Nat.reduceBEq, Nat.reduceEqDiff, Nat.reduceLT, Nat.reduceLeDiff, Nat.reduceMul, Int.reduceToNat, reduceCtorEq, ↓reduceIte, Tryd.ntmps23, Tryd.results23, ks_23, mu_23, ti_ag22, ti_ag23, ti_ag25, ti_ag68, ti_fl25_0, ti_fl25_1, ti_hb43, ti_hb44, ti_hb46, ti_hb64, ti_hb65, ti_hb66, ti_ky9, ti_mp89, ti_pl25, ti_sb23, ti_sl23, ti_sz25, ti_zr25, ti_zv4, itD, itV, rlV, rowD, rlD, hf, hp, Option.getD_none, Option.isSome_none])
        | (with_reducible refine AWp_regE mu_23 ks_23 ?_; intro Kv hKv; simp (dsimp := false) only [go_sem, Nat.reduceAdd, Nat.reduceBEq, Nat.reduceEqDiff, Nat.reduceLT, Nat.reduceLeDiff, Nat.reduceMul, Int.reduceToNat, reduceCtorEq, ↓reduceIte, Tryd.ntmps23, Tryd.results23, ks_23, mu_23, ti_ag22, ti_ag23, ti_ag25, ti_ag68, ti_fl25_0, ti_fl25_1, ti_hb43, ti_hb44, ti_hb46, ti_hb64, ti_hb65, ti_hb66, ti_ky9, ti_mp89, ti_pl25, ti_sb23, ti_sl23, ti_sz25, ti_zr25, ti_zv4, itD, itV, rlV, rowD, rlD, hf, hp, Option.getD_none, Option.isSome_none])
        | (refine AWp_condC rfl ?_; intro KA KB hKA hKB; try simp only [onB_true, onB_false, onB_dec, onB_ndec, onB_not, onB_and, onB_or])
        | (refine AWp_condA rfl ?_ ?_)
        | (refine relCheck_A r hS _ _ ?_; try simp (dsimp := false) only [go_sem, Nat.reduceAdd, Nat.reduceBEq, Nat.reduceEqDiff, Nat.reduceLT, Nat.reduceLeDiff, Nat.reduceMul, Int.reduceToNat, reduceCtorEq, ↓reduceIte, Tryd.ntmps23, Tryd.results23, ks_23, mu_23, ti_ag22, ti_ag23, ti_ag25, ti_ag68, ti_fl25_0, ti_fl25_1, ti_hb43, ti_hb44, ti_hb46, ti_hb64, ti_hb65, ti_hb66, ti_ky9, ti_mp89, ti_pl25, ti_sb23, ti_sl23, ti_sz25, ti_zr25, ti_zv4, itD, itV, rlV, rowD, rlD, hf, hp, Option.getD_none, Option.isSome_none])
        | (refine places_A r hS cols hc _ _ ?_; try simp (dsimp := false) only [go_sem, Nat.reduceAdd, Nat.reduceBEq, Nat.reduceEqDiff, Nat.reduceLT, Nat.reduceLeDiff, Nat.reduceMul, Int.reduceToNat, reduceCtorEq, ↓reduceIte, Tryd.ntmps23, Tryd.results23, ks_23, mu_23, ti_ag22, ti_ag23, ti_ag25, ti_ag68, ti_fl25_0, ti_fl25_1, ti_hb43, ti_hb44, ti_hb46, ti_hb64, ti_hb65, ti_hb66, ti_ky9, ti_mp89, ti_pl25, ti_sb23, ti_sl23, ti_sz25, ti_zr25, ti_zv4, itD, itV, rlV, rowD, rlD, hf, hp, Option.getD_none, Option.isSome_none])
        | with_reducible refine onB_of ?_ ?_
        | with_reducible rfl
        | omega)
      all_goals exact dropF hk (fz_rl0 _ _ _) (bel_relE _ _ _)
    | some at_ =>
      rw [uniqued, if_pos hf, hp] at hk
      simp only [] at hk
      obtain ⟨_, hN, hall⟩ := relFault_ok hf
      obtain ⟨hmem, hatl⟩ := places_mem hp
      have hok : ∀ row, row ∈ r.rows → ∀ x, x ∈ projRow at_ row → KeyOk x := fun row hrow => projRow_ok hmem (hall row hrow).1 (itemsOk hS hall hrow)
      
      refine ACalls_of Tryd.func23 rfl in_23 (Nat.le_of_ble_eq_true rfl) ?_
      intro F hF
      simp (dsimp := false) only [go_sem, Nat.reduceAdd, Nat.reduceBEq, Nat.reduceEqDiff, Nat.reduceLT, Nat.reduceLeDiff, Nat.reduceMul, Int.reduceToNat, reduceCtorEq, ↓reduceIte, Tryd.ntmps23, Tryd.results23, ks_23, mu_23, ti_ag22, ti_ag23, ti_ag25, ti_ag68, ti_fl25_0, ti_fl25_1, ti_hb43, ti_hb44, ti_hb46, ti_hb64, ti_hb65, ti_hb66, ti_ky9, ti_mp89, ti_pl25, ti_sb23, ti_sl23, ti_sz25, ti_zr25, ti_zv4, itD, itV, rlV, rowD, rlD, hf, hp, Option.getD_some, Option.isSome_some, in_23] at hF
      subst hF
      repeat' (first
        | with_reducible refine And.intro ?_ ?_
        | with_reducible intro _
        | with_reducible refine AWp_seq ?_
        | with_reducible refine AWp_block ?_
        | (with_reducible refine hKv _ _ (AWp_nop ?_); clear hKv Kv)
        | (with_reducible refine hKv _ _ ?_; clear hKv Kv; simp (dsimp := false) only [go_sem, Nat.reduceAdd, Nat.reduceBEq, Nat.reduceEqDiff, Nat.reduceLT, Nat.reduceLeDiff, Nat.reduceMul, Int.reduceToNat, reduceCtorEq, ↓reduceIte, Tryd.ntmps23, Tryd.results23, ks_23, mu_23, ti_ag22, ti_ag23, ti_ag25, ti_ag68, ti_fl25_0, ti_fl25_1, ti_hb43, ti_hb44, ti_hb46, ti_hb64, ti_hb65, ti_hb66, ti_ky9, ti_mp89, ti_pl25, ti_sb23, ti_sl23, ti_sz25, ti_zr25, ti_zv4, itD, itV, rlV, rowD, rlD, hf, hp, Option.getD_some, Option.isSome_some])
        | (with_reducible refine hKA ?_; clear hKA hKB KA KB)
        | (with_reducible refine hKB ?_; clear hKA hKB KA KB)
        | (with_reducible refine AWp_regC mu_23 ks_23 ?_; intro Kv hKv; simp (dsimp := false) only [go_sem, Nat.reduceAdd, Nat.reduceBEq, Nat.reduceEqDiff, Nat.reduceLT, Nat.reduceLeDiff, Nat.reduceMul, Int.reduceToNat, reduceCtorEq, ↓reduceIte, Tryd.ntmps23, Tryd.results23, ks_23, mu_23, ti_ag22, ti_ag23, ti_ag25, ti_ag68, ti_fl25_0, ti_fl25_1, ti_hb43, ti_hb44, ti_hb46, ti_hb64, ti_hb65, ti_hb66, ti_ky9, ti_mp89, ti_pl25, ti_sb23, ti_sl23, ti_sz25, ti_zr25, ti_zv4, itD, itV, rlV, rowD, rlD, hf, hp, Option.getD_some, Option.isSome_some])
        | with_reducible refine AWp_skipN ?_
        | with_reducible refine AWp_exitO (by repeat (first | with_reducible exact Out.hit | with_reducible apply Out.thenA | with_reducible apply Out.out rfl)) ?_
        | (with_reducible refine AWp_retR ?_; simp (dsimp := false) only [go_sem, Nat.reduceAdd, Nat.reduceBEq, Nat.reduceEqDiff, Nat.reduceLT, Nat.reduceLeDiff, Nat.reduceMul, Int.reduceToNat, reduceCtorEq, ↓reduceIte, Tryd.ntmps23, Tryd.results23, ks_23, mu_23, ti_ag22, ti_ag23, ti_ag25, ti_ag68, ti_fl25_0, ti_fl25_1, ti_hb43, ti_hb44, ti_hb46, ti_hb64, ti_hb65, ti_hb66, ti_ky9, ti_mp89, ti_pl25, ti_sb23, ti_sl23, ti_sz25, ti_zr25, ti_zv4, itD, itV, rlV, rowD, rlD, hf, hp, Option.getD_some, Option.isSome_some])
        | (with_reducible refine AWp_regE mu_23 ks_23 ?_; intro Kv hKv; simp (dsimp := false) only [go_sem, Nat.reduceAdd, Nat.reduceBEq, Nat.reduceEqDiff, Nat.reduceLT, Nat.reduceLeDiff, Nat.reduceMul, Int.reduceToNat, reduceCtorEq, ↓reduceIte, Tryd.ntmps23, Tryd.results23, ks_23, mu_23, ti_ag22, ti_ag23, ti_ag25, ti_ag68, ti_fl25_0, ti_fl25_1, ti_hb43, ti_hb44, ti_hb46, ti_hb64, ti_hb65, ti_hb66, ti_ky9, ti_mp89, ti_pl25, ti_sb23, ti_sl23, ti_sz25, ti_zr25, ti_zv4, itD, itV, rlV, rowD, rlD, hf, hp, Option.getD_some, Option.isSome_some])
        | (refine AWp_condC rfl ?_; intro KA KB hKA hKB; try simp only [onB_true, onB_false, onB_dec, onB_ndec, onB_not, onB_and, onB_or])
        | (refine AWp_condA rfl ?_ ?_)
        | (refine relCheck_A r hS _ _ ?_; try simp (dsimp := false) only [go_sem, Nat.reduceAdd, Nat.reduceBEq, Nat.reduceEqDiff, Nat.reduceLT, Nat.reduceLeDiff, Nat.reduceMul, Int.reduceToNat, reduceCtorEq, ↓reduceIte, Tryd.ntmps23, Tryd.results23, ks_23, mu_23, ti_ag22, ti_ag23, ti_ag25, ti_ag68, ti_fl25_0, ti_fl25_1, ti_hb43, ti_hb44, ti_hb46, ti_hb64, ti_hb65, ti_hb66, ti_ky9, ti_mp89, ti_pl25, ti_sb23, ti_sl23, ti_sz25, ti_zr25, ti_zv4, itD, itV, rlV, rowD, rlD, hf, hp, Option.getD_some, Option.isSome_some])
        | (refine places_A r hS cols hc _ _ ?_; try simp (dsimp := false) only [go_sem, Nat.reduceAdd, Nat.reduceBEq, Nat.reduceEqDiff, Nat.reduceLT, Nat.reduceLeDiff, Nat.reduceMul, Int.reduceToNat, reduceCtorEq, ↓reduceIte, Tryd.ntmps23, Tryd.results23, ks_23, mu_23, ti_ag22, ti_ag23, ti_ag25, ti_ag68, ti_fl25_0, ti_fl25_1, ti_hb43, ti_hb44, ti_hb46, ti_hb64, ti_hb65, ti_hb66, ti_ky9, ti_mp89, ti_pl25, ti_sb23, ti_sl23, ti_sz25, ti_zr25, ti_zv4, itD, itV, rlV, rowD, rlD, hf, hp, Option.getD_some, Option.isSome_some])
        | with_reducible refine onB_of ?_ ?_
        | with_reducible rfl
        | omega)
      refine AWp_whileH (fun y : Nat × List (List It) => y.1 ≤ r.rows.length ∧ y.2.length ≤ y.1 ∧ (∀ row, row ∈ y.2 → row ∈ r.rows) ∧ uniqGo at_ (r.rows.drop y.1) y.2 = uniqGo at_ r.rows [])
        (fun y => [(2, .rp (rlD r)), (4, .pt H.length 0 0 0), (7, .d (.sl 1 (at_.map intRow))), (9, .mo (H.length + 1) 0), (10, .os (H.length + 2) y.2.length), (32, .d (.sl 1 (r.rows.map rowD))), (33, .d (.i .i64 r.rows.length)), (34, .d (.i .i64 y.1))])
        (fun y => [.row 0 25 2 [[.d (.c (.slice none 0 0)), .d (.c (.slice none 0 0))]], .row 0 89 0 [[.mp [.s] (y.2.map (keyD at_)) (tru y.2.length)]], .row y.2.length 68 1 (y.2.map rowC)]) (fun y => r.rows.length - y.1) (0, []) ⟨Nat.zero_le _, Nat.le_refl _, by simp, rfl⟩ ?_ ?_ ?_ ?_
      · first | rfl
      · simp (dsimp := false) only [go_sem, Nat.reduceAdd, Nat.reduceBEq, Nat.reduceEqDiff, Nat.reduceLT, Nat.reduceLeDiff, Nat.reduceMul, Int.reduceToNat, reduceCtorEq, ↓reduceIte, Tryd.ntmps23, Tryd.results23, ks_23, mu_23, ti_ag22, ti_ag23, ti_ag25, ti_ag68, ti_fl25_0, ti_fl25_1, ti_hb43, ti_hb44, ti_hb46, ti_hb64, ti_hb65, ti_hb66, ti_ky9, ti_mp89, ti_pl25, ti_sb23, ti_sl23, ti_sz25, ti_zr25, ti_zv4, itD, itV, rlV, rowD, rlD, hf, hp, Option.getD_some, Option.isSome_some]
        first | done | simp
      · rintro ⟨i, acc⟩ _ ob hob
        simp only [List.mem_cons, List.not_mem_nil, or_false] at hob
        rcases hob with rfl | rfl | rfl
        · exact bel_nil2 _ _ _
        · exact obBel_tru _ _ _ _ _ _
        · exact obBel_rows _ _ _ _ _
      rintro ⟨i, acc⟩ ⟨h1, h2, h4, h3⟩
      simp only [] at h1 h2 h3 h4 ⊢
      by_cases hiN : i < r.rows.length
      · obtain ⟨row, hrow⟩ : ∃ row, r.rows[i]? = some row := ⟨r.rows[i], List.getElem?_eq_getElem hiN⟩
        have hrl := (hall row (List.mem_of_getElem? hrow)).1
        have hrs := (hS.get hrow).1
        have hps := projRow_s (p := at_) hmem hrl (hS.it row (List.mem_of_getElem? hrow))
        have hpl : (projRow at_ row).length ≤ 1048576 := by rw [projRow_len]; omega
        have hmm := keyD_mem (q := at_) (L := acc) (hok row (List.mem_of_getElem? hrow)) fun x hx => hok x (h4 x hx)
        have hkl : (acc.map (keyD at_)).length = acc.length := List.length_map _
        by_cases hin : projRow at_ row ∈ acc.map (projRow at_)
        · rw [uniqGo_hit hrow hin] at h3
          have hg := mget_hit (hmm.2 hin)
          rw [hkl, keyD] at hg
          
          repeat' (first
            | with_reducible refine And.intro ?_ ?_
            | with_reducible intro _
            | with_reducible refine AWp_seq ?_
            | with_reducible refine AWp_block ?_
            | (with_reducible refine hKv _ _ (AWp_nop ?_); clear hKv Kv)
            | (with_reducible refine hKv _ _ ?_; clear hKv Kv; simp (dsimp := false) only [go_sem, Nat.reduceAdd, Nat.reduceBEq, Nat.reduceEqDiff, Nat.reduceLT, Nat.reduceLeDiff, Nat.reduceMul, Int.reduceToNat, reduceCtorEq, ↓reduceIte, Tryd.ntmps23, Tryd.results23, ks_23, mu_23, ti_ag22, ti_ag23, ti_ag25, ti_ag68, ti_fl25_0, ti_fl25_1, ti_hb43, ti_hb44, ti_hb46, ti_hb64, ti_hb65, ti_hb66, ti_ky9, ti_mp89, ti_pl25, ti_sb23, ti_sl23, ti_sz25, ti_zr25, ti_zv4, itD, itV, rlV, rowD, rlD, hrow, hg])
            | (with_reducible refine hKA ?_; clear hKA hKB KA KB)
            | (with_reducible refine hKB ?_; clear hKA hKB KA KB)
            | (with_reducible refine AWp_regC mu_23 ks_23 ?_; intro Kv hKv; simp (dsimp := false) only [go_sem, Nat.reduceAdd, Nat.reduceBEq, Nat.reduceEqDiff, Nat.reduceLT, Nat.reduceLeDiff, Nat.reduceMul, Int.reduceToNat, reduceCtorEq, ↓reduceIte, Tryd.ntmps23, Tryd.results23, ks_23, mu_23, ti_ag22, ti_ag23, ti_ag25, ti_ag68, ti_fl25_0, ti_fl25_1, ti_hb43, ti_hb44, ti_hb46, ti_hb64, ti_hb65, ti_hb66, ti_ky9, ti_mp89, ti_pl25, ti_sb23, ti_sl23, ti_sz25, ti_zr25, ti_zv4, itD, itV, rlV, rowD, rlD, hrow, hg])
            | with_reducible refine AWp_skipN ?_
            | with_reducible refine AWp_exitO (by repeat (first | with_reducible exact Out.hit | with_reducible apply Out.thenA | with_reducible apply Out.out rfl)) ?_
            | (with_reducible refine AWp_retR ?_; simp (dsimp := false) only [go_sem, Nat.reduceAdd, Nat.reduceBEq, Nat.reduceEqDiff, Nat.reduceLT, Nat.reduceLeDiff, Nat.reduceMul, Int.reduceToNat, reduceCtorEq, ↓reduceIte, Tryd.ntmps23, Tryd.results23, ks_23, mu_23, ti_ag22, ti_ag23, ti_ag25, ti_ag68, ti_fl25_0, ti_fl25_1, ti_hb43, ti_hb44, ti_hb46, ti_hb64, ti_hb65, ti_hb66, ti_ky9, ti_mp89, ti_pl25, ti_sb23, ti_sl23, ti_sz25, ti_zr25, ti_zv4, itD, itV, rlV, rowD, rlD, hrow, hg])
            | (with_reducible refine AWp_regE mu_23 ks_23 ?_; intro Kv hKv; simp (dsimp := false) only [go_sem, Nat.reduceAdd, Nat.reduceBEq, Nat.reduceEqDiff, Nat.reduceLT, Nat.reduceLeDiff, Nat.reduceMul, Int.reduceToNat, reduceCtorEq, ↓reduceIte, Tryd.ntmps23, Tryd.results23, ks_23, mu_23, ti_ag22, ti_ag23, ti_ag25, ti_ag68, ti_fl25_0, ti_fl25_1, ti_hb43, ti_hb44, ti_hb46, ti_hb64, ti_hb65, ti_hb66, ti_ky9, ti_mp89, ti_pl25, ti_sb23, ti_sl23, ti_sz25, ti_zr25, ti_zv4, itD, itV, rlV, rowD, rlD, hrow, hg])
            | (refine AWp_condC rfl ?_; intro KA KB hKA hKB; try simp only [onB_true, onB_false, onB_dec, onB_ndec, onB_not, onB_and, onB_or])
            | (refine AWp_condA rfl ?_ ?_)
            | (refine these_A row at_ (by omega) (fun j hj => by have := hmem j hj; omega) _ _ ?_; try simp (dsimp := false) only [go_sem, Nat.reduceAdd, Nat.reduceBEq, Nat.reduceEqDiff, Nat.reduceLT, Nat.reduceLeDiff, Nat.reduceMul, Int.reduceToNat, reduceCtorEq, ↓reduceIte, Tryd.ntmps23, Tryd.results23, ks_23, mu_23, ti_ag22, ti_ag23, ti_ag25, ti_ag68, ti_fl25_0, ti_fl25_1, ti_hb43, ti_hb44, ti_hb46, ti_hb64, ti_hb65, ti_hb66, ti_ky9, ti_mp89, ti_pl25, ti_sb23, ti_sl23, ti_sz25, ti_zr25, ti_zv4, itD, itV, rlV, rowD, rlD, hrow, hg])
            | (refine key_A _ hpl hps _ _ ?_; try simp (dsimp := false) only [go_sem, Nat.reduceAdd, Nat.reduceBEq, Nat.reduceEqDiff, Nat.reduceLT, Nat.reduceLeDiff, Nat.reduceMul, Int.reduceToNat, reduceCtorEq, ↓reduceIte, Tryd.ntmps23, Tryd.results23, ks_23, mu_23, ti_ag22, ti_ag23, ti_ag25, ti_ag68, ti_fl25_0, ti_fl25_1, ti_hb43, ti_hb44, ti_hb46, ti_hb64, ti_hb65, ti_hb66, ti_ky9, ti_mp89, ti_pl25, ti_sb23, ti_sl23, ti_sz25, ti_zr25, ti_zv4, itD, itV, rlV, rowD, rlD, hrow, hg])
            | with_reducible refine onB_of ?_ ?_
            | with_reducible rfl
            | omega)
          all_goals first
            | exact ⟨(i + 1, acc), ⟨by show i + 1 ≤ r.rows.length; omega, by show acc.length ≤ i + 1; omega, h4, h3⟩, by show r.rows.length - (i + 1) < r.rows.length - i; omega, rfl, by omega, by omega, rfl, by omega, by simp⟩
        · rw [uniqGo_miss hrow hin] at h3
          have hn : keyD at_ row ∉ acc.map (keyD at_) := fun h => hin (hmm.1 h)
          have hg := mget_miss (vs := tru acc.length) (z := .d (.b false)) hn
          have hpk := mputK_miss hn
          have hpv := mputV_miss (v := .d (.b true)) hn (tru acc.length)
          rw [keyD] at hg hpk hpv
          
          repeat' (first
            | with_reducible refine And.intro ?_ ?_
            | with_reducible intro _
            | with_reducible refine AWp_seq ?_
            | with_reducible refine AWp_block ?_
            | (with_reducible refine hKv _ _ (AWp_nop ?_); clear hKv Kv)
            | (with_reducible refine hKv _ _ ?_; clear hKv Kv; simp (dsimp := false) only [go_sem, Nat.reduceAdd, Nat.reduceBEq, Nat.reduceEqDiff, Nat.reduceLT, Nat.reduceLeDiff, Nat.reduceMul, Int.reduceToNat, reduceCtorEq, ↓reduceIte, Tryd.ntmps23, Tryd.results23, ks_23, mu_23, ti_ag22, ti_ag23, ti_ag25, ti_ag68, ti_fl25_0, ti_fl25_1, ti_hb43, ti_hb44, ti_hb46, ti_hb64, ti_hb65, ti_hb66, ti_ky9, ti_mp89, ti_pl25, ti_sb23, ti_sl23, ti_sz25, ti_zr25, ti_zv4, itD, itV, rlV, rowD, rlD, hrow, hg, hpk, hpv, tru_app])
            | (with_reducible refine hKA ?_; clear hKA hKB KA KB)
            | (with_reducible refine hKB ?_; clear hKA hKB KA KB)
            | (with_reducible refine AWp_regC mu_23 ks_23 ?_; intro Kv hKv; simp (dsimp := false) only [go_sem, Nat.reduceAdd, Nat.reduceBEq, Nat.reduceEqDiff, Nat.reduceLT, Nat.reduceLeDiff, Nat.reduceMul, Int.reduceToNat, reduceCtorEq, ↓reduceIte, Tryd.ntmps23, Tryd.results23, ks_23, mu_23, ti_ag22, ti_ag23, ti_ag25, ti_ag68, ti_fl25_0, ti_fl25_1, ti_hb43, ti_hb44, ti_hb46, ti_hb64, ti_hb65, ti_hb66, ti_ky9, ti_mp89, ti_pl25, ti_sb23, ti_sl23, ti_sz25, ti_zr25, ti_zv4, itD, itV, rlV, rowD, rlD, hrow, hg, hpk, hpv, tru_app])
            | with_reducible refine AWp_skipN ?_
            | with_reducible refine AWp_exitO (by repeat (first | with_reducible exact Out.hit | with_reducible apply Out.thenA | with_reducible apply Out.out rfl)) ?_
            | (with_reducible refine AWp_retR ?_; simp (dsimp := false) only [go_sem, Nat.reduceAdd, Nat.reduceBEq, Nat.reduceEqDiff, Nat.reduceLT, Nat.reduceLeDiff, Nat.reduceMul, Int.reduceToNat, reduceCtorEq, ↓reduceIte, Tryd.ntmps23, Tryd.results23, ks_23, mu_23, ti_ag22, ti_ag23, ti_ag25, ti_ag68, ti_fl25_0, ti_fl25_1, ti_hb43, ti_hb44, ti_hb46, ti_hb64, ti_hb65, ti_hb66, ti_ky9, ti_mp89, ti_pl25, ti_sb23, ti_sl23, ti_sz25, ti_zr25, ti_zv4, itD, itV, rlV, rowD, rlD, hrow, hg, hpk, hpv, tru_app])
            | (with_reducible refine AWp_regE mu_23 ks_23 ?_; intro Kv hKv; simp (dsimp := false) only [go_sem, Nat.reduceAdd, Nat.reduceBEq, Nat.reduceEqDiff, Nat.reduceLT, Nat.reduceLeDiff, Nat.reduceMul, Int.reduceToNat, reduceCtorEq, ↓reduceIte, Tryd.ntmps23, Tryd.results23, ks_23, mu_23, ti_ag22, ti_ag23, ti_ag25, ti_ag68, ti_fl25_0, ti_fl25_1, ti_hb43, ti_hb44, ti_hb46, ti_hb64, ti_hb65, ti_hb66, ti_ky9, ti_mp89, ti_pl25, ti_sb23, ti_sl23, ti_sz25, ti_zr25, ti_zv4, itD, itV, rlV, rowD, rlD, hrow, hg, hpk, hpv, tru_app])
            | (refine AWp_condC rfl ?_; intro KA KB hKA hKB; try simp only [onB_true, onB_false, onB_dec, onB_ndec, onB_not, onB_and, onB_or])
            | (refine AWp_condA rfl ?_ ?_)
            | (refine these_A row at_ (by omega) (fun j hj => by have := hmem j hj; omega) _ _ ?_; try simp (dsimp := false) only [go_sem, Nat.reduceAdd, Nat.reduceBEq, Nat.reduceEqDiff, Nat.reduceLT, Nat.reduceLeDiff, Nat.reduceMul, Int.reduceToNat, reduceCtorEq, ↓reduceIte, Tryd.ntmps23, Tryd.results23, ks_23, mu_23, ti_ag22, ti_ag23, ti_ag25, ti_ag68, ti_fl25_0, ti_fl25_1, ti_hb43, ti_hb44, ti_hb46, ti_hb64, ti_hb65, ti_hb66, ti_ky9, ti_mp89, ti_pl25, ti_sb23, ti_sl23, ti_sz25, ti_zr25, ti_zv4, itD, itV, rlV, rowD, rlD, hrow, hg, hpk, hpv, tru_app])
            | (refine key_A _ hpl hps _ _ ?_; try simp (dsimp := false) only [go_sem, Nat.reduceAdd, Nat.reduceBEq, Nat.reduceEqDiff, Nat.reduceLT, Nat.reduceLeDiff, Nat.reduceMul, Int.reduceToNat, reduceCtorEq, ↓reduceIte, Tryd.ntmps23, Tryd.results23, ks_23, mu_23, ti_ag22, ti_ag23, ti_ag25, ti_ag68, ti_fl25_0, ti_fl25_1, ti_hb43, ti_hb44, ti_hb46, ti_hb64, ti_hb65, ti_hb66, ti_ky9, ti_mp89, ti_pl25, ti_sb23, ti_sl23, ti_sz25, ti_zr25, ti_zv4, itD, itV, rlV, rowD, rlD, hrow, hg, hpk, hpv, tru_app])
            | (refine cloneIts_A _ (by rw [List.length_map]; omega) _ _ ?_; try simp (dsimp := false) only [go_sem, Nat.reduceAdd, Nat.reduceBEq, Nat.reduceEqDiff, Nat.reduceLT, Nat.reduceLeDiff, Nat.reduceMul, Int.reduceToNat, reduceCtorEq, ↓reduceIte, Tryd.ntmps23, Tryd.results23, ks_23, mu_23, ti_ag22, ti_ag23, ti_ag25, ti_ag68, ti_fl25_0, ti_fl25_1, ti_hb43, ti_hb44, ti_hb46, ti_hb64, ti_hb65, ti_hb66, ti_ky9, ti_mp89, ti_pl25, ti_sb23, ti_sl23, ti_sz25, ti_zr25, ti_zv4, itD, itV, rlV, rowD, rlD, hrow, hg, hpk, hpv, tru_app])
            | with_reducible refine onB_of ?_ ?_
            | with_reducible rfl
            | omega)
          exact ⟨(i + 1, acc ++ [row]), ⟨by show i + 1 ≤ r.rows.length; omega, by simp; omega, fun x hx => (List.mem_append.1 hx).elim (h4 x) fun h => by rw [List.mem_singleton] at h; subst h; exact List.mem_of_getElem? hrow, h3⟩, by show r.rows.length - (i + 1) < r.rows.length - i; omega, by simp [rowC, keyD], by omega, by omega, by simp, by omega, by simp⟩
      · 
        repeat' (first
          | with_reducible refine And.intro ?_ ?_
          | with_reducible intro _
          | with_reducible refine AWp_seq ?_
          | with_reducible refine AWp_block ?_
          | (with_reducible refine hKv _ _ (AWp_nop ?_); clear hKv Kv)
          | (with_reducible refine hKv _ _ ?_; clear hKv Kv; simp (dsimp := false) only [go_sem, Nat.reduceAdd, Nat.reduceBEq, Nat.reduceEqDiff, Nat.reduceLT, Nat.reduceLeDiff, Nat.reduceMul, Int.reduceToNat, reduceCtorEq, ↓reduceIte, Tryd.ntmps23, Tryd.results23, ks_23, mu_23, ti_ag22, ti_ag23, ti_ag25, ti_ag68, ti_fl25_0, ti_fl25_1, ti_hb43, ti_hb44, ti_hb46, ti_hb64, ti_hb65, ti_hb66, ti_ky9, ti_mp89, ti_pl25, ti_sb23, ti_sl23, ti_sz25, ti_zr25, ti_zv4, itD, itV, rlV, rowD, rlD, finQ])
          | (with_reducible refine hKA ?_; clear hKA hKB KA KB)
          | (with_reducible refine hKB ?_; clear hKA hKB KA KB)
          | (with_reducible refine AWp_regC mu_23 ks_23 ?_; intro Kv hKv; simp (dsimp := false) only [go_sem, Nat.reduceAdd, Nat.reduceBEq, Nat.reduceEqDiff, Nat.reduceLT, Nat.reduceLeDiff, Nat.reduceMul, Int.reduceToNat, reduceCtorEq, ↓reduceIte, Tryd.ntmps23, Tryd.results23, ks_23, mu_23, ti_ag22, ti_ag23, ti_ag25, ti_ag68, ti_fl25_0, ti_fl25_1, ti_hb43, ti_hb44, ti_hb46, ti_hb64, ti_hb65, ti_hb66, ti_ky9, ti_mp89, ti_pl25, ti_sb23, ti_sl23, ti_sz25, ti_zr25, ti_zv4, itD, itV, rlV, rowD, rlD, finQ])
          | with_reducible refine AWp_skipN ?_
          | with_reducible refine AWp_exitO (by repeat (first | with_reducible exact Out.hit | with_reducible apply Out.thenA | with_reducible apply Out.out rfl)) ?_
          | (with_reducible refine AWp_retR ?_; simp (dsimp := false) only [go_sem, Nat.reduceAdd, Nat.reduceBEq, Nat.reduceEqDiff, Nat.reduceLT, Nat.reduceLeDiff, Nat.reduceMul, Int.reduceToNat, reduceCtorEq, ↓reduceIte, Tryd.ntmps23, Tryd.results23, ks_23, mu_23, ti_ag22, ti_ag23, ti_ag25, ti_ag68, ti_fl25_0, ti_fl25_1, ti_hb43, ti_hb44, ti_hb46, ti_hb64, ti_hb65, ti_hb66, ti_ky9, ti_mp89, ti_pl25, ti_sb23, ti_sl23, ti_sz25, ti_zr25, ti_zv4, itD, itV, rlV, rowD, rlD, finQ])
          | (with_reducible refine AWp_regE mu_23 ks_23 ?_; intro Kv hKv; simp (dsimp := false) only [go_sem, Nat.reduceAdd, Nat.reduceBEq, Nat.reduceEqDiff, Nat.reduceLT, Nat.reduceLeDiff, Nat.reduceMul, Int.reduceToNat, reduceCtorEq, ↓reduceIte, Tryd.ntmps23, Tryd.results23, ks_23, mu_23, ti_ag22, ti_ag23, ti_ag25, ti_ag68, ti_fl25_0, ti_fl25_1, ti_hb43, ti_hb44, ti_hb46, ti_hb64, ti_hb65, ti_hb66, ti_ky9, ti_mp89, ti_pl25, ti_sb23, ti_sl23, ti_sz25, ti_zr25, ti_zv4, itD, itV, rlV, rowD, rlD, finQ])
          | (refine AWp_condC rfl ?_; intro KA KB hKA hKB; try simp only [onB_true, onB_false, onB_dec, onB_ndec, onB_not, onB_and, onB_or])
          | (refine AWp_condA rfl ?_ ?_)
          | (refine finishedO_A r.cols _ _ _ _ q1 hS.col (by rw [List.length_map]; omega) _ _ ((get_appk _ _ 2).trans rfl) ?_; try simp (dsimp := false) only [go_sem, Nat.reduceAdd, Nat.reduceBEq, Nat.reduceEqDiff, Nat.reduceLT, Nat.reduceLeDiff, Nat.reduceMul, Int.reduceToNat, reduceCtorEq, ↓reduceIte, Tryd.ntmps23, Tryd.results23, ks_23, mu_23, ti_ag22, ti_ag23, ti_ag25, ti_ag68, ti_fl25_0, ti_fl25_1, ti_hb43, ti_hb44, ti_hb46, ti_hb64, ti_hb65, ti_hb66, ti_ky9, ti_mp89, ti_pl25, ti_sb23, ti_sl23, ti_sz25, ti_zr25, ti_zv4, itD, itV, rlV, rowD, rlD, finQ])
          | with_reducible refine onB_of ?_ ?_
          | with_reducible rfl
          | omega)
        all_goals
          have e : i = r.rows.length := by omega
          subst e
          rw [List.drop_length, uniqGo] at h3
          rw [← h3] at hk
        · exact fin_ret hk (by assumption) (by omega) (get_appk _ _ 2)
        · exact fin_bad hk rfl (by assumption)
  · rw [uniqued, if_neg hf] at hk
    
    refine ACalls_of Tryd.func23 rfl in_23 (Nat.le_of_ble_eq_true rfl) ?_
    intro F hF
    simp (dsimp := false) only [go_sem, Nat.reduceAdd, Nat.reduceBEq, Nat.reduceEqDiff, Nat.reduceLT, Nat.reduceLeDiff, Nat.reduceMul, Int.reduceToNat, reduceCtorEq, ↓reduceIte, Tryd.ntmps23, Tryd.results23, ks_23, mu_23, ti_ag22, ti_ag23, ti_ag25, ti_ag68, ti_fl25_0, ti_fl25_1, ti_hb43, ti_hb44, ti_hb46, ti_hb64, ti_hb65, ti_hb66, ti_ky9, ti_mp89, ti_pl25, ti_sb23, ti_sl23, ti_sz25, ti_zr25, ti_zv4, itD, itV, rlV, rowD, rlD, hf, in_23] at hF
    subst hF
    repeat' (first
      | with_reducible refine And.intro ?_ ?_
      | with_reducible intro _
      | with_reducible refine AWp_seq ?_
      | with_reducible refine AWp_block ?_
      | (with_reducible refine hKv _ _ (AWp_nop ?_); clear hKv Kv)
      | (with_reducible refine hKv _ _ ?_; clear hKv Kv; simp (dsimp := false) only [go_sem, Nat.reduceAdd, Nat.reduceBEq, Nat.reduceEqDiff, Nat.reduceLT, Nat.reduceLeDiff, Nat.reduceMul, Int.reduceToNat, reduceCtorEq, ↓reduceIte, Tryd.ntmps23, Tryd.results23, ks_23, mu_23, ti_ag22, ti_ag23, ti_ag25, ti_ag68, ti_fl25_0, ti_fl25_1, ti_hb43, ti_hb44, ti_hb46, ti_hb64, ti_hb65, ti_hb66, ti_ky9, ti_mp89, ti_pl25, ti_sb23, ti_sl23, ti_sz25, ti_zr25, ti_zv4, itD, itV, rlV, rowD, rlD, hf])
      | (with_reducible refine hKA ?_; clear hKA hKB KA KB)
      | (with_reducible refine hKB ?_; clear hKA hKB KA KB)
      | (with_reducible refine AWp_regC mu_23 ks_23 ?_; intro Kv hKv; simp (dsimp := false) only [go_sem, Nat.reduceAdd, Nat.reduceBEq, Nat.reduceEqDiff, Nat.reduceLT, Nat.reduceLeDiff, Nat.reduceMul, Int.reduceToNat, reduceCtorEq, ↓reduceIte, Tryd.ntmps23, Tryd.results23, ks_23, mu_23, ti_ag22, ti_ag23, ti_ag25, ti_ag68, ti_fl25_0, ti_fl25_1, ti_hb43, ti_hb44, ti_hb46, ti_hb64, ti_hb65, ti_hb66, ti_ky9, ti_mp89, ti_pl25, ti_sb23, ti_sl23, ti_sz25, ti_zr25, ti_zv4, itD, itV, rlV, rowD, rlD, hf])
      | with_reducible refine AWp_skipN ?_
      | with_reducible refine AWp_exitO (by repeat (first | with_reducible exact Out.hit | with_reducible apply Out.thenA | with_reducible apply Out.out rfl)) ?_
      | (with_reducible refine AWp_retR ?_; simp (dsimp := false) only [go_sem, Nat.reduceAdd, Nat.reduceBEq, Nat.reduceEqDiff, Nat.reduceLT, Nat.reduceLeDiff, Nat.reduceMul, Int.reduceToNat, reduceCtorEq, ↓reduceIte, Tryd.ntmps23, Tryd.results23, ks_23, mu_23, ti_ag22, ti_ag23, ti_ag25, ti_ag68, ti_fl25_0, ti_fl25_1, ti_hb43, ti_hb44, ti_hb46, ti_hb64, ti_hb65, ti_hb66, ti_ky9, ti_mp89, ti_pl25, ti_sb23, ti_sl23, ti_sz25, ti_zr25, ti_zv4, itD, itV, rlV, rowD, rlD, hf])
      | (with_reducible refine AWp_regE mu_23 ks_23 ?_; intro Kv hKv; simp (dsimp := false) only [go_sem, Nat.reduceAdd, Nat.reduceBEq, Nat.reduceEqDiff, Nat.reduceLT, Nat.reduceLeDiff, Nat.reduceMul, Int.reduceToNat, reduceCtorEq, ↓reduceIte, Tryd.ntmps23, Tryd.results23, ks_23, mu_23, ti_ag22, ti_ag23, ti_ag25, ti_ag68, ti_fl25_0, ti_fl25_1, ti_hb43, ti_hb44, ti_hb46, ti_hb64, ti_hb65, ti_hb66, ti_ky9, ti_mp89, ti_pl25, ti_sb23, ti_sl23, ti_sz25, ti_zr25, ti_zv4, itD, itV, rlV, rowD, rlD, hf])
      | (refine AWp_condC rfl ?_; intro KA KB hKA hKB; try simp only [onB_true, onB_false, onB_dec, onB_ndec, onB_not, onB_and, onB_or])
      | (refine AWp_condA rfl ?_ ?_)
      | (refine relCheck_A r hS _ _ ?_; try simp (dsimp := false) only [go_sem, Nat.reduceAdd, Nat.reduceBEq, Nat.reduceEqDiff, Nat.reduceLT, Nat.reduceLeDiff, Nat.reduceMul, Int.reduceToNat, reduceCtorEq, ↓reduceIte, Tryd.ntmps23, Tryd.results23, ks_23, mu_23, ti_ag22, ti_ag23, ti_ag25, ti_ag68, ti_fl25_0, ti_fl25_1, ti_hb43, ti_hb44, ti_hb46, ti_hb64, ti_hb65, ti_hb66, ti_ky9, ti_mp89, ti_pl25, ti_sb23, ti_sl23, ti_sz25, ti_zr25, ti_zv4, itD, itV, rlV, rowD, rlD, hf])
      | with_reducible refine onB_of ?_ ?_
      | with_reducible rfl
      | omega)
    all_goals exact dropF hk (fz_rl0 _ _ _) (bel_relE _ _ _)

/- the live slots of pleacher/pleacherref.sameItems -/
def ks_68 : Nat → List Nat
  | 0 => [0, 1]
  | 1 => [0, 1, 10]
  | 2 => [4]
  | 3 => [0, 1, 5]
  | 4 => [0, 1, 5, 14]
  | 5 => [0, 1, 5]
  | 6 => [0, 1, 5, 25]
  | 7 => [4]
  | 8 => [4]
  | _ => []
def mu_68 : List Nat := []
def in_68 : List Nat := [0, 1]
def nd_68 : Nat → Nat
  | 6 => 8
  | _ => 0
theorem refSameItems_A (l m : List It) (hl : l.length ≤ 1048576) (hm : m.length ≤ 1048576) (H : Heap) (K : V → Heap → Prop) (hk : K (.d (.b (decide (l = m)))) H) :
    ACalls Tryd.prog 68 [.d (.sl 3 (l.map itD)), .d (.sl 3 (m.map itD))] H K := by
  
  refine ACalls_of Tryd.func68 rfl in_68 (Nat.le_of_ble_eq_true rfl) ?_
  intro F hF
  simp (dsimp := false) only [go_sem, Nat.reduceAdd, Nat.reduceBEq, Nat.reduceEqDiff, Nat.reduceLT, Nat.reduceLeDiff, Nat.reduceMul, Int.reduceToNat, reduceCtorEq, ↓reduceIte, Tryd.ntmps68, Tryd.results68, ks_68, mu_68, nd_68, ti_ag35, ti_fe35, ti_sb68, ti_sl68, ti_sz35, itD, itV, in_68] at hF
  subst hF
  repeat' (first
    | with_reducible refine And.intro ?_ ?_
    | with_reducible intro _
    | with_reducible refine AWp_seq ?_
    | with_reducible refine AWp_block ?_
    | (with_reducible refine hKv _ _ (AWp_nop ?_); clear hKv Kv)
    | (with_reducible refine hKv _ _ ?_; clear hKv Kv; simp (dsimp := false) only [go_sem, Nat.reduceAdd, Nat.reduceBEq, Nat.reduceEqDiff, Nat.reduceLT, Nat.reduceLeDiff, Nat.reduceMul, Int.reduceToNat, reduceCtorEq, ↓reduceIte, Tryd.ntmps68, Tryd.results68, ks_68, mu_68, nd_68, ti_ag35, ti_fe35, ti_sb68, ti_sl68, ti_sz35, itD, itV])
    | (with_reducible refine hKA ?_; clear hKA hKB KA KB)
    | (with_reducible refine hKB ?_; clear hKA hKB KA KB)
    | (with_reducible refine AWp_regC mu_68 ks_68 ?_; intro Kv hKv; simp (dsimp := false) only [go_sem, Nat.reduceAdd, Nat.reduceBEq, Nat.reduceEqDiff, Nat.reduceLT, Nat.reduceLeDiff, Nat.reduceMul, Int.reduceToNat, reduceCtorEq, ↓reduceIte, Tryd.ntmps68, Tryd.results68, ks_68, mu_68, nd_68, ti_ag35, ti_fe35, ti_sb68, ti_sl68, ti_sz35, itD, itV])
    | (with_reducible refine AWp_draw nd_68 mu_68 ks_68 ti_mixed (by kernel_rfl) ?_; intro Kv hKv; simp (dsimp := false) only [go_sem, Nat.reduceAdd, Nat.reduceBEq, Nat.reduceEqDiff, Nat.reduceLT, Nat.reduceLeDiff, Nat.reduceMul, Int.reduceToNat, reduceCtorEq, ↓reduceIte, Tryd.ntmps68, Tryd.results68, ks_68, mu_68, nd_68, ti_ag35, ti_fe35, ti_sb68, ti_sl68, ti_sz35, itD, itV])
    | with_reducible refine AWp_skipN ?_
    | with_reducible refine AWp_exitO (by repeat (first | with_reducible exact Out.hit | with_reducible apply Out.thenA | with_reducible apply Out.out rfl)) ?_
    | (with_reducible refine AWp_retR ?_; simp (dsimp := false) only [go_sem, Nat.reduceAdd, Nat.reduceBEq, Nat.reduceEqDiff, Nat.reduceLT, Nat.reduceLeDiff, Nat.reduceMul, Int.reduceToNat, reduceCtorEq, ↓reduceIte, Tryd.ntmps68, Tryd.results68, ks_68, mu_68, nd_68, ti_ag35, ti_fe35, ti_sb68, ti_sl68, ti_sz35, itD, itV])
    | (with_reducible refine AWp_regE mu_68 ks_68 ?_; intro Kv hKv; simp (dsimp := false) only [go_sem, Nat.reduceAdd, Nat.reduceBEq, Nat.reduceEqDiff, Nat.reduceLT, Nat.reduceLeDiff, Nat.reduceMul, Int.reduceToNat, reduceCtorEq, ↓reduceIte, Tryd.ntmps68, Tryd.results68, ks_68, mu_68, nd_68, ti_ag35, ti_fe35, ti_sb68, ti_sl68, ti_sz35, itD, itV])
    | (with_reducible refine AWp_drawE nd_68 mu_68 ks_68 ti_mixed (by kernel_rfl) ?_; intro Kv hKv; simp (dsimp := false) only [go_sem, Nat.reduceAdd, Nat.reduceBEq, Nat.reduceEqDiff, Nat.reduceLT, Nat.reduceLeDiff, Nat.reduceMul, Int.reduceToNat, reduceCtorEq, ↓reduceIte, Tryd.ntmps68, Tryd.results68, ks_68, mu_68, nd_68, ti_ag35, ti_fe35, ti_sb68, ti_sl68, ti_sz35, itD, itV])
    | (refine AWp_condC rfl ?_; intro KA KB hKA hKB; try simp only [onB_true, onB_false, onB_dec, onB_ndec, onB_not, onB_and, onB_or])
    | (refine AWp_condA rfl ?_ ?_)
    | with_reducible refine onB_of ?_ ?_
    | with_reducible rfl
    | omega)
  rotate_left
  · rename_i hne
    exact keepD hk (by rw [decide_eq_false (fun e => hne (by rw [e]))])
  · rename_i hlen
    have hlen : l.length = m.length := by omega
    refine AWp_while0 (fun i : Nat => i ≤ l.length ∧ (l = m ↔ l.drop i = m.drop i)) (fun i => [(0, .d (.sl 3 (l.map itD))), (1, .d (.sl 3 (m.map itD))), (5, .d (.i .i64 i))]) (fun i => l.length - i) 0 ⟨Nat.zero_le _, by simp⟩ ?_ ?_
    · simp (dsimp := false) only [go_sem, Nat.reduceAdd, Nat.reduceBEq, Nat.reduceEqDiff, Nat.reduceLT, Nat.reduceLeDiff, Nat.reduceMul, Int.reduceToNat, reduceCtorEq, ↓reduceIte, Tryd.ntmps68, Tryd.results68, ks_68, mu_68, nd_68, ti_ag35, ti_fe35, ti_sb68, ti_sl68, ti_sz35, itD, itV]
      first | done | simp
    rintro i ⟨hi, hd⟩
    by_cases hil : i < l.length
    · obtain ⟨x, hx⟩ : ∃ x, l[i]? = some x := ⟨l[i], List.getElem?_eq_getElem hil⟩
      obtain ⟨y, hy⟩ : ∃ y, m[i]? = some y := ⟨m[i]'(by omega), List.getElem?_eq_getElem (by omega)⟩
      rw [drop_of_get hx, drop_of_get hy, List.cons.injEq] at hd
      have hxy : x = y ↔ (x.k = y.k ∧ x.n = y.n ∧ x.s = y.s) := by cases x; cases y; simp
      clear hlen
      
      repeat' (first
        | with_reducible refine And.intro ?_ ?_
        | with_reducible intro _
        | with_reducible refine AWp_seq ?_
        | with_reducible refine AWp_block ?_
        | (with_reducible refine hKv _ _ (AWp_nop ?_); clear hKv Kv)
        | (with_reducible refine hKv _ _ ?_; clear hKv Kv; simp (dsimp := false) only [go_sem, Nat.reduceAdd, Nat.reduceBEq, Nat.reduceEqDiff, Nat.reduceLT, Nat.reduceLeDiff, Nat.reduceMul, Int.reduceToNat, reduceCtorEq, ↓reduceIte, Tryd.ntmps68, Tryd.results68, ks_68, mu_68, nd_68, ti_ag35, ti_fe35, ti_sb68, ti_sl68, ti_sz35, itD, itV, hx, hy])
        | (with_reducible refine hKA ?_; clear hKA hKB KA KB)
        | (with_reducible refine hKB ?_; clear hKA hKB KA KB)
        | (with_reducible refine AWp_regC mu_68 ks_68 ?_; intro Kv hKv; simp (dsimp := false) only [go_sem, Nat.reduceAdd, Nat.reduceBEq, Nat.reduceEqDiff, Nat.reduceLT, Nat.reduceLeDiff, Nat.reduceMul, Int.reduceToNat, reduceCtorEq, ↓reduceIte, Tryd.ntmps68, Tryd.results68, ks_68, mu_68, nd_68, ti_ag35, ti_fe35, ti_sb68, ti_sl68, ti_sz35, itD, itV, hx, hy])
        | (with_reducible refine AWp_draw nd_68 mu_68 ks_68 ti_mixed (by kernel_rfl) ?_; intro Kv hKv; simp (dsimp := false) only [go_sem, Nat.reduceAdd, Nat.reduceBEq, Nat.reduceEqDiff, Nat.reduceLT, Nat.reduceLeDiff, Nat.reduceMul, Int.reduceToNat, reduceCtorEq, ↓reduceIte, Tryd.ntmps68, Tryd.results68, ks_68, mu_68, nd_68, ti_ag35, ti_fe35, ti_sb68, ti_sl68, ti_sz35, itD, itV, hx, hy])
        | with_reducible refine AWp_skipN ?_
        | with_reducible refine AWp_exitO (by repeat (first | with_reducible exact Out.hit | with_reducible apply Out.thenA | with_reducible apply Out.out rfl)) ?_
        | (with_reducible refine AWp_retR ?_; simp (dsimp := false) only [go_sem, Nat.reduceAdd, Nat.reduceBEq, Nat.reduceEqDiff, Nat.reduceLT, Nat.reduceLeDiff, Nat.reduceMul, Int.reduceToNat, reduceCtorEq, ↓reduceIte, Tryd.ntmps68, Tryd.results68, ks_68, mu_68, nd_68, ti_ag35, ti_fe35, ti_sb68, ti_sl68, ti_sz35, itD, itV, hx, hy])
        | (with_reducible refine AWp_regE mu_68 ks_68 ?_; intro Kv hKv; simp (dsimp := false) only [go_sem, Nat.reduceAdd, Nat.reduceBEq, Nat.reduceEqDiff, Nat.reduceLT, Nat.reduceLeDiff, Nat.reduceMul, Int.reduceToNat, reduceCtorEq, ↓reduceIte, Tryd.ntmps68, Tryd.results68, ks_68, mu_68, nd_68, ti_ag35, ti_fe35, ti_sb68, ti_sl68, ti_sz35, itD, itV, hx, hy])
        | (with_reducible refine AWp_drawE nd_68 mu_68 ks_68 ti_mixed (by kernel_rfl) ?_; intro Kv hKv; simp (dsimp := false) only [go_sem, Nat.reduceAdd, Nat.reduceBEq, Nat.reduceEqDiff, Nat.reduceLT, Nat.reduceLeDiff, Nat.reduceMul, Int.reduceToNat, reduceCtorEq, ↓reduceIte, Tryd.ntmps68, Tryd.results68, ks_68, mu_68, nd_68, ti_ag35, ti_fe35, ti_sb68, ti_sl68, ti_sz35, itD, itV, hx, hy])
        | (refine AWp_condC rfl ?_; intro KA KB hKA hKB; try simp only [onB_true, onB_false, onB_dec, onB_ndec, onB_not, onB_and, onB_or])
        | (refine AWp_condA rfl ?_ ?_)
        | with_reducible refine onB_of ?_ ?_
        | with_reducible rfl
        | omega)
      all_goals first
        | (have hh : x = y := hxy.2 ⟨by assumption, by assumption, by assumption⟩
           exact ⟨i + 1, ⟨by omega, hd.trans ⟨fun h => h.2, fun h => ⟨hh, h⟩⟩⟩, by omega, by omega⟩)
        | exact keepD hk (by rw [decide_eq_false (fun e => by have := hxy.1 (hd.1 e).1; simp_all)])
    · have e : i = l.length := by omega
      subst e
      rw [List.drop_length, hlen, List.drop_length] at hd
      
      repeat' (first
        | with_reducible refine And.intro ?_ ?_
        | with_reducible intro _
        | with_reducible refine AWp_seq ?_
        | with_reducible refine AWp_block ?_
        | (with_reducible refine hKv _ _ (AWp_nop ?_); clear hKv Kv)
        | (with_reducible refine hKv _ _ ?_; clear hKv Kv; simp (dsimp := false) only [go_sem, Nat.reduceAdd, Nat.reduceBEq, Nat.reduceEqDiff, Nat.reduceLT, Nat.reduceLeDiff, Nat.reduceMul, Int.reduceToNat, reduceCtorEq, ↓reduceIte, Tryd.ntmps68, Tryd.results68, ks_68, mu_68, nd_68, ti_ag35, ti_fe35, ti_sb68, ti_sl68, ti_sz35, itD, itV])
        | (with_reducible refine hKA ?_; clear hKA hKB KA KB)
        | (with_reducible refine hKB ?_; clear hKA hKB KA KB)
        | (with_reducible refine AWp_regC mu_68 ks_68 ?_; intro Kv hKv; simp (dsimp := false) only [go_sem, Nat.reduceAdd, Nat.reduceBEq, Nat.reduceEqDiff, Nat.reduceLT, Nat.reduceLeDiff, Nat.reduceMul, Int.reduceToNat, reduceCtorEq, ↓reduceIte, Tryd.ntmps68, Tryd.results68, ks_68, mu_68, nd_68, ti_ag35, ti_fe35, ti_sb68, ti_sl68, ti_sz35, itD, itV])
        | (with_reducible refine AWp_draw nd_68 mu_68 ks_68 ti_mixed (by kernel_rfl) ?_; intro Kv hKv; simp (dsimp := false) only [go_sem, Nat.reduceAdd, Nat.reduceBEq, Nat.reduceEqDiff, Nat.reduceLT, Nat.reduceLeDiff, Nat.reduceMul, Int.reduceToNat, reduceCtorEq, ↓reduceIte, Tryd.ntmps68, Tryd.results68, ks_68, mu_68, nd_68, ti_ag35, ti_fe35, ti_sb68, ti_sl68, ti_sz35, itD, itV])
        | with_reducible refine AWp_skipN ?_
        | with_reducible refine AWp_exitO (by repeat (first | with_reducible exact Out.hit | with_reducible apply Out.thenA | with_reducible apply Out.out rfl)) ?_
        | (with_reducible refine AWp_retR ?_; simp (dsimp := false) only [go_sem, Nat.reduceAdd, Nat.reduceBEq, Nat.reduceEqDiff, Nat.reduceLT, Nat.reduceLeDiff, Nat.reduceMul, Int.reduceToNat, reduceCtorEq, ↓reduceIte, Tryd.ntmps68, Tryd.results68, ks_68, mu_68, nd_68, ti_ag35, ti_fe35, ti_sb68, ti_sl68, ti_sz35, itD, itV])
        | (with_reducible refine AWp_regE mu_68 ks_68 ?_; intro Kv hKv; simp (dsimp := false) only [go_sem, Nat.reduceAdd, Nat.reduceBEq, Nat.reduceEqDiff, Nat.reduceLT, Nat.reduceLeDiff, Nat.reduceMul, Int.reduceToNat, reduceCtorEq, ↓reduceIte, Tryd.ntmps68, Tryd.results68, ks_68, mu_68, nd_68, ti_ag35, ti_fe35, ti_sb68, ti_sl68, ti_sz35, itD, itV])
        | (with_reducible refine AWp_drawE nd_68 mu_68 ks_68 ti_mixed (by kernel_rfl) ?_; intro Kv hKv; simp (dsimp := false) only [go_sem, Nat.reduceAdd, Nat.reduceBEq, Nat.reduceEqDiff, Nat.reduceLT, Nat.reduceLeDiff, Nat.reduceMul, Int.reduceToNat, reduceCtorEq, ↓reduceIte, Tryd.ntmps68, Tryd.results68, ks_68, mu_68, nd_68, ti_ag35, ti_fe35, ti_sb68, ti_sl68, ti_sz35, itD, itV])
        | (refine AWp_condC rfl ?_; intro KA KB hKA hKB; try simp only [onB_true, onB_false, onB_dec, onB_ndec, onB_not, onB_and, onB_or])
        | (refine AWp_condA rfl ?_ ?_)
        | with_reducible refine onB_of ?_ ?_
        | with_reducible rfl
        | omega)
      all_goals exact keepD hk (by rw [decide_eq_true (hd.2 rfl)])
end Go.Proofs.YtafbojmnmadlpaaDoor
