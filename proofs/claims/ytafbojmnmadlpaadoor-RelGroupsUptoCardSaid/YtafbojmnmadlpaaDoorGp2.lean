/- For each part an aggregate: what the program makes. No condition but that the tables of package unicode/utf8 are there. -/
import Derived.Test.YtafbojmnmadlpaaDoorGp1
import Derived.Test.YtafbojmnmadlpaaDoorJo
import Derived.Test.YtafbojmnmadlpaaDoorPj1
import Derived.Test.YtafbojmnmadlpaaDoorAb18
set_option linter.all false
set_option linter.unusedSimpArgs false
set_option linter.unusedVariables false
namespace Go.Proofs.YtafbojmnmadlpaaDoor
open Go Go.Proofs.YtafbojmnmadlpaaDoor.Ab
variable [Glo] [U8]
set_option maxHeartbeats 4000000
set_option maxRecDepth 20000
theorem obBel_map1 {m ver e : Nat} {sh : List Kd} {ks : List (List D)} {vs : List V} (h : ∀ v, v ∈ vs → Bel m v) : ObBel m (.row ver e 0 [[.mp sh ks vs]]) := by
  intro row hr v hv
  simp at hr
  subst hr
  simp at hv
  subst hv
  exact .mp _ _ _ h
theorem gVs_bel1 {α : Type} {b m : Nat} {G : List (It × List α)} (h : b + G.length ≤ m) : ∀ v, v ∈ gVs b G → Bel m v := fun v hv => by
  obtain ⟨i, hi⟩ := List.getElem?_of_mem hv
  rw [gVs, List.getElem?_mapIdx] at hi
  obtain ⟨g, hg, rfl⟩ := Option.map_eq_some_iff.1 hi
  have := lt_of_get hg
  exact .os _ _ (by omega)
theorem gObs_bel1 {m e sz : Nat} {G : List (It × List It)} : ∀ ob, ob ∈ gObs e sz itC G → ObBel m ob := fun ob h => by
  obtain ⟨g, _, rfl⟩ := List.mem_map.1 h
  exact obBel_map itD _ _ _ _ _
theorem hget_3 {H O : Heap} {A M L : Ob} {j : Nat} {x : Ob} (h : O[j]? = some x) : (H ++ A :: M :: L :: O)[H.length + 3 + j]? = some x := by
  rw [List.getElem?_append_right (by omega), show H.length + 3 + j - H.length = j + 3 by omega]
  simpa using h
theorem hset_3 {H O : Heap} {A M L X : Ob} {j : Nat} : (H ++ A :: M :: L :: O).set (H.length + 3 + j) X = H ++ A :: M :: L :: O.set j X := by
  rw [List.set_append_right _ _ (by omega), show H.length + 3 + j - H.length = j + 3 by omega]
  simp
theorem vset_last1 {α : Type} (l : List α) (a b : α) (n : Nat) (h : n = l.length) : (l ++ [a]).set n b = l ++ [b] := by
  subst h; simp
theorem places_two (cols : List (List UInt8)) (a b : List UInt8) : places cols [a, b] = if txtAt cols a < 0 then none else if txtAt cols b < 0 then none else some [txtAt cols a, txtAt cols b] := by
  unfold places placesGo placesGo placesGo
  rfl
theorem valG_ne {α : Type} {G : List (It × List α)} {k : It} {j : Nat} {l : List α} (hj : atG G k = some j) (hl : G[j]? = some (k, l)) : valG G k = l := by simp [valG, hj, hl]
theorem grpVal_it {p q : Nat} {rows : List (List It)} {k : It} {Q : It → Prop} (h : ∀ row, row ∈ rows → Q (rg row q)) : ∀ x, x ∈ grpVal p q rows k → Q x := fun x hx => by
  rw [grpVal_eq] at hx
  obtain ⟨row, hr, rfl⟩ := List.mem_map.1 hx
  exact h row (List.mem_filter.1 hr).1
theorem putG_keys_len (G : List (It × List It)) (k : It) (a : It) (h : atG G k = none) : (putG G k a).length = G.length + 1 := by simp [putG, h]
theorem putG_hit_len (G : List (It × List It)) (k : It) (a : It) (j : Nat) (h : atG G k = some j) : (putG G k a).length = G.length := by simp [putG, h]
theorem atG_mem {α : Type} {G : List (It × List α)} {k : It} (h : k ∈ G.map (·.1)) : ∃ j, atG G k = some j := by
  cases hj : atG G k with
  | some j => exact ⟨j, rfl⟩
  | none => exact absurd h (atG_none.1 hj)
theorem roP_O {O : Heap} {n : Nat} (hn : n = O.length) (r : Nat) (F : Ab.Frame) (H : Heap) (A M L : Ob) (ver e sz : Nat) (cells : List V) (K : Ab.Frame → Heap → Prop) : roP r F (.pt (H.length + (n + 1 + 1 + 1)) ver 0 0) H (H ++ A :: M :: L :: (O ++ [Ob.row ver e sz [cells]])) K =
    (Closed H (H ++ A :: M :: L :: O) ∧ othB (H.length + (n + 1 + 1 + 1)) r F ∧ (match dsOf cells with | some ds => K (rpl r ds F) (H ++ A :: M :: L :: O) | none => False)) := by
  subst hn
  have := roP_gen r F H (H ++ A :: M :: L :: O) ver e sz cells K
  simp only [List.length_append, List.length_cons, List.append_assoc, List.cons_append] at this
  rw [this]
  cases dsOf cells <;> simp
theorem roP_O2 {O : Heap} {n : Nat} (hn : n = O.length) (r : Nat) (F : Ab.Frame) (H : Heap) (A M L R : Ob) (ver e sz : Nat) (cells : List V) (K : Ab.Frame → Heap → Prop) : roP r F (.pt (H.length + (n + 1 + 1 + 1 + 1)) ver 0 0) H (H ++ A :: M :: L :: (O ++ [R, Ob.row ver e sz [cells]])) K =
    (Closed H (H ++ A :: M :: L :: (O ++ [R])) ∧ othB (H.length + (n + 1 + 1 + 1 + 1)) r F ∧ (match dsOf cells with | some ds => K (rpl r ds F) (H ++ A :: M :: L :: (O ++ [R])) | none => False)) := by
  have := roP_O (O := O ++ [R]) (n := n + 1) (by simp [hn]) r F H A M L ver e sz cells K
  simpa using this
theorem roP_O3 {O : Heap} {n : Nat} (hn : n = O.length) (r : Nat) (F : Ab.Frame) (H : Heap) (A M L R S : Ob) (ver e sz : Nat) (cells : List V) (K : Ab.Frame → Heap → Prop) : roP r F (.pt (H.length + (n + 1 + 1 + 1 + 1 + 1)) ver 0 0) H (H ++ A :: M :: L :: (O ++ [R, S, Ob.row ver e sz [cells]])) K =
    (Closed H (H ++ A :: M :: L :: (O ++ [R, S])) ∧ othB (H.length + (n + 1 + 1 + 1 + 1 + 1)) r F ∧ (match dsOf cells with | some ds => K (rpl r ds F) (H ++ A :: M :: L :: (O ++ [R, S])) | none => False)) := by
  have := roP_O (O := O ++ [R, S]) (n := n + 1 + 1) (by simp [hn]) r F H A M L ver e sz cells K
  simpa using this
theorem grp_bel {H : Heap} {n : Nat} {G : List (It × List It)} (h : H.length + 3 + G.length ≤ n) : ∀ ob, ob ∈ (.row 0 25 2 [[.d (.c (.slice none 0 0)), .d (.c (.slice none 0 0))]] :: .row 0 67 0 [[.mp [.i .i64, .i .i64, .s] (gKs G) (gVs (H.length + 3) G)]] :: .row G.length 35 3 ((G.map (·.1)).map itC) :: gObs 35 3 itC G : Heap) → ObBel n ob := fun ob hob => by
  simp only [List.mem_cons] at hob
  rcases hob with rfl | rfl | rfl | hob
  · exact bel_nil2 _ _ _
  · exact obBel_map1 (gVs_bel1 (by omega))
  · exact obBel_map itD _ _ _ _ _
  · exact gObs_bel1 ob hob
theorem grp_bel2 {H : Heap} {n v : Nat} {G : List (It × List It)} {acc : List (List It)} (h : H.length + 3 + G.length ≤ n) : ∀ ob, ob ∈ (.row 0 25 2 [[.d (.c (.slice none 0 0)), .d (.c (.slice none 0 0))]] :: .row 0 67 0 [[.mp [.i .i64, .i .i64, .s] (gKs G) (gVs (H.length + 3) G)]] :: .row G.length 35 3 ((G.map (·.1)).map itC) :: (gObs 35 3 itC G ++ [.row v 68 1 (acc.map rowC)]) : Heap) → ObBel n ob := fun ob hob => by
  simp only [List.mem_cons, List.mem_append, List.not_mem_nil, or_false] at hob
  rcases hob with rfl | rfl | rfl | hob | rfl
  · exact bel_nil2 _ _ _
  · exact obBel_map1 (gVs_bel1 (by omega))
  · exact obBel_map itD _ _ _ _ _
  · exact gObs_bel1 ob hob
  · exact obBel_rows _ _ _ _ _

/- the live slots of pleacher/rel.Group -/
def ks_15 : Nat → List Nat
  | 0 => [1, 2, 3, 4, 5, 10]
  | 1 => [1, 2, 3, 4, 5, 10, 12]
  | 2 => [1, 2, 3, 4, 5, 10, 12, 28]
  | 3 => [10, 11]
  | 4 => [1, 2, 3, 4, 5, 10, 44]
  | 5 => [10, 11]
  | 6 => [1, 2, 3, 5, 10, 13, 14]
  | 7 => [1, 2, 3, 5, 10, 13, 14, 55]
  | 8 => [10, 11]
  | 9 => [1, 2, 3, 5, 10, 13, 15]
  | 10 => [1, 2, 3, 5, 10, 13, 15, 16]
  | 11 => [1, 2, 3, 10, 13, 15, 16, 60, 61, 62]
  | 12 => [1, 2, 3, 10, 13, 15, 16, 60, 61, 62, 63]
  | 13 => [1, 2, 3, 10, 13, 15, 16, 18, 60, 61, 62]
  | 14 => [1, 2, 3, 10, 13, 15, 16, 18, 19, 60, 61, 62]
  | 15 => [1, 2, 3, 10, 13, 15, 16, 18, 19, 60, 61, 62, 75]
  | 16 => [1, 2, 3, 10, 13, 15, 16, 18, 19, 60, 61, 62]
  | 17 => [1, 2, 3, 10, 13, 15, 16, 60, 61, 62]
  | 18 => [1, 2, 3, 10, 13, 15, 16, 60, 61, 62]
  | 19 => [1, 2, 3, 10, 15, 16, 20]
  | 20 => [1, 2, 3, 10, 15, 20, 94, 95, 96]
  | 21 => [1, 2, 3, 10, 15, 20, 94, 95, 96, 97]
  | 22 => [1, 2, 3, 10, 15, 20, 22, 94, 95, 96]
  | 23 => [1, 2, 3, 10, 15, 20, 22, 23, 24, 94, 95, 96]
  | 24 => [1, 2, 3, 10, 15, 20, 22, 23, 94, 95, 96, 109]
  | 25 => [10, 11]
  | 26 => [1, 2, 3, 10, 15, 20, 94, 95, 96]
  | 27 => [1, 2, 3, 10, 15, 20, 94, 95, 96]
  | 28 => [10, 11]
  | _ => []
def mu_15 : List Nat := [16, 20, 91]
def in_15 : List Nat := [0, 1, 2, 3, 4]
def ro_15 : Nat → List Nat
  | 14 => [19]
  | 22 => [22]
  | 23 => [23]
  | _ => []
def xm_15 : Nat → Nat × Nat × Nat × List Nat × List Nat × List Nat
  | 17 => (9, 11, 13, [3, 3, 3, 3, 3, 3, 3, 3, 3], [3], [3])
  | _ => (0, 0, 0, [], [], [])
theorem group_A (r : Rl) (hS : ShR r) (name part which col : List UInt8) (hn : name.length ≤ 1048576) (hpt : part.length ≤ 1048576) (H : Heap) (K : V → Heap → Prop) (hk : K (relE (grouped r name part which col).1 (grouped r name part which col).2) H) :
    ACalls Tryd.prog 15 [rlV r, .d (.s name), .d (.s part), .d (.s which), .d (.s col)] H K := by
  have q1 := hS.ncols
  have q2 := hS.nrows
  have hpl := places_two r.cols part col
  by_cases hf : relFault r = 0
  · by_cases hw : whichB which = true
    · have hwo : ¬ (¬ which = cntT ∧ ¬ which = sumT ∧ ¬ which = minT ∧ ¬ which = maxT) := fun h => by rcases whichB_or hw with h' | h' | h' | h' <;> simp [h'] at h
      unfold cntT sumT minT maxT at hwo
      have hmx : ¬ which = [99, 111, 117, 110, 116] → ¬ which = [115, 117, 109] → ¬ which = [109, 105, 110] → (!decide (which = [109, 97, 120])) = false := fun a b c => by
        rw [decide_eq_true (Decidable.byContradiction fun h => hwo ⟨a, b, c, h⟩)]; rfl
      by_cases hc : txtAt r.cols part < 0 ∨ txtAt r.cols col < 0
      · have hpn : places r.cols [part, col] = none := by
          rw [hpl]
          rcases hc with h | h
          · rw [if_pos h]
          · rw [if_pos h]; split <;> rfl
        rw [grouped, if_pos hf, if_pos hw, if_pos hc] at hk
        
        refine ACalls_of Tryd.func15 rfl in_15 (Nat.le_of_ble_eq_true rfl) ?_
        intro F hF
        simp (dsimp := false) only [go_sem, Nat.reduceAdd, Nat.reduceBEq, Nat.reduceEqDiff, Nat.reduceLT, Nat.reduceLeDiff, Nat.reduceMul, Int.reduceToNat, reduceCtorEq, ↓reduceIte, Tryd.ntmps15, Tryd.results15, ks_15, mu_15, xm_15, ro_15, ti_ag3, ti_ag23, ti_ag25, ti_ag35, ti_ag68, ti_fl25_1, ti_hb43, ti_hb44, ti_hb45, ti_hb46, ti_ky35, ti_mp67, ti_pl25, ti_sb23, ti_sb68, ti_sl22, ti_sl23, ti_sl64, ti_sl68, ti_sz25, ti_sz35, ti_zr25, ti_zr35, ti_zv68, itD, itV, rlV, rowD, rlD, hf, hpn, Option.getD_none, Option.isSome_none, in_15] at hF
        subst hF
        repeat' (first
          | (rw [hmx (by assumption) (by assumption) (by assumption)]; exact hj)
          | exact hj
          | with_reducible refine And.intro ?_ ?_
          | with_reducible intro _
          | with_reducible refine AWp_seq ?_
          | with_reducible refine AWp_block ?_
          | (with_reducible refine hKv _ _ (AWp_nop ?_); clear hKv Kv)
          | (with_reducible refine hKv _ _ ?_; clear hKv Kv; simp (dsimp := false) only [go_sem, Nat.reduceAdd, Nat.reduceBEq, Nat.reduceEqDiff, Nat.reduceLT, Nat.reduceLeDiff, Nat.reduceMul, Int.reduceToNat, reduceCtorEq, ↓reduceIte, Tryd.ntmps15, Tryd.results15, ks_15, mu_15, xm_15, ro_15, ti_ag3, ti_ag23, ti_ag25, ti_ag35, ti_ag68, ti_fl25_1, ti_hb43, ti_hb44, ti_hb45, ti_hb46, ti_ky35, ti_mp67, ti_pl25, ti_sb23, ti_sb68, ti_sl22, ti_sl23, ti_sl64, ti_sl68, ti_sz25, ti_sz35, ti_zr25, ti_zr35, ti_zv68, itD, itV, rlV, rowD, rlD, hf, hpn, Option.getD_none, Option.isSome_none])
          | (with_reducible refine hKA ?_; clear hKA hKB KA KB)
          | (with_reducible refine hKB ?_; clear hKA hKB KA KB)
          | (with_reducible refine AWp_regC (id := 4) mu_15 ks_15 ?_; intro Kv hKv; simp (dsimp := false) only [go_sem, Nat.reduceAdd, Nat.reduceBEq, Nat.reduceEqDiff, Nat.reduceLT, Nat.reduceLeDiff, Nat.reduceMul, Int.reduceToNat, reduceCtorEq, ↓reduceIte, Tryd.ntmps15, Tryd.results15, ks_15, mu_15, xm_15, ro_15, ti_ag3, ti_ag23, ti_ag25, ti_ag35, ti_ag68, ti_fl25_1, ti_hb43, ti_hb44, ti_hb45, ti_hb46, ti_ky35, ti_mp67, ti_pl25, ti_sb23, ti_sb68, ti_sl22, ti_sl23, ti_sl64, ti_sl68, ti_sz25, ti_sz35, ti_zr25, ti_zr35, ti_zv68, itD, itV, rlV, rowD, rlD, hf, hpn, Option.getD_none, Option.isSome_none]; apply regJ (Kv := Kv); intro hj)
          | ((first | with_reducible refine AWp_regro mu_15 ks_15 ro_15 ?_ | with_reducible refine AWp_regC mu_15 ks_15 ?_ | with_reducible refine AWp_drawM xm_15 mu_15 ks_15 (by decide) ti_mixed (by kernel_rfl) ?_); intro Kv hKv; simp (dsimp := false) only [go_sem, Nat.reduceAdd, Nat.reduceBEq, Nat.reduceEqDiff, Nat.reduceLT, Nat.reduceLeDiff, Nat.reduceMul, Int.reduceToNat, reduceCtorEq, ↓reduceIte, Tryd.ntmps15, Tryd.results15, ks_15, mu_15, xm_15, ro_15, ti_ag3, ti_ag23, ti_ag25, ti_ag35, ti_ag68, ti_fl25_1, ti_hb43, ti_hb44, ti_hb45, ti_hb46, ti_ky35, ti_mp67, ti_pl25, ti_sb23, ti_sb68, ti_sl22, ti_sl23, ti_sl64, ti_sl68, ti_sz25, ti_sz35, ti_zr25, ti_zr35, ti_zv68, itD, itV, rlV, rowD, rlD, hf, hpn, Option.getD_none, Option.isSome_none])
          | with_reducible refine AWp_skipN ?_
          | with_reducible refine AWp_exitO (by repeat (first | with_reducible exact Out.hit | with_reducible apply Out.thenA | with_reducible apply Out.out rfl)) ?_
          | (with_reducible refine AWp_retR ?_; simp (dsimp := false) only [go_sem, Nat.reduceAdd, Nat.reduceBEq, Nat.reduceEqDiff, Nat.reduceLT, Nat.reduceLeDiff, Nat.reduceMul, Int.reduceToNat, reduceCtorEq, ↓reduceIte, Tryd.ntmps15, Tryd.results15, ks_15, mu_15, xm_15, ro_15, ti_ag3, ti_ag23, ti_ag25, ti_ag35, ti_ag68, ti_fl25_1, ti_hb43, ti_hb44, ti_hb45, ti_hb46, ti_ky35, ti_mp67, ti_pl25, ti_sb23, ti_sb68, ti_sl22, ti_sl23, ti_sl64, ti_sl68, ti_sz25, ti_sz35, ti_zr25, ti_zr35, ti_zv68, itD, itV, rlV, rowD, rlD, hf, hpn, Option.getD_none, Option.isSome_none])
          | (with_reducible refine AWp_regE mu_15 ks_15 ?_; intro Kv hKv; simp (dsimp := false) only [go_sem, Nat.reduceAdd, Nat.reduceBEq, Nat.reduceEqDiff, Nat.reduceLT, Nat.reduceLeDiff, Nat.reduceMul, Int.reduceToNat, reduceCtorEq, ↓reduceIte, Tryd.ntmps15, Tryd.results15, ks_15, mu_15, xm_15, ro_15, ti_ag3, ti_ag23, ti_ag25, ti_ag35, ti_ag68, ti_fl25_1, ti_hb43, ti_hb44, ti_hb45, ti_hb46, ti_ky35, ti_mp67, ti_pl25, ti_sb23, ti_sb68, ti_sl22, ti_sl23, ti_sl64, ti_sl68, ti_sz25, ti_sz35, ti_zr25, ti_zr35, ti_zv68, itD, itV, rlV, rowD, rlD, hf, hpn, Option.getD_none, Option.isSome_none])
          | (refine AWp_condC rfl ?_; intro KA KB hKA hKB; try simp only [onB_true, onB_false, onB_dec, onB_ndec, onB_not, onB_and, onB_or])
          | (refine AWp_condA rfl ?_ ?_)
          | ((first | refine relCheck_A r hS _ _ ?_ | refine QCall_of (relCheck_A r hS _ _ (Two_intro _ _)) ?_ | refine places_A r hS [part, col] (by simp) _ _ ?_ | refine QCall_of (places_A r hS [part, col] (by simp) _ _ (Two_intro _ _)) ?_); try simp (dsimp := false) only [go_sem, Nat.reduceAdd, Nat.reduceBEq, Nat.reduceEqDiff, Nat.reduceLT, Nat.reduceLeDiff, Nat.reduceMul, Int.reduceToNat, reduceCtorEq, ↓reduceIte, Tryd.ntmps15, Tryd.results15, ks_15, mu_15, xm_15, ro_15, ti_ag3, ti_ag23, ti_ag25, ti_ag35, ti_ag68, ti_fl25_1, ti_hb43, ti_hb44, ti_hb45, ti_hb46, ti_ky35, ti_mp67, ti_pl25, ti_sb23, ti_sb68, ti_sl22, ti_sl23, ti_sl64, ti_sl68, ti_sz25, ti_sz35, ti_zr25, ti_zr35, ti_zv68, itD, itV, rlV, rowD, rlD, hf, hpn, Option.getD_none, Option.isSome_none])
          | with_reducible refine onB_of ?_ ?_
          | with_reducible rfl
          | omega)
        all_goals first
          | exact dropF hk (fz_rl0 _ _ _) (bel_relE _ _ _)
          | exact absurd ⟨by assumption, by assumption, by assumption, by assumption⟩ hwo
      · have hc1 : ¬ txtAt r.cols part < 0 := fun h => hc (.inl h)
        have hc2 : ¬ txtAt r.cols col < 0 := fun h => hc (.inr h)
        rw [if_neg hc1, if_neg hc2] at hpl
        rw [grouped, if_pos hf, if_pos hw, if_neg hc] at hk
        obtain ⟨_, hN, hall⟩ := relFault_ok hf
        have hlt := (fidx_lt (fun z => decide (part = z)) r.cols).2
        obtain ⟨p, hpp⟩ : ∃ p : Nat, txtAt r.cols part = p := ⟨(txtAt r.cols part).toNat, by omega⟩
        have hp1 : p < r.cols.length := by
          have : txtAt r.cols part < r.cols.length := hlt
          omega
        have hlt2 := (fidx_lt (fun z => decide (col = z)) r.cols).2
        obtain ⟨q, hqq⟩ : ∃ q : Nat, txtAt r.cols col = q := ⟨(txtAt r.cols col).toNat, by omega⟩
        have hq1 : q < r.cols.length := by
          have : txtAt r.cols col < r.cols.length := hlt2
          omega
        rw [hpp, hqq] at hpl hk
        simp only [Int.toNat_natCast] at hk
        clear hlt hlt2 hc hc1 hc2
        
        refine ACalls_of Tryd.func15 rfl in_15 (Nat.le_of_ble_eq_true rfl) ?_
        intro F hF
        simp (dsimp := false) only [go_sem, Nat.reduceAdd, Nat.reduceBEq, Nat.reduceEqDiff, Nat.reduceLT, Nat.reduceLeDiff, Nat.reduceMul, Int.reduceToNat, reduceCtorEq, ↓reduceIte, Tryd.ntmps15, Tryd.results15, ks_15, mu_15, xm_15, ro_15, ti_ag3, ti_ag23, ti_ag25, ti_ag35, ti_ag68, ti_fl25_1, ti_hb43, ti_hb44, ti_hb45, ti_hb46, ti_ky35, ti_mp67, ti_pl25, ti_sb23, ti_sb68, ti_sl22, ti_sl23, ti_sl64, ti_sl68, ti_sz25, ti_sz35, ti_zr25, ti_zr35, ti_zv68, itD, itV, rlV, rowD, rlD, hf, hpl, Option.getD_some, Option.isSome_some, in_15] at hF
        subst hF
        repeat' (first
          | (rw [hmx (by assumption) (by assumption) (by assumption)]; exact hj)
          | exact hj
          | with_reducible refine And.intro ?_ ?_
          | with_reducible intro _
          | with_reducible refine AWp_seq ?_
          | with_reducible refine AWp_block ?_
          | (with_reducible refine hKv _ _ (AWp_nop ?_); clear hKv Kv)
          | (with_reducible refine hKv _ _ ?_; clear hKv Kv; simp (dsimp := false) only [go_sem, Nat.reduceAdd, Nat.reduceBEq, Nat.reduceEqDiff, Nat.reduceLT, Nat.reduceLeDiff, Nat.reduceMul, Int.reduceToNat, reduceCtorEq, ↓reduceIte, Tryd.ntmps15, Tryd.results15, ks_15, mu_15, xm_15, ro_15, ti_ag3, ti_ag23, ti_ag25, ti_ag35, ti_ag68, ti_fl25_1, ti_hb43, ti_hb44, ti_hb45, ti_hb46, ti_ky35, ti_mp67, ti_pl25, ti_sb23, ti_sb68, ti_sl22, ti_sl23, ti_sl64, ti_sl68, ti_sz25, ti_sz35, ti_zr25, ti_zr35, ti_zv68, itD, itV, rlV, rowD, rlD, hf, hpl, Option.getD_some, Option.isSome_some])
          | (with_reducible refine hKA ?_; clear hKA hKB KA KB)
          | (with_reducible refine hKB ?_; clear hKA hKB KA KB)
          | (with_reducible refine AWp_regC (id := 4) mu_15 ks_15 ?_; intro Kv hKv; simp (dsimp := false) only [go_sem, Nat.reduceAdd, Nat.reduceBEq, Nat.reduceEqDiff, Nat.reduceLT, Nat.reduceLeDiff, Nat.reduceMul, Int.reduceToNat, reduceCtorEq, ↓reduceIte, Tryd.ntmps15, Tryd.results15, ks_15, mu_15, xm_15, ro_15, ti_ag3, ti_ag23, ti_ag25, ti_ag35, ti_ag68, ti_fl25_1, ti_hb43, ti_hb44, ti_hb45, ti_hb46, ti_ky35, ti_mp67, ti_pl25, ti_sb23, ti_sb68, ti_sl22, ti_sl23, ti_sl64, ti_sl68, ti_sz25, ti_sz35, ti_zr25, ti_zr35, ti_zv68, itD, itV, rlV, rowD, rlD, hf, hpl, Option.getD_some, Option.isSome_some]; apply regJ (Kv := Kv); intro hj)
          | ((first | with_reducible refine AWp_regro mu_15 ks_15 ro_15 ?_ | with_reducible refine AWp_regC mu_15 ks_15 ?_ | with_reducible refine AWp_drawM xm_15 mu_15 ks_15 (by decide) ti_mixed (by kernel_rfl) ?_); intro Kv hKv; simp (dsimp := false) only [go_sem, Nat.reduceAdd, Nat.reduceBEq, Nat.reduceEqDiff, Nat.reduceLT, Nat.reduceLeDiff, Nat.reduceMul, Int.reduceToNat, reduceCtorEq, ↓reduceIte, Tryd.ntmps15, Tryd.results15, ks_15, mu_15, xm_15, ro_15, ti_ag3, ti_ag23, ti_ag25, ti_ag35, ti_ag68, ti_fl25_1, ti_hb43, ti_hb44, ti_hb45, ti_hb46, ti_ky35, ti_mp67, ti_pl25, ti_sb23, ti_sb68, ti_sl22, ti_sl23, ti_sl64, ti_sl68, ti_sz25, ti_sz35, ti_zr25, ti_zr35, ti_zv68, itD, itV, rlV, rowD, rlD, hf, hpl, Option.getD_some, Option.isSome_some])
          | with_reducible refine AWp_skipN ?_
          | with_reducible refine AWp_exitO (by repeat (first | with_reducible exact Out.hit | with_reducible apply Out.thenA | with_reducible apply Out.out rfl)) ?_
          | (with_reducible refine AWp_retR ?_; simp (dsimp := false) only [go_sem, Nat.reduceAdd, Nat.reduceBEq, Nat.reduceEqDiff, Nat.reduceLT, Nat.reduceLeDiff, Nat.reduceMul, Int.reduceToNat, reduceCtorEq, ↓reduceIte, Tryd.ntmps15, Tryd.results15, ks_15, mu_15, xm_15, ro_15, ti_ag3, ti_ag23, ti_ag25, ti_ag35, ti_ag68, ti_fl25_1, ti_hb43, ti_hb44, ti_hb45, ti_hb46, ti_ky35, ti_mp67, ti_pl25, ti_sb23, ti_sb68, ti_sl22, ti_sl23, ti_sl64, ti_sl68, ti_sz25, ti_sz35, ti_zr25, ti_zr35, ti_zv68, itD, itV, rlV, rowD, rlD, hf, hpl, Option.getD_some, Option.isSome_some])
          | (with_reducible refine AWp_regE mu_15 ks_15 ?_; intro Kv hKv; simp (dsimp := false) only [go_sem, Nat.reduceAdd, Nat.reduceBEq, Nat.reduceEqDiff, Nat.reduceLT, Nat.reduceLeDiff, Nat.reduceMul, Int.reduceToNat, reduceCtorEq, ↓reduceIte, Tryd.ntmps15, Tryd.results15, ks_15, mu_15, xm_15, ro_15, ti_ag3, ti_ag23, ti_ag25, ti_ag35, ti_ag68, ti_fl25_1, ti_hb43, ti_hb44, ti_hb45, ti_hb46, ti_ky35, ti_mp67, ti_pl25, ti_sb23, ti_sb68, ti_sl22, ti_sl23, ti_sl64, ti_sl68, ti_sz25, ti_sz35, ti_zr25, ti_zr35, ti_zv68, itD, itV, rlV, rowD, rlD, hf, hpl, Option.getD_some, Option.isSome_some])
          | (refine AWp_condC rfl ?_; intro KA KB hKA hKB; try simp only [onB_true, onB_false, onB_dec, onB_ndec, onB_not, onB_and, onB_or])
          | (refine AWp_condA rfl ?_ ?_)
          | ((first | refine relCheck_A r hS _ _ ?_ | refine QCall_of (relCheck_A r hS _ _ (Two_intro _ _)) ?_ | refine places_A r hS [part, col] (by simp) _ _ ?_ | refine QCall_of (places_A r hS [part, col] (by simp) _ _ (Two_intro _ _)) ?_); try simp (dsimp := false) only [go_sem, Nat.reduceAdd, Nat.reduceBEq, Nat.reduceEqDiff, Nat.reduceLT, Nat.reduceLeDiff, Nat.reduceMul, Int.reduceToNat, reduceCtorEq, ↓reduceIte, Tryd.ntmps15, Tryd.results15, ks_15, mu_15, xm_15, ro_15, ti_ag3, ti_ag23, ti_ag25, ti_ag35, ti_ag68, ti_fl25_1, ti_hb43, ti_hb44, ti_hb45, ti_hb46, ti_ky35, ti_mp67, ti_pl25, ti_sb23, ti_sb68, ti_sl22, ti_sl23, ti_sl64, ti_sl68, ti_sz25, ti_sz35, ti_zr25, ti_zr35, ti_zv68, itD, itV, rlV, rowD, rlD, hf, hpl, Option.getD_some, Option.isSome_some])
          | with_reducible refine onB_of ?_ ?_
          | with_reducible rfl
          | omega)
        all_goals
          refine AWp_whileH (fun i : Nat => i ≤ r.rows.length)
            (fun i => [(1, .d (.s name)), (2, .d (.s part)), (3, .d (.s which)), (10, .pt H.length 0 0 0), (13, .d (.sl 1 [intRow p, intRow q])), (15, .mo (H.length + 1) 0), (16, .os (H.length + 2) (allG (grpPairs p q (r.rows.take i))).length), (60, .d (.sl 1 (r.rows.map rowD))), (61, .d (.i .i64 r.rows.length)), (62, .d (.i .i64 i))])
            (fun i => .row 0 25 2 [[.d (.c (.slice none 0 0)), .d (.c (.slice none 0 0))]] :: .row 0 67 0 [[.mp [.i .i64, .i .i64, .s] (gKs (allG (grpPairs p q (r.rows.take i)))) (gVs (H.length + 3) (allG (grpPairs p q (r.rows.take i))))]] :: .row (allG (grpPairs p q (r.rows.take i))).length 35 3 (((allG (grpPairs p q (r.rows.take i))).map (·.1)).map itC) :: gObs 35 3 itC (allG (grpPairs p q (r.rows.take i)))) (fun i => r.rows.length - i) 0 (Nat.zero_le _) rfl ?_ ?_ ?_
          · simp (dsimp := false) only [go_sem, Nat.reduceAdd, Nat.reduceBEq, Nat.reduceEqDiff, Nat.reduceLT, Nat.reduceLeDiff, Nat.reduceMul, Int.reduceToNat, reduceCtorEq, ↓reduceIte, Tryd.ntmps15, Tryd.results15, ks_15, mu_15, xm_15, ro_15, ti_ag3, ti_ag23, ti_ag25, ti_ag35, ti_ag68, ti_fl25_1, ti_hb43, ti_hb44, ti_hb45, ti_hb46, ti_ky35, ti_mp67, ti_pl25, ti_sb23, ti_sb68, ti_sl22, ti_sl23, ti_sl64, ti_sl68, ti_sz25, ti_sz35, ti_zr25, ti_zr35, ti_zv68, itD, itV, rlV, rowD, rlD, hf, hpl, Option.getD_some, Option.isSome_some]
            first | done | (simp [grpPairs, allG]; done)
          · rintro i _ ob hob
            exact grp_bel (by simp [gObs_len]; omega) ob hob
          rintro i hi
          by_cases hiN : i < r.rows.length
          · obtain ⟨row, hrow⟩ : ∃ row, r.rows[i]? = some row := ⟨r.rows[i], List.getElem?_eq_getElem hiN⟩
            have hiT : ((i : Int) < (r.rows.length : Int)) = True := eq_true (by omega)
            have hrl := (hall row (List.mem_of_getElem? hrow)).1
            obtain ⟨k, hkx⟩ : ∃ k, row[p]? = some k := ⟨row[p]'(by omega), List.getElem?_eq_getElem (by omega)⟩
            obtain ⟨y, hyx⟩ : ∃ y, row[q]? = some y := ⟨row[q]'(by omega), List.getElem?_eq_getElem (by omega)⟩
            have hgk := rg_get hkx
            have hgy := rg_get hyx
            have hT : allG (grpPairs p q (r.rows.take (i + 1))) = putG (allG (grpPairs p q (r.rows.take i))) k y := by rw [grpPairs_take hrow, allG_app, hgk, hgy]
            have hne := allG_ne (grpPairs p q (r.rows.take i))
            have hvl : (valG (allG (grpPairs p q (r.rows.take i))) k).length ≤ 1000000 := by
              have := grpVal_len p q (r.rows.take i) k
              rw [grpVal, List.length_take] at this
              omega
            have hGl : (allG (grpPairs p q (r.rows.take i))).length ≤ 1000000 := by
              have h1 := allG_len (grpPairs p q (r.rows.take i))
              have h2 : (grpPairs p q (r.rows.take i)).length = (r.rows.take i).length := by simp [grpPairs]
              rw [h2, List.length_take] at h1
              omega
            generalize allG (grpPairs p q (r.rows.take i)) = G at hT hne hvl hGl ⊢
            have oc : ∀ X, (gObs 35 3 itC G ++ [X])[G.length]? = some X := fun X => by rw [List.getElem?_append_right (by rw [gObs_len]; omega), gObs_len, Nat.sub_self]; rfl
            have od : ∀ X Y, (gObs 35 3 itC G ++ [X]).set G.length Y = gObs 35 3 itC G ++ [Y] := fun X Y => by rw [List.set_append_right _ _ (by rw [gObs_len]; omega), gObs_len, Nat.sub_self]; rfl
            cases hj : atG G k with
            | some j =>
              obtain ⟨l, hl, hjl⟩ := atG_lt hj
              rw [valG_ne hj hl] at hvl
              have hln := hne _ (List.mem_of_getElem? hl)
              have hmn : (List.map itC l = []) = False := eq_false fun h => hln (by simpa using h)
              obtain ⟨m1, m2, m3, m4⟩ := g_hit (H.length + 3) (V.d (.c (.slice none 0 0))) hj hl
              simp only [itD] at m1 m2 m3 m4
              have o1 : ∀ A M L, (H ++ A :: M :: L :: gObs 35 3 itC G)[H.length + 3 + j]? = some (Ob.row (l.length - 1) 35 3 (l.map itC)) := fun A M L => hget_3 (gObs_get _ _ _ hl)
              have o2 : ∀ A M L X, (H ++ A :: M :: L :: gObs 35 3 itC G).set (H.length + 3 + j) X = H ++ A :: M :: L :: (gObs 35 3 itC G).set j X := fun A M L X => hset_3
              have p1 := gKs_put_hit y hj
              have p2 := gVs_put_hit (H.length + 3) y hln hj hl
              have p3 := gObs_put_hit 35 3 itC y hln hj hl
              have p4 := putG_keys G k y
              rw [if_pos (List.mem_map.2 ⟨_, List.mem_of_getElem? hl, rfl⟩)] at p4
              have p5 := putG_hit_len G k y j hj
              
              repeat' (first
                | exact hj
                | with_reducible refine And.intro ?_ ?_
                | with_reducible intro _
                | with_reducible refine AWp_seq ?_
                | with_reducible refine AWp_block ?_
                | (with_reducible refine hKv _ _ (AWp_nop ?_); clear hKv Kv)
                | (with_reducible refine hKv _ _ ?_; clear hKv Kv; simp (dsimp := false) only [go_sem, Nat.reduceAdd, Nat.reduceBEq, Nat.reduceEqDiff, Nat.reduceLT, Nat.reduceLeDiff, Nat.reduceMul, Int.reduceToNat, reduceCtorEq, ↓reduceIte, Tryd.ntmps15, Tryd.results15, ks_15, mu_15, xm_15, ro_15, ti_ag3, ti_ag23, ti_ag25, ti_ag35, ti_ag68, ti_fl25_1, ti_hb43, ti_hb44, ti_hb45, ti_hb46, ti_ky35, ti_mp67, ti_pl25, ti_sb23, ti_sb68, ti_sl22, ti_sl23, ti_sl64, ti_sl68, ti_sz25, ti_sz35, ti_zr25, ti_zr35, ti_zv68, itD, itV, rlV, rowD, rlD, hiT, hrow, hkx, hyx, oc, od, itC, roP_O (gObs_len 35 3 itC G).symm, m1, m2, m3, m4, o1, o2, gVs_len, gObs_len, hmn, ne_eq, not_false_eq_true])
                | (with_reducible refine hKA ?_; clear hKA hKB KA KB)
                | (with_reducible refine hKB ?_; clear hKA hKB KA KB)
                | (with_reducible refine AWp_regC (id := 4) mu_15 ks_15 ?_; intro Kv hKv; simp (dsimp := false) only [go_sem, Nat.reduceAdd, Nat.reduceBEq, Nat.reduceEqDiff, Nat.reduceLT, Nat.reduceLeDiff, Nat.reduceMul, Int.reduceToNat, reduceCtorEq, ↓reduceIte, Tryd.ntmps15, Tryd.results15, ks_15, mu_15, xm_15, ro_15, ti_ag3, ti_ag23, ti_ag25, ti_ag35, ti_ag68, ti_fl25_1, ti_hb43, ti_hb44, ti_hb45, ti_hb46, ti_ky35, ti_mp67, ti_pl25, ti_sb23, ti_sb68, ti_sl22, ti_sl23, ti_sl64, ti_sl68, ti_sz25, ti_sz35, ti_zr25, ti_zr35, ti_zv68, itD, itV, rlV, rowD, rlD, hiT, hrow, hkx, hyx, oc, od, itC, roP_O (gObs_len 35 3 itC G).symm, m1, m2, m3, m4, o1, o2, gVs_len, gObs_len, hmn, ne_eq, not_false_eq_true]; apply regJ (Kv := Kv); intro hj)
                | ((first | with_reducible refine AWp_regro mu_15 ks_15 ro_15 ?_ | with_reducible refine AWp_regC mu_15 ks_15 ?_ | with_reducible refine AWp_drawM xm_15 mu_15 ks_15 (by decide) ti_mixed (by kernel_rfl) ?_); intro Kv hKv; simp (dsimp := false) only [go_sem, Nat.reduceAdd, Nat.reduceBEq, Nat.reduceEqDiff, Nat.reduceLT, Nat.reduceLeDiff, Nat.reduceMul, Int.reduceToNat, reduceCtorEq, ↓reduceIte, Tryd.ntmps15, Tryd.results15, ks_15, mu_15, xm_15, ro_15, ti_ag3, ti_ag23, ti_ag25, ti_ag35, ti_ag68, ti_fl25_1, ti_hb43, ti_hb44, ti_hb45, ti_hb46, ti_ky35, ti_mp67, ti_pl25, ti_sb23, ti_sb68, ti_sl22, ti_sl23, ti_sl64, ti_sl68, ti_sz25, ti_sz35, ti_zr25, ti_zr35, ti_zv68, itD, itV, rlV, rowD, rlD, hiT, hrow, hkx, hyx, oc, od, itC, roP_O (gObs_len 35 3 itC G).symm, m1, m2, m3, m4, o1, o2, gVs_len, gObs_len, hmn, ne_eq, not_false_eq_true])
                | with_reducible refine AWp_skipN ?_
                | with_reducible refine AWp_exitO (by repeat (first | with_reducible exact Out.hit | with_reducible apply Out.thenA | with_reducible apply Out.out rfl)) ?_
                | (with_reducible refine AWp_retR ?_; simp (dsimp := false) only [go_sem, Nat.reduceAdd, Nat.reduceBEq, Nat.reduceEqDiff, Nat.reduceLT, Nat.reduceLeDiff, Nat.reduceMul, Int.reduceToNat, reduceCtorEq, ↓reduceIte, Tryd.ntmps15, Tryd.results15, ks_15, mu_15, xm_15, ro_15, ti_ag3, ti_ag23, ti_ag25, ti_ag35, ti_ag68, ti_fl25_1, ti_hb43, ti_hb44, ti_hb45, ti_hb46, ti_ky35, ti_mp67, ti_pl25, ti_sb23, ti_sb68, ti_sl22, ti_sl23, ti_sl64, ti_sl68, ti_sz25, ti_sz35, ti_zr25, ti_zr35, ti_zv68, itD, itV, rlV, rowD, rlD, hiT, hrow, hkx, hyx, oc, od, itC, roP_O (gObs_len 35 3 itC G).symm, m1, m2, m3, m4, o1, o2, gVs_len, gObs_len, hmn, ne_eq, not_false_eq_true])
                | (with_reducible refine AWp_regE mu_15 ks_15 ?_; intro Kv hKv; simp (dsimp := false) only [go_sem, Nat.reduceAdd, Nat.reduceBEq, Nat.reduceEqDiff, Nat.reduceLT, Nat.reduceLeDiff, Nat.reduceMul, Int.reduceToNat, reduceCtorEq, ↓reduceIte, Tryd.ntmps15, Tryd.results15, ks_15, mu_15, xm_15, ro_15, ti_ag3, ti_ag23, ti_ag25, ti_ag35, ti_ag68, ti_fl25_1, ti_hb43, ti_hb44, ti_hb45, ti_hb46, ti_ky35, ti_mp67, ti_pl25, ti_sb23, ti_sb68, ti_sl22, ti_sl23, ti_sl64, ti_sl68, ti_sz25, ti_sz35, ti_zr25, ti_zr35, ti_zv68, itD, itV, rlV, rowD, rlD, hiT, hrow, hkx, hyx, oc, od, itC, roP_O (gObs_len 35 3 itC G).symm, m1, m2, m3, m4, o1, o2, gVs_len, gObs_len, hmn, ne_eq, not_false_eq_true])
                | (refine AWp_condC rfl ?_; intro KA KB hKA hKB; try simp only [onB_true, onB_false, onB_dec, onB_ndec, onB_not, onB_and, onB_or])
                | (refine AWp_condA rfl ?_ ?_)
                | with_reducible refine onB_of ?_ ?_
                | with_reducible rfl
                | omega)
              all_goals first
                | omega
                | exact closed_app (grp_bel (by simp [gObs_len]; omega))
                | exact closed_app (grp_bel2 (by simp [gObs_len]; omega))
                | (refine ⟨i + 1, by omega, by omega, ?_, by omega, by omega, ?_, by omega, by omega⟩
                   · rw [hT, p1, p2, p3, p4, p5]; simp only [List.map_append, List.map_cons, List.map_nil, itC, itD]
                   · rw [hT, p5])
            | none =>
              obtain ⟨m1, m2, m3, m4⟩ := g_miss (H.length + 3) (V.d (.c (.slice none 0 0))) hj
              simp only [itD] at m1 m2 m3 m4
              have p1 := gKs_put_miss y hj
              have p2 := gVs_put_miss (H.length + 3) y hj
              have p3 := gObs_put_miss 35 3 itC y hj
              have p4 := putG_keys G k y
              rw [if_neg (atG_none.1 hj)] at p4
              have p5 := putG_keys_len G k y hj
              have e9 : (gVs (H.length + 3) G ++ [V.d (.c (.slice none 0 0))]).set G.length (V.os (H.length + (G.length + 1 + 1 + 1)) 0) = gVs (H.length + 3) G ++ [V.os (H.length + 3 + G.length) 0] := by
                rw [vset_last1 _ _ _ _ (gVs_len _ _).symm, show H.length + (G.length + 1 + 1 + 1) = H.length + 3 + G.length by omega]
              
              repeat' (first
                | exact hj
                | with_reducible refine And.intro ?_ ?_
                | with_reducible intro _
                | with_reducible refine AWp_seq ?_
                | with_reducible refine AWp_block ?_
                | (with_reducible refine hKv _ _ (AWp_nop ?_); clear hKv Kv)
                | (with_reducible refine hKv _ _ ?_; clear hKv Kv; simp (dsimp := false) only [go_sem, Nat.reduceAdd, Nat.reduceBEq, Nat.reduceEqDiff, Nat.reduceLT, Nat.reduceLeDiff, Nat.reduceMul, Int.reduceToNat, reduceCtorEq, ↓reduceIte, Tryd.ntmps15, Tryd.results15, ks_15, mu_15, xm_15, ro_15, ti_ag3, ti_ag23, ti_ag25, ti_ag35, ti_ag68, ti_fl25_1, ti_hb43, ti_hb44, ti_hb45, ti_hb46, ti_ky35, ti_mp67, ti_pl25, ti_sb23, ti_sb68, ti_sl22, ti_sl23, ti_sl64, ti_sl68, ti_sz25, ti_sz35, ti_zr25, ti_zr35, ti_zv68, itD, itV, rlV, rowD, rlD, hiT, hrow, hkx, hyx, oc, od, itC, roP_O (gObs_len 35 3 itC G).symm, m1, m2, m3, m4, gVs_len, gObs_len])
                | (with_reducible refine hKA ?_; clear hKA hKB KA KB)
                | (with_reducible refine hKB ?_; clear hKA hKB KA KB)
                | (with_reducible refine AWp_regC (id := 4) mu_15 ks_15 ?_; intro Kv hKv; simp (dsimp := false) only [go_sem, Nat.reduceAdd, Nat.reduceBEq, Nat.reduceEqDiff, Nat.reduceLT, Nat.reduceLeDiff, Nat.reduceMul, Int.reduceToNat, reduceCtorEq, ↓reduceIte, Tryd.ntmps15, Tryd.results15, ks_15, mu_15, xm_15, ro_15, ti_ag3, ti_ag23, ti_ag25, ti_ag35, ti_ag68, ti_fl25_1, ti_hb43, ti_hb44, ti_hb45, ti_hb46, ti_ky35, ti_mp67, ti_pl25, ti_sb23, ti_sb68, ti_sl22, ti_sl23, ti_sl64, ti_sl68, ti_sz25, ti_sz35, ti_zr25, ti_zr35, ti_zv68, itD, itV, rlV, rowD, rlD, hiT, hrow, hkx, hyx, oc, od, itC, roP_O (gObs_len 35 3 itC G).symm, m1, m2, m3, m4, gVs_len, gObs_len]; apply regJ (Kv := Kv); intro hj)
                | ((first | with_reducible refine AWp_regro mu_15 ks_15 ro_15 ?_ | with_reducible refine AWp_regC mu_15 ks_15 ?_ | with_reducible refine AWp_drawM xm_15 mu_15 ks_15 (by decide) ti_mixed (by kernel_rfl) ?_); intro Kv hKv; simp (dsimp := false) only [go_sem, Nat.reduceAdd, Nat.reduceBEq, Nat.reduceEqDiff, Nat.reduceLT, Nat.reduceLeDiff, Nat.reduceMul, Int.reduceToNat, reduceCtorEq, ↓reduceIte, Tryd.ntmps15, Tryd.results15, ks_15, mu_15, xm_15, ro_15, ti_ag3, ti_ag23, ti_ag25, ti_ag35, ti_ag68, ti_fl25_1, ti_hb43, ti_hb44, ti_hb45, ti_hb46, ti_ky35, ti_mp67, ti_pl25, ti_sb23, ti_sb68, ti_sl22, ti_sl23, ti_sl64, ti_sl68, ti_sz25, ti_sz35, ti_zr25, ti_zr35, ti_zv68, itD, itV, rlV, rowD, rlD, hiT, hrow, hkx, hyx, oc, od, itC, roP_O (gObs_len 35 3 itC G).symm, m1, m2, m3, m4, gVs_len, gObs_len])
                | with_reducible refine AWp_skipN ?_
                | with_reducible refine AWp_exitO (by repeat (first | with_reducible exact Out.hit | with_reducible apply Out.thenA | with_reducible apply Out.out rfl)) ?_
                | (with_reducible refine AWp_retR ?_; simp (dsimp := false) only [go_sem, Nat.reduceAdd, Nat.reduceBEq, Nat.reduceEqDiff, Nat.reduceLT, Nat.reduceLeDiff, Nat.reduceMul, Int.reduceToNat, reduceCtorEq, ↓reduceIte, Tryd.ntmps15, Tryd.results15, ks_15, mu_15, xm_15, ro_15, ti_ag3, ti_ag23, ti_ag25, ti_ag35, ti_ag68, ti_fl25_1, ti_hb43, ti_hb44, ti_hb45, ti_hb46, ti_ky35, ti_mp67, ti_pl25, ti_sb23, ti_sb68, ti_sl22, ti_sl23, ti_sl64, ti_sl68, ti_sz25, ti_sz35, ti_zr25, ti_zr35, ti_zv68, itD, itV, rlV, rowD, rlD, hiT, hrow, hkx, hyx, oc, od, itC, roP_O (gObs_len 35 3 itC G).symm, m1, m2, m3, m4, gVs_len, gObs_len])
                | (with_reducible refine AWp_regE mu_15 ks_15 ?_; intro Kv hKv; simp (dsimp := false) only [go_sem, Nat.reduceAdd, Nat.reduceBEq, Nat.reduceEqDiff, Nat.reduceLT, Nat.reduceLeDiff, Nat.reduceMul, Int.reduceToNat, reduceCtorEq, ↓reduceIte, Tryd.ntmps15, Tryd.results15, ks_15, mu_15, xm_15, ro_15, ti_ag3, ti_ag23, ti_ag25, ti_ag35, ti_ag68, ti_fl25_1, ti_hb43, ti_hb44, ti_hb45, ti_hb46, ti_ky35, ti_mp67, ti_pl25, ti_sb23, ti_sb68, ti_sl22, ti_sl23, ti_sl64, ti_sl68, ti_sz25, ti_sz35, ti_zr25, ti_zr35, ti_zv68, itD, itV, rlV, rowD, rlD, hiT, hrow, hkx, hyx, oc, od, itC, roP_O (gObs_len 35 3 itC G).symm, m1, m2, m3, m4, gVs_len, gObs_len])
                | (refine AWp_condC rfl ?_; intro KA KB hKA hKB; try simp only [onB_true, onB_false, onB_dec, onB_ndec, onB_not, onB_and, onB_or])
                | (refine AWp_condA rfl ?_ ?_)
                | with_reducible refine onB_of ?_ ?_
                | with_reducible rfl
                | omega)
              all_goals first
                | omega
                | exact closed_app (grp_bel (by simp [gObs_len]; omega))
                | exact closed_app (grp_bel2 (by simp [gObs_len]; omega))
                | (refine ⟨i + 1, by omega, by omega, ?_, by omega, by omega, ?_, by omega, by omega⟩
                   · rw [hT, p1, p2, p3, p4, p5, e9]; simp only [List.map_append, List.map_cons, List.map_nil, itC, itD]
                   · rw [hT, p5])
          · have e : i = r.rows.length := by omega
            subst e
            rw [List.take_length]
            have hnl : ((r.rows.length : Int) < (r.rows.length : Int)) = False := eq_false (by omega)
            
            repeat' (first
              | exact hj
              | with_reducible refine And.intro ?_ ?_
              | with_reducible intro _
              | with_reducible refine AWp_seq ?_
              | with_reducible refine AWp_block ?_
              | (with_reducible refine hKv _ _ (AWp_nop ?_); clear hKv Kv)
              | (with_reducible refine hKv _ _ ?_; clear hKv Kv; simp (dsimp := false) only [go_sem, Nat.reduceAdd, Nat.reduceBEq, Nat.reduceEqDiff, Nat.reduceLT, Nat.reduceLeDiff, Nat.reduceMul, Int.reduceToNat, reduceCtorEq, ↓reduceIte, Tryd.ntmps15, Tryd.results15, ks_15, mu_15, xm_15, ro_15, ti_ag3, ti_ag23, ti_ag25, ti_ag35, ti_ag68, ti_fl25_1, ti_hb43, ti_hb44, ti_hb45, ti_hb46, ti_ky35, ti_mp67, ti_pl25, ti_sb23, ti_sb68, ti_sl22, ti_sl23, ti_sl64, ti_sl68, ti_sz25, ti_sz35, ti_zr25, ti_zr35, ti_zv68, itD, itV, rlV, rowD, rlD, gObs_len, hnl])
              | (with_reducible refine hKA ?_; clear hKA hKB KA KB)
              | (with_reducible refine hKB ?_; clear hKA hKB KA KB)
              | (with_reducible refine AWp_regC (id := 4) mu_15 ks_15 ?_; intro Kv hKv; simp (dsimp := false) only [go_sem, Nat.reduceAdd, Nat.reduceBEq, Nat.reduceEqDiff, Nat.reduceLT, Nat.reduceLeDiff, Nat.reduceMul, Int.reduceToNat, reduceCtorEq, ↓reduceIte, Tryd.ntmps15, Tryd.results15, ks_15, mu_15, xm_15, ro_15, ti_ag3, ti_ag23, ti_ag25, ti_ag35, ti_ag68, ti_fl25_1, ti_hb43, ti_hb44, ti_hb45, ti_hb46, ti_ky35, ti_mp67, ti_pl25, ti_sb23, ti_sb68, ti_sl22, ti_sl23, ti_sl64, ti_sl68, ti_sz25, ti_sz35, ti_zr25, ti_zr35, ti_zv68, itD, itV, rlV, rowD, rlD, gObs_len, hnl]; apply regJ (Kv := Kv); intro hj)
              | ((first | with_reducible refine AWp_regro mu_15 ks_15 ro_15 ?_ | with_reducible refine AWp_regC mu_15 ks_15 ?_ | with_reducible refine AWp_drawM xm_15 mu_15 ks_15 (by decide) ti_mixed (by kernel_rfl) ?_); intro Kv hKv; simp (dsimp := false) only [go_sem, Nat.reduceAdd, Nat.reduceBEq, Nat.reduceEqDiff, Nat.reduceLT, Nat.reduceLeDiff, Nat.reduceMul, Int.reduceToNat, reduceCtorEq, ↓reduceIte, Tryd.ntmps15, Tryd.results15, ks_15, mu_15, xm_15, ro_15, ti_ag3, ti_ag23, ti_ag25, ti_ag35, ti_ag68, ti_fl25_1, ti_hb43, ti_hb44, ti_hb45, ti_hb46, ti_ky35, ti_mp67, ti_pl25, ti_sb23, ti_sb68, ti_sl22, ti_sl23, ti_sl64, ti_sl68, ti_sz25, ti_sz35, ti_zr25, ti_zr35, ti_zv68, itD, itV, rlV, rowD, rlD, gObs_len, hnl])
              | with_reducible refine AWp_skipN ?_
              | with_reducible refine AWp_exitO (by repeat (first | with_reducible exact Out.hit | with_reducible apply Out.thenA | with_reducible apply Out.out rfl)) ?_
              | (with_reducible refine AWp_retR ?_; simp (dsimp := false) only [go_sem, Nat.reduceAdd, Nat.reduceBEq, Nat.reduceEqDiff, Nat.reduceLT, Nat.reduceLeDiff, Nat.reduceMul, Int.reduceToNat, reduceCtorEq, ↓reduceIte, Tryd.ntmps15, Tryd.results15, ks_15, mu_15, xm_15, ro_15, ti_ag3, ti_ag23, ti_ag25, ti_ag35, ti_ag68, ti_fl25_1, ti_hb43, ti_hb44, ti_hb45, ti_hb46, ti_ky35, ti_mp67, ti_pl25, ti_sb23, ti_sb68, ti_sl22, ti_sl23, ti_sl64, ti_sl68, ti_sz25, ti_sz35, ti_zr25, ti_zr35, ti_zv68, itD, itV, rlV, rowD, rlD, gObs_len, hnl])
              | (with_reducible refine AWp_regE mu_15 ks_15 ?_; intro Kv hKv; simp (dsimp := false) only [go_sem, Nat.reduceAdd, Nat.reduceBEq, Nat.reduceEqDiff, Nat.reduceLT, Nat.reduceLeDiff, Nat.reduceMul, Int.reduceToNat, reduceCtorEq, ↓reduceIte, Tryd.ntmps15, Tryd.results15, ks_15, mu_15, xm_15, ro_15, ti_ag3, ti_ag23, ti_ag25, ti_ag35, ti_ag68, ti_fl25_1, ti_hb43, ti_hb44, ti_hb45, ti_hb46, ti_ky35, ti_mp67, ti_pl25, ti_sb23, ti_sb68, ti_sl22, ti_sl23, ti_sl64, ti_sl68, ti_sz25, ti_sz35, ti_zr25, ti_zr35, ti_zv68, itD, itV, rlV, rowD, rlD, gObs_len, hnl])
              | (refine AWp_condC rfl ?_; intro KA KB hKA hKB; try simp only [onB_true, onB_false, onB_dec, onB_ndec, onB_not, onB_and, onB_or])
              | (refine AWp_condA rfl ?_ ?_)
              | with_reducible refine onB_of ?_ ?_
              | with_reducible rfl
              | omega)
            obtain ⟨G, hG⟩ : ∃ G, allG (grpPairs p q r.rows) = G := ⟨_, rfl⟩
            rw [hG]
            have hne := allG_ne (grpPairs p q r.rows)
            rw [hG] at hne
            have hval : ∀ k, grpVal p q r.rows k = valG G k := fun k => by rw [grpVal, hG]
            have hkeys : grpKeys p q r.rows = G.map (·.1) := by rw [grpKeys, hG]
            have hGl : G.length ≤ 1000000 := by
              have := grpKeys_len p q r.rows
              rw [hkeys, List.length_map] at this
              omega
            rw [hkeys] at hk
            have o3 : ∀ A M L X, (H ++ A :: M :: L :: (gObs 35 3 itC G ++ [X]))[H.length + (G.length + 1 + 1 + 1)]? = some X := fun A M L X => by
              rw [List.getElem?_append_right (by omega), show H.length + (G.length + 1 + 1 + 1) - H.length = G.length + 3 by omega]
              simp [gObs_len]
            have o4 : ∀ A M L X Y, (H ++ A :: M :: L :: (gObs 35 3 itC G ++ [X])).set (H.length + (G.length + 1 + 1 + 1)) Y = H ++ A :: M :: L :: (gObs 35 3 itC G ++ [Y]) := fun A M L X Y => by
              rw [List.set_append_right _ _ (by omega), show H.length + (G.length + 1 + 1 + 1) - H.length = G.length + 3 by omega]
              simp only [List.set_cons_succ]
              rw [List.set_append_right _ _ (by rw [gObs_len]; omega), gObs_len, Nat.sub_self]
              rfl
            have oc : ∀ R X, (gObs 35 3 itC G ++ [R, X])[G.length + 1]? = some X := fun R X => by rw [List.getElem?_append_right (by rw [gObs_len]; omega), gObs_len, Nat.add_sub_cancel_left]; rfl
            have od : ∀ R X Y, (gObs 35 3 itC G ++ [R, X]).set (G.length + 1) Y = gObs 35 3 itC G ++ [R, Y] := fun R X Y => by rw [List.set_append_right _ _ (by rw [gObs_len]; omega), gObs_len, Nat.add_sub_cancel_left]; rfl
            have hcs2 : ∀ s, s ∈ [part, name] → s.length ≤ 1048576 := fun s hs => by
              simp at hs
              rcases hs with rfl | rfl <;> omega
            refine AWp_whileH (fun z : Nat × List (List It) => z.1 ≤ G.length ∧ z.2.length = z.1 ∧ grpGo which (grpVal p q r.rows) ((G.map (·.1)).drop z.1) z.2 = grpGo which (grpVal p q r.rows) (G.map (·.1)) [])
              (fun z => [(1, .d (.s name)), (2, .d (.s part)), (3, .d (.s which)), (10, .pt H.length 0 0 0), (15, .mo (H.length + 1) 0), (20, .os (H.length + (G.length + 1 + 1 + 1)) z.2.length), (94, .os (H.length + 2) G.length), (95, .d (.i .i64 G.length)), (96, .d (.i .i64 z.1))])
              (fun z => .row 0 25 2 [[.d (.c (.slice none 0 0)), .d (.c (.slice none 0 0))]] :: .row 0 67 0 [[.mp [.i .i64, .i .i64, .s] (gKs G) (gVs (H.length + 3) G)]] :: .row G.length 35 3 ((G.map (·.1)).map itC) :: (gObs 35 3 itC G ++ [.row z.2.length 68 1 (z.2.map rowC)])) (fun z => G.length - z.1) (0, []) ⟨Nat.zero_le _, rfl, rfl⟩ ?_ ?_ ?_ ?_
            · first | rfl | (simp; done)
            · simp (dsimp := false) only [go_sem, Nat.reduceAdd, Nat.reduceBEq, Nat.reduceEqDiff, Nat.reduceLT, Nat.reduceLeDiff, Nat.reduceMul, Int.reduceToNat, reduceCtorEq, ↓reduceIte, Tryd.ntmps15, Tryd.results15, ks_15, mu_15, xm_15, ro_15, ti_ag3, ti_ag23, ti_ag25, ti_ag35, ti_ag68, ti_fl25_1, ti_hb43, ti_hb44, ti_hb45, ti_hb46, ti_ky35, ti_mp67, ti_pl25, ti_sb23, ti_sb68, ti_sl22, ti_sl23, ti_sl64, ti_sl68, ti_sz25, ti_sz35, ti_zr25, ti_zr35, ti_zv68, itD, itV, rlV, rowD, rlD, gObs_len, hnl]
              first | done | omega | simp
            · rintro ⟨i, acc⟩ _ ob hob
              exact grp_bel2 (by simp [gObs_len]; omega) ob hob
            rintro ⟨i, acc⟩ ⟨h1, h2, h3⟩
            simp only [] at h1 h2 h3 ⊢
            by_cases hiG : i < G.length
            · have hiT : ((i : Int) < (G.length : Int)) = True := eq_true (by omega)
              obtain ⟨⟨k, l0⟩, hGi⟩ : ∃ g, G[i]? = some g := ⟨G[i], List.getElem?_eq_getElem hiG⟩
              have hki : (G.map (·.1))[i]? = some k := by rw [List.getElem?_map, hGi]; rfl
              obtain ⟨j, hj⟩ := atG_mem (List.mem_of_getElem? hki)
              obtain ⟨l, hl, hjl⟩ := atG_lt hj
              have hvG : grpVal p q r.rows k = l := by rw [hval]; exact valG_ne hj hl
              have hvl := grpVal_len p q r.rows k
              rw [hvG] at hvl
              have hbl : ∀ x, x ∈ l → itemB x = true := fun x hx => by
                rw [← hvG] at hx
                refine grpVal_it (Q := fun x => itemB x = true) (fun row hrow => ?_) x hx
                have hr2 := hall row hrow
                have hq2 : q < row.length := by omega
                rw [rg_get (List.getElem?_eq_getElem hq2)]
                exact List.all_eq_true.1 hr2.2 _ (List.getElem_mem hq2)
              rw [grpGo_next hki, hvG] at h3
              obtain ⟨m1, _⟩ := g_hit (H.length + 3) (V.d (.c (.slice none 0 0))) hj hl
              simp only [itD] at m1
              have o5 : ∀ A M L X, (H ++ A :: M :: L :: (gObs 35 3 itC G ++ [X]))[H.length + 3 + j]? = some (Ob.row (l.length - 1) 35 3 (l.map itC)) := fun A M L X => hget_3 (by rw [List.getElem?_append_left (by rw [gObs_len]; exact hjl)]; exact gObs_get _ _ _ hl)
              cases ha : aggOf which l with
              | none =>
                have haR : aggR which l = .tu [itV ⟨0, 0, []⟩, .d (.b false)] := by rw [aggR, ha]
                rw [ha] at h3
                rw [← h3] at hk
                
                repeat' (first
                  | exact hj
                  | with_reducible refine And.intro ?_ ?_
                  | with_reducible intro _
                  | with_reducible refine AWp_seq ?_
                  | with_reducible refine AWp_block ?_
                  | (with_reducible refine hKv _ _ (AWp_nop ?_); clear hKv Kv)
                  | (with_reducible refine hKv _ _ ?_; clear hKv Kv; simp (dsimp := false) only [go_sem, Nat.reduceAdd, Nat.reduceBEq, Nat.reduceEqDiff, Nat.reduceLT, Nat.reduceLeDiff, Nat.reduceMul, Int.reduceToNat, reduceCtorEq, ↓reduceIte, Tryd.ntmps15, Tryd.results15, ks_15, mu_15, xm_15, ro_15, ti_ag3, ti_ag23, ti_ag25, ti_ag35, ti_ag68, ti_fl25_1, ti_hb43, ti_hb44, ti_hb45, ti_hb46, ti_ky35, ti_mp67, ti_pl25, ti_sb23, ti_sb68, ti_sl22, ti_sl23, ti_sl64, ti_sl68, ti_sz25, ti_sz35, ti_zr25, ti_zr35, ti_zv68, itD, itV, rlV, rowD, rlD, hiT, hGi, m1, oc, od, itC, roP_O2 (gObs_len 35 3 itC G).symm, roP_O3 (gObs_len 35 3 itC G).symm, o3, o4, o5, gVs_len, gObs_len, haR])
                  | (with_reducible refine hKA ?_; clear hKA hKB KA KB)
                  | (with_reducible refine hKB ?_; clear hKA hKB KA KB)
                  | (with_reducible refine AWp_regC (id := 4) mu_15 ks_15 ?_; intro Kv hKv; simp (dsimp := false) only [go_sem, Nat.reduceAdd, Nat.reduceBEq, Nat.reduceEqDiff, Nat.reduceLT, Nat.reduceLeDiff, Nat.reduceMul, Int.reduceToNat, reduceCtorEq, ↓reduceIte, Tryd.ntmps15, Tryd.results15, ks_15, mu_15, xm_15, ro_15, ti_ag3, ti_ag23, ti_ag25, ti_ag35, ti_ag68, ti_fl25_1, ti_hb43, ti_hb44, ti_hb45, ti_hb46, ti_ky35, ti_mp67, ti_pl25, ti_sb23, ti_sb68, ti_sl22, ti_sl23, ti_sl64, ti_sl68, ti_sz25, ti_sz35, ti_zr25, ti_zr35, ti_zv68, itD, itV, rlV, rowD, rlD, hiT, hGi, m1, oc, od, itC, roP_O2 (gObs_len 35 3 itC G).symm, roP_O3 (gObs_len 35 3 itC G).symm, o3, o4, o5, gVs_len, gObs_len, haR]; apply regJ (Kv := Kv); intro hj)
                  | ((first | with_reducible refine AWp_regro mu_15 ks_15 ro_15 ?_ | with_reducible refine AWp_regC mu_15 ks_15 ?_ | with_reducible refine AWp_drawM xm_15 mu_15 ks_15 (by decide) ti_mixed (by kernel_rfl) ?_); intro Kv hKv; simp (dsimp := false) only [go_sem, Nat.reduceAdd, Nat.reduceBEq, Nat.reduceEqDiff, Nat.reduceLT, Nat.reduceLeDiff, Nat.reduceMul, Int.reduceToNat, reduceCtorEq, ↓reduceIte, Tryd.ntmps15, Tryd.results15, ks_15, mu_15, xm_15, ro_15, ti_ag3, ti_ag23, ti_ag25, ti_ag35, ti_ag68, ti_fl25_1, ti_hb43, ti_hb44, ti_hb45, ti_hb46, ti_ky35, ti_mp67, ti_pl25, ti_sb23, ti_sb68, ti_sl22, ti_sl23, ti_sl64, ti_sl68, ti_sz25, ti_sz35, ti_zr25, ti_zr35, ti_zv68, itD, itV, rlV, rowD, rlD, hiT, hGi, m1, oc, od, itC, roP_O2 (gObs_len 35 3 itC G).symm, roP_O3 (gObs_len 35 3 itC G).symm, o3, o4, o5, gVs_len, gObs_len, haR])
                  | with_reducible refine AWp_skipN ?_
                  | with_reducible refine AWp_exitO (by repeat (first | with_reducible exact Out.hit | with_reducible apply Out.thenA | with_reducible apply Out.out rfl)) ?_
                  | (with_reducible refine AWp_retR ?_; simp (dsimp := false) only [go_sem, Nat.reduceAdd, Nat.reduceBEq, Nat.reduceEqDiff, Nat.reduceLT, Nat.reduceLeDiff, Nat.reduceMul, Int.reduceToNat, reduceCtorEq, ↓reduceIte, Tryd.ntmps15, Tryd.results15, ks_15, mu_15, xm_15, ro_15, ti_ag3, ti_ag23, ti_ag25, ti_ag35, ti_ag68, ti_fl25_1, ti_hb43, ti_hb44, ti_hb45, ti_hb46, ti_ky35, ti_mp67, ti_pl25, ti_sb23, ti_sb68, ti_sl22, ti_sl23, ti_sl64, ti_sl68, ti_sz25, ti_sz35, ti_zr25, ti_zr35, ti_zv68, itD, itV, rlV, rowD, rlD, hiT, hGi, m1, oc, od, itC, roP_O2 (gObs_len 35 3 itC G).symm, roP_O3 (gObs_len 35 3 itC G).symm, o3, o4, o5, gVs_len, gObs_len, haR])
                  | (with_reducible refine AWp_regE mu_15 ks_15 ?_; intro Kv hKv; simp (dsimp := false) only [go_sem, Nat.reduceAdd, Nat.reduceBEq, Nat.reduceEqDiff, Nat.reduceLT, Nat.reduceLeDiff, Nat.reduceMul, Int.reduceToNat, reduceCtorEq, ↓reduceIte, Tryd.ntmps15, Tryd.results15, ks_15, mu_15, xm_15, ro_15, ti_ag3, ti_ag23, ti_ag25, ti_ag35, ti_ag68, ti_fl25_1, ti_hb43, ti_hb44, ti_hb45, ti_hb46, ti_ky35, ti_mp67, ti_pl25, ti_sb23, ti_sb68, ti_sl22, ti_sl23, ti_sl64, ti_sl68, ti_sz25, ti_sz35, ti_zr25, ti_zr35, ti_zv68, itD, itV, rlV, rowD, rlD, hiT, hGi, m1, oc, od, itC, roP_O2 (gObs_len 35 3 itC G).symm, roP_O3 (gObs_len 35 3 itC G).symm, o3, o4, o5, gVs_len, gObs_len, haR])
                  | (refine AWp_condC rfl ?_; intro KA KB hKA hKB; try simp only [onB_true, onB_false, onB_dec, onB_ndec, onB_not, onB_and, onB_or])
                  | (refine AWp_condA rfl ?_ ?_)
                  | ((first | refine aggregate_A which l _ _ _ hw (by omega) hbl _ _ (o5 _ _ _ _) ?_ | refine QCall_of (aggregate_A which l _ _ _ hw (by omega) hbl _ _ (o5 _ _ _ _) (Two_intro _ _)) ?_); try simp (dsimp := false) only [go_sem, Nat.reduceAdd, Nat.reduceBEq, Nat.reduceEqDiff, Nat.reduceLT, Nat.reduceLeDiff, Nat.reduceMul, Int.reduceToNat, reduceCtorEq, ↓reduceIte, Tryd.ntmps15, Tryd.results15, ks_15, mu_15, xm_15, ro_15, ti_ag3, ti_ag23, ti_ag25, ti_ag35, ti_ag68, ti_fl25_1, ti_hb43, ti_hb44, ti_hb45, ti_hb46, ti_ky35, ti_mp67, ti_pl25, ti_sb23, ti_sb68, ti_sl22, ti_sl23, ti_sl64, ti_sl68, ti_sz25, ti_sz35, ti_zr25, ti_zr35, ti_zv68, itD, itV, rlV, rowD, rlD, hiT, hGi, m1, oc, od, itC, roP_O2 (gObs_len 35 3 itC G).symm, roP_O3 (gObs_len 35 3 itC G).symm, o3, o4, o5, gVs_len, gObs_len, haR])
                  | with_reducible refine onB_of ?_ ?_
                  | with_reducible rfl
                  | omega)
                all_goals first
                  | omega
                  | exact closed_app (grp_bel (by simp [gObs_len]; omega))
                  | exact closed_app (grp_bel2 (by simp [gObs_len]; omega))
                  | exact dropF hk (fz_rl0 _ _ _) (bel_relE _ _ _)
              | some n =>
                have haR : aggR which l = .tu [itV ⟨2, n, []⟩, .d (.b true)] := by rw [aggR, ha]
                rw [ha] at h3
                
                repeat' (first
                  | exact hj
                  | with_reducible refine And.intro ?_ ?_
                  | with_reducible intro _
                  | with_reducible refine AWp_seq ?_
                  | with_reducible refine AWp_block ?_
                  | (with_reducible refine hKv _ _ (AWp_nop ?_); clear hKv Kv)
                  | (with_reducible refine hKv _ _ ?_; clear hKv Kv; simp (dsimp := false) only [go_sem, Nat.reduceAdd, Nat.reduceBEq, Nat.reduceEqDiff, Nat.reduceLT, Nat.reduceLeDiff, Nat.reduceMul, Int.reduceToNat, reduceCtorEq, ↓reduceIte, Tryd.ntmps15, Tryd.results15, ks_15, mu_15, xm_15, ro_15, ti_ag3, ti_ag23, ti_ag25, ti_ag35, ti_ag68, ti_fl25_1, ti_hb43, ti_hb44, ti_hb45, ti_hb46, ti_ky35, ti_mp67, ti_pl25, ti_sb23, ti_sb68, ti_sl22, ti_sl23, ti_sl64, ti_sl68, ti_sz25, ti_sz35, ti_zr25, ti_zr35, ti_zv68, itD, itV, rlV, rowD, rlD, hiT, hGi, m1, oc, od, itC, roP_O2 (gObs_len 35 3 itC G).symm, roP_O3 (gObs_len 35 3 itC G).symm, o3, o4, o5, gVs_len, gObs_len, haR])
                  | (with_reducible refine hKA ?_; clear hKA hKB KA KB)
                  | (with_reducible refine hKB ?_; clear hKA hKB KA KB)
                  | (with_reducible refine AWp_regC (id := 4) mu_15 ks_15 ?_; intro Kv hKv; simp (dsimp := false) only [go_sem, Nat.reduceAdd, Nat.reduceBEq, Nat.reduceEqDiff, Nat.reduceLT, Nat.reduceLeDiff, Nat.reduceMul, Int.reduceToNat, reduceCtorEq, ↓reduceIte, Tryd.ntmps15, Tryd.results15, ks_15, mu_15, xm_15, ro_15, ti_ag3, ti_ag23, ti_ag25, ti_ag35, ti_ag68, ti_fl25_1, ti_hb43, ti_hb44, ti_hb45, ti_hb46, ti_ky35, ti_mp67, ti_pl25, ti_sb23, ti_sb68, ti_sl22, ti_sl23, ti_sl64, ti_sl68, ti_sz25, ti_sz35, ti_zr25, ti_zr35, ti_zv68, itD, itV, rlV, rowD, rlD, hiT, hGi, m1, oc, od, itC, roP_O2 (gObs_len 35 3 itC G).symm, roP_O3 (gObs_len 35 3 itC G).symm, o3, o4, o5, gVs_len, gObs_len, haR]; apply regJ (Kv := Kv); intro hj)
                  | ((first | with_reducible refine AWp_regro mu_15 ks_15 ro_15 ?_ | with_reducible refine AWp_regC mu_15 ks_15 ?_ | with_reducible refine AWp_drawM xm_15 mu_15 ks_15 (by decide) ti_mixed (by kernel_rfl) ?_); intro Kv hKv; simp (dsimp := false) only [go_sem, Nat.reduceAdd, Nat.reduceBEq, Nat.reduceEqDiff, Nat.reduceLT, Nat.reduceLeDiff, Nat.reduceMul, Int.reduceToNat, reduceCtorEq, ↓reduceIte, Tryd.ntmps15, Tryd.results15, ks_15, mu_15, xm_15, ro_15, ti_ag3, ti_ag23, ti_ag25, ti_ag35, ti_ag68, ti_fl25_1, ti_hb43, ti_hb44, ti_hb45, ti_hb46, ti_ky35, ti_mp67, ti_pl25, ti_sb23, ti_sb68, ti_sl22, ti_sl23, ti_sl64, ti_sl68, ti_sz25, ti_sz35, ti_zr25, ti_zr35, ti_zv68, itD, itV, rlV, rowD, rlD, hiT, hGi, m1, oc, od, itC, roP_O2 (gObs_len 35 3 itC G).symm, roP_O3 (gObs_len 35 3 itC G).symm, o3, o4, o5, gVs_len, gObs_len, haR])
                  | with_reducible refine AWp_skipN ?_
                  | with_reducible refine AWp_exitO (by repeat (first | with_reducible exact Out.hit | with_reducible apply Out.thenA | with_reducible apply Out.out rfl)) ?_
                  | (with_reducible refine AWp_retR ?_; simp (dsimp := false) only [go_sem, Nat.reduceAdd, Nat.reduceBEq, Nat.reduceEqDiff, Nat.reduceLT, Nat.reduceLeDiff, Nat.reduceMul, Int.reduceToNat, reduceCtorEq, ↓reduceIte, Tryd.ntmps15, Tryd.results15, ks_15, mu_15, xm_15, ro_15, ti_ag3, ti_ag23, ti_ag25, ti_ag35, ti_ag68, ti_fl25_1, ti_hb43, ti_hb44, ti_hb45, ti_hb46, ti_ky35, ti_mp67, ti_pl25, ti_sb23, ti_sb68, ti_sl22, ti_sl23, ti_sl64, ti_sl68, ti_sz25, ti_sz35, ti_zr25, ti_zr35, ti_zv68, itD, itV, rlV, rowD, rlD, hiT, hGi, m1, oc, od, itC, roP_O2 (gObs_len 35 3 itC G).symm, roP_O3 (gObs_len 35 3 itC G).symm, o3, o4, o5, gVs_len, gObs_len, haR])
                  | (with_reducible refine AWp_regE mu_15 ks_15 ?_; intro Kv hKv; simp (dsimp := false) only [go_sem, Nat.reduceAdd, Nat.reduceBEq, Nat.reduceEqDiff, Nat.reduceLT, Nat.reduceLeDiff, Nat.reduceMul, Int.reduceToNat, reduceCtorEq, ↓reduceIte, Tryd.ntmps15, Tryd.results15, ks_15, mu_15, xm_15, ro_15, ti_ag3, ti_ag23, ti_ag25, ti_ag35, ti_ag68, ti_fl25_1, ti_hb43, ti_hb44, ti_hb45, ti_hb46, ti_ky35, ti_mp67, ti_pl25, ti_sb23, ti_sb68, ti_sl22, ti_sl23, ti_sl64, ti_sl68, ti_sz25, ti_sz35, ti_zr25, ti_zr35, ti_zv68, itD, itV, rlV, rowD, rlD, hiT, hGi, m1, oc, od, itC, roP_O2 (gObs_len 35 3 itC G).symm, roP_O3 (gObs_len 35 3 itC G).symm, o3, o4, o5, gVs_len, gObs_len, haR])
                  | (refine AWp_condC rfl ?_; intro KA KB hKA hKB; try simp only [onB_true, onB_false, onB_dec, onB_ndec, onB_not, onB_and, onB_or])
                  | (refine AWp_condA rfl ?_ ?_)
                  | ((first | refine aggregate_A which l _ _ _ hw (by omega) hbl _ _ (o5 _ _ _ _) ?_ | refine QCall_of (aggregate_A which l _ _ _ hw (by omega) hbl _ _ (o5 _ _ _ _) (Two_intro _ _)) ?_); try simp (dsimp := false) only [go_sem, Nat.reduceAdd, Nat.reduceBEq, Nat.reduceEqDiff, Nat.reduceLT, Nat.reduceLeDiff, Nat.reduceMul, Int.reduceToNat, reduceCtorEq, ↓reduceIte, Tryd.ntmps15, Tryd.results15, ks_15, mu_15, xm_15, ro_15, ti_ag3, ti_ag23, ti_ag25, ti_ag35, ti_ag68, ti_fl25_1, ti_hb43, ti_hb44, ti_hb45, ti_hb46, ti_ky35, ti_mp67, ti_pl25, ti_sb23, ti_sb68, ti_sl22, ti_sl23, ti_sl64, ti_sl68, ti_sz25, ti_sz35, ti_zr25, ti_zr35, ti_zv68, itD, itV, rlV, rowD, rlD, hiT, hGi, m1, oc, od, itC, roP_O2 (gObs_len 35 3 itC G).symm, roP_O3 (gObs_len 35 3 itC G).symm, o3, o4, o5, gVs_len, gObs_len, haR])
                  | with_reducible refine onB_of ?_ ?_
                  | with_reducible rfl
                  | omega)
                all_goals first
                  | omega
                  | exact closed_app (grp_bel (by simp [gObs_len]; omega))
                  | exact closed_app (grp_bel2 (by simp [gObs_len]; omega))
                  | (refine ⟨(i + 1, acc ++ [aggRow k n]), ⟨by show i + 1 ≤ G.length; omega, by simp; omega, h3⟩, by show G.length - (i + 1) < G.length - i; omega, ?_, ?_⟩
                     · simp [rowC, aggRow, itD]
                     · (repeat' (refine And.intro ?_ ?_)) <;> first | rfl | omega | (simp; done) | (simp; omega) | (simp (dsimp := false) only [go_sem, Nat.reduceAdd, Nat.reduceBEq, Nat.reduceEqDiff, Nat.reduceLT, Nat.reduceLeDiff, Nat.reduceMul, Int.reduceToNat, reduceCtorEq, ↓reduceIte, Tryd.ntmps15, Tryd.results15, ks_15, mu_15, xm_15, ro_15, ti_ag3, ti_ag23, ti_ag25, ti_ag35, ti_ag68, ti_fl25_1, ti_hb43, ti_hb44, ti_hb45, ti_hb46, ti_ky35, ti_mp67, ti_pl25, ti_sb23, ti_sb68, ti_sl22, ti_sl23, ti_sl64, ti_sl68, ti_sz25, ti_sz35, ti_zr25, ti_zr35, ti_zv68, itD, itV, rlV, rowD, rlD, hiT, hGi, m1, oc, od, itC, roP_O2 (gObs_len 35 3 itC G).symm, roP_O3 (gObs_len 35 3 itC G).symm, o3, o4, o5, gVs_len, gObs_len, haR]; done) | (simp (dsimp := false) only [go_sem, Nat.reduceAdd, Nat.reduceBEq, Nat.reduceEqDiff, Nat.reduceLT, Nat.reduceLeDiff, Nat.reduceMul, Int.reduceToNat, reduceCtorEq, ↓reduceIte, Tryd.ntmps15, Tryd.results15, ks_15, mu_15, xm_15, ro_15, ti_ag3, ti_ag23, ti_ag25, ti_ag35, ti_ag68, ti_fl25_1, ti_hb43, ti_hb44, ti_hb45, ti_hb46, ti_ky35, ti_mp67, ti_pl25, ti_sb23, ti_sb68, ti_sl22, ti_sl23, ti_sl64, ti_sl68, ti_sz25, ti_sz35, ti_zr25, ti_zr35, ti_zv68, itD, itV, rlV, rowD, rlD, hiT, hGi, m1, oc, od, itC, roP_O2 (gObs_len 35 3 itC G).symm, roP_O3 (gObs_len 35 3 itC G).symm, o3, o4, o5, gVs_len, gObs_len, haR]; omega))
            · have e : i = G.length := by omega
              subst e
              rw [List.drop_eq_nil_of_le (by simp), grpGo] at h3
              rw [← h3] at hk
              simp only [] at hk
              have hnl : ((G.length : Int) < (G.length : Int)) = False := eq_false (by omega)
              
              repeat' (first
                | exact hj
                | with_reducible refine And.intro ?_ ?_
                | with_reducible intro _
                | with_reducible refine AWp_seq ?_
                | with_reducible refine AWp_block ?_
                | (with_reducible refine hKv _ _ (AWp_nop ?_); clear hKv Kv)
                | (with_reducible refine hKv _ _ ?_; clear hKv Kv; simp (dsimp := false) only [go_sem, Nat.reduceAdd, Nat.reduceBEq, Nat.reduceEqDiff, Nat.reduceLT, Nat.reduceLeDiff, Nat.reduceMul, Int.reduceToNat, reduceCtorEq, ↓reduceIte, Tryd.ntmps15, Tryd.results15, ks_15, mu_15, xm_15, ro_15, ti_ag3, ti_ag23, ti_ag25, ti_ag35, ti_ag68, ti_fl25_1, ti_hb43, ti_hb44, ti_hb45, ti_hb46, ti_ky35, ti_mp67, ti_pl25, ti_sb23, ti_sb68, ti_sl22, ti_sl23, ti_sl64, ti_sl68, ti_sz25, ti_sz35, ti_zr25, ti_zr35, ti_zv68, itD, itV, rlV, rowD, rlD, finQ, hnl, o3, o4, gVs_len, gObs_len])
                | (with_reducible refine hKA ?_; clear hKA hKB KA KB)
                | (with_reducible refine hKB ?_; clear hKA hKB KA KB)
                | (with_reducible refine AWp_regC (id := 4) mu_15 ks_15 ?_; intro Kv hKv; simp (dsimp := false) only [go_sem, Nat.reduceAdd, Nat.reduceBEq, Nat.reduceEqDiff, Nat.reduceLT, Nat.reduceLeDiff, Nat.reduceMul, Int.reduceToNat, reduceCtorEq, ↓reduceIte, Tryd.ntmps15, Tryd.results15, ks_15, mu_15, xm_15, ro_15, ti_ag3, ti_ag23, ti_ag25, ti_ag35, ti_ag68, ti_fl25_1, ti_hb43, ti_hb44, ti_hb45, ti_hb46, ti_ky35, ti_mp67, ti_pl25, ti_sb23, ti_sb68, ti_sl22, ti_sl23, ti_sl64, ti_sl68, ti_sz25, ti_sz35, ti_zr25, ti_zr35, ti_zv68, itD, itV, rlV, rowD, rlD, finQ, hnl, o3, o4, gVs_len, gObs_len]; apply regJ (Kv := Kv); intro hj)
                | ((first | with_reducible refine AWp_regro mu_15 ks_15 ro_15 ?_ | with_reducible refine AWp_regC mu_15 ks_15 ?_ | with_reducible refine AWp_drawM xm_15 mu_15 ks_15 (by decide) ti_mixed (by kernel_rfl) ?_); intro Kv hKv; simp (dsimp := false) only [go_sem, Nat.reduceAdd, Nat.reduceBEq, Nat.reduceEqDiff, Nat.reduceLT, Nat.reduceLeDiff, Nat.reduceMul, Int.reduceToNat, reduceCtorEq, ↓reduceIte, Tryd.ntmps15, Tryd.results15, ks_15, mu_15, xm_15, ro_15, ti_ag3, ti_ag23, ti_ag25, ti_ag35, ti_ag68, ti_fl25_1, ti_hb43, ti_hb44, ti_hb45, ti_hb46, ti_ky35, ti_mp67, ti_pl25, ti_sb23, ti_sb68, ti_sl22, ti_sl23, ti_sl64, ti_sl68, ti_sz25, ti_sz35, ti_zr25, ti_zr35, ti_zv68, itD, itV, rlV, rowD, rlD, finQ, hnl, o3, o4, gVs_len, gObs_len])
                | with_reducible refine AWp_skipN ?_
                | with_reducible refine AWp_exitO (by repeat (first | with_reducible exact Out.hit | with_reducible apply Out.thenA | with_reducible apply Out.out rfl)) ?_
                | (with_reducible refine AWp_retR ?_; simp (dsimp := false) only [go_sem, Nat.reduceAdd, Nat.reduceBEq, Nat.reduceEqDiff, Nat.reduceLT, Nat.reduceLeDiff, Nat.reduceMul, Int.reduceToNat, reduceCtorEq, ↓reduceIte, Tryd.ntmps15, Tryd.results15, ks_15, mu_15, xm_15, ro_15, ti_ag3, ti_ag23, ti_ag25, ti_ag35, ti_ag68, ti_fl25_1, ti_hb43, ti_hb44, ti_hb45, ti_hb46, ti_ky35, ti_mp67, ti_pl25, ti_sb23, ti_sb68, ti_sl22, ti_sl23, ti_sl64, ti_sl68, ti_sz25, ti_sz35, ti_zr25, ti_zr35, ti_zv68, itD, itV, rlV, rowD, rlD, finQ, hnl, o3, o4, gVs_len, gObs_len])
                | (with_reducible refine AWp_regE mu_15 ks_15 ?_; intro Kv hKv; simp (dsimp := false) only [go_sem, Nat.reduceAdd, Nat.reduceBEq, Nat.reduceEqDiff, Nat.reduceLT, Nat.reduceLeDiff, Nat.reduceMul, Int.reduceToNat, reduceCtorEq, ↓reduceIte, Tryd.ntmps15, Tryd.results15, ks_15, mu_15, xm_15, ro_15, ti_ag3, ti_ag23, ti_ag25, ti_ag35, ti_ag68, ti_fl25_1, ti_hb43, ti_hb44, ti_hb45, ti_hb46, ti_ky35, ti_mp67, ti_pl25, ti_sb23, ti_sb68, ti_sl22, ti_sl23, ti_sl64, ti_sl68, ti_sz25, ti_sz35, ti_zr25, ti_zr35, ti_zv68, itD, itV, rlV, rowD, rlD, finQ, hnl, o3, o4, gVs_len, gObs_len])
                | (refine AWp_condC rfl ?_; intro KA KB hKA hKB; try simp only [onB_true, onB_false, onB_dec, onB_ndec, onB_not, onB_and, onB_or])
                | (refine AWp_condA rfl ?_ ?_)
                | ((first | refine finishedO_A [part, name] _ _ _ _ (by simp) hcs2 (by rw [List.length_map]; omega) _ _ (o3 _ _ _ _) ?_ | refine QCall_of (finishedO_A [part, name] _ _ _ _ (by simp) hcs2 (by rw [List.length_map]; omega) _ _ (o3 _ _ _ _) (Two_intro _ _)) ?_); try simp (dsimp := false) only [go_sem, Nat.reduceAdd, Nat.reduceBEq, Nat.reduceEqDiff, Nat.reduceLT, Nat.reduceLeDiff, Nat.reduceMul, Int.reduceToNat, reduceCtorEq, ↓reduceIte, Tryd.ntmps15, Tryd.results15, ks_15, mu_15, xm_15, ro_15, ti_ag3, ti_ag23, ti_ag25, ti_ag35, ti_ag68, ti_fl25_1, ti_hb43, ti_hb44, ti_hb45, ti_hb46, ti_ky35, ti_mp67, ti_pl25, ti_sb23, ti_sb68, ti_sl22, ti_sl23, ti_sl64, ti_sl68, ti_sz25, ti_sz35, ti_zr25, ti_zr35, ti_zv68, itD, itV, rlV, rowD, rlD, finQ, hnl, o3, o4, gVs_len, gObs_len])
                | with_reducible refine onB_of ?_ ?_
                | with_reducible rfl
                | omega)
              all_goals first
                | omega
                | exact closed_app (grp_bel (by simp [gObs_len]; omega))
                | exact closed_app (grp_bel2 (by simp [gObs_len]; omega))
                | exact fin_ret hk (by assumption) (by omega) (o3 _ _ _ _)
                | exact fin_bad hk rfl (by assumption)
    · have hw' : whichB which = false := by simpa using hw
      rw [grouped, if_pos hf, if_neg hw] at hk
      have hwo : ¬ (which = cntT ∨ which = sumT ∨ which = minT ∨ which = maxT) := by simpa [whichB] using hw
      have w1 : (which = [99, 111, 117, 110, 116]) = False := eq_false fun h => hwo (.inl h)
      have w2 : (which = [115, 117, 109]) = False := eq_false fun h => hwo (.inr (.inl h))
      have w3 : (which = [109, 105, 110]) = False := eq_false fun h => hwo (.inr (.inr (.inl h)))
      have w4 : (which = [109, 97, 120]) = False := eq_false fun h => hwo (.inr (.inr (.inr h)))
      
      refine ACalls_of Tryd.func15 rfl in_15 (Nat.le_of_ble_eq_true rfl) ?_
      intro F hF
      simp (dsimp := false) only [go_sem, Nat.reduceAdd, Nat.reduceBEq, Nat.reduceEqDiff, Nat.reduceLT, Nat.reduceLeDiff, Nat.reduceMul, Int.reduceToNat, reduceCtorEq, ↓reduceIte, Tryd.ntmps15, Tryd.results15, ks_15, mu_15, xm_15, ro_15, ti_ag3, ti_ag23, ti_ag25, ti_ag35, ti_ag68, ti_fl25_1, ti_hb43, ti_hb44, ti_hb45, ti_hb46, ti_ky35, ti_mp67, ti_pl25, ti_sb23, ti_sb68, ti_sl22, ti_sl23, ti_sl64, ti_sl68, ti_sz25, ti_sz35, ti_zr25, ti_zr35, ti_zv68, itD, itV, rlV, rowD, rlD, hf, w1, w2, w3, w4, in_15] at hF
      subst hF
      repeat' (first
        | exact hj
        | with_reducible refine And.intro ?_ ?_
        | with_reducible intro _
        | with_reducible refine AWp_seq ?_
        | with_reducible refine AWp_block ?_
        | (with_reducible refine hKv _ _ (AWp_nop ?_); clear hKv Kv)
        | (with_reducible refine hKv _ _ ?_; clear hKv Kv; simp (dsimp := false) only [go_sem, Nat.reduceAdd, Nat.reduceBEq, Nat.reduceEqDiff, Nat.reduceLT, Nat.reduceLeDiff, Nat.reduceMul, Int.reduceToNat, reduceCtorEq, ↓reduceIte, Tryd.ntmps15, Tryd.results15, ks_15, mu_15, xm_15, ro_15, ti_ag3, ti_ag23, ti_ag25, ti_ag35, ti_ag68, ti_fl25_1, ti_hb43, ti_hb44, ti_hb45, ti_hb46, ti_ky35, ti_mp67, ti_pl25, ti_sb23, ti_sb68, ti_sl22, ti_sl23, ti_sl64, ti_sl68, ti_sz25, ti_sz35, ti_zr25, ti_zr35, ti_zv68, itD, itV, rlV, rowD, rlD, hf, w1, w2, w3, w4])
        | (with_reducible refine hKA ?_; clear hKA hKB KA KB)
        | (with_reducible refine hKB ?_; clear hKA hKB KA KB)
        | (with_reducible refine AWp_regC (id := 4) mu_15 ks_15 ?_; intro Kv hKv; simp (dsimp := false) only [go_sem, Nat.reduceAdd, Nat.reduceBEq, Nat.reduceEqDiff, Nat.reduceLT, Nat.reduceLeDiff, Nat.reduceMul, Int.reduceToNat, reduceCtorEq, ↓reduceIte, Tryd.ntmps15, Tryd.results15, ks_15, mu_15, xm_15, ro_15, ti_ag3, ti_ag23, ti_ag25, ti_ag35, ti_ag68, ti_fl25_1, ti_hb43, ti_hb44, ti_hb45, ti_hb46, ti_ky35, ti_mp67, ti_pl25, ti_sb23, ti_sb68, ti_sl22, ti_sl23, ti_sl64, ti_sl68, ti_sz25, ti_sz35, ti_zr25, ti_zr35, ti_zv68, itD, itV, rlV, rowD, rlD, hf, w1, w2, w3, w4]; apply regJ (Kv := Kv); intro hj)
        | ((first | with_reducible refine AWp_regro mu_15 ks_15 ro_15 ?_ | with_reducible refine AWp_regC mu_15 ks_15 ?_ | with_reducible refine AWp_drawM xm_15 mu_15 ks_15 (by decide) ti_mixed (by kernel_rfl) ?_); intro Kv hKv; simp (dsimp := false) only [go_sem, Nat.reduceAdd, Nat.reduceBEq, Nat.reduceEqDiff, Nat.reduceLT, Nat.reduceLeDiff, Nat.reduceMul, Int.reduceToNat, reduceCtorEq, ↓reduceIte, Tryd.ntmps15, Tryd.results15, ks_15, mu_15, xm_15, ro_15, ti_ag3, ti_ag23, ti_ag25, ti_ag35, ti_ag68, ti_fl25_1, ti_hb43, ti_hb44, ti_hb45, ti_hb46, ti_ky35, ti_mp67, ti_pl25, ti_sb23, ti_sb68, ti_sl22, ti_sl23, ti_sl64, ti_sl68, ti_sz25, ti_sz35, ti_zr25, ti_zr35, ti_zv68, itD, itV, rlV, rowD, rlD, hf, w1, w2, w3, w4])
        | with_reducible refine AWp_skipN ?_
        | with_reducible refine AWp_exitO (by repeat (first | with_reducible exact Out.hit | with_reducible apply Out.thenA | with_reducible apply Out.out rfl)) ?_
        | (with_reducible refine AWp_retR ?_; simp (dsimp := false) only [go_sem, Nat.reduceAdd, Nat.reduceBEq, Nat.reduceEqDiff, Nat.reduceLT, Nat.reduceLeDiff, Nat.reduceMul, Int.reduceToNat, reduceCtorEq, ↓reduceIte, Tryd.ntmps15, Tryd.results15, ks_15, mu_15, xm_15, ro_15, ti_ag3, ti_ag23, ti_ag25, ti_ag35, ti_ag68, ti_fl25_1, ti_hb43, ti_hb44, ti_hb45, ti_hb46, ti_ky35, ti_mp67, ti_pl25, ti_sb23, ti_sb68, ti_sl22, ti_sl23, ti_sl64, ti_sl68, ti_sz25, ti_sz35, ti_zr25, ti_zr35, ti_zv68, itD, itV, rlV, rowD, rlD, hf, w1, w2, w3, w4])
        | (with_reducible refine AWp_regE mu_15 ks_15 ?_; intro Kv hKv; simp (dsimp := false) only [go_sem, Nat.reduceAdd, Nat.reduceBEq, Nat.reduceEqDiff, Nat.reduceLT, Nat.reduceLeDiff, Nat.reduceMul, Int.reduceToNat, reduceCtorEq, ↓reduceIte, Tryd.ntmps15, Tryd.results15, ks_15, mu_15, xm_15, ro_15, ti_ag3, ti_ag23, ti_ag25, ti_ag35, ti_ag68, ti_fl25_1, ti_hb43, ti_hb44, ti_hb45, ti_hb46, ti_ky35, ti_mp67, ti_pl25, ti_sb23, ti_sb68, ti_sl22, ti_sl23, ti_sl64, ti_sl68, ti_sz25, ti_sz35, ti_zr25, ti_zr35, ti_zv68, itD, itV, rlV, rowD, rlD, hf, w1, w2, w3, w4])
        | (refine AWp_condC rfl ?_; intro KA KB hKA hKB; try simp only [onB_true, onB_false, onB_dec, onB_ndec, onB_not, onB_and, onB_or])
        | (refine AWp_condA rfl ?_ ?_)
        | ((first | refine relCheck_A r hS _ _ ?_ | refine QCall_of (relCheck_A r hS _ _ (Two_intro _ _)) ?_); try simp (dsimp := false) only [go_sem, Nat.reduceAdd, Nat.reduceBEq, Nat.reduceEqDiff, Nat.reduceLT, Nat.reduceLeDiff, Nat.reduceMul, Int.reduceToNat, reduceCtorEq, ↓reduceIte, Tryd.ntmps15, Tryd.results15, ks_15, mu_15, xm_15, ro_15, ti_ag3, ti_ag23, ti_ag25, ti_ag35, ti_ag68, ti_fl25_1, ti_hb43, ti_hb44, ti_hb45, ti_hb46, ti_ky35, ti_mp67, ti_pl25, ti_sb23, ti_sb68, ti_sl22, ti_sl23, ti_sl64, ti_sl68, ti_sz25, ti_sz35, ti_zr25, ti_zr35, ti_zv68, itD, itV, rlV, rowD, rlD, hf, w1, w2, w3, w4])
        | with_reducible refine onB_of ?_ ?_
        | with_reducible rfl
        | omega)
      all_goals first
        | exact dropF hk (fz_rl0 _ _ _) (bel_relE _ _ _)
  · rw [grouped, if_neg hf] at hk
    
    refine ACalls_of Tryd.func15 rfl in_15 (Nat.le_of_ble_eq_true rfl) ?_
    intro F hF
    simp (dsimp := false) only [go_sem, Nat.reduceAdd, Nat.reduceBEq, Nat.reduceEqDiff, Nat.reduceLT, Nat.reduceLeDiff, Nat.reduceMul, Int.reduceToNat, reduceCtorEq, ↓reduceIte, Tryd.ntmps15, Tryd.results15, ks_15, mu_15, xm_15, ro_15, ti_ag3, ti_ag23, ti_ag25, ti_ag35, ti_ag68, ti_fl25_1, ti_hb43, ti_hb44, ti_hb45, ti_hb46, ti_ky35, ti_mp67, ti_pl25, ti_sb23, ti_sb68, ti_sl22, ti_sl23, ti_sl64, ti_sl68, ti_sz25, ti_sz35, ti_zr25, ti_zr35, ti_zv68, itD, itV, rlV, rowD, rlD, hf, in_15] at hF
    subst hF
    repeat' (first
      | exact hj
      | with_reducible refine And.intro ?_ ?_
      | with_reducible intro _
      | with_reducible refine AWp_seq ?_
      | with_reducible refine AWp_block ?_
      | (with_reducible refine hKv _ _ (AWp_nop ?_); clear hKv Kv)
      | (with_reducible refine hKv _ _ ?_; clear hKv Kv; simp (dsimp := false) only [go_sem, Nat.reduceAdd, Nat.reduceBEq, Nat.reduceEqDiff, Nat.reduceLT, Nat.reduceLeDiff, Nat.reduceMul, Int.reduceToNat, reduceCtorEq, ↓reduceIte, Tryd.ntmps15, Tryd.results15, ks_15, mu_15, xm_15, ro_15, ti_ag3, ti_ag23, ti_ag25, ti_ag35, ti_ag68, ti_fl25_1, ti_hb43, ti_hb44, ti_hb45, ti_hb46, ti_ky35, ti_mp67, ti_pl25, ti_sb23, ti_sb68, ti_sl22, ti_sl23, ti_sl64, ti_sl68, ti_sz25, ti_sz35, ti_zr25, ti_zr35, ti_zv68, itD, itV, rlV, rowD, rlD, hf])
      | (with_reducible refine hKA ?_; clear hKA hKB KA KB)
      | (with_reducible refine hKB ?_; clear hKA hKB KA KB)
      | (with_reducible refine AWp_regC (id := 4) mu_15 ks_15 ?_; intro Kv hKv; simp (dsimp := false) only [go_sem, Nat.reduceAdd, Nat.reduceBEq, Nat.reduceEqDiff, Nat.reduceLT, Nat.reduceLeDiff, Nat.reduceMul, Int.reduceToNat, reduceCtorEq, ↓reduceIte, Tryd.ntmps15, Tryd.results15, ks_15, mu_15, xm_15, ro_15, ti_ag3, ti_ag23, ti_ag25, ti_ag35, ti_ag68, ti_fl25_1, ti_hb43, ti_hb44, ti_hb45, ti_hb46, ti_ky35, ti_mp67, ti_pl25, ti_sb23, ti_sb68, ti_sl22, ti_sl23, ti_sl64, ti_sl68, ti_sz25, ti_sz35, ti_zr25, ti_zr35, ti_zv68, itD, itV, rlV, rowD, rlD, hf]; apply regJ (Kv := Kv); intro hj)
      | ((first | with_reducible refine AWp_regro mu_15 ks_15 ro_15 ?_ | with_reducible refine AWp_regC mu_15 ks_15 ?_ | with_reducible refine AWp_drawM xm_15 mu_15 ks_15 (by decide) ti_mixed (by kernel_rfl) ?_); intro Kv hKv; simp (dsimp := false) only [go_sem, Nat.reduceAdd, Nat.reduceBEq, Nat.reduceEqDiff, Nat.reduceLT, Nat.reduceLeDiff, Nat.reduceMul, Int.reduceToNat, reduceCtorEq, ↓reduceIte, Tryd.ntmps15, Tryd.results15, ks_15, mu_15, xm_15, ro_15, ti_ag3, ti_ag23, ti_ag25, ti_ag35, ti_ag68, ti_fl25_1, ti_hb43, ti_hb44, ti_hb45, ti_hb46, ti_ky35, ti_mp67, ti_pl25, ti_sb23, ti_sb68, ti_sl22, ti_sl23, ti_sl64, ti_sl68, ti_sz25, ti_sz35, ti_zr25, ti_zr35, ti_zv68, itD, itV, rlV, rowD, rlD, hf])
      | with_reducible refine AWp_skipN ?_
      | with_reducible refine AWp_exitO (by repeat (first | with_reducible exact Out.hit | with_reducible apply Out.thenA | with_reducible apply Out.out rfl)) ?_
      | (with_reducible refine AWp_retR ?_; simp (dsimp := false) only [go_sem, Nat.reduceAdd, Nat.reduceBEq, Nat.reduceEqDiff, Nat.reduceLT, Nat.reduceLeDiff, Nat.reduceMul, Int.reduceToNat, reduceCtorEq, ↓reduceIte, Tryd.ntmps15, Tryd.results15, ks_15, mu_15, xm_15, ro_15, ti_ag3, ti_ag23, ti_ag25, ti_ag35, ti_ag68, ti_fl25_1, ti_hb43, ti_hb44, ti_hb45, ti_hb46, ti_ky35, ti_mp67, ti_pl25, ti_sb23, ti_sb68, ti_sl22, ti_sl23, ti_sl64, ti_sl68, ti_sz25, ti_sz35, ti_zr25, ti_zr35, ti_zv68, itD, itV, rlV, rowD, rlD, hf])
      | (with_reducible refine AWp_regE mu_15 ks_15 ?_; intro Kv hKv; simp (dsimp := false) only [go_sem, Nat.reduceAdd, Nat.reduceBEq, Nat.reduceEqDiff, Nat.reduceLT, Nat.reduceLeDiff, Nat.reduceMul, Int.reduceToNat, reduceCtorEq, ↓reduceIte, Tryd.ntmps15, Tryd.results15, ks_15, mu_15, xm_15, ro_15, ti_ag3, ti_ag23, ti_ag25, ti_ag35, ti_ag68, ti_fl25_1, ti_hb43, ti_hb44, ti_hb45, ti_hb46, ti_ky35, ti_mp67, ti_pl25, ti_sb23, ti_sb68, ti_sl22, ti_sl23, ti_sl64, ti_sl68, ti_sz25, ti_sz35, ti_zr25, ti_zr35, ti_zv68, itD, itV, rlV, rowD, rlD, hf])
      | (refine AWp_condC rfl ?_; intro KA KB hKA hKB; try simp only [onB_true, onB_false, onB_dec, onB_ndec, onB_not, onB_and, onB_or])
      | (refine AWp_condA rfl ?_ ?_)
      | ((first | refine relCheck_A r hS _ _ ?_ | refine QCall_of (relCheck_A r hS _ _ (Two_intro _ _)) ?_); try simp (dsimp := false) only [go_sem, Nat.reduceAdd, Nat.reduceBEq, Nat.reduceEqDiff, Nat.reduceLT, Nat.reduceLeDiff, Nat.reduceMul, Int.reduceToNat, reduceCtorEq, ↓reduceIte, Tryd.ntmps15, Tryd.results15, ks_15, mu_15, xm_15, ro_15, ti_ag3, ti_ag23, ti_ag25, ti_ag35, ti_ag68, ti_fl25_1, ti_hb43, ti_hb44, ti_hb45, ti_hb46, ti_ky35, ti_mp67, ti_pl25, ti_sb23, ti_sb68, ti_sl22, ti_sl23, ti_sl64, ti_sl68, ti_sz25, ti_sz35, ti_zr25, ti_zr35, ti_zv68, itD, itV, rlV, rowD, rlD, hf])
      | with_reducible refine onB_of ?_ ?_
      | with_reducible rfl
      | omega)
    all_goals exact dropF hk (fz_rl0 _ _ _) (bel_relE _ _ _)
end Go.Proofs.YtafbojmnmadlpaaDoor
