/- A query cut into tokens: what the program makes. No condition but that the tables of package unicode/utf8, and the table of marks, are there. -/
import Derived.Test.YtalalhngpcmoeaaDoorRc2w
import Derived.Test.YtalalhngpcmoeaaDoorRc2n
import Derived.Test.YtalalhngpcmoeaaDoorRc2q
import Derived.Test.YtalalhngpcmoeaaDoorRc2d
import Derived.Test.YtalalhngpcmoeaaDoorRc2m
set_option linter.all false
set_option linter.unusedSimpArgs false
set_option linter.unusedVariables false
namespace Go.Proofs.YtalalhngpcmoeaaDoor
open Go Go.Proofs.YtalalhngpcmoeaaDoor.Ab
variable [Glo] [U8]
theorem oneT_adv {s : List UInt8} {p : Nat} {c : UInt8} (hc : s[p]? = some c) (h : (oneT s p c.toNat).2.2 = 0) : p < (oneT s p c.toNat).2.1 ∧ (oneT s p c.toNat).2.1 ≤ s.length ∧ (oneT s p c.toNat).1.s.length ≤ s.length := by
  have hpl := lt_of_get hc
  unfold oneT at h ⊢
  split at h
  · rename_i hw
    rw [if_pos hw]
    have hd : wordB c.toNat (decide (p = p)) = true := by rw [decide_eq_true rfl]; exact hw
    have hn := wEnd_next hc hd
    obtain ⟨w1, w2⟩ := wEnd_le s p _ (p + 1) (Nat.le_refl _) (by omega)
    split at h
    · exact absurd h (by simp)
    · rename_i h20
      rw [if_neg h20, hn]
      refine ⟨by simp only []; omega, by simp only []; omega, ?_⟩
      simp only [List.length_drop, List.length_take]; omega
  · rename_i hw
    rw [if_neg hw]
    split at h
    · rename_i hd
      rw [if_pos hd]
      cases hn : numGo s p 0 with
      | none => rw [hn] at h; exact absurd h (by simp)
      | some r =>
        obtain ⟨n, e⟩ := r
        rw [numGo_get hc, if_pos hd] at hn
        split at hn
        · cases hn
        · have := numGo_le s _ (p + 1) _ _ (Nat.le_refl _) (by omega) hn
          exact ⟨by simp only [] at this ⊢; omega, by simp only [] at this ⊢; omega, by simp⟩
    · rename_i hd
      rw [if_neg hd]
      split at h
      · rename_i h34
        rw [if_pos h34]
        split at h
        · exact absurd h (by simp)
        · rename_i hq
          rw [if_neg hq]
          obtain ⟨q1, q2⟩ := qAt_le s _ (p + 1) (Nat.le_refl _) (by omega)
          refine ⟨by simp only []; omega, by simp only []; omega, ?_⟩
          simp only [List.length_drop, List.length_take]; omega
      · rename_i h34
        rw [if_neg h34]
        split at h
        · rename_i h36
          rw [if_pos h36]
          obtain ⟨w1, w2⟩ := wEnd_le s (p + 1) _ (p + 1) (Nat.le_refl _) (by omega)
          split at h
          · exact absurd h (by simp)
          · rename_i hq
            rw [if_neg hq]
            refine ⟨by simp only []; omega, by simp only []; omega, ?_⟩
            simp only [List.length_drop, List.length_take]; omega
        · rename_i h36
          rw [if_neg h36]
          cases hm : markAt s p with
          | none => rw [hm] at h; exact absurd h (by simp)
          | some m =>
            have h1 := List.find?_some hm
            have h2 := List.mem_of_find?_eq_some hm
            have h3 : 1 ≤ m.length := by
              clear hm h1 h
              revert m
              decide
            simp only [isPre, decide_eq_true_eq, List.length_drop] at h1
            exact ⟨by simp only []; omega, by simp only []; omega, by simp only []; omega⟩
variable [Mk]
set_option maxHeartbeats 4000000
set_option maxRecDepth 20000
theorem one_A (id : Nat) (s : List UInt8) (p : Nat) (c : UInt8) (o : V) (hs : s.length ≤ 1000) (hc : s[p]? = some c) (H : Heap) (K : V → Heap → Prop) (hr : H[id]? = some (lexC s p o)) (hob : Bel H.length o)
    (hk : ∀ (t : Tk) (j : Nat), ((oneT s p c.toNat).2.2 = 0 → t = (oneT s p c.toNat).1 ∧ j = (oneT s p c.toNat).2.1) → K (.tu [tkV t, .d (.i .i64 (oneT s p c.toNat).2.2)]) (H.set id (lexC s j o))) :
    ACalls Tryd.prog 46 [.pt id 0 0 0] H K := by
  have hwl : wordB c.toNat true = letterB c.toNat := wordB_first _
  by_cases hl : letterB c.toNat = true
  · refine Rc2w.one_word id s p c o hs hc H K hob hr hl ?_
    unfold oneT at hk
    rw [if_pos (hwl.trans hl)] at hk
    unfold Hold
    by_cases h20 : 20 < ((s.take (wEnd s p p)).drop p).length
    · rw [if_pos h20] at hk ⊢
      exact hk _ _ fun h => by simp at h
    · rw [if_neg h20] at hk ⊢
      exact hk _ _ fun _ => ⟨rfl, rfl⟩
  have hl : letterB c.toNat = false := by simpa using hl
  by_cases hd : digB c.toNat = true
  · refine Rc2n.one_num id s p c o hs hc H K hob hr hl hd ?_
    unfold oneT at hk
    rw [if_neg (by rw [hwl, hl]; decide), if_pos hd] at hk
    unfold Hold
    cases hn : numGo s p 0 with
    | none =>
      rw [hn] at hk
      exact fun j => hk _ _ fun h => by simp at h
    | some r =>
      rw [hn] at hk
      exact hk _ _ fun _ => ⟨rfl, rfl⟩
  have hd : digB c.toNat = false := by simpa using hd
  by_cases h34 : (c.toNat : Int) = 34
  · refine Rc2q.one_quote id s p c o hs hc H K hob hr hl hd h34 ?_
    unfold oneT at hk
    rw [if_neg (by rw [hwl, hl]; decide), if_neg (by rw [hd]; decide), if_pos h34] at hk
    unfold Hold
    by_cases hq : qAt s (p + 1) = s.length
    · rw [if_pos hq] at hk ⊢
      exact hk _ _ fun h => by simp at h
    · rw [if_neg hq] at hk ⊢
      exact hk _ _ fun _ => ⟨rfl, rfl⟩
  by_cases h36 : (c.toNat : Int) = 36
  · refine Rc2d.one_dollar id s p c o hs hc H K hob hr hl hd h36 ?_
    unfold oneT at hk
    rw [if_neg (by rw [hwl, hl]; decide), if_neg (by rw [hd]; decide), if_neg h34, if_pos h36] at hk
    unfold Hold
    by_cases hq : (s.take (wEnd s (p + 1) (p + 1))).drop (p + 1) = [] ∨ 20 < ((s.take (wEnd s (p + 1) (p + 1))).drop (p + 1)).length
    · rw [if_pos hq] at hk ⊢
      exact hk _ _ fun h => by simp at h
    · rw [if_neg hq] at hk ⊢
      exact hk _ _ fun _ => ⟨rfl, rfl⟩
  refine Rc2m.one_mark id s p c o hs hc H K hob hr hl hd h34 h36 ?_
  unfold oneT at hk
  rw [if_neg (by rw [hwl, hl]; decide), if_neg (by rw [hd]; decide), if_neg h34, if_neg h36] at hk
  unfold Hold
  cases hm : markAt s p with
  | none =>
    rw [hm] at hk
    exact hk _ _ fun h => by simp at h
  | some m =>
    rw [hm] at hk
    exact hk _ _ fun _ => ⟨rfl, rfl⟩
theorem cutGo_next {s : List UInt8} {p : Nat} {c : UInt8} {out : List Tk} (hc : s[p]? = some c) : cutGo s p out = if c = 32 ∨ c = 10 ∨ c = 9 then cutGo s (p + 1) out else if 200 ≤ out.length then ([], p, 1) else if (oneT s p c.toNat).2.2 ≠ 0 then ([], p, (oneT s p c.toNat).2.2) else cutGo s (oneT s p c.toNat).2.1 (out ++ [(oneT s p c.toNat).1]) := by
  have hpl := lt_of_get hc
  have hx : s[p] = c := by rw [List.getElem?_eq_getElem hpl] at hc; exact Option.some.inj hc
  rw [cutGo, dif_pos hpl, hx]
  by_cases h1 : c = 32 ∨ c = 10 ∨ c = 9
  · rw [if_pos h1, if_pos h1]
  rw [if_neg h1, if_neg h1]
  by_cases h2 : 200 ≤ out.length
  · rw [if_pos h2, if_pos h2]
  rw [if_neg h2, if_neg h2]
  by_cases h3 : (oneT s p c.toNat).2.2 ≠ 0
  · rw [if_pos h3, if_pos h3]
  · rw [if_neg h3, if_neg h3, if_pos (oneT_adv hc (by simpa using h3)).1]
theorem cutGo_end {s : List UInt8} {p : Nat} {out : List Tk} (h : s.length ≤ p) : cutGo s p out = (out, 0, 0) := by rw [cutGo, dif_neg (by omega)]
def tkC (x : Tk) : List V := [.d (.i .i64 x.k), .d (.s x.s), .d (.i .i64 x.n)]
theorem tks_data : ∀ (l : List Tk), dsRows (l.map tkC) = some (l.map tkD)
  | [] => rfl
  | x :: l => by
    have := tks_data l
    simp only [List.map_cons, dsRows, this]
    rfl
theorem obBel_tk (m ver e : Nat) (l : List Tk) : ObBel m (.row ver e 3 (l.map tkC)) := obBel_map tkD m ver e 3 l
def cutV (r : List Tk × Nat × Int) : V := .tu [.d (.sl 3 (r.1.map tkD)), .d (.i .i64 r.2.1), .d (.i .i64 r.2.2)]
theorem bel_cutV (m : Nat) (r : List Tk × Nat × Int) : Bel m (cutV r) := by simp [cutV, Bel_tu, Bel_d]
def Cl (p : Prop) : Prop := p

/- the live slots of pleacher/read.Cut -/
def ks_15 : Nat → List Nat
  | 0 => [0]
  | 1 => [0, 12]
  | 2 => [2, 3, 4]
  | 3 => [0, 5]
  | 4 => [0, 5, 22]
  | 5 => [0, 5, 6]
  | 6 => [0, 5, 38]
  | 7 => [0, 5]
  | 8 => [0, 5, 51]
  | 9 => [2, 3, 4]
  | 10 => [0, 5, 7]
  | 11 => [0, 5, 7, 8, 9]
  | 12 => [0, 5, 7, 8, 9, 66]
  | 13 => [2, 3, 4]
  | 14 => [0, 5]
  | 15 => [2, 3, 4]
  | _ => []
def mu_15 : List Nat := [15]
def in_15 : List Nat := [0]
def ro_15 : Nat → List Nat
  | 11 => [8]
  | _ => []
def xd_15 : Nat → Nat × Nat × List Bool
  | 14 => (8, 7, [])
  | _ => (0, 0, [])
def vw_15 : Nat → List Nat
  | _ => []
def nd_15 : Nat → Nat
  | 9 => 6
  | _ => 0
theorem cut_A (s : List UInt8) (hs : s.length ≤ 1048576) (H : Heap) (K : V → Heap → Prop) (hk : K (cutV (cut s)) H) : ACalls Tryd.prog 15 [.d (.s s)] H K := by
  by_cases h1000 : s.length ≤ 1000
  · rw [cut, if_pos h1000] at hk
    
    refine ACalls_of Tryd.func15 rfl in_15 (Nat.le_of_ble_eq_true rfl) ?_
    intro F hF
    simp (dsimp := false) only [go_sem, Nat.reduceAdd, Nat.reduceBEq, Nat.reduceEqDiff, Nat.reduceLT, Nat.reduceLeDiff, Nat.reduceMul, Int.reduceToNat, reduceCtorEq, ↓reduceIte, Tryd.ntmps15, Tryd.results15, ks_15, mu_15, nd_15, xd_15, vw_15, ro_15, ti_ag3, ti_ag22, ti_ag79, ti_fl77_1, ti_fl77_2, ti_hb46, ti_pl77, ti_sb22, ti_sl22, ti_st9, ti_sz3, ti_sz22, ti_sz79, ti_zr77, ti_zr79, tkD, tkV, in_15] at hF
    subst hF
    repeat' (first
      | with_reducible refine And.intro ?_ ?_
      | with_reducible intro _
      | with_reducible refine AWp_seq ?_
      | with_reducible refine AWp_block ?_
      | (with_reducible refine hKv _ _ (AWp_nop ?_); clear hKv Kv)
      | (with_reducible refine hKv _ _ ?_; clear hKv Kv; simp (dsimp := false) only [go_sem, Nat.reduceAdd, Nat.reduceBEq, Nat.reduceEqDiff, Nat.reduceLT, Nat.reduceLeDiff, Nat.reduceMul, Int.reduceToNat, reduceCtorEq, ↓reduceIte, Tryd.ntmps15, Tryd.results15, ks_15, mu_15, nd_15, xd_15, vw_15, ro_15, ti_ag3, ti_ag22, ti_ag79, ti_fl77_1, ti_fl77_2, ti_hb46, ti_pl77, ti_sb22, ti_sl22, ti_st9, ti_sz3, ti_sz22, ti_sz79, ti_zr77, ti_zr79, tkD, tkV])
      | (with_reducible refine hKA ?_; clear hKA hKB KA KB)
      | (with_reducible refine hKB ?_; clear hKA hKB KA KB)
      | (with_reducible refine AWp_regro mu_15 ks_15 ro_15 ?_; intro Kv hKv; simp (dsimp := false) only [go_sem, Nat.reduceAdd, Nat.reduceBEq, Nat.reduceEqDiff, Nat.reduceLT, Nat.reduceLeDiff, Nat.reduceMul, Int.reduceToNat, reduceCtorEq, ↓reduceIte, Tryd.ntmps15, Tryd.results15, ks_15, mu_15, nd_15, xd_15, vw_15, ro_15, ti_ag3, ti_ag22, ti_ag79, ti_fl77_1, ti_fl77_2, ti_hb46, ti_pl77, ti_sb22, ti_sl22, ti_st9, ti_sz3, ti_sz22, ti_sz79, ti_zr77, ti_zr79, tkD, tkV])
      | (with_reducible refine AWp_regC mu_15 ks_15 ?_; intro Kv hKv; simp (dsimp := false) only [go_sem, Nat.reduceAdd, Nat.reduceBEq, Nat.reduceEqDiff, Nat.reduceLT, Nat.reduceLeDiff, Nat.reduceMul, Int.reduceToNat, reduceCtorEq, ↓reduceIte, Tryd.ntmps15, Tryd.results15, ks_15, mu_15, nd_15, xd_15, vw_15, ro_15, ti_ag3, ti_ag22, ti_ag79, ti_fl77_1, ti_fl77_2, ti_hb46, ti_pl77, ti_sb22, ti_sl22, ti_st9, ti_sz3, ti_sz22, ti_sz79, ti_zr77, ti_zr79, tkD, tkV])
      | (with_reducible refine AWp_drawX xd_15 mu_15 ks_15 vw_15 (by decide) ti_mixed (by kernel_rfl) ?_; intro Kv hKv; simp (dsimp := false) only [go_sem, Nat.reduceAdd, Nat.reduceBEq, Nat.reduceEqDiff, Nat.reduceLT, Nat.reduceLeDiff, Nat.reduceMul, Int.reduceToNat, reduceCtorEq, ↓reduceIte, Tryd.ntmps15, Tryd.results15, ks_15, mu_15, nd_15, xd_15, vw_15, ro_15, ti_ag3, ti_ag22, ti_ag79, ti_fl77_1, ti_fl77_2, ti_hb46, ti_pl77, ti_sb22, ti_sl22, ti_st9, ti_sz3, ti_sz22, ti_sz79, ti_zr77, ti_zr79, tkD, tkV])
      | (with_reducible refine AWp_draw nd_15 mu_15 ks_15 ti_mixed (by kernel_rfl) ?_; intro Kv hKv; simp (dsimp := false) only [go_sem, Nat.reduceAdd, Nat.reduceBEq, Nat.reduceEqDiff, Nat.reduceLT, Nat.reduceLeDiff, Nat.reduceMul, Int.reduceToNat, reduceCtorEq, ↓reduceIte, Tryd.ntmps15, Tryd.results15, ks_15, mu_15, nd_15, xd_15, vw_15, ro_15, ti_ag3, ti_ag22, ti_ag79, ti_fl77_1, ti_fl77_2, ti_hb46, ti_pl77, ti_sb22, ti_sl22, ti_st9, ti_sz3, ti_sz22, ti_sz79, ti_zr77, ti_zr79, tkD, tkV])
      | with_reducible refine AWp_skipN ?_
      | with_reducible refine AWp_exitO (by repeat (first | with_reducible exact Out.hit | with_reducible apply Out.thenA | with_reducible apply Out.out rfl)) ?_
      | (with_reducible refine AWp_retR ?_; simp (dsimp := false) only [go_sem, Nat.reduceAdd, Nat.reduceBEq, Nat.reduceEqDiff, Nat.reduceLT, Nat.reduceLeDiff, Nat.reduceMul, Int.reduceToNat, reduceCtorEq, ↓reduceIte, Tryd.ntmps15, Tryd.results15, ks_15, mu_15, nd_15, xd_15, vw_15, ro_15, ti_ag3, ti_ag22, ti_ag79, ti_fl77_1, ti_fl77_2, ti_hb46, ti_pl77, ti_sb22, ti_sl22, ti_st9, ti_sz3, ti_sz22, ti_sz79, ti_zr77, ti_zr79, tkD, tkV])
      | (with_reducible refine AWp_regE mu_15 ks_15 ?_; intro Kv hKv; simp (dsimp := false) only [go_sem, Nat.reduceAdd, Nat.reduceBEq, Nat.reduceEqDiff, Nat.reduceLT, Nat.reduceLeDiff, Nat.reduceMul, Int.reduceToNat, reduceCtorEq, ↓reduceIte, Tryd.ntmps15, Tryd.results15, ks_15, mu_15, nd_15, xd_15, vw_15, ro_15, ti_ag3, ti_ag22, ti_ag79, ti_fl77_1, ti_fl77_2, ti_hb46, ti_pl77, ti_sb22, ti_sl22, ti_st9, ti_sz3, ti_sz22, ti_sz79, ti_zr77, ti_zr79, tkD, tkV])
      | (with_reducible refine AWp_drawE nd_15 mu_15 ks_15 ti_mixed (by kernel_rfl) ?_; intro Kv hKv; simp (dsimp := false) only [go_sem, Nat.reduceAdd, Nat.reduceBEq, Nat.reduceEqDiff, Nat.reduceLT, Nat.reduceLeDiff, Nat.reduceMul, Int.reduceToNat, reduceCtorEq, ↓reduceIte, Tryd.ntmps15, Tryd.results15, ks_15, mu_15, nd_15, xd_15, vw_15, ro_15, ti_ag3, ti_ag22, ti_ag79, ti_fl77_1, ti_fl77_2, ti_hb46, ti_pl77, ti_sb22, ti_sl22, ti_st9, ti_sz3, ti_sz22, ti_sz79, ti_zr77, ti_zr79, tkD, tkV])
      | (refine AWp_condC rfl ?_; intro KA KB hKA hKB; try simp only [onB_true, onB_false, onB_dec, onB_ndec, onB_not, onB_and, onB_or])
      | (with_reducible refine AWp_drawXE xd_15 mu_15 ks_15 vw_15 (by decide) ti_mixed (by kernel_rfl) ?_; intro Kv hKv; simp (dsimp := false) only [go_sem, Nat.reduceAdd, Nat.reduceBEq, Nat.reduceEqDiff, Nat.reduceLT, Nat.reduceLeDiff, Nat.reduceMul, Int.reduceToNat, reduceCtorEq, ↓reduceIte, Tryd.ntmps15, Tryd.results15, ks_15, mu_15, nd_15, xd_15, vw_15, ro_15, ti_ag3, ti_ag22, ti_ag79, ti_fl77_1, ti_fl77_2, ti_hb46, ti_pl77, ti_sb22, ti_sl22, ti_st9, ti_sz3, ti_sz22, ti_sz79, ti_zr77, ti_zr79, tkD, tkV])
      | (refine AWp_condA rfl ?_ ?_)
      | with_reducible refine onB_of ?_ ?_
      | with_reducible rfl
      | omega)
    refine AWp_prm H.length 0 2 79 3 ((get_app0 _ _).trans rfl) rfl rfl (h := ?_)
    refine AWp_whileH (fun y : Nat × Nat × List Tk => y.1 ≤ s.length ∧ y.2.2.length ≤ 200 ∧ cutGo s y.1 y.2.2 = cutGo s 0 []) (fun y => [(0, .d (.s s)), (5, .pt H.length 0 0 0)])
      (fun y => [lexC s y.1 (.os (H.length + 1) y.2.1), .row y.2.1 79 3 (y.2.2.map tkC)]) (fun y => s.length - y.1) (0, 0, []) ⟨Nat.zero_le _, by simp, rfl⟩ ?_ ?_ ?_ ?_
    · simp [lexC]
    · simp (dsimp := false) only [go_sem, Nat.reduceAdd, Nat.reduceBEq, Nat.reduceEqDiff, Nat.reduceLT, Nat.reduceLeDiff, Nat.reduceMul, Int.reduceToNat, reduceCtorEq, ↓reduceIte, Tryd.ntmps15, Tryd.results15, ks_15, mu_15, nd_15, xd_15, vw_15, ro_15, ti_ag3, ti_ag22, ti_ag79, ti_fl77_1, ti_fl77_2, ti_hb46, ti_pl77, ti_sb22, ti_sl22, ti_st9, ti_sz3, ti_sz22, ti_sz79, ti_zr77, ti_zr79, tkD, tkV]
      first | done | simp
    · rintro ⟨p, v, out⟩ _ ob hob
      simp only [List.mem_cons, List.not_mem_nil, or_false] at hob
      rcases hob with rfl | rfl
      · exact lex_bel (.os _ _ (by simp))
      · exact obBel_tk _ _ _ _
    rintro ⟨p, v, out⟩ ⟨h1, h2, h3⟩
    simp only [] at h1 h2 h3 ⊢
    by_cases hp : p < s.length
    · obtain ⟨c, hc⟩ : ∃ c, s[p]? = some c := ⟨s[p], List.getElem?_eq_getElem hp⟩
      rw [cutGo_next hc] at h3
      have hr : ∀ x, (H ++ lexC s p (.os (H.length + 1) v) :: x)[H.length]? = some (lexC s p (.os (H.length + 1) v)) := fun x => (get_app0 _ _).trans rfl
      have hset : ∀ q x, (H ++ lexC s p (.os (H.length + 1) v) :: x).set H.length (lexC s q (.os (H.length + 1) v)) = H ++ lexC s q (.os (H.length + 1) v) :: x := fun q x => (set_app0 _ _ _).trans rfl
      
      repeat' (first
        | with_reducible refine And.intro ?_ ?_
        | with_reducible intro _
        | with_reducible refine AWp_seq ?_
        | with_reducible refine AWp_block ?_
        | (with_reducible refine hKv _ _ (AWp_nop ?_); clear hKv Kv)
        | (with_reducible refine hKv _ _ ?_; clear hKv Kv; simp (dsimp := false) only [go_sem, Nat.reduceAdd, Nat.reduceBEq, Nat.reduceEqDiff, Nat.reduceLT, Nat.reduceLeDiff, Nat.reduceMul, Int.reduceToNat, reduceCtorEq, ↓reduceIte, Tryd.ntmps15, Tryd.results15, ks_15, mu_15, nd_15, xd_15, vw_15, ro_15, ti_ag3, ti_ag22, ti_ag79, ti_fl77_1, ti_fl77_2, ti_hb46, ti_pl77, ti_sb22, ti_sl22, ti_st9, ti_sz3, ti_sz22, ti_sz79, ti_zr77, ti_zr79, tkD, tkV, hc, lexC])
        | (with_reducible refine hKA ?_; clear hKA hKB KA KB)
        | (with_reducible refine hKB ?_; clear hKA hKB KA KB)
        | (with_reducible refine AWp_regro mu_15 ks_15 ro_15 ?_; intro Kv hKv; simp (dsimp := false) only [go_sem, Nat.reduceAdd, Nat.reduceBEq, Nat.reduceEqDiff, Nat.reduceLT, Nat.reduceLeDiff, Nat.reduceMul, Int.reduceToNat, reduceCtorEq, ↓reduceIte, Tryd.ntmps15, Tryd.results15, ks_15, mu_15, nd_15, xd_15, vw_15, ro_15, ti_ag3, ti_ag22, ti_ag79, ti_fl77_1, ti_fl77_2, ti_hb46, ti_pl77, ti_sb22, ti_sl22, ti_st9, ti_sz3, ti_sz22, ti_sz79, ti_zr77, ti_zr79, tkD, tkV, hc, lexC])
        | (with_reducible refine AWp_regC mu_15 ks_15 ?_; intro Kv hKv; simp (dsimp := false) only [go_sem, Nat.reduceAdd, Nat.reduceBEq, Nat.reduceEqDiff, Nat.reduceLT, Nat.reduceLeDiff, Nat.reduceMul, Int.reduceToNat, reduceCtorEq, ↓reduceIte, Tryd.ntmps15, Tryd.results15, ks_15, mu_15, nd_15, xd_15, vw_15, ro_15, ti_ag3, ti_ag22, ti_ag79, ti_fl77_1, ti_fl77_2, ti_hb46, ti_pl77, ti_sb22, ti_sl22, ti_st9, ti_sz3, ti_sz22, ti_sz79, ti_zr77, ti_zr79, tkD, tkV, hc, lexC])
        | (with_reducible refine AWp_drawX xd_15 mu_15 ks_15 vw_15 (by decide) ti_mixed (by kernel_rfl) ?_; intro Kv hKv; simp (dsimp := false) only [go_sem, Nat.reduceAdd, Nat.reduceBEq, Nat.reduceEqDiff, Nat.reduceLT, Nat.reduceLeDiff, Nat.reduceMul, Int.reduceToNat, reduceCtorEq, ↓reduceIte, Tryd.ntmps15, Tryd.results15, ks_15, mu_15, nd_15, xd_15, vw_15, ro_15, ti_ag3, ti_ag22, ti_ag79, ti_fl77_1, ti_fl77_2, ti_hb46, ti_pl77, ti_sb22, ti_sl22, ti_st9, ti_sz3, ti_sz22, ti_sz79, ti_zr77, ti_zr79, tkD, tkV, hc, lexC])
        | (with_reducible refine AWp_draw nd_15 mu_15 ks_15 ti_mixed (by kernel_rfl) ?_; intro Kv hKv; simp (dsimp := false) only [go_sem, Nat.reduceAdd, Nat.reduceBEq, Nat.reduceEqDiff, Nat.reduceLT, Nat.reduceLeDiff, Nat.reduceMul, Int.reduceToNat, reduceCtorEq, ↓reduceIte, Tryd.ntmps15, Tryd.results15, ks_15, mu_15, nd_15, xd_15, vw_15, ro_15, ti_ag3, ti_ag22, ti_ag79, ti_fl77_1, ti_fl77_2, ti_hb46, ti_pl77, ti_sb22, ti_sl22, ti_st9, ti_sz3, ti_sz22, ti_sz79, ti_zr77, ti_zr79, tkD, tkV, hc, lexC])
        | with_reducible refine AWp_skipN ?_
        | with_reducible refine AWp_exitO (by repeat (first | with_reducible exact Out.hit | with_reducible apply Out.thenA | with_reducible apply Out.out rfl)) ?_
        | (with_reducible refine AWp_retR ?_; simp (dsimp := false) only [go_sem, Nat.reduceAdd, Nat.reduceBEq, Nat.reduceEqDiff, Nat.reduceLT, Nat.reduceLeDiff, Nat.reduceMul, Int.reduceToNat, reduceCtorEq, ↓reduceIte, Tryd.ntmps15, Tryd.results15, ks_15, mu_15, nd_15, xd_15, vw_15, ro_15, ti_ag3, ti_ag22, ti_ag79, ti_fl77_1, ti_fl77_2, ti_hb46, ti_pl77, ti_sb22, ti_sl22, ti_st9, ti_sz3, ti_sz22, ti_sz79, ti_zr77, ti_zr79, tkD, tkV, hc, lexC])
        | (with_reducible refine AWp_regE mu_15 ks_15 ?_; intro Kv hKv; simp (dsimp := false) only [go_sem, Nat.reduceAdd, Nat.reduceBEq, Nat.reduceEqDiff, Nat.reduceLT, Nat.reduceLeDiff, Nat.reduceMul, Int.reduceToNat, reduceCtorEq, ↓reduceIte, Tryd.ntmps15, Tryd.results15, ks_15, mu_15, nd_15, xd_15, vw_15, ro_15, ti_ag3, ti_ag22, ti_ag79, ti_fl77_1, ti_fl77_2, ti_hb46, ti_pl77, ti_sb22, ti_sl22, ti_st9, ti_sz3, ti_sz22, ti_sz79, ti_zr77, ti_zr79, tkD, tkV, hc, lexC])
        | (with_reducible refine AWp_drawE nd_15 mu_15 ks_15 ti_mixed (by kernel_rfl) ?_; intro Kv hKv; simp (dsimp := false) only [go_sem, Nat.reduceAdd, Nat.reduceBEq, Nat.reduceEqDiff, Nat.reduceLT, Nat.reduceLeDiff, Nat.reduceMul, Int.reduceToNat, reduceCtorEq, ↓reduceIte, Tryd.ntmps15, Tryd.results15, ks_15, mu_15, nd_15, xd_15, vw_15, ro_15, ti_ag3, ti_ag22, ti_ag79, ti_fl77_1, ti_fl77_2, ti_hb46, ti_pl77, ti_sb22, ti_sl22, ti_st9, ti_sz3, ti_sz22, ti_sz79, ti_zr77, ti_zr79, tkD, tkV, hc, lexC])
        | (refine AWp_condC rfl ?_; intro KA KB hKA hKB; try simp only [onB_true, onB_false, onB_dec, onB_ndec, onB_not, onB_and, onB_or])
        | (with_reducible refine AWp_drawXE xd_15 mu_15 ks_15 vw_15 (by decide) ti_mixed (by kernel_rfl) ?_; intro Kv hKv; simp (dsimp := false) only [go_sem, Nat.reduceAdd, Nat.reduceBEq, Nat.reduceEqDiff, Nat.reduceLT, Nat.reduceLeDiff, Nat.reduceMul, Int.reduceToNat, reduceCtorEq, ↓reduceIte, Tryd.ntmps15, Tryd.results15, ks_15, mu_15, nd_15, xd_15, vw_15, ro_15, ti_ag3, ti_ag22, ti_ag79, ti_fl77_1, ti_fl77_2, ti_hb46, ti_pl77, ti_sb22, ti_sl22, ti_st9, ti_sz3, ti_sz22, ti_sz79, ti_zr77, ti_zr79, tkD, tkV, hc, lexC])
        | (refine AWp_condA rfl ?_ ?_)
        | (refine one_A H.length s p c (.os (H.length + 1) v) h1000 hc _ _ ((get_app0 _ _).trans rfl) (.os _ _ (by simp)) ?_; try simp (dsimp := false) only [go_sem, Nat.reduceAdd, Nat.reduceBEq, Nat.reduceEqDiff, Nat.reduceLT, Nat.reduceLeDiff, Nat.reduceMul, Int.reduceToNat, reduceCtorEq, ↓reduceIte, Tryd.ntmps15, Tryd.results15, ks_15, mu_15, nd_15, xd_15, vw_15, ro_15, ti_ag3, ti_ag22, ti_ag79, ti_fl77_1, ti_fl77_2, ti_hb46, ti_pl77, ti_sb22, ti_sl22, ti_st9, ti_sz3, ti_sz22, ti_sz79, ti_zr77, ti_zr79, tkD, tkV, hc, lexC])
        | (refine QCall_of (one_A H.length s p c (.os (H.length + 1) v) h1000 hc _ _ ((get_app0 _ _).trans rfl) (.os _ _ (by simp)) (Two_intro _ _)) ?_; try simp (dsimp := false) only [go_sem, Nat.reduceAdd, Nat.reduceBEq, Nat.reduceEqDiff, Nat.reduceLT, Nat.reduceLeDiff, Nat.reduceMul, Int.reduceToNat, reduceCtorEq, ↓reduceIte, Tryd.ntmps15, Tryd.results15, ks_15, mu_15, nd_15, xd_15, vw_15, ro_15, ti_ag3, ti_ag22, ti_ag79, ti_fl77_1, ti_fl77_2, ti_hb46, ti_pl77, ti_sb22, ti_sl22, ti_st9, ti_sz3, ti_sz22, ti_sz79, ti_zr77, ti_zr79, tkD, tkV, hc, lexC])
        | with_reducible refine onB_of ?_ ?_
        | with_reducible rfl
        | omega)
      all_goals first
        | (have hcs : c = 32 ∨ c = 10 ∨ c = 9 := by simp only [← UInt8.toNat_inj]; simp; omega
           rw [if_pos hcs] at h3
           exact ⟨(p + 1, v, out), ⟨by show p + 1 ≤ s.length; omega, h2, h3⟩, by show s.length - (p + 1) < s.length - p; omega, rfl, by simp [Ab.Sub, Frame.get, List.lookup, Bel_d, Bel_pt]⟩)
        | (have hcs : ¬ (c = 32 ∨ c = 10 ∨ c = 9) := by simp only [← UInt8.toNat_inj]; simp; omega
           rw [if_neg hcs] at h3
           first
             | (have h200 : out.length = 200 := by omega
                rw [if_pos (by omega)] at h3
                rw [← h3] at hk
                exact dropF hk (Fz_tu3 (.nil 3) (.same _) (.same _)) (bel_cutV _ _))
             | (rw [if_neg (by omega)] at h3
                first
                  | (refine closed_app fun ob hob => ?_
                     simp only [List.mem_cons, List.not_mem_nil, or_false] at hob
                     rcases hob with rfl | rfl
                     · exact lex_bel (.os _ _ (by simp))
                     · exact obBel_tk _ _ _ _)
                  | (rename_i ht h0
                     rw [if_neg (by simpa using h0)] at h3
                     obtain ⟨rfl, rfl⟩ := ht h0
                     obtain ⟨a1, a2, a3⟩ := oneT_adv hc h0
                     exact ⟨((oneT s p c.toNat).2.1, v + 1, out ++ [(oneT s p c.toNat).1]), ⟨a2, by simp; omega, h3⟩, by show s.length - (oneT s p c.toNat).2.1 < s.length - p; omega, by simp [tkC], by omega⟩)
                  | (rename_i ht h0
                     rw [if_pos h0] at h3
                     rw [← h3] at hk
                     exact dropF hk (Fz_tu3 (.nil 3) (.same _) (.same _)) (bel_cutV _ _))))
    · 
      repeat' (first
        | with_reducible refine And.intro ?_ ?_
        | with_reducible intro _
        | with_reducible refine AWp_seq ?_
        | with_reducible refine AWp_block ?_
        | (with_reducible refine hKv _ _ (AWp_nop ?_); clear hKv Kv)
        | (with_reducible refine hKv _ _ ?_; clear hKv Kv; simp (dsimp := false) only [go_sem, Nat.reduceAdd, Nat.reduceBEq, Nat.reduceEqDiff, Nat.reduceLT, Nat.reduceLeDiff, Nat.reduceMul, Int.reduceToNat, reduceCtorEq, ↓reduceIte, Tryd.ntmps15, Tryd.results15, ks_15, mu_15, nd_15, xd_15, vw_15, ro_15, ti_ag3, ti_ag22, ti_ag79, ti_fl77_1, ti_fl77_2, ti_hb46, ti_pl77, ti_sb22, ti_sl22, ti_st9, ti_sz3, ti_sz22, ti_sz79, ti_zr77, ti_zr79, tkD, tkV, lexC])
        | (with_reducible refine hKA ?_; clear hKA hKB KA KB)
        | (with_reducible refine hKB ?_; clear hKA hKB KA KB)
        | (with_reducible refine AWp_regro mu_15 ks_15 ro_15 ?_; intro Kv hKv; simp (dsimp := false) only [go_sem, Nat.reduceAdd, Nat.reduceBEq, Nat.reduceEqDiff, Nat.reduceLT, Nat.reduceLeDiff, Nat.reduceMul, Int.reduceToNat, reduceCtorEq, ↓reduceIte, Tryd.ntmps15, Tryd.results15, ks_15, mu_15, nd_15, xd_15, vw_15, ro_15, ti_ag3, ti_ag22, ti_ag79, ti_fl77_1, ti_fl77_2, ti_hb46, ti_pl77, ti_sb22, ti_sl22, ti_st9, ti_sz3, ti_sz22, ti_sz79, ti_zr77, ti_zr79, tkD, tkV, lexC])
        | (with_reducible refine AWp_regC mu_15 ks_15 ?_; intro Kv hKv; simp (dsimp := false) only [go_sem, Nat.reduceAdd, Nat.reduceBEq, Nat.reduceEqDiff, Nat.reduceLT, Nat.reduceLeDiff, Nat.reduceMul, Int.reduceToNat, reduceCtorEq, ↓reduceIte, Tryd.ntmps15, Tryd.results15, ks_15, mu_15, nd_15, xd_15, vw_15, ro_15, ti_ag3, ti_ag22, ti_ag79, ti_fl77_1, ti_fl77_2, ti_hb46, ti_pl77, ti_sb22, ti_sl22, ti_st9, ti_sz3, ti_sz22, ti_sz79, ti_zr77, ti_zr79, tkD, tkV, lexC])
        | (with_reducible refine AWp_drawX xd_15 mu_15 ks_15 vw_15 (by decide) ti_mixed (by kernel_rfl) ?_; intro Kv hKv; simp (dsimp := false) only [go_sem, Nat.reduceAdd, Nat.reduceBEq, Nat.reduceEqDiff, Nat.reduceLT, Nat.reduceLeDiff, Nat.reduceMul, Int.reduceToNat, reduceCtorEq, ↓reduceIte, Tryd.ntmps15, Tryd.results15, ks_15, mu_15, nd_15, xd_15, vw_15, ro_15, ti_ag3, ti_ag22, ti_ag79, ti_fl77_1, ti_fl77_2, ti_hb46, ti_pl77, ti_sb22, ti_sl22, ti_st9, ti_sz3, ti_sz22, ti_sz79, ti_zr77, ti_zr79, tkD, tkV, lexC])
        | (with_reducible refine AWp_draw nd_15 mu_15 ks_15 ti_mixed (by kernel_rfl) ?_; intro Kv hKv; simp (dsimp := false) only [go_sem, Nat.reduceAdd, Nat.reduceBEq, Nat.reduceEqDiff, Nat.reduceLT, Nat.reduceLeDiff, Nat.reduceMul, Int.reduceToNat, reduceCtorEq, ↓reduceIte, Tryd.ntmps15, Tryd.results15, ks_15, mu_15, nd_15, xd_15, vw_15, ro_15, ti_ag3, ti_ag22, ti_ag79, ti_fl77_1, ti_fl77_2, ti_hb46, ti_pl77, ti_sb22, ti_sl22, ti_st9, ti_sz3, ti_sz22, ti_sz79, ti_zr77, ti_zr79, tkD, tkV, lexC])
        | with_reducible refine AWp_skipN ?_
        | with_reducible refine AWp_exitO (by repeat (first | with_reducible exact Out.hit | with_reducible apply Out.thenA | with_reducible apply Out.out rfl)) ?_
        | (with_reducible refine AWp_retR ?_; simp (dsimp := false) only [go_sem, Nat.reduceAdd, Nat.reduceBEq, Nat.reduceEqDiff, Nat.reduceLT, Nat.reduceLeDiff, Nat.reduceMul, Int.reduceToNat, reduceCtorEq, ↓reduceIte, Tryd.ntmps15, Tryd.results15, ks_15, mu_15, nd_15, xd_15, vw_15, ro_15, ti_ag3, ti_ag22, ti_ag79, ti_fl77_1, ti_fl77_2, ti_hb46, ti_pl77, ti_sb22, ti_sl22, ti_st9, ti_sz3, ti_sz22, ti_sz79, ti_zr77, ti_zr79, tkD, tkV, lexC])
        | (with_reducible refine AWp_regE mu_15 ks_15 ?_; intro Kv hKv; simp (dsimp := false) only [go_sem, Nat.reduceAdd, Nat.reduceBEq, Nat.reduceEqDiff, Nat.reduceLT, Nat.reduceLeDiff, Nat.reduceMul, Int.reduceToNat, reduceCtorEq, ↓reduceIte, Tryd.ntmps15, Tryd.results15, ks_15, mu_15, nd_15, xd_15, vw_15, ro_15, ti_ag3, ti_ag22, ti_ag79, ti_fl77_1, ti_fl77_2, ti_hb46, ti_pl77, ti_sb22, ti_sl22, ti_st9, ti_sz3, ti_sz22, ti_sz79, ti_zr77, ti_zr79, tkD, tkV, lexC])
        | (with_reducible refine AWp_drawE nd_15 mu_15 ks_15 ti_mixed (by kernel_rfl) ?_; intro Kv hKv; simp (dsimp := false) only [go_sem, Nat.reduceAdd, Nat.reduceBEq, Nat.reduceEqDiff, Nat.reduceLT, Nat.reduceLeDiff, Nat.reduceMul, Int.reduceToNat, reduceCtorEq, ↓reduceIte, Tryd.ntmps15, Tryd.results15, ks_15, mu_15, nd_15, xd_15, vw_15, ro_15, ti_ag3, ti_ag22, ti_ag79, ti_fl77_1, ti_fl77_2, ti_hb46, ti_pl77, ti_sb22, ti_sl22, ti_st9, ti_sz3, ti_sz22, ti_sz79, ti_zr77, ti_zr79, tkD, tkV, lexC])
        | (refine AWp_condC rfl ?_; intro KA KB hKA hKB; try simp only [onB_true, onB_false, onB_dec, onB_ndec, onB_not, onB_and, onB_or])
        | (with_reducible refine AWp_drawXE xd_15 mu_15 ks_15 vw_15 (by decide) ti_mixed (by kernel_rfl) ?_; intro Kv hKv; simp (dsimp := false) only [go_sem, Nat.reduceAdd, Nat.reduceBEq, Nat.reduceEqDiff, Nat.reduceLT, Nat.reduceLeDiff, Nat.reduceMul, Int.reduceToNat, reduceCtorEq, ↓reduceIte, Tryd.ntmps15, Tryd.results15, ks_15, mu_15, nd_15, xd_15, vw_15, ro_15, ti_ag3, ti_ag22, ti_ag79, ti_fl77_1, ti_fl77_2, ti_hb46, ti_pl77, ti_sb22, ti_sl22, ti_st9, ti_sz3, ti_sz22, ti_sz79, ti_zr77, ti_zr79, tkD, tkV, lexC])
        | (refine AWp_condA rfl ?_ ?_)
        | with_reducible refine onB_of ?_ ?_
        | with_reducible rfl
        | omega)
      rw [cutGo_end (by omega)] at h3
      rw [← h3] at hk
      exact dropF hk (Fz_tu3 (.os _ _ 79 3 _ _ (by omega) (get_appk _ _ 1) (tks_data _)) (.same _) (.same _)) (bel_cutV _ _)
  · rw [cut, if_neg h1000] at hk
    
    refine ACalls_of Tryd.func15 rfl in_15 (Nat.le_of_ble_eq_true rfl) ?_
    intro F hF
    simp (dsimp := false) only [go_sem, Nat.reduceAdd, Nat.reduceBEq, Nat.reduceEqDiff, Nat.reduceLT, Nat.reduceLeDiff, Nat.reduceMul, Int.reduceToNat, reduceCtorEq, ↓reduceIte, Tryd.ntmps15, Tryd.results15, ks_15, mu_15, nd_15, xd_15, vw_15, ro_15, ti_ag3, ti_ag22, ti_ag79, ti_fl77_1, ti_fl77_2, ti_hb46, ti_pl77, ti_sb22, ti_sl22, ti_st9, ti_sz3, ti_sz22, ti_sz79, ti_zr77, ti_zr79, tkD, tkV, in_15] at hF
    subst hF
    repeat' (first
      | with_reducible refine And.intro ?_ ?_
      | with_reducible intro _
      | with_reducible refine AWp_seq ?_
      | with_reducible refine AWp_block ?_
      | (with_reducible refine hKv _ _ (AWp_nop ?_); clear hKv Kv)
      | (with_reducible refine hKv _ _ ?_; clear hKv Kv; simp (dsimp := false) only [go_sem, Nat.reduceAdd, Nat.reduceBEq, Nat.reduceEqDiff, Nat.reduceLT, Nat.reduceLeDiff, Nat.reduceMul, Int.reduceToNat, reduceCtorEq, ↓reduceIte, Tryd.ntmps15, Tryd.results15, ks_15, mu_15, nd_15, xd_15, vw_15, ro_15, ti_ag3, ti_ag22, ti_ag79, ti_fl77_1, ti_fl77_2, ti_hb46, ti_pl77, ti_sb22, ti_sl22, ti_st9, ti_sz3, ti_sz22, ti_sz79, ti_zr77, ti_zr79, tkD, tkV])
      | (with_reducible refine hKA ?_; clear hKA hKB KA KB)
      | (with_reducible refine hKB ?_; clear hKA hKB KA KB)
      | (with_reducible refine AWp_regro mu_15 ks_15 ro_15 ?_; intro Kv hKv; simp (dsimp := false) only [go_sem, Nat.reduceAdd, Nat.reduceBEq, Nat.reduceEqDiff, Nat.reduceLT, Nat.reduceLeDiff, Nat.reduceMul, Int.reduceToNat, reduceCtorEq, ↓reduceIte, Tryd.ntmps15, Tryd.results15, ks_15, mu_15, nd_15, xd_15, vw_15, ro_15, ti_ag3, ti_ag22, ti_ag79, ti_fl77_1, ti_fl77_2, ti_hb46, ti_pl77, ti_sb22, ti_sl22, ti_st9, ti_sz3, ti_sz22, ti_sz79, ti_zr77, ti_zr79, tkD, tkV])
      | (with_reducible refine AWp_regC mu_15 ks_15 ?_; intro Kv hKv; simp (dsimp := false) only [go_sem, Nat.reduceAdd, Nat.reduceBEq, Nat.reduceEqDiff, Nat.reduceLT, Nat.reduceLeDiff, Nat.reduceMul, Int.reduceToNat, reduceCtorEq, ↓reduceIte, Tryd.ntmps15, Tryd.results15, ks_15, mu_15, nd_15, xd_15, vw_15, ro_15, ti_ag3, ti_ag22, ti_ag79, ti_fl77_1, ti_fl77_2, ti_hb46, ti_pl77, ti_sb22, ti_sl22, ti_st9, ti_sz3, ti_sz22, ti_sz79, ti_zr77, ti_zr79, tkD, tkV])
      | (with_reducible refine AWp_drawX xd_15 mu_15 ks_15 vw_15 (by decide) ti_mixed (by kernel_rfl) ?_; intro Kv hKv; simp (dsimp := false) only [go_sem, Nat.reduceAdd, Nat.reduceBEq, Nat.reduceEqDiff, Nat.reduceLT, Nat.reduceLeDiff, Nat.reduceMul, Int.reduceToNat, reduceCtorEq, ↓reduceIte, Tryd.ntmps15, Tryd.results15, ks_15, mu_15, nd_15, xd_15, vw_15, ro_15, ti_ag3, ti_ag22, ti_ag79, ti_fl77_1, ti_fl77_2, ti_hb46, ti_pl77, ti_sb22, ti_sl22, ti_st9, ti_sz3, ti_sz22, ti_sz79, ti_zr77, ti_zr79, tkD, tkV])
      | (with_reducible refine AWp_draw nd_15 mu_15 ks_15 ti_mixed (by kernel_rfl) ?_; intro Kv hKv; simp (dsimp := false) only [go_sem, Nat.reduceAdd, Nat.reduceBEq, Nat.reduceEqDiff, Nat.reduceLT, Nat.reduceLeDiff, Nat.reduceMul, Int.reduceToNat, reduceCtorEq, ↓reduceIte, Tryd.ntmps15, Tryd.results15, ks_15, mu_15, nd_15, xd_15, vw_15, ro_15, ti_ag3, ti_ag22, ti_ag79, ti_fl77_1, ti_fl77_2, ti_hb46, ti_pl77, ti_sb22, ti_sl22, ti_st9, ti_sz3, ti_sz22, ti_sz79, ti_zr77, ti_zr79, tkD, tkV])
      | with_reducible refine AWp_skipN ?_
      | with_reducible refine AWp_exitO (by repeat (first | with_reducible exact Out.hit | with_reducible apply Out.thenA | with_reducible apply Out.out rfl)) ?_
      | (with_reducible refine AWp_retR ?_; simp (dsimp := false) only [go_sem, Nat.reduceAdd, Nat.reduceBEq, Nat.reduceEqDiff, Nat.reduceLT, Nat.reduceLeDiff, Nat.reduceMul, Int.reduceToNat, reduceCtorEq, ↓reduceIte, Tryd.ntmps15, Tryd.results15, ks_15, mu_15, nd_15, xd_15, vw_15, ro_15, ti_ag3, ti_ag22, ti_ag79, ti_fl77_1, ti_fl77_2, ti_hb46, ti_pl77, ti_sb22, ti_sl22, ti_st9, ti_sz3, ti_sz22, ti_sz79, ti_zr77, ti_zr79, tkD, tkV])
      | (with_reducible refine AWp_regE mu_15 ks_15 ?_; intro Kv hKv; simp (dsimp := false) only [go_sem, Nat.reduceAdd, Nat.reduceBEq, Nat.reduceEqDiff, Nat.reduceLT, Nat.reduceLeDiff, Nat.reduceMul, Int.reduceToNat, reduceCtorEq, ↓reduceIte, Tryd.ntmps15, Tryd.results15, ks_15, mu_15, nd_15, xd_15, vw_15, ro_15, ti_ag3, ti_ag22, ti_ag79, ti_fl77_1, ti_fl77_2, ti_hb46, ti_pl77, ti_sb22, ti_sl22, ti_st9, ti_sz3, ti_sz22, ti_sz79, ti_zr77, ti_zr79, tkD, tkV])
      | (with_reducible refine AWp_drawE nd_15 mu_15 ks_15 ti_mixed (by kernel_rfl) ?_; intro Kv hKv; simp (dsimp := false) only [go_sem, Nat.reduceAdd, Nat.reduceBEq, Nat.reduceEqDiff, Nat.reduceLT, Nat.reduceLeDiff, Nat.reduceMul, Int.reduceToNat, reduceCtorEq, ↓reduceIte, Tryd.ntmps15, Tryd.results15, ks_15, mu_15, nd_15, xd_15, vw_15, ro_15, ti_ag3, ti_ag22, ti_ag79, ti_fl77_1, ti_fl77_2, ti_hb46, ti_pl77, ti_sb22, ti_sl22, ti_st9, ti_sz3, ti_sz22, ti_sz79, ti_zr77, ti_zr79, tkD, tkV])
      | (refine AWp_condC rfl ?_; intro KA KB hKA hKB; try simp only [onB_true, onB_false, onB_dec, onB_ndec, onB_not, onB_and, onB_or])
      | (with_reducible refine AWp_drawXE xd_15 mu_15 ks_15 vw_15 (by decide) ti_mixed (by kernel_rfl) ?_; intro Kv hKv; simp (dsimp := false) only [go_sem, Nat.reduceAdd, Nat.reduceBEq, Nat.reduceEqDiff, Nat.reduceLT, Nat.reduceLeDiff, Nat.reduceMul, Int.reduceToNat, reduceCtorEq, ↓reduceIte, Tryd.ntmps15, Tryd.results15, ks_15, mu_15, nd_15, xd_15, vw_15, ro_15, ti_ag3, ti_ag22, ti_ag79, ti_fl77_1, ti_fl77_2, ti_hb46, ti_pl77, ti_sb22, ti_sl22, ti_st9, ti_sz3, ti_sz22, ti_sz79, ti_zr77, ti_zr79, tkD, tkV])
      | (refine AWp_condA rfl ?_ ?_)
      | with_reducible refine onB_of ?_ ?_
      | with_reducible rfl
      | omega)
    all_goals first
      | exact keepFz hk (Fz_tu3 (.nil 3) (.same _) (.same _)) (bel_cutV _ _)
end Go.Proofs.YtalalhngpcmoeaaDoor
