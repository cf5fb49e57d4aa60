/- Nodes of a document's events: what the program makes. No condition but that the tables of package unicode/utf8, and what package bytealg calls its greatest length, are there. -/
import Derived.Test.YtafbojmnmadlpaaDoorEc4
import Derived.Test.YtafbojmnmadlpaaDoorEcN
import Derived.Test.YtafbojmnmadlpaaDoorSd0
set_option linter.all false
set_option linter.unusedSimpArgs false
set_option linter.unusedVariables false
namespace Go.Proofs.YtafbojmnmadlpaaDoor
open Go Go.Proofs.YtafbojmnmadlpaaDoor.Ab
variable [Glo] [U8] [Ml]
set_option maxHeartbeats 4000000
set_option maxRecDepth 20000
theorem ss_app {os : List Nat} {out : List Nd} {n : Nd} (h : ∀ j, j ∈ os → j < out.length) : (bare os (bump os out ++ [n])).map ndC = (bare os out).map ndC ++ [ndC n] := by
  rw [bare_app _ _ _ (by rw [bump_len]; exact h), bare_bump, List.map_append]; rfl
theorem ss_new {os : List Nat} {out : List Nd} {n : Nd} (h : ∀ j, j ∈ os → j < out.length) (hz : n.sz = 0) : (bare (os ++ [out.length]) (bump os out ++ [n])).map ndC = (bare os out).map ndC ++ [ndC n] := by
  have := bare_new os (bump os out) n (by rw [bump_len]; exact h) hz
  rw [bump_len] at this
  rw [this, bare_bump, List.map_append]; rfl
theorem ss_close {os : List Nat} {up : Nat} {out : List Nd} {x : Nd} (hx : out[up]? = some x) (hn : up ∉ os) : ((bare (os ++ [up]) out).map ndC).set up (ndC x) = (bare os out).map ndC := by
  rw [← List.map_set, bare_close os up out x hx hn]
def ssFr (l : List Ev) (H : Heap) (y : Ss) : Ab.Frame := [(5, .os H.length y.a), (6, .os (H.length + 1) y.b), (18, .d (.sl 3 (l.map evD))), (19, .d (.i .i64 l.length)), (20, .d (.i .i64 y.i))]
def ssHp (y : Ss) : Heap := [Ob.row y.a 106 6 ((bare (y.os ++ [y.up]) y.out).map ndC), Ob.row y.b 3 1 ((y.os ++ [y.up]).map natCells)]
theorem ssHp_bel (y : Ss) (n : Nat) : ∀ ob, ob ∈ ssHp y → ObBel n ob := fun ob hob => by
  simp only [ssHp, List.mem_cons, List.not_mem_nil, or_false] at hob
  rcases hob with rfl | rfl
  · exact obBel_nd _ _ _ _ _
  · exact obBel_nat _ _ _ _ _

/- the live slots of pleacher/store.Shred -/
def ks_31 : Nat → List Nat
  | 0 => [0]
  | 1 => [0, 4]
  | 2 => [0, 4, 13]
  | 3 => [2, 3]
  | 4 => [0, 5]
  | 5 => [0, 5, 6]
  | 6 => [5, 6, 18, 19, 20]
  | 7 => [5, 6, 18, 19, 20, 21]
  | 8 => [5, 6, 8, 18, 19, 20]
  | 9 => [5, 6, 8, 9, 18, 19, 20]
  | 10 => [5, 6, 8, 9, 18, 19, 20, 32]
  | 11 => [5, 6, 18, 19, 20]
  | 12 => [5, 6, 18, 19, 20]
  | 13 => [5, 6, 8, 9, 18, 19, 20, 49]
  | 14 => [5, 6, 8, 9, 18, 19, 20]
  | 15 => [5, 6, 18, 19, 20]
  | 16 => [5, 6, 18, 19, 20]
  | 17 => [5]
  | 18 => [2, 3]
  | _ => []
def mu_31 : List Nat := [16, 17]
def in_31 : List Nat := [0]
def ro_31 : Nat → List Nat
  | 8 => [8]
  | _ => []
def nd_31 : Nat → Nat
  | 15 => 16
  | _ => 0
theorem shred_A (l : List Ev) (hS : EvSh l) (H : Heap) (K : V → Heap → Prop) (hk : K (.tu [.d (.sl 6 ((shredded l).map ndD)), .d (.i .i64 (eventsFault l))]) H) :
    ACalls Tryd.prog 31 [.d (.sl 3 (l.map evD))] H K := by
  have hS1 := hS.1
  by_cases hf : eventsFault l = 0
  · have hN : l.length ≤ 400 := by
      by_cases h : l.length ≤ 400
      · exact h
      · rw [eventsFault_big h] at hf; cases hf
    have hgo := hf
    rw [eventsFault_go hN] at hgo
    rw [shredded, if_pos hf, hf] at hk
    
    refine ACalls_of Tryd.func31 rfl in_31 (Nat.le_of_ble_eq_true rfl) ?_
    intro F hF
    simp (dsimp := false) only [go_sem, Nat.reduceAdd, Nat.reduceBEq, Nat.reduceEqDiff, Nat.reduceLT, Nat.reduceLeDiff, Nat.reduceMul, Int.reduceToNat, reduceCtorEq, ↓reduceIte, Tryd.ntmps31, Tryd.results31, ks_31, mu_31, nd_31, ro_31, ti_ag3, ti_ag9, ti_ag100, ti_fl100_0, ti_fl100_1, ti_fl100_2, ti_fl106_3, ti_fl106_4, ti_hb29, ti_pl106, ti_sb49, ti_sb52, ti_sb64, ti_sl49, ti_sl52, ti_sl64, ti_sz3, ti_sz100, ti_zr100, ti_zr106, evD, evV, hf, in_31] at hF
    subst hF
    repeat' (first
      | with_reducible refine And.intro ?_ ?_
      | with_reducible intro _
      | with_reducible refine AWp_seq ?_
      | with_reducible refine AWp_block ?_
      | (with_reducible refine hKv _ _ (AWp_nop ?_); clear hKv Kv)
      | (with_reducible refine hKv _ _ ?_; clear hKv Kv; simp (dsimp := false) only [go_sem, Nat.reduceAdd, Nat.reduceBEq, Nat.reduceEqDiff, Nat.reduceLT, Nat.reduceLeDiff, Nat.reduceMul, Int.reduceToNat, reduceCtorEq, ↓reduceIte, Tryd.ntmps31, Tryd.results31, ks_31, mu_31, nd_31, ro_31, ti_ag3, ti_ag9, ti_ag100, ti_fl100_0, ti_fl100_1, ti_fl100_2, ti_fl106_3, ti_fl106_4, ti_hb29, ti_pl106, ti_sb49, ti_sb52, ti_sb64, ti_sl49, ti_sl52, ti_sl64, ti_sz3, ti_sz100, ti_zr100, ti_zr106, evD, evV, hf])
      | (with_reducible refine hKA ?_; clear hKA hKB KA KB)
      | (with_reducible refine hKB ?_; clear hKA hKB KA KB)
      | ((first | with_reducible refine AWp_regro mu_31 ks_31 ro_31 ?_ | with_reducible refine AWp_regC mu_31 ks_31 ?_ | with_reducible refine AWp_draw nd_31 mu_31 ks_31 ti_mixed (by kernel_rfl) ?_); intro Kv hKv; simp (dsimp := false) only [go_sem, Nat.reduceAdd, Nat.reduceBEq, Nat.reduceEqDiff, Nat.reduceLT, Nat.reduceLeDiff, Nat.reduceMul, Int.reduceToNat, reduceCtorEq, ↓reduceIte, Tryd.ntmps31, Tryd.results31, ks_31, mu_31, nd_31, ro_31, ti_ag3, ti_ag9, ti_ag100, ti_fl100_0, ti_fl100_1, ti_fl100_2, ti_fl106_3, ti_fl106_4, ti_hb29, ti_pl106, ti_sb49, ti_sb52, ti_sb64, ti_sl49, ti_sl52, ti_sl64, ti_sz3, ti_sz100, ti_zr100, ti_zr106, evD, evV, hf])
      | with_reducible refine AWp_skipN ?_
      | with_reducible refine AWp_exitO (by repeat (first | with_reducible exact Out.hit | with_reducible apply Out.thenA | with_reducible apply Out.out rfl)) ?_
      | (with_reducible refine AWp_retR ?_; simp (dsimp := false) only [go_sem, Nat.reduceAdd, Nat.reduceBEq, Nat.reduceEqDiff, Nat.reduceLT, Nat.reduceLeDiff, Nat.reduceMul, Int.reduceToNat, reduceCtorEq, ↓reduceIte, Tryd.ntmps31, Tryd.results31, ks_31, mu_31, nd_31, ro_31, ti_ag3, ti_ag9, ti_ag100, ti_fl100_0, ti_fl100_1, ti_fl100_2, ti_fl106_3, ti_fl106_4, ti_hb29, ti_pl106, ti_sb49, ti_sb52, ti_sb64, ti_sl49, ti_sl52, ti_sl64, ti_sz3, ti_sz100, ti_zr100, ti_zr106, evD, evV, hf])
      | ((first | with_reducible refine AWp_regE mu_31 ks_31 ?_ | with_reducible refine AWp_drawE nd_31 mu_31 ks_31 ti_mixed (by kernel_rfl) ?_); intro Kv hKv; simp (dsimp := false) only [go_sem, Nat.reduceAdd, Nat.reduceBEq, Nat.reduceEqDiff, Nat.reduceLT, Nat.reduceLeDiff, Nat.reduceMul, Int.reduceToNat, reduceCtorEq, ↓reduceIte, Tryd.ntmps31, Tryd.results31, ks_31, mu_31, nd_31, ro_31, ti_ag3, ti_ag9, ti_ag100, ti_fl100_0, ti_fl100_1, ti_fl100_2, ti_fl106_3, ti_fl106_4, ti_hb29, ti_pl106, ti_sb49, ti_sb52, ti_sb64, ti_sl49, ti_sl52, ti_sl64, ti_sz3, ti_sz100, ti_zr100, ti_zr106, evD, evV, hf])
      | (refine AWp_condC rfl ?_; intro KA KB hKA hKB; try simp only [onB_true, onB_false, onB_dec, onB_ndec, onB_not, onB_and, onB_or])
      | (refine AWp_condA rfl ?_ ?_)
      | ((first | refine xmlCheck_A l hS _ _ ?_ | refine QCall_of (xmlCheck_A l hS _ _ (Two_intro _ _)) ?_); try simp (dsimp := false) only [go_sem, Nat.reduceAdd, Nat.reduceBEq, Nat.reduceEqDiff, Nat.reduceLT, Nat.reduceLeDiff, Nat.reduceMul, Int.reduceToNat, reduceCtorEq, ↓reduceIte, Tryd.ntmps31, Tryd.results31, ks_31, mu_31, nd_31, ro_31, ti_ag3, ti_ag9, ti_ag100, ti_fl100_0, ti_fl100_1, ti_fl100_2, ti_fl106_3, ti_fl106_4, ti_hb29, ti_pl106, ti_sb49, ti_sb52, ti_sb64, ti_sl49, ti_sl52, ti_sl64, ti_sz3, ti_sz100, ti_zr100, ti_zr106, evD, evV, hf])
      | with_reducible refine onB_of ?_ ?_
      | with_reducible rfl
      | omega)
    refine AWp_whileH (SsOk l) (ssFr l H) ssHp (fun y => l.length - y.i) ⟨0, evSt, [ndDoc], [], 0, 0, 0⟩ (SsOk.zero hgo) ?_ ?_ ?_ ?_
    · first | rfl
    · simp only [ssFr]
      simp (dsimp := false) only [go_sem, Nat.reduceAdd, Nat.reduceBEq, Nat.reduceEqDiff, Nat.reduceLT, Nat.reduceLeDiff, Nat.reduceMul, Int.reduceToNat, reduceCtorEq, ↓reduceIte, Tryd.ntmps31, Tryd.results31, ks_31, mu_31, nd_31, ro_31, ti_ag3, ti_ag9, ti_ag100, ti_fl100_0, ti_fl100_1, ti_fl100_2, ti_fl106_3, ti_fl106_4, ti_hb29, ti_pl106, ti_sb49, ti_sb52, ti_sb64, ti_sl49, ti_sl52, ti_sl64, ti_sz3, ti_sz100, ti_zr100, ti_zr106, evD, evV, hf]
      first | done | (simp; done)
    · rintro y _ ob hob
      exact ssHp_bel y _ ob hob
    rintro y hy
    have hcl : Closed H (H ++ ssHp y) := closed_app (ssHp_bel y _)
    obtain ⟨i, s, out, os, up, a, b⟩ := y
    simp only [ssFr, ssHp] at hcl ⊢
    have hol : ((os ++ [up]).map natCells).length = os.length + 1 := by simp
    have hot : (os ++ [up])[(((os.length + 1 : Nat) : Int) - 1).toNat]? = some up := by
      rw [show (((os.length + 1 : Nat) : Int) - 1).toNat = os.length by omega]; exact get_last1 _ _
    have hog : ((0 : Int) ≤ ((os.length + 1 : Nat) : Int) - 1) = True := eq_true (by omega)
    have hoh : (((os.length + 1 : Nat) : Int) - 1 < ((os.length + 1 : Nat) : Int)) = True := eq_true (by omega)
    have hlen := hy.len
    have hinv := hy.inv
    have hupl : up < out.length := hinv.lt up (by simp)
    simp only [] at hlen hinv
    obtain ⟨u, hu⟩ : ∃ u, out[up]? = some u := ⟨out[up], List.getElem?_eq_getElem hupl⟩
    have hbu : (bare (os ++ [up]) out)[up]? = some (szTo u 0) := by rw [bare_get hu, if_pos (by simp)]
    have hupt : ((0 : Int) ≤ (up : Int)) = True := eq_true (by omega)
    have hupt2 : ((up : Int) < (out.length : Int)) = True := eq_true (by omega)
    have hlv := hinv.lv u (List.mem_of_getElem? hu)
    have hosl : os.length ≤ 1000 := by
      have h1 := hy.n
      have h2 := hinv.lt
      have h3 : (os ++ [up]).length ≤ out.length := by
        have hnd : ∀ (L : List Nat) (m : Nat), (∀ j, j ∈ L → j < m) → (∀ (a b : Nat) (i j : Nat), L[a]? = some i → L[b]? = some j → a < b → i < j) → L.length ≤ m := fun L m g1 g2 => by
          rcases L.eq_nil_or_concat with rfl | ⟨r, z, rfl⟩
          · exact Nat.zero_le _
          · have key : ∀ (k : Nat) (i : Nat), (r.concat z)[k]? = some i → k ≤ i := fun k => by
              induction k with
              | zero => exact fun i _ => Nat.zero_le _
              | succ k ih =>
                intro i hi
                have hk := lt_of_get hi
                have e : (r.concat z)[k]? = some ((r.concat z)[k]'(by omega)) := List.getElem?_eq_getElem (by omega)
                have := ih _ e
                have := g2 k (k + 1) _ _ e hi (by omega)
                omega
            have := key r.length z (by rw [List.concat_eq_append]; exact get_last1 _ _)
            have := g1 z (by simp)
            rw [List.length_concat]; omega
        exact hnd _ _ h2 hinv.asc
      rw [List.length_append] at h3
      have := hy.hi
      simp at h3 this
      omega
    by_cases hin : i < l.length
    · obtain ⟨x, hx⟩ : ∃ x, l[i]? = some x := ⟨l[i], List.getElem?_eq_getElem hin⟩
      have hxs := hS.2 x (List.mem_of_getElem? hx)
      have hin' : ((i : Int) < (l.length : Int)) = True := eq_true (by omega)
      have hlo : lvAt out up = u.lv := by rw [lvAt, hu]
      by_cases h5 : x.k = 5
      · obtain ⟨r, o, hro, hok⟩ := hy.close hx h5 a (b + 1)
        simp only [] at hro
        have hn := hinv.notin
        have husz := hinv.sz up u (by simp) hu
        have hcls := ss_close hu hn
        have htk : List.take (((os.length + 1 : Nat) : Int) - 1).toNat ((os ++ [up]).map natCells) = os.map natCells := by
          rw [List.map_append, List.take_left' (by rw [List.length_map]; omega)]
        
        repeat' (first
          | with_reducible refine And.intro ?_ ?_
          | with_reducible intro _
          | with_reducible refine AWp_seq ?_
          | with_reducible refine AWp_block ?_
          | (with_reducible refine hKv _ _ (AWp_nop ?_); clear hKv Kv)
          | (with_reducible refine hKv _ _ ?_; clear hKv Kv; simp (dsimp := false) only [go_sem, Nat.reduceAdd, Nat.reduceBEq, Nat.reduceEqDiff, Nat.reduceLT, Nat.reduceLeDiff, Nat.reduceMul, Int.reduceToNat, reduceCtorEq, ↓reduceIte, Tryd.ntmps31, Tryd.results31, ks_31, mu_31, nd_31, ro_31, ti_ag3, ti_ag9, ti_ag100, ti_fl100_0, ti_fl100_1, ti_fl100_2, ti_fl106_3, ti_fl106_4, ti_hb29, ti_pl106, ti_sb49, ti_sb52, ti_sb64, ti_sl49, ti_sl52, ti_sl64, ti_sz3, ti_sz100, ti_zr100, ti_zr106, evD, evV, ndC, szTo, natCells, h5, Int.reduceEq, hx, hin', hol, hot, hog, hoh, hbu, hupt, hupt2, htk, List.length_map, bare_len, List.getElem?_map, Option.map_some, List.length_set])
          | (with_reducible refine hKA ?_; clear hKA hKB KA KB)
          | (with_reducible refine hKB ?_; clear hKA hKB KA KB)
          | ((first | with_reducible refine AWp_regro mu_31 ks_31 ro_31 ?_ | with_reducible refine AWp_regC mu_31 ks_31 ?_ | with_reducible refine AWp_draw nd_31 mu_31 ks_31 ti_mixed (by kernel_rfl) ?_); intro Kv hKv; simp (dsimp := false) only [go_sem, Nat.reduceAdd, Nat.reduceBEq, Nat.reduceEqDiff, Nat.reduceLT, Nat.reduceLeDiff, Nat.reduceMul, Int.reduceToNat, reduceCtorEq, ↓reduceIte, Tryd.ntmps31, Tryd.results31, ks_31, mu_31, nd_31, ro_31, ti_ag3, ti_ag9, ti_ag100, ti_fl100_0, ti_fl100_1, ti_fl100_2, ti_fl106_3, ti_fl106_4, ti_hb29, ti_pl106, ti_sb49, ti_sb52, ti_sb64, ti_sl49, ti_sl52, ti_sl64, ti_sz3, ti_sz100, ti_zr100, ti_zr106, evD, evV, ndC, szTo, natCells, h5, Int.reduceEq, hx, hin', hol, hot, hog, hoh, hbu, hupt, hupt2, htk, List.length_map, bare_len, List.getElem?_map, Option.map_some, List.length_set])
          | with_reducible refine AWp_skipN ?_
          | with_reducible refine AWp_exitO (by repeat (first | with_reducible exact Out.hit | with_reducible apply Out.thenA | with_reducible apply Out.out rfl)) ?_
          | (with_reducible refine AWp_retR ?_; simp (dsimp := false) only [go_sem, Nat.reduceAdd, Nat.reduceBEq, Nat.reduceEqDiff, Nat.reduceLT, Nat.reduceLeDiff, Nat.reduceMul, Int.reduceToNat, reduceCtorEq, ↓reduceIte, Tryd.ntmps31, Tryd.results31, ks_31, mu_31, nd_31, ro_31, ti_ag3, ti_ag9, ti_ag100, ti_fl100_0, ti_fl100_1, ti_fl100_2, ti_fl106_3, ti_fl106_4, ti_hb29, ti_pl106, ti_sb49, ti_sb52, ti_sb64, ti_sl49, ti_sl52, ti_sl64, ti_sz3, ti_sz100, ti_zr100, ti_zr106, evD, evV, ndC, szTo, natCells, h5, Int.reduceEq, hx, hin', hol, hot, hog, hoh, hbu, hupt, hupt2, htk, List.length_map, bare_len, List.getElem?_map, Option.map_some, List.length_set])
          | ((first | with_reducible refine AWp_regE mu_31 ks_31 ?_ | with_reducible refine AWp_drawE nd_31 mu_31 ks_31 ti_mixed (by kernel_rfl) ?_); intro Kv hKv; simp (dsimp := false) only [go_sem, Nat.reduceAdd, Nat.reduceBEq, Nat.reduceEqDiff, Nat.reduceLT, Nat.reduceLeDiff, Nat.reduceMul, Int.reduceToNat, reduceCtorEq, ↓reduceIte, Tryd.ntmps31, Tryd.results31, ks_31, mu_31, nd_31, ro_31, ti_ag3, ti_ag9, ti_ag100, ti_fl100_0, ti_fl100_1, ti_fl100_2, ti_fl106_3, ti_fl106_4, ti_hb29, ti_pl106, ti_sb49, ti_sb52, ti_sb64, ti_sl49, ti_sl52, ti_sl64, ti_sz3, ti_sz100, ti_zr100, ti_zr106, evD, evV, ndC, szTo, natCells, h5, Int.reduceEq, hx, hin', hol, hot, hog, hoh, hbu, hupt, hupt2, htk, List.length_map, bare_len, List.getElem?_map, Option.map_some, List.length_set])
          | (refine AWp_condC rfl ?_; intro KA KB hKA hKB; try simp only [onB_true, onB_false, onB_dec, onB_ndec, onB_not, onB_and, onB_or])
          | (refine AWp_condA rfl ?_ ?_)
          | with_reducible refine onB_of ?_ ?_
          | with_reducible rfl
          | omega)
        all_goals first
          | omega
          | exact hcl
          | exact ⟨⟨i + 1, evS s x, out, r, o, a, b + 1⟩, hok, by show l.length - (i + 1) < l.length - i; omega, by rw [← hro, ← hcls, ← husz]; rfl, by (repeat' (refine And.intro ?_ ?_)) <;> first | rfl | omega | (simp; done) | (simp; omega) | (simp (dsimp := false) only [go_sem, Nat.reduceAdd, Nat.reduceBEq, Nat.reduceEqDiff, Nat.reduceLT, Nat.reduceLeDiff, Nat.reduceMul, Int.reduceToNat, reduceCtorEq, ↓reduceIte, Tryd.ntmps31, Tryd.results31, ks_31, mu_31, nd_31, ro_31, ti_ag3, ti_ag9, ti_ag100, ti_fl100_0, ti_fl100_1, ti_fl100_2, ti_fl106_3, ti_fl106_4, ti_hb29, ti_pl106, ti_sb49, ti_sb52, ti_sb64, ti_sl49, ti_sl52, ti_sl64, ti_sz3, ti_sz100, ti_zr100, ti_zr106, evD, evV, ndC, szTo, natCells, h5, Int.reduceEq, hx, hin', hol, hot, hog, hoh, hbu, hupt, hupt2, htk, List.length_map, bare_len, List.getElem?_map, Option.map_some, List.length_set]; done) | (simp (dsimp := false) only [go_sem, Nat.reduceAdd, Nat.reduceBEq, Nat.reduceEqDiff, Nat.reduceLT, Nat.reduceLeDiff, Nat.reduceMul, Int.reduceToNat, reduceCtorEq, ↓reduceIte, Tryd.ntmps31, Tryd.results31, ks_31, mu_31, nd_31, ro_31, ti_ag3, ti_ag9, ti_ag100, ti_fl100_0, ti_fl100_1, ti_fl100_2, ti_fl106_3, ti_fl106_4, ti_hb29, ti_pl106, ti_sb49, ti_sb52, ti_sb64, ti_sl49, ti_sl52, ti_sl64, ti_sz3, ti_sz100, ti_zr100, ti_zr106, evD, evV, ndC, szTo, natCells, h5, Int.reduceEq, hx, hin', hol, hot, hog, hoh, hbu, hupt, hupt2, htk, List.length_map, bare_len, List.getElem?_map, Option.map_some, List.length_set]; omega)⟩
      · have h5f : (x.k = 5) = False := eq_false h5
        by_cases h1 : x.k = 1
        · have hnew := ss_new (os := os ++ [up]) (out := out) (n := shNew out up x) hinv.lt rfl
          
          repeat' (first
            | with_reducible refine And.intro ?_ ?_
            | with_reducible intro _
            | with_reducible refine AWp_seq ?_
            | with_reducible refine AWp_block ?_
            | (with_reducible refine hKv _ _ (AWp_nop ?_); clear hKv Kv)
            | (with_reducible refine hKv _ _ ?_; clear hKv Kv; simp (dsimp := false) only [go_sem, Nat.reduceAdd, Nat.reduceBEq, Nat.reduceEqDiff, Nat.reduceLT, Nat.reduceLeDiff, Nat.reduceMul, Int.reduceToNat, reduceCtorEq, ↓reduceIte, Tryd.ntmps31, Tryd.results31, ks_31, mu_31, nd_31, ro_31, ti_ag3, ti_ag9, ti_ag100, ti_fl100_0, ti_fl100_1, ti_fl100_2, ti_fl106_3, ti_fl106_4, ti_hb29, ti_pl106, ti_sb49, ti_sb52, ti_sb64, ti_sl49, ti_sl52, ti_sl64, ti_sz3, ti_sz100, ti_zr100, ti_zr106, evD, evV, ndC, szTo, natCells, h1, Int.reduceEq, hx, hin', hol, hot, hog, hoh, hbu, hupt, hupt2, List.length_map, bare_len, List.getElem?_map, Option.map_some, List.length_set])
            | (with_reducible refine hKA ?_; clear hKA hKB KA KB)
            | (with_reducible refine hKB ?_; clear hKA hKB KA KB)
            | ((first | with_reducible refine AWp_regro mu_31 ks_31 ro_31 ?_ | with_reducible refine AWp_regC mu_31 ks_31 ?_ | with_reducible refine AWp_draw nd_31 mu_31 ks_31 ti_mixed (by kernel_rfl) ?_); intro Kv hKv; simp (dsimp := false) only [go_sem, Nat.reduceAdd, Nat.reduceBEq, Nat.reduceEqDiff, Nat.reduceLT, Nat.reduceLeDiff, Nat.reduceMul, Int.reduceToNat, reduceCtorEq, ↓reduceIte, Tryd.ntmps31, Tryd.results31, ks_31, mu_31, nd_31, ro_31, ti_ag3, ti_ag9, ti_ag100, ti_fl100_0, ti_fl100_1, ti_fl100_2, ti_fl106_3, ti_fl106_4, ti_hb29, ti_pl106, ti_sb49, ti_sb52, ti_sb64, ti_sl49, ti_sl52, ti_sl64, ti_sz3, ti_sz100, ti_zr100, ti_zr106, evD, evV, ndC, szTo, natCells, h1, Int.reduceEq, hx, hin', hol, hot, hog, hoh, hbu, hupt, hupt2, List.length_map, bare_len, List.getElem?_map, Option.map_some, List.length_set])
            | with_reducible refine AWp_skipN ?_
            | with_reducible refine AWp_exitO (by repeat (first | with_reducible exact Out.hit | with_reducible apply Out.thenA | with_reducible apply Out.out rfl)) ?_
            | (with_reducible refine AWp_retR ?_; simp (dsimp := false) only [go_sem, Nat.reduceAdd, Nat.reduceBEq, Nat.reduceEqDiff, Nat.reduceLT, Nat.reduceLeDiff, Nat.reduceMul, Int.reduceToNat, reduceCtorEq, ↓reduceIte, Tryd.ntmps31, Tryd.results31, ks_31, mu_31, nd_31, ro_31, ti_ag3, ti_ag9, ti_ag100, ti_fl100_0, ti_fl100_1, ti_fl100_2, ti_fl106_3, ti_fl106_4, ti_hb29, ti_pl106, ti_sb49, ti_sb52, ti_sb64, ti_sl49, ti_sl52, ti_sl64, ti_sz3, ti_sz100, ti_zr100, ti_zr106, evD, evV, ndC, szTo, natCells, h1, Int.reduceEq, hx, hin', hol, hot, hog, hoh, hbu, hupt, hupt2, List.length_map, bare_len, List.getElem?_map, Option.map_some, List.length_set])
            | ((first | with_reducible refine AWp_regE mu_31 ks_31 ?_ | with_reducible refine AWp_drawE nd_31 mu_31 ks_31 ti_mixed (by kernel_rfl) ?_); intro Kv hKv; simp (dsimp := false) only [go_sem, Nat.reduceAdd, Nat.reduceBEq, Nat.reduceEqDiff, Nat.reduceLT, Nat.reduceLeDiff, Nat.reduceMul, Int.reduceToNat, reduceCtorEq, ↓reduceIte, Tryd.ntmps31, Tryd.results31, ks_31, mu_31, nd_31, ro_31, ti_ag3, ti_ag9, ti_ag100, ti_fl100_0, ti_fl100_1, ti_fl100_2, ti_fl106_3, ti_fl106_4, ti_hb29, ti_pl106, ti_sb49, ti_sb52, ti_sb64, ti_sl49, ti_sl52, ti_sl64, ti_sz3, ti_sz100, ti_zr100, ti_zr106, evD, evV, ndC, szTo, natCells, h1, Int.reduceEq, hx, hin', hol, hot, hog, hoh, hbu, hupt, hupt2, List.length_map, bare_len, List.getElem?_map, Option.map_some, List.length_set])
            | (refine AWp_condC rfl ?_; intro KA KB hKA hKB; try simp only [onB_true, onB_false, onB_dec, onB_ndec, onB_not, onB_and, onB_or])
            | (refine AWp_condA rfl ?_ ?_)
            | with_reducible refine onB_of ?_ ?_
            | with_reducible rfl
            | omega)
          all_goals first
            | omega
            | exact hcl
            | exact ⟨⟨i + 1, evS s x, bump (os ++ [up]) out ++ [shNew out up x], os ++ [up], out.length, a + 1, b + 1⟩, hy.deeper hx h1 (a + 1) (b + 1), by show l.length - (i + 1) < l.length - i; omega, by rw [hnew]; simp [shNew, ndC, natCells, hlo, h1], by (repeat' (refine And.intro ?_ ?_)) <;> first | rfl | omega | (simp; done) | (simp; omega) | (simp (dsimp := false) only [go_sem, Nat.reduceAdd, Nat.reduceBEq, Nat.reduceEqDiff, Nat.reduceLT, Nat.reduceLeDiff, Nat.reduceMul, Int.reduceToNat, reduceCtorEq, ↓reduceIte, Tryd.ntmps31, Tryd.results31, ks_31, mu_31, nd_31, ro_31, ti_ag3, ti_ag9, ti_ag100, ti_fl100_0, ti_fl100_1, ti_fl100_2, ti_fl106_3, ti_fl106_4, ti_hb29, ti_pl106, ti_sb49, ti_sb52, ti_sb64, ti_sl49, ti_sl52, ti_sl64, ti_sz3, ti_sz100, ti_zr100, ti_zr106, evD, evV, ndC, szTo, natCells, h1, Int.reduceEq, hx, hin', hol, hot, hog, hoh, hbu, hupt, hupt2, List.length_map, bare_len, List.getElem?_map, Option.map_some, List.length_set]; done) | (simp (dsimp := false) only [go_sem, Nat.reduceAdd, Nat.reduceBEq, Nat.reduceEqDiff, Nat.reduceLT, Nat.reduceLeDiff, Nat.reduceMul, Int.reduceToNat, reduceCtorEq, ↓reduceIte, Tryd.ntmps31, Tryd.results31, ks_31, mu_31, nd_31, ro_31, ti_ag3, ti_ag9, ti_ag100, ti_fl100_0, ti_fl100_1, ti_fl100_2, ti_fl106_3, ti_fl106_4, ti_hb29, ti_pl106, ti_sb49, ti_sb52, ti_sb64, ti_sl49, ti_sl52, ti_sl64, ti_sz3, ti_sz100, ti_zr100, ti_zr106, evD, evV, ndC, szTo, natCells, h1, Int.reduceEq, hx, hin', hol, hot, hog, hoh, hbu, hupt, hupt2, List.length_map, bare_len, List.getElem?_map, Option.map_some, List.length_set]; omega)⟩
        · have h1f : (x.k = 1) = False := eq_false h1
          have hnew := ss_app (os := os ++ [up]) (out := out) (n := shNew out up x) hinv.lt
          
          repeat' (first
            | with_reducible refine And.intro ?_ ?_
            | with_reducible intro _
            | with_reducible refine AWp_seq ?_
            | with_reducible refine AWp_block ?_
            | (with_reducible refine hKv _ _ (AWp_nop ?_); clear hKv Kv)
            | (with_reducible refine hKv _ _ ?_; clear hKv Kv; simp (dsimp := false) only [go_sem, Nat.reduceAdd, Nat.reduceBEq, Nat.reduceEqDiff, Nat.reduceLT, Nat.reduceLeDiff, Nat.reduceMul, Int.reduceToNat, reduceCtorEq, ↓reduceIte, Tryd.ntmps31, Tryd.results31, ks_31, mu_31, nd_31, ro_31, ti_ag3, ti_ag9, ti_ag100, ti_fl100_0, ti_fl100_1, ti_fl100_2, ti_fl106_3, ti_fl106_4, ti_hb29, ti_pl106, ti_sb49, ti_sb52, ti_sb64, ti_sl49, ti_sl52, ti_sl64, ti_sz3, ti_sz100, ti_zr100, ti_zr106, evD, evV, ndC, szTo, natCells, h1f, h5f, hx, hin', hol, hot, hog, hoh, hbu, hupt, hupt2, List.length_map, bare_len, List.getElem?_map, Option.map_some, List.length_set])
            | (with_reducible refine hKA ?_; clear hKA hKB KA KB)
            | (with_reducible refine hKB ?_; clear hKA hKB KA KB)
            | ((first | with_reducible refine AWp_regro mu_31 ks_31 ro_31 ?_ | with_reducible refine AWp_regC mu_31 ks_31 ?_ | with_reducible refine AWp_draw nd_31 mu_31 ks_31 ti_mixed (by kernel_rfl) ?_); intro Kv hKv; simp (dsimp := false) only [go_sem, Nat.reduceAdd, Nat.reduceBEq, Nat.reduceEqDiff, Nat.reduceLT, Nat.reduceLeDiff, Nat.reduceMul, Int.reduceToNat, reduceCtorEq, ↓reduceIte, Tryd.ntmps31, Tryd.results31, ks_31, mu_31, nd_31, ro_31, ti_ag3, ti_ag9, ti_ag100, ti_fl100_0, ti_fl100_1, ti_fl100_2, ti_fl106_3, ti_fl106_4, ti_hb29, ti_pl106, ti_sb49, ti_sb52, ti_sb64, ti_sl49, ti_sl52, ti_sl64, ti_sz3, ti_sz100, ti_zr100, ti_zr106, evD, evV, ndC, szTo, natCells, h1f, h5f, hx, hin', hol, hot, hog, hoh, hbu, hupt, hupt2, List.length_map, bare_len, List.getElem?_map, Option.map_some, List.length_set])
            | with_reducible refine AWp_skipN ?_
            | with_reducible refine AWp_exitO (by repeat (first | with_reducible exact Out.hit | with_reducible apply Out.thenA | with_reducible apply Out.out rfl)) ?_
            | (with_reducible refine AWp_retR ?_; simp (dsimp := false) only [go_sem, Nat.reduceAdd, Nat.reduceBEq, Nat.reduceEqDiff, Nat.reduceLT, Nat.reduceLeDiff, Nat.reduceMul, Int.reduceToNat, reduceCtorEq, ↓reduceIte, Tryd.ntmps31, Tryd.results31, ks_31, mu_31, nd_31, ro_31, ti_ag3, ti_ag9, ti_ag100, ti_fl100_0, ti_fl100_1, ti_fl100_2, ti_fl106_3, ti_fl106_4, ti_hb29, ti_pl106, ti_sb49, ti_sb52, ti_sb64, ti_sl49, ti_sl52, ti_sl64, ti_sz3, ti_sz100, ti_zr100, ti_zr106, evD, evV, ndC, szTo, natCells, h1f, h5f, hx, hin', hol, hot, hog, hoh, hbu, hupt, hupt2, List.length_map, bare_len, List.getElem?_map, Option.map_some, List.length_set])
            | ((first | with_reducible refine AWp_regE mu_31 ks_31 ?_ | with_reducible refine AWp_drawE nd_31 mu_31 ks_31 ti_mixed (by kernel_rfl) ?_); intro Kv hKv; simp (dsimp := false) only [go_sem, Nat.reduceAdd, Nat.reduceBEq, Nat.reduceEqDiff, Nat.reduceLT, Nat.reduceLeDiff, Nat.reduceMul, Int.reduceToNat, reduceCtorEq, ↓reduceIte, Tryd.ntmps31, Tryd.results31, ks_31, mu_31, nd_31, ro_31, ti_ag3, ti_ag9, ti_ag100, ti_fl100_0, ti_fl100_1, ti_fl100_2, ti_fl106_3, ti_fl106_4, ti_hb29, ti_pl106, ti_sb49, ti_sb52, ti_sb64, ti_sl49, ti_sl52, ti_sl64, ti_sz3, ti_sz100, ti_zr100, ti_zr106, evD, evV, ndC, szTo, natCells, h1f, h5f, hx, hin', hol, hot, hog, hoh, hbu, hupt, hupt2, List.length_map, bare_len, List.getElem?_map, Option.map_some, List.length_set])
            | (refine AWp_condC rfl ?_; intro KA KB hKA hKB; try simp only [onB_true, onB_false, onB_dec, onB_ndec, onB_not, onB_and, onB_or])
            | (refine AWp_condA rfl ?_ ?_)
            | with_reducible refine onB_of ?_ ?_
            | with_reducible rfl
            | omega)
          all_goals first
            | omega
            | exact hcl
            | exact ⟨⟨i + 1, evS s x, bump (os ++ [up]) out ++ [shNew out up x], os, up, a + 1, b⟩, hy.more hx h1 h5 (a + 1) b, by show l.length - (i + 1) < l.length - i; omega, by rw [hnew]; simp [shNew, ndC, hlo], by (repeat' (refine And.intro ?_ ?_)) <;> first | rfl | omega | (simp; done) | (simp; omega) | (simp (dsimp := false) only [go_sem, Nat.reduceAdd, Nat.reduceBEq, Nat.reduceEqDiff, Nat.reduceLT, Nat.reduceLeDiff, Nat.reduceMul, Int.reduceToNat, reduceCtorEq, ↓reduceIte, Tryd.ntmps31, Tryd.results31, ks_31, mu_31, nd_31, ro_31, ti_ag3, ti_ag9, ti_ag100, ti_fl100_0, ti_fl100_1, ti_fl100_2, ti_fl106_3, ti_fl106_4, ti_hb29, ti_pl106, ti_sb49, ti_sb52, ti_sb64, ti_sl49, ti_sl52, ti_sl64, ti_sz3, ti_sz100, ti_zr100, ti_zr106, evD, evV, ndC, szTo, natCells, h1f, h5f, hx, hin', hol, hot, hog, hoh, hbu, hupt, hupt2, List.length_map, bare_len, List.getElem?_map, Option.map_some, List.length_set]; done) | (simp (dsimp := false) only [go_sem, Nat.reduceAdd, Nat.reduceBEq, Nat.reduceEqDiff, Nat.reduceLT, Nat.reduceLeDiff, Nat.reduceMul, Int.reduceToNat, reduceCtorEq, ↓reduceIte, Tryd.ntmps31, Tryd.results31, ks_31, mu_31, nd_31, ro_31, ti_ag3, ti_ag9, ti_ag100, ti_fl100_0, ti_fl100_1, ti_fl100_2, ti_fl106_3, ti_fl106_4, ti_hb29, ti_pl106, ti_sb49, ti_sb52, ti_sb64, ti_sl49, ti_sl52, ti_sl64, ti_sz3, ti_sz100, ti_zr100, ti_zr106, evD, evV, ndC, szTo, natCells, h1f, h5f, hx, hin', hol, hot, hog, hoh, hbu, hupt, hupt2, List.length_map, bare_len, List.getElem?_map, Option.map_some, List.length_set]; omega)⟩
    · have e : i = l.length := by have := hy.hi; simp at this; omega
      have hin' : ((i : Int) < (l.length : Int)) = False := eq_false (by omega)
      obtain ⟨rfl, ho, rfl⟩ := hy.last e
      simp only [] at ho
      have husz := hinv.sz 0 u (by simp) hu
      have hcls := ss_close (os := []) hu (by simp)
      rw [bare_nil] at hcls
      rw [← ho] at hk
      have hbu0 : (bare [0] out)[0]? = some (szTo u 0) := hbu
      have hout : ((bare [0] out).map ndC).set 0 (ndC { u with sz := (out.length : Int) - 1 }) = out.map ndC := by
        have e2 : ({ u with sz := (out.length : Int) - 1 } : Nd) = u := by
          have : u.sz = (out.length : Int) - 1 := by rw [husz]; simp
          rw [← this]
        rw [e2]
        exact hcls
      rw [ndC] at hout
      
      repeat' (first
        | with_reducible refine And.intro ?_ ?_
        | with_reducible intro _
        | with_reducible refine AWp_seq ?_
        | with_reducible refine AWp_block ?_
        | (with_reducible refine hKv _ _ (AWp_nop ?_); clear hKv Kv)
        | (with_reducible refine hKv _ _ ?_; clear hKv Kv; simp (dsimp := false) only [go_sem, Nat.reduceAdd, Nat.reduceBEq, Nat.reduceEqDiff, Nat.reduceLT, Nat.reduceLeDiff, Nat.reduceMul, Int.reduceToNat, reduceCtorEq, ↓reduceIte, Tryd.ntmps31, Tryd.results31, ks_31, mu_31, nd_31, ro_31, ti_ag3, ti_ag9, ti_ag100, ti_fl100_0, ti_fl100_1, ti_fl100_2, ti_fl106_3, ti_fl106_4, ti_hb29, ti_pl106, ti_sb49, ti_sb52, ti_sb64, ti_sl49, ti_sl52, ti_sl64, ti_sz3, ti_sz100, ti_zr100, ti_zr106, evD, evV, ndC, szTo, hin', hol, hbu, hbu0, hupt, hupt2, hout, List.length_map, bare_len, List.getElem?_map, Option.map_some, List.length_set])
        | (with_reducible refine hKA ?_; clear hKA hKB KA KB)
        | (with_reducible refine hKB ?_; clear hKA hKB KA KB)
        | ((first | with_reducible refine AWp_regro mu_31 ks_31 ro_31 ?_ | with_reducible refine AWp_regC mu_31 ks_31 ?_ | with_reducible refine AWp_draw nd_31 mu_31 ks_31 ti_mixed (by kernel_rfl) ?_); intro Kv hKv; simp (dsimp := false) only [go_sem, Nat.reduceAdd, Nat.reduceBEq, Nat.reduceEqDiff, Nat.reduceLT, Nat.reduceLeDiff, Nat.reduceMul, Int.reduceToNat, reduceCtorEq, ↓reduceIte, Tryd.ntmps31, Tryd.results31, ks_31, mu_31, nd_31, ro_31, ti_ag3, ti_ag9, ti_ag100, ti_fl100_0, ti_fl100_1, ti_fl100_2, ti_fl106_3, ti_fl106_4, ti_hb29, ti_pl106, ti_sb49, ti_sb52, ti_sb64, ti_sl49, ti_sl52, ti_sl64, ti_sz3, ti_sz100, ti_zr100, ti_zr106, evD, evV, ndC, szTo, hin', hol, hbu, hbu0, hupt, hupt2, hout, List.length_map, bare_len, List.getElem?_map, Option.map_some, List.length_set])
        | with_reducible refine AWp_skipN ?_
        | with_reducible refine AWp_exitO (by repeat (first | with_reducible exact Out.hit | with_reducible apply Out.thenA | with_reducible apply Out.out rfl)) ?_
        | (with_reducible refine AWp_retR ?_; simp (dsimp := false) only [go_sem, Nat.reduceAdd, Nat.reduceBEq, Nat.reduceEqDiff, Nat.reduceLT, Nat.reduceLeDiff, Nat.reduceMul, Int.reduceToNat, reduceCtorEq, ↓reduceIte, Tryd.ntmps31, Tryd.results31, ks_31, mu_31, nd_31, ro_31, ti_ag3, ti_ag9, ti_ag100, ti_fl100_0, ti_fl100_1, ti_fl100_2, ti_fl106_3, ti_fl106_4, ti_hb29, ti_pl106, ti_sb49, ti_sb52, ti_sb64, ti_sl49, ti_sl52, ti_sl64, ti_sz3, ti_sz100, ti_zr100, ti_zr106, evD, evV, ndC, szTo, hin', hol, hbu, hbu0, hupt, hupt2, hout, List.length_map, bare_len, List.getElem?_map, Option.map_some, List.length_set])
        | ((first | with_reducible refine AWp_regE mu_31 ks_31 ?_ | with_reducible refine AWp_drawE nd_31 mu_31 ks_31 ti_mixed (by kernel_rfl) ?_); intro Kv hKv; simp (dsimp := false) only [go_sem, Nat.reduceAdd, Nat.reduceBEq, Nat.reduceEqDiff, Nat.reduceLT, Nat.reduceLeDiff, Nat.reduceMul, Int.reduceToNat, reduceCtorEq, ↓reduceIte, Tryd.ntmps31, Tryd.results31, ks_31, mu_31, nd_31, ro_31, ti_ag3, ti_ag9, ti_ag100, ti_fl100_0, ti_fl100_1, ti_fl100_2, ti_fl106_3, ti_fl106_4, ti_hb29, ti_pl106, ti_sb49, ti_sb52, ti_sb64, ti_sl49, ti_sl52, ti_sl64, ti_sz3, ti_sz100, ti_zr100, ti_zr106, evD, evV, ndC, szTo, hin', hol, hbu, hbu0, hupt, hupt2, hout, List.length_map, bare_len, List.getElem?_map, Option.map_some, List.length_set])
        | (refine AWp_condC rfl ?_; intro KA KB hKA hKB; try simp only [onB_true, onB_false, onB_dec, onB_ndec, onB_not, onB_and, onB_or])
        | (refine AWp_condA rfl ?_ ?_)
        | with_reducible refine onB_of ?_ ?_
        | with_reducible rfl
        | omega)
      all_goals first
        | omega
        | exact hcl
        | exact dropF hk (Fz_tu2 (.os _ _ 106 6 _ _ (by omega) (get_app0 _ _) (nds_data _)) (.same _)) (by simp [Bel_tu, Bel_d])
  · rw [shredded, if_neg hf] at hk
    have hf' : (eventsFault l = 0) = False := eq_false hf
    
    refine ACalls_of Tryd.func31 rfl in_31 (Nat.le_of_ble_eq_true rfl) ?_
    intro F hF
    simp (dsimp := false) only [go_sem, Nat.reduceAdd, Nat.reduceBEq, Nat.reduceEqDiff, Nat.reduceLT, Nat.reduceLeDiff, Nat.reduceMul, Int.reduceToNat, reduceCtorEq, ↓reduceIte, Tryd.ntmps31, Tryd.results31, ks_31, mu_31, nd_31, ro_31, ti_ag3, ti_ag9, ti_ag100, ti_fl100_0, ti_fl100_1, ti_fl100_2, ti_fl106_3, ti_fl106_4, ti_hb29, ti_pl106, ti_sb49, ti_sb52, ti_sb64, ti_sl49, ti_sl52, ti_sl64, ti_sz3, ti_sz100, ti_zr100, ti_zr106, evD, evV, hf', in_31] at hF
    subst hF
    repeat' (first
      | with_reducible refine And.intro ?_ ?_
      | with_reducible intro _
      | with_reducible refine AWp_seq ?_
      | with_reducible refine AWp_block ?_
      | (with_reducible refine hKv _ _ (AWp_nop ?_); clear hKv Kv)
      | (with_reducible refine hKv _ _ ?_; clear hKv Kv; simp (dsimp := false) only [go_sem, Nat.reduceAdd, Nat.reduceBEq, Nat.reduceEqDiff, Nat.reduceLT, Nat.reduceLeDiff, Nat.reduceMul, Int.reduceToNat, reduceCtorEq, ↓reduceIte, Tryd.ntmps31, Tryd.results31, ks_31, mu_31, nd_31, ro_31, ti_ag3, ti_ag9, ti_ag100, ti_fl100_0, ti_fl100_1, ti_fl100_2, ti_fl106_3, ti_fl106_4, ti_hb29, ti_pl106, ti_sb49, ti_sb52, ti_sb64, ti_sl49, ti_sl52, ti_sl64, ti_sz3, ti_sz100, ti_zr100, ti_zr106, evD, evV, hf'])
      | (with_reducible refine hKA ?_; clear hKA hKB KA KB)
      | (with_reducible refine hKB ?_; clear hKA hKB KA KB)
      | ((first | with_reducible refine AWp_regro mu_31 ks_31 ro_31 ?_ | with_reducible refine AWp_regC mu_31 ks_31 ?_ | with_reducible refine AWp_draw nd_31 mu_31 ks_31 ti_mixed (by kernel_rfl) ?_); intro Kv hKv; simp (dsimp := false) only [go_sem, Nat.reduceAdd, Nat.reduceBEq, Nat.reduceEqDiff, Nat.reduceLT, Nat.reduceLeDiff, Nat.reduceMul, Int.reduceToNat, reduceCtorEq, ↓reduceIte, Tryd.ntmps31, Tryd.results31, ks_31, mu_31, nd_31, ro_31, ti_ag3, ti_ag9, ti_ag100, ti_fl100_0, ti_fl100_1, ti_fl100_2, ti_fl106_3, ti_fl106_4, ti_hb29, ti_pl106, ti_sb49, ti_sb52, ti_sb64, ti_sl49, ti_sl52, ti_sl64, ti_sz3, ti_sz100, ti_zr100, ti_zr106, evD, evV, hf'])
      | with_reducible refine AWp_skipN ?_
      | with_reducible refine AWp_exitO (by repeat (first | with_reducible exact Out.hit | with_reducible apply Out.thenA | with_reducible apply Out.out rfl)) ?_
      | (with_reducible refine AWp_retR ?_; simp (dsimp := false) only [go_sem, Nat.reduceAdd, Nat.reduceBEq, Nat.reduceEqDiff, Nat.reduceLT, Nat.reduceLeDiff, Nat.reduceMul, Int.reduceToNat, reduceCtorEq, ↓reduceIte, Tryd.ntmps31, Tryd.results31, ks_31, mu_31, nd_31, ro_31, ti_ag3, ti_ag9, ti_ag100, ti_fl100_0, ti_fl100_1, ti_fl100_2, ti_fl106_3, ti_fl106_4, ti_hb29, ti_pl106, ti_sb49, ti_sb52, ti_sb64, ti_sl49, ti_sl52, ti_sl64, ti_sz3, ti_sz100, ti_zr100, ti_zr106, evD, evV, hf'])
      | ((first | with_reducible refine AWp_regE mu_31 ks_31 ?_ | with_reducible refine AWp_drawE nd_31 mu_31 ks_31 ti_mixed (by kernel_rfl) ?_); intro Kv hKv; simp (dsimp := false) only [go_sem, Nat.reduceAdd, Nat.reduceBEq, Nat.reduceEqDiff, Nat.reduceLT, Nat.reduceLeDiff, Nat.reduceMul, Int.reduceToNat, reduceCtorEq, ↓reduceIte, Tryd.ntmps31, Tryd.results31, ks_31, mu_31, nd_31, ro_31, ti_ag3, ti_ag9, ti_ag100, ti_fl100_0, ti_fl100_1, ti_fl100_2, ti_fl106_3, ti_fl106_4, ti_hb29, ti_pl106, ti_sb49, ti_sb52, ti_sb64, ti_sl49, ti_sl52, ti_sl64, ti_sz3, ti_sz100, ti_zr100, ti_zr106, evD, evV, hf'])
      | (refine AWp_condC rfl ?_; intro KA KB hKA hKB; try simp only [onB_true, onB_false, onB_dec, onB_ndec, onB_not, onB_and, onB_or])
      | (refine AWp_condA rfl ?_ ?_)
      | ((first | refine xmlCheck_A l hS _ _ ?_ | refine QCall_of (xmlCheck_A l hS _ _ (Two_intro _ _)) ?_); try simp (dsimp := false) only [go_sem, Nat.reduceAdd, Nat.reduceBEq, Nat.reduceEqDiff, Nat.reduceLT, Nat.reduceLeDiff, Nat.reduceMul, Int.reduceToNat, reduceCtorEq, ↓reduceIte, Tryd.ntmps31, Tryd.results31, ks_31, mu_31, nd_31, ro_31, ti_ag3, ti_ag9, ti_ag100, ti_fl100_0, ti_fl100_1, ti_fl100_2, ti_fl106_3, ti_fl106_4, ti_hb29, ti_pl106, ti_sb49, ti_sb52, ti_sb64, ti_sl49, ti_sl52, ti_sl64, ti_sz3, ti_sz100, ti_zr100, ti_zr106, evD, evV, hf'])
      | with_reducible refine onB_of ?_ ?_
      | with_reducible rfl
      | omega)
    all_goals first
      | exact keepFz hk (Fz_tu2 (.nil 6) (.same _)) (by simp [Bel_tu, Bel_d])
end Go.Proofs.YtafbojmnmadlpaaDoor
