/- Nodes of a document's events: what the reference makes, and that two lists of nodes are the same. No condition but that the tables of package unicode/utf8, and what package bytealg calls its greatest length, are there. -/
import Derived.Test.YtafbojmnmadlpaaDoorEc5
import Derived.Test.YtafbojmnmadlpaaDoorEcN
import Derived.Test.YtafbojmnmadlpaaDoorSd0
set_option linter.all false
set_option linter.unusedSimpArgs false
set_option linter.unusedVariables false
namespace Go.Proofs.YtafbojmnmadlpaaDoor
open Go Go.Proofs.YtafbojmnmadlpaaDoor.Ab
variable [Glo] [U8] [Ml]
set_option maxHeartbeats 4000000
set_option maxRecDepth 20000

/- the live slots of pleacher/pleacherlaw.sameNodes -/
def ks_33 : Nat → List Nat
  | 0 => [0, 1]
  | 1 => [0, 1, 10]
  | 2 => [4]
  | 3 => [0, 1, 5]
  | 4 => [0, 1, 5, 14]
  | 5 => [0, 1, 5]
  | 6 => [0, 1, 5, 25]
  | 7 => [4]
  | 8 => [4]
  | _ => []
def mu_33 : List Nat := []
def in_33 : List Nat := [0, 1]
def nd_33 : Nat → Nat
  | 6 => 8
  | _ => 0
theorem sameNodes_A (l : List Nd) (hlen : l.length ≤ 9223372036854775807) (H : Heap) (K : V → Heap → Prop) (hk : K (.d (.b true)) H) :
    ACalls Tryd.prog 33 [.d (.sl 6 (l.map ndD)), .d (.sl 6 (l.map ndD))] H K := by
  refine ACalls_of Tryd.func33 rfl in_33 (Nat.le_of_ble_eq_true rfl) ?_
  intro F hF
  simp (dsimp := false) only [go_sem, Nat.reduceAdd, Nat.reduceBEq, Nat.reduceEqDiff, Nat.reduceLT, Nat.reduceLeDiff, Nat.reduceMul, Int.reduceToNat, reduceCtorEq, ↓reduceIte, Tryd.ntmps33, Tryd.results33, ks_33, mu_33, nd_33, ti_ag106, ti_fe106, ti_sb52, ti_sl52, ti_sz106, ndD, ndV, in_33] at hF
  subst hF
  repeat' (first
    | with_reducible refine And.intro ?_ ?_
    | with_reducible intro _
    | with_reducible refine AWp_seq ?_
    | with_reducible refine AWp_block ?_
    | (with_reducible refine hKv _ _ (AWp_nop ?_); clear hKv Kv)
    | (with_reducible refine hKv _ _ ?_; clear hKv Kv; simp (dsimp := false) only [go_sem, Nat.reduceAdd, Nat.reduceBEq, Nat.reduceEqDiff, Nat.reduceLT, Nat.reduceLeDiff, Nat.reduceMul, Int.reduceToNat, reduceCtorEq, ↓reduceIte, Tryd.ntmps33, Tryd.results33, ks_33, mu_33, nd_33, ti_ag106, ti_fe106, ti_sb52, ti_sl52, ti_sz106, ndD, ndV])
    | (with_reducible refine hKA ?_; clear hKA hKB KA KB)
    | (with_reducible refine hKB ?_; clear hKA hKB KA KB)
    | ((first | with_reducible refine AWp_regC mu_33 ks_33 ?_ | with_reducible refine AWp_draw nd_33 mu_33 ks_33 ti_mixed (by kernel_rfl) ?_); intro Kv hKv; simp (dsimp := false) only [go_sem, Nat.reduceAdd, Nat.reduceBEq, Nat.reduceEqDiff, Nat.reduceLT, Nat.reduceLeDiff, Nat.reduceMul, Int.reduceToNat, reduceCtorEq, ↓reduceIte, Tryd.ntmps33, Tryd.results33, ks_33, mu_33, nd_33, ti_ag106, ti_fe106, ti_sb52, ti_sl52, ti_sz106, ndD, ndV])
    | with_reducible refine AWp_skipN ?_
    | with_reducible refine AWp_exitO (by repeat (first | with_reducible exact Out.hit | with_reducible apply Out.thenA | with_reducible apply Out.out rfl)) ?_
    | (with_reducible refine AWp_retR ?_; simp (dsimp := false) only [go_sem, Nat.reduceAdd, Nat.reduceBEq, Nat.reduceEqDiff, Nat.reduceLT, Nat.reduceLeDiff, Nat.reduceMul, Int.reduceToNat, reduceCtorEq, ↓reduceIte, Tryd.ntmps33, Tryd.results33, ks_33, mu_33, nd_33, ti_ag106, ti_fe106, ti_sb52, ti_sl52, ti_sz106, ndD, ndV])
    | ((first | with_reducible refine AWp_regE mu_33 ks_33 ?_ | with_reducible refine AWp_drawE nd_33 mu_33 ks_33 ti_mixed (by kernel_rfl) ?_); intro Kv hKv; simp (dsimp := false) only [go_sem, Nat.reduceAdd, Nat.reduceBEq, Nat.reduceEqDiff, Nat.reduceLT, Nat.reduceLeDiff, Nat.reduceMul, Int.reduceToNat, reduceCtorEq, ↓reduceIte, Tryd.ntmps33, Tryd.results33, ks_33, mu_33, nd_33, ti_ag106, ti_fe106, ti_sb52, ti_sl52, ti_sz106, ndD, ndV])
    | (refine AWp_condC rfl ?_; intro KA KB hKA hKB; try simp only [onB_true, onB_false, onB_dec, onB_ndec, onB_not, onB_and, onB_or])
    | (refine AWp_condA rfl ?_ ?_)
    | with_reducible refine onB_of ?_ ?_
    | with_reducible rfl
    | omega)
  refine AWp_while0 (fun i : Nat => i ≤ l.length) (fun i => [(0, .d (.sl 6 (l.map ndD))), (1, .d (.sl 6 (l.map ndD))), (5, .d (.i .i64 i))]) (fun i => l.length - i) 0 (Nat.zero_le _) ?_ ?_
  · simp (dsimp := false) only [go_sem, Nat.reduceAdd, Nat.reduceBEq, Nat.reduceEqDiff, Nat.reduceLT, Nat.reduceLeDiff, Nat.reduceMul, Int.reduceToNat, reduceCtorEq, ↓reduceIte, Tryd.ntmps33, Tryd.results33, ks_33, mu_33, nd_33, ti_ag106, ti_fe106, ti_sb52, ti_sl52, ti_sz106, ndD, ndV]
    first | done | simp
  rintro i hi
  repeat' (first
    | with_reducible refine And.intro ?_ ?_
    | with_reducible intro _
    | with_reducible refine AWp_seq ?_
    | with_reducible refine AWp_block ?_
    | (with_reducible refine hKv _ _ (AWp_nop ?_); clear hKv Kv)
    | (with_reducible refine hKv _ _ ?_; clear hKv Kv; simp (dsimp := false) only [go_sem, Nat.reduceAdd, Nat.reduceBEq, Nat.reduceEqDiff, Nat.reduceLT, Nat.reduceLeDiff, Nat.reduceMul, Int.reduceToNat, reduceCtorEq, ↓reduceIte, Tryd.ntmps33, Tryd.results33, ks_33, mu_33, nd_33, ti_ag106, ti_fe106, ti_sb52, ti_sl52, ti_sz106, ndD, ndV])
    | (with_reducible refine hKA ?_; clear hKA hKB KA KB)
    | (with_reducible refine hKB ?_; clear hKA hKB KA KB)
    | ((first | with_reducible refine AWp_regC mu_33 ks_33 ?_ | with_reducible refine AWp_draw nd_33 mu_33 ks_33 ti_mixed (by kernel_rfl) ?_); intro Kv hKv; simp (dsimp := false) only [go_sem, Nat.reduceAdd, Nat.reduceBEq, Nat.reduceEqDiff, Nat.reduceLT, Nat.reduceLeDiff, Nat.reduceMul, Int.reduceToNat, reduceCtorEq, ↓reduceIte, Tryd.ntmps33, Tryd.results33, ks_33, mu_33, nd_33, ti_ag106, ti_fe106, ti_sb52, ti_sl52, ti_sz106, ndD, ndV])
    | with_reducible refine AWp_skipN ?_
    | with_reducible refine AWp_exitO (by repeat (first | with_reducible exact Out.hit | with_reducible apply Out.thenA | with_reducible apply Out.out rfl)) ?_
    | (with_reducible refine AWp_retR ?_; simp (dsimp := false) only [go_sem, Nat.reduceAdd, Nat.reduceBEq, Nat.reduceEqDiff, Nat.reduceLT, Nat.reduceLeDiff, Nat.reduceMul, Int.reduceToNat, reduceCtorEq, ↓reduceIte, Tryd.ntmps33, Tryd.results33, ks_33, mu_33, nd_33, ti_ag106, ti_fe106, ti_sb52, ti_sl52, ti_sz106, ndD, ndV])
    | ((first | with_reducible refine AWp_regE mu_33 ks_33 ?_ | with_reducible refine AWp_drawE nd_33 mu_33 ks_33 ti_mixed (by kernel_rfl) ?_); intro Kv hKv; simp (dsimp := false) only [go_sem, Nat.reduceAdd, Nat.reduceBEq, Nat.reduceEqDiff, Nat.reduceLT, Nat.reduceLeDiff, Nat.reduceMul, Int.reduceToNat, reduceCtorEq, ↓reduceIte, Tryd.ntmps33, Tryd.results33, ks_33, mu_33, nd_33, ti_ag106, ti_fe106, ti_sb52, ti_sl52, ti_sz106, ndD, ndV])
    | (refine AWp_condC rfl ?_; intro KA KB hKA hKB; try simp only [onB_true, onB_false, onB_dec, onB_ndec, onB_not, onB_and, onB_or])
    | (refine AWp_condA rfl ?_ ?_)
    | with_reducible refine onB_of ?_ ?_
    | with_reducible rfl
    | omega)
  all_goals first
    | exact ⟨i + 1, by omega, by omega, by omega⟩
    | exact keepD hk rfl
    | (exfalso; simp_all)
def rfHp (v : Nat) (out : List Nd) : Heap := [Ob.row v 106 6 (out.map ndC)]
theorem rfHp_bel (v : Nat) (out : List Nd) (n : Nat) : ∀ ob, ob ∈ rfHp v out → ObBel n ob := fun ob hob => by
  simp only [rfHp, List.mem_cons, List.not_mem_nil, or_false] at hob
  subst hob
  exact obBel_nd _ _ _ _ _
def rfFr (l : List Ev) (H : Heap) (y : Ss) : Ab.Frame := [(0, .d (.sl 3 (l.map evD))), (5, .os H.length y.a), (6, .d (.i .i64 y.up)), (7, .d (.i .i64 y.i))]
/-- Where a way up stands: behind which open nodes it is. -/
def lastI (pre : List Nat) : Int := match pre.getLast? with | some p => p | none => -1
theorem lastI_app (q : List Nat) (p : Nat) : lastI (q ++ [p]) = p := by simp [lastI]
theorem asc_last {L q suf : List Nat} {p : Nat} (h : L = q ++ p :: suf) (asc : ∀ (a b : Nat) (i j : Nat), L[a]? = some i → L[b]? = some j → a < b → i < j) : p ∉ suf := fun hm => by
  obtain ⟨k, hk⟩ := List.getElem?_of_mem hm
  have h1 : L[q.length]? = some p := by rw [h, List.getElem?_append_right (Nat.le_refl _), Nat.sub_self]; rfl
  have h2 : L[q.length + (k + 1)]? = some p := by
    rw [h, List.getElem?_append_right (by omega), Nat.add_sub_cancel_left]
    exact hk
  have := asc _ _ _ _ h1 h2 (by omega)
  omega
theorem up_of {out : List Nd} {os q suf : List Nat} {up p : Nat} {y : Nd} (h : ShInv out os up) (he : os ++ [up] = q ++ p :: suf) (hy : out[p]? = some y) : y.up = lastI q := by
  rcases q.eq_nil_or_concat with rfl | ⟨r, o, rfl⟩
  · have h1 := h.top.1
    rw [he] at h1
    have : p = 0 := by simpa using h1
    subst this
    obtain ⟨x, h2, h3⟩ := h.top.2
    rw [hy] at h2
    cases h2
    simpa [lastI] using h3
  · rw [List.concat_eq_append] at he ⊢
    rw [lastI_app]
    refine h.par r.length o p y ?_ ?_ hy
    · rw [he, List.append_assoc, List.getElem?_append_right (Nat.le_refl _), Nat.sub_self]; rfl
    · rw [he, List.append_assoc, List.getElem?_append_right (by omega), Nat.add_sub_cancel_left]; rfl

/- the live slots of pleacher/pleacherref.ShreddedOf -/
def ks_32 : Nat → List Nat
  | 0 => [0]
  | 1 => [0, 4]
  | 2 => [0, 4, 13]
  | 3 => [2, 3]
  | 4 => [0, 5]
  | 5 => [0, 5, 6]
  | 6 => [0, 5, 6, 7]
  | 7 => [0, 5, 6, 7, 20]
  | 8 => [0, 5, 6, 7]
  | 9 => [0, 5, 6, 7, 28]
  | 10 => [0, 5, 6, 7]
  | 11 => [0, 5, 6, 7, 8]
  | 12 => [0, 5, 6, 7, 8]
  | 13 => [0, 5, 6, 7, 8, 9]
  | 14 => [0, 5, 6, 7, 8, 9, 64]
  | 15 => [0, 5, 6, 7, 8, 9]
  | 16 => [0, 5, 6, 7, 8, 9]
  | 17 => [0, 5, 6, 7, 8, 83]
  | 18 => [0, 5, 6, 7]
  | 19 => [2, 3]
  | _ => []
def mu_32 : List Nat := [16]
def in_32 : List Nat := [0]
def nd_32 : Nat → Nat
  | 12 => 25
  | _ => 0
theorem shreddedOf_A (l : List Ev) (hS : EvSh l) (H : Heap) (K : V → Heap → Prop) (hk : K (.tu [.d (.sl 6 ((shredded l).map ndD)), .d (.i .i64 (eventsFault l))]) H) :
    ACalls Tryd.prog 32 [.d (.sl 3 (l.map evD))] H K := by
  have hS1 := hS.1
  by_cases hf : eventsFault l = 0
  · have hN : l.length ≤ 400 := by
      by_cases h : l.length ≤ 400
      · exact h
      · rw [eventsFault_big h] at hf; cases hf
    have hgo := hf
    rw [eventsFault_go hN] at hgo
    rw [shredded, if_pos hf, hf] at hk
    
    refine ACalls_of Tryd.func32 rfl in_32 (Nat.le_of_ble_eq_true rfl) ?_
    intro F hF
    simp (dsimp := false) only [go_sem, Nat.reduceAdd, Nat.reduceBEq, Nat.reduceEqDiff, Nat.reduceLT, Nat.reduceLeDiff, Nat.reduceMul, Int.reduceToNat, reduceCtorEq, ↓reduceIte, Tryd.ntmps32, Tryd.results32, ks_32, mu_32, nd_32, ti_ag3, ti_ag9, ti_fl100_0, ti_fl100_1, ti_fl100_2, ti_fl106_3, ti_fl106_4, ti_fl106_5, ti_hb30, ti_pl106, ti_sb49, ti_sb52, ti_sl49, ti_sl52, ti_sz3, ti_zr106, evD, evV, hf, in_32] at hF
    subst hF
    repeat' (first
      | with_reducible refine And.intro ?_ ?_
      | with_reducible intro _
      | with_reducible refine AWp_seq ?_
      | with_reducible refine AWp_block ?_
      | (with_reducible refine hKv _ _ (AWp_nop ?_); clear hKv Kv)
      | (with_reducible refine hKv _ _ ?_; clear hKv Kv; simp (dsimp := false) only [go_sem, Nat.reduceAdd, Nat.reduceBEq, Nat.reduceEqDiff, Nat.reduceLT, Nat.reduceLeDiff, Nat.reduceMul, Int.reduceToNat, reduceCtorEq, ↓reduceIte, Tryd.ntmps32, Tryd.results32, ks_32, mu_32, nd_32, ti_ag3, ti_ag9, ti_fl100_0, ti_fl100_1, ti_fl100_2, ti_fl106_3, ti_fl106_4, ti_fl106_5, ti_hb30, ti_pl106, ti_sb49, ti_sb52, ti_sl49, ti_sl52, ti_sz3, ti_zr106, evD, evV, hf])
      | (with_reducible refine hKA ?_; clear hKA hKB KA KB)
      | (with_reducible refine hKB ?_; clear hKA hKB KA KB)
      | ((first | with_reducible refine AWp_regC mu_32 ks_32 ?_ | with_reducible refine AWp_draw nd_32 mu_32 ks_32 ti_mixed (by kernel_rfl) ?_); intro Kv hKv; simp (dsimp := false) only [go_sem, Nat.reduceAdd, Nat.reduceBEq, Nat.reduceEqDiff, Nat.reduceLT, Nat.reduceLeDiff, Nat.reduceMul, Int.reduceToNat, reduceCtorEq, ↓reduceIte, Tryd.ntmps32, Tryd.results32, ks_32, mu_32, nd_32, ti_ag3, ti_ag9, ti_fl100_0, ti_fl100_1, ti_fl100_2, ti_fl106_3, ti_fl106_4, ti_fl106_5, ti_hb30, ti_pl106, ti_sb49, ti_sb52, ti_sl49, ti_sl52, ti_sz3, ti_zr106, evD, evV, hf])
      | with_reducible refine AWp_skipN ?_
      | with_reducible refine AWp_exitO (by repeat (first | with_reducible exact Out.hit | with_reducible apply Out.thenA | with_reducible apply Out.out rfl)) ?_
      | (with_reducible refine AWp_retR ?_; simp (dsimp := false) only [go_sem, Nat.reduceAdd, Nat.reduceBEq, Nat.reduceEqDiff, Nat.reduceLT, Nat.reduceLeDiff, Nat.reduceMul, Int.reduceToNat, reduceCtorEq, ↓reduceIte, Tryd.ntmps32, Tryd.results32, ks_32, mu_32, nd_32, ti_ag3, ti_ag9, ti_fl100_0, ti_fl100_1, ti_fl100_2, ti_fl106_3, ti_fl106_4, ti_fl106_5, ti_hb30, ti_pl106, ti_sb49, ti_sb52, ti_sl49, ti_sl52, ti_sz3, ti_zr106, evD, evV, hf])
      | ((first | with_reducible refine AWp_regE mu_32 ks_32 ?_ | with_reducible refine AWp_drawE nd_32 mu_32 ks_32 ti_mixed (by kernel_rfl) ?_); intro Kv hKv; simp (dsimp := false) only [go_sem, Nat.reduceAdd, Nat.reduceBEq, Nat.reduceEqDiff, Nat.reduceLT, Nat.reduceLeDiff, Nat.reduceMul, Int.reduceToNat, reduceCtorEq, ↓reduceIte, Tryd.ntmps32, Tryd.results32, ks_32, mu_32, nd_32, ti_ag3, ti_ag9, ti_fl100_0, ti_fl100_1, ti_fl100_2, ti_fl106_3, ti_fl106_4, ti_fl106_5, ti_hb30, ti_pl106, ti_sb49, ti_sb52, ti_sl49, ti_sl52, ti_sz3, ti_zr106, evD, evV, hf])
      | (refine AWp_condC rfl ?_; intro KA KB hKA hKB; try simp only [onB_true, onB_false, onB_dec, onB_ndec, onB_not, onB_and, onB_or])
      | (refine AWp_condA rfl ?_ ?_)
      | ((first | refine eventsFault_A l hS _ _ ?_ | refine QCall_of (eventsFault_A l hS _ _ (Two_intro _ _)) ?_); try simp (dsimp := false) only [go_sem, Nat.reduceAdd, Nat.reduceBEq, Nat.reduceEqDiff, Nat.reduceLT, Nat.reduceLeDiff, Nat.reduceMul, Int.reduceToNat, reduceCtorEq, ↓reduceIte, Tryd.ntmps32, Tryd.results32, ks_32, mu_32, nd_32, ti_ag3, ti_ag9, ti_fl100_0, ti_fl100_1, ti_fl100_2, ti_fl106_3, ti_fl106_4, ti_fl106_5, ti_hb30, ti_pl106, ti_sb49, ti_sb52, ti_sl49, ti_sl52, ti_sz3, ti_zr106, evD, evV, hf])
      | with_reducible refine onB_of ?_ ?_
      | with_reducible rfl
      | omega)
    refine AWp_whileH (SsOk l) (rfFr l H) (fun y => rfHp y.a y.out) (fun y => l.length - y.i) ⟨0, evSt, [ndDoc], [], 0, 0, 0⟩ (SsOk.zero hgo) ?_ ?_ ?_ ?_
    · first | rfl
    · simp only [rfFr]
      simp (dsimp := false) only [go_sem, Nat.reduceAdd, Nat.reduceBEq, Nat.reduceEqDiff, Nat.reduceLT, Nat.reduceLeDiff, Nat.reduceMul, Int.reduceToNat, reduceCtorEq, ↓reduceIte, Tryd.ntmps32, Tryd.results32, ks_32, mu_32, nd_32, ti_ag3, ti_ag9, ti_fl100_0, ti_fl100_1, ti_fl100_2, ti_fl106_3, ti_fl106_4, ti_fl106_5, ti_hb30, ti_pl106, ti_sb49, ti_sb52, ti_sl49, ti_sl52, ti_sz3, ti_zr106, evD, evV, hf]
      first | done | (simp; done)
    · rintro y _ ob hob
      exact rfHp_bel _ _ _ ob hob
    rintro y hy
    have hcl : ∀ v L, Closed H (H ++ rfHp v L) := fun v L => closed_app (rfHp_bel _ _ _)
    obtain ⟨i, s, out, os, up, a, b⟩ := y
    simp only [rfFr, rfHp] at hcl ⊢
    have hlen := hy.len
    have hinv := hy.inv
    have hupl : up < out.length := hinv.lt up (by simp)
    have hyi := hy.hi
    simp only [] at hlen hinv hyi
    obtain ⟨u, hu⟩ : ∃ u, out[up]? = some u := ⟨out[up], List.getElem?_eq_getElem hupl⟩
    have hupt : ((0 : Int) ≤ (up : Int)) = True := eq_true (by omega)
    have hupt2 : ((up : Int) < (out.length : Int)) = True := eq_true (by omega)
    have hlv := hinv.lv u (List.mem_of_getElem? hu)
    by_cases hin : i < l.length
    · obtain ⟨x, hx⟩ : ∃ x, l[i]? = some x := ⟨l[i], List.getElem?_eq_getElem hin⟩
      have hxs := hS.2 x (List.mem_of_getElem? hx)
      have hin' : ((i : Int) < (l.length : Int)) = True := eq_true (by omega)
      have hlo : lvAt out up = u.lv := by rw [lvAt, hu]
      by_cases h5 : x.k = 5
      · obtain ⟨r, o, hro, hok⟩ := hy.close hx h5 a b
        simp only [] at hro
        have hup := up_of (q := os) (suf := []) hinv rfl hu
        rw [hro, lastI_app] at hup
        
        repeat' (first
          | with_reducible refine And.intro ?_ ?_
          | with_reducible intro _
          | with_reducible refine AWp_seq ?_
          | with_reducible refine AWp_block ?_
          | (with_reducible refine hKv _ _ (AWp_nop ?_); clear hKv Kv)
          | (with_reducible refine hKv _ _ ?_; clear hKv Kv; simp (dsimp := false) only [go_sem, Nat.reduceAdd, Nat.reduceBEq, Nat.reduceEqDiff, Nat.reduceLT, Nat.reduceLeDiff, Nat.reduceMul, Int.reduceToNat, reduceCtorEq, ↓reduceIte, Tryd.ntmps32, Tryd.results32, ks_32, mu_32, nd_32, ti_ag3, ti_ag9, ti_fl100_0, ti_fl100_1, ti_fl100_2, ti_fl106_3, ti_fl106_4, ti_fl106_5, ti_hb30, ti_pl106, ti_sb49, ti_sb52, ti_sl49, ti_sl52, ti_sz3, ti_zr106, evD, evV, ndC, h5, Int.reduceEq, hx, hin', hu, hup, hupt, hupt2, List.length_map, List.getElem?_map, Option.map_some])
          | (with_reducible refine hKA ?_; clear hKA hKB KA KB)
          | (with_reducible refine hKB ?_; clear hKA hKB KA KB)
          | ((first | with_reducible refine AWp_regC mu_32 ks_32 ?_ | with_reducible refine AWp_draw nd_32 mu_32 ks_32 ti_mixed (by kernel_rfl) ?_); intro Kv hKv; simp (dsimp := false) only [go_sem, Nat.reduceAdd, Nat.reduceBEq, Nat.reduceEqDiff, Nat.reduceLT, Nat.reduceLeDiff, Nat.reduceMul, Int.reduceToNat, reduceCtorEq, ↓reduceIte, Tryd.ntmps32, Tryd.results32, ks_32, mu_32, nd_32, ti_ag3, ti_ag9, ti_fl100_0, ti_fl100_1, ti_fl100_2, ti_fl106_3, ti_fl106_4, ti_fl106_5, ti_hb30, ti_pl106, ti_sb49, ti_sb52, ti_sl49, ti_sl52, ti_sz3, ti_zr106, evD, evV, ndC, h5, Int.reduceEq, hx, hin', hu, hup, hupt, hupt2, List.length_map, List.getElem?_map, Option.map_some])
          | with_reducible refine AWp_skipN ?_
          | with_reducible refine AWp_exitO (by repeat (first | with_reducible exact Out.hit | with_reducible apply Out.thenA | with_reducible apply Out.out rfl)) ?_
          | (with_reducible refine AWp_retR ?_; simp (dsimp := false) only [go_sem, Nat.reduceAdd, Nat.reduceBEq, Nat.reduceEqDiff, Nat.reduceLT, Nat.reduceLeDiff, Nat.reduceMul, Int.reduceToNat, reduceCtorEq, ↓reduceIte, Tryd.ntmps32, Tryd.results32, ks_32, mu_32, nd_32, ti_ag3, ti_ag9, ti_fl100_0, ti_fl100_1, ti_fl100_2, ti_fl106_3, ti_fl106_4, ti_fl106_5, ti_hb30, ti_pl106, ti_sb49, ti_sb52, ti_sl49, ti_sl52, ti_sz3, ti_zr106, evD, evV, ndC, h5, Int.reduceEq, hx, hin', hu, hup, hupt, hupt2, List.length_map, List.getElem?_map, Option.map_some])
          | ((first | with_reducible refine AWp_regE mu_32 ks_32 ?_ | with_reducible refine AWp_drawE nd_32 mu_32 ks_32 ti_mixed (by kernel_rfl) ?_); intro Kv hKv; simp (dsimp := false) only [go_sem, Nat.reduceAdd, Nat.reduceBEq, Nat.reduceEqDiff, Nat.reduceLT, Nat.reduceLeDiff, Nat.reduceMul, Int.reduceToNat, reduceCtorEq, ↓reduceIte, Tryd.ntmps32, Tryd.results32, ks_32, mu_32, nd_32, ti_ag3, ti_ag9, ti_fl100_0, ti_fl100_1, ti_fl100_2, ti_fl106_3, ti_fl106_4, ti_fl106_5, ti_hb30, ti_pl106, ti_sb49, ti_sb52, ti_sl49, ti_sl52, ti_sz3, ti_zr106, evD, evV, ndC, h5, Int.reduceEq, hx, hin', hu, hup, hupt, hupt2, List.length_map, List.getElem?_map, Option.map_some])
          | (refine AWp_condC rfl ?_; intro KA KB hKA hKB; try simp only [onB_true, onB_false, onB_dec, onB_ndec, onB_not, onB_and, onB_or])
          | (refine AWp_condA rfl ?_ ?_)
          | with_reducible refine onB_of ?_ ?_
          | with_reducible rfl
          | omega)
        all_goals first
          | omega
          | exact hcl _ _
          | exact ⟨⟨i + 1, evS s x, out, r, o, a, b⟩, hok, by show l.length - (i + 1) < l.length - i; omega, by first | rfl | (simp; done), by (repeat' (refine And.intro ?_ ?_)) <;> first | rfl | omega | (simp; done) | (simp; omega) | (simp (dsimp := false) only [go_sem, Nat.reduceAdd, Nat.reduceBEq, Nat.reduceEqDiff, Nat.reduceLT, Nat.reduceLeDiff, Nat.reduceMul, Int.reduceToNat, reduceCtorEq, ↓reduceIte, Tryd.ntmps32, Tryd.results32, ks_32, mu_32, nd_32, ti_ag3, ti_ag9, ti_fl100_0, ti_fl100_1, ti_fl100_2, ti_fl106_3, ti_fl106_4, ti_fl106_5, ti_hb30, ti_pl106, ti_sb49, ti_sb52, ti_sl49, ti_sl52, ti_sz3, ti_zr106, evD, evV, ndC, h5, Int.reduceEq, hx, hin', hu, hup, hupt, hupt2, List.length_map, List.getElem?_map, Option.map_some]; done) | (simp (dsimp := false) only [go_sem, Nat.reduceAdd, Nat.reduceBEq, Nat.reduceEqDiff, Nat.reduceLT, Nat.reduceLeDiff, Nat.reduceMul, Int.reduceToNat, reduceCtorEq, ↓reduceIte, Tryd.ntmps32, Tryd.results32, ks_32, mu_32, nd_32, ti_ag3, ti_ag9, ti_fl100_0, ti_fl100_1, ti_fl100_2, ti_fl106_3, ti_fl106_4, ti_fl106_5, ti_hb30, ti_pl106, ti_sb49, ti_sb52, ti_sl49, ti_sl52, ti_sz3, ti_zr106, evD, evV, ndC, h5, Int.reduceEq, hx, hin', hu, hup, hupt, hupt2, List.length_map, List.getElem?_map, Option.map_some]; omega)⟩
      · have h5f : (x.k = 5) = False := eq_false h5
        
        repeat' (first
          | with_reducible refine And.intro ?_ ?_
          | with_reducible intro _
          | with_reducible refine AWp_seq ?_
          | with_reducible refine AWp_block ?_
          | (with_reducible refine hKv _ _ (AWp_nop ?_); clear hKv Kv)
          | (with_reducible refine hKv _ _ ?_; clear hKv Kv; simp (dsimp := false) only [go_sem, Nat.reduceAdd, Nat.reduceBEq, Nat.reduceEqDiff, Nat.reduceLT, Nat.reduceLeDiff, Nat.reduceMul, Int.reduceToNat, reduceCtorEq, ↓reduceIte, Tryd.ntmps32, Tryd.results32, ks_32, mu_32, nd_32, ti_ag3, ti_ag9, ti_fl100_0, ti_fl100_1, ti_fl100_2, ti_fl106_3, ti_fl106_4, ti_fl106_5, ti_hb30, ti_pl106, ti_sb49, ti_sb52, ti_sl49, ti_sl52, ti_sz3, ti_zr106, evD, evV, ndC, h5f, hx, hin', hu, hupt, hupt2, List.length_map, List.getElem?_map, Option.map_some])
          | (with_reducible refine hKA ?_; clear hKA hKB KA KB)
          | (with_reducible refine hKB ?_; clear hKA hKB KA KB)
          | ((first | with_reducible refine AWp_regC mu_32 ks_32 ?_ | with_reducible refine AWp_draw nd_32 mu_32 ks_32 ti_mixed (by kernel_rfl) ?_); intro Kv hKv; simp (dsimp := false) only [go_sem, Nat.reduceAdd, Nat.reduceBEq, Nat.reduceEqDiff, Nat.reduceLT, Nat.reduceLeDiff, Nat.reduceMul, Int.reduceToNat, reduceCtorEq, ↓reduceIte, Tryd.ntmps32, Tryd.results32, ks_32, mu_32, nd_32, ti_ag3, ti_ag9, ti_fl100_0, ti_fl100_1, ti_fl100_2, ti_fl106_3, ti_fl106_4, ti_fl106_5, ti_hb30, ti_pl106, ti_sb49, ti_sb52, ti_sl49, ti_sl52, ti_sz3, ti_zr106, evD, evV, ndC, h5f, hx, hin', hu, hupt, hupt2, List.length_map, List.getElem?_map, Option.map_some])
          | with_reducible refine AWp_skipN ?_
          | with_reducible refine AWp_exitO (by repeat (first | with_reducible exact Out.hit | with_reducible apply Out.thenA | with_reducible apply Out.out rfl)) ?_
          | (with_reducible refine AWp_retR ?_; simp (dsimp := false) only [go_sem, Nat.reduceAdd, Nat.reduceBEq, Nat.reduceEqDiff, Nat.reduceLT, Nat.reduceLeDiff, Nat.reduceMul, Int.reduceToNat, reduceCtorEq, ↓reduceIte, Tryd.ntmps32, Tryd.results32, ks_32, mu_32, nd_32, ti_ag3, ti_ag9, ti_fl100_0, ti_fl100_1, ti_fl100_2, ti_fl106_3, ti_fl106_4, ti_fl106_5, ti_hb30, ti_pl106, ti_sb49, ti_sb52, ti_sl49, ti_sl52, ti_sz3, ti_zr106, evD, evV, ndC, h5f, hx, hin', hu, hupt, hupt2, List.length_map, List.getElem?_map, Option.map_some])
          | ((first | with_reducible refine AWp_regE mu_32 ks_32 ?_ | with_reducible refine AWp_drawE nd_32 mu_32 ks_32 ti_mixed (by kernel_rfl) ?_); intro Kv hKv; simp (dsimp := false) only [go_sem, Nat.reduceAdd, Nat.reduceBEq, Nat.reduceEqDiff, Nat.reduceLT, Nat.reduceLeDiff, Nat.reduceMul, Int.reduceToNat, reduceCtorEq, ↓reduceIte, Tryd.ntmps32, Tryd.results32, ks_32, mu_32, nd_32, ti_ag3, ti_ag9, ti_fl100_0, ti_fl100_1, ti_fl100_2, ti_fl106_3, ti_fl106_4, ti_fl106_5, ti_hb30, ti_pl106, ti_sb49, ti_sb52, ti_sl49, ti_sl52, ti_sz3, ti_zr106, evD, evV, ndC, h5f, hx, hin', hu, hupt, hupt2, List.length_map, List.getElem?_map, Option.map_some])
          | (refine AWp_condC rfl ?_; intro KA KB hKA hKB; try simp only [onB_true, onB_false, onB_dec, onB_ndec, onB_not, onB_and, onB_or])
          | (refine AWp_condA rfl ?_ ?_)
          | with_reducible refine onB_of ?_ ?_
          | with_reducible rfl
          | omega)
        all_goals try first
          | omega
          | exact hcl _ _
        refine AWp_whileH (fun z : List Nat × List Nat => os ++ [up] = z.1 ++ z.2) (fun z => [(0, .d (.sl 3 (l.map evD))), (5, .os H.length (a + 1)), (6, .d (.i .i64 up)), (7, .d (.i .i64 i)), (8, .d (.i .i64 out.length)), (9, .d (.i .i64 (lastI z.1)))])
          (fun z => rfHp (a + 1) (bump z.2 out ++ [shNew out up x])) (fun z => z.1.length) (os ++ [up], []) (by simp) ?_ ?_ ?_ ?_
        · first | (simp [rfHp, bump_nil, shNew, ndC, hlo]; done)
        · rw [lastI_app]
          simp (dsimp := false) only [go_sem, Nat.reduceAdd, Nat.reduceBEq, Nat.reduceEqDiff, Nat.reduceLT, Nat.reduceLeDiff, Nat.reduceMul, Int.reduceToNat, reduceCtorEq, ↓reduceIte, Tryd.ntmps32, Tryd.results32, ks_32, mu_32, nd_32, ti_ag3, ti_ag9, ti_fl100_0, ti_fl100_1, ti_fl100_2, ti_fl106_3, ti_fl106_4, ti_fl106_5, ti_hb30, ti_pl106, ti_sb49, ti_sb52, ti_sl49, ti_sl52, ti_sz3, ti_zr106, evD, evV, ndC, h5f, hx, hin', hu, hupt, hupt2, List.length_map, List.getElem?_map, Option.map_some]
          first | done | (simp; done)
        · rintro z _ ob hob
          exact rfHp_bel _ _ _ ob hob
        rintro ⟨pre, suf⟩ he
        simp only [rfHp] at he ⊢
        rcases pre.eq_nil_or_concat with rfl | ⟨q, p, rfl⟩
        · rw [List.nil_append] at he
          subst he
          have hl0 : lastI ([] : List Nat) = -1 := rfl
          by_cases h1 : x.k = 1
          · 
            repeat' (first
              | with_reducible refine And.intro ?_ ?_
              | with_reducible intro _
              | with_reducible refine AWp_seq ?_
              | with_reducible refine AWp_block ?_
              | (with_reducible refine hKv _ _ (AWp_nop ?_); clear hKv Kv)
              | (with_reducible refine hKv _ _ ?_; clear hKv Kv; simp (dsimp := false) only [go_sem, Nat.reduceAdd, Nat.reduceBEq, Nat.reduceEqDiff, Nat.reduceLT, Nat.reduceLeDiff, Nat.reduceMul, Int.reduceToNat, reduceCtorEq, ↓reduceIte, Tryd.ntmps32, Tryd.results32, ks_32, mu_32, nd_32, ti_ag3, ti_ag9, ti_fl100_0, ti_fl100_1, ti_fl100_2, ti_fl106_3, ti_fl106_4, ti_fl106_5, ti_hb30, ti_pl106, ti_sb49, ti_sb52, ti_sl49, ti_sl52, ti_sz3, ti_zr106, evD, evV, ndC, h1, hl0, Int.reduceEq, Int.reduceLE, hx, hin', List.length_map, List.getElem?_map, Option.map_some])
              | (with_reducible refine hKA ?_; clear hKA hKB KA KB)
              | (with_reducible refine hKB ?_; clear hKA hKB KA KB)
              | ((first | with_reducible refine AWp_regC mu_32 ks_32 ?_ | with_reducible refine AWp_draw nd_32 mu_32 ks_32 ti_mixed (by kernel_rfl) ?_); intro Kv hKv; simp (dsimp := false) only [go_sem, Nat.reduceAdd, Nat.reduceBEq, Nat.reduceEqDiff, Nat.reduceLT, Nat.reduceLeDiff, Nat.reduceMul, Int.reduceToNat, reduceCtorEq, ↓reduceIte, Tryd.ntmps32, Tryd.results32, ks_32, mu_32, nd_32, ti_ag3, ti_ag9, ti_fl100_0, ti_fl100_1, ti_fl100_2, ti_fl106_3, ti_fl106_4, ti_fl106_5, ti_hb30, ti_pl106, ti_sb49, ti_sb52, ti_sl49, ti_sl52, ti_sz3, ti_zr106, evD, evV, ndC, h1, hl0, Int.reduceEq, Int.reduceLE, hx, hin', List.length_map, List.getElem?_map, Option.map_some])
              | with_reducible refine AWp_skipN ?_
              | with_reducible refine AWp_exitO (by repeat (first | with_reducible exact Out.hit | with_reducible apply Out.thenA | with_reducible apply Out.out rfl)) ?_
              | (with_reducible refine AWp_retR ?_; simp (dsimp := false) only [go_sem, Nat.reduceAdd, Nat.reduceBEq, Nat.reduceEqDiff, Nat.reduceLT, Nat.reduceLeDiff, Nat.reduceMul, Int.reduceToNat, reduceCtorEq, ↓reduceIte, Tryd.ntmps32, Tryd.results32, ks_32, mu_32, nd_32, ti_ag3, ti_ag9, ti_fl100_0, ti_fl100_1, ti_fl100_2, ti_fl106_3, ti_fl106_4, ti_fl106_5, ti_hb30, ti_pl106, ti_sb49, ti_sb52, ti_sl49, ti_sl52, ti_sz3, ti_zr106, evD, evV, ndC, h1, hl0, Int.reduceEq, Int.reduceLE, hx, hin', List.length_map, List.getElem?_map, Option.map_some])
              | ((first | with_reducible refine AWp_regE mu_32 ks_32 ?_ | with_reducible refine AWp_drawE nd_32 mu_32 ks_32 ti_mixed (by kernel_rfl) ?_); intro Kv hKv; simp (dsimp := false) only [go_sem, Nat.reduceAdd, Nat.reduceBEq, Nat.reduceEqDiff, Nat.reduceLT, Nat.reduceLeDiff, Nat.reduceMul, Int.reduceToNat, reduceCtorEq, ↓reduceIte, Tryd.ntmps32, Tryd.results32, ks_32, mu_32, nd_32, ti_ag3, ti_ag9, ti_fl100_0, ti_fl100_1, ti_fl100_2, ti_fl106_3, ti_fl106_4, ti_fl106_5, ti_hb30, ti_pl106, ti_sb49, ti_sb52, ti_sl49, ti_sl52, ti_sz3, ti_zr106, evD, evV, ndC, h1, hl0, Int.reduceEq, Int.reduceLE, hx, hin', List.length_map, List.getElem?_map, Option.map_some])
              | (refine AWp_condC rfl ?_; intro KA KB hKA hKB; try simp only [onB_true, onB_false, onB_dec, onB_ndec, onB_not, onB_and, onB_or])
              | (refine AWp_condA rfl ?_ ?_)
              | with_reducible refine onB_of ?_ ?_
              | with_reducible rfl
              | omega)
            all_goals first
              | omega
              | exact hcl _ _
              | exact ⟨⟨i + 1, evS s x, bump (os ++ [up]) out ++ [shNew out up x], os ++ [up], out.length, a + 1, b⟩, hy.deeper hx h1 (a + 1) b, by show l.length - (i + 1) < l.length - i; omega, by first | rfl | (simp; done), by (repeat' (refine And.intro ?_ ?_)) <;> first | rfl | omega | (simp; done) | (simp; omega) | (simp (dsimp := false) only [go_sem, Nat.reduceAdd, Nat.reduceBEq, Nat.reduceEqDiff, Nat.reduceLT, Nat.reduceLeDiff, Nat.reduceMul, Int.reduceToNat, reduceCtorEq, ↓reduceIte, Tryd.ntmps32, Tryd.results32, ks_32, mu_32, nd_32, ti_ag3, ti_ag9, ti_fl100_0, ti_fl100_1, ti_fl100_2, ti_fl106_3, ti_fl106_4, ti_fl106_5, ti_hb30, ti_pl106, ti_sb49, ti_sb52, ti_sl49, ti_sl52, ti_sz3, ti_zr106, evD, evV, ndC, h1, hl0, Int.reduceEq, Int.reduceLE, hx, hin', List.length_map, List.getElem?_map, Option.map_some]; done) | (simp (dsimp := false) only [go_sem, Nat.reduceAdd, Nat.reduceBEq, Nat.reduceEqDiff, Nat.reduceLT, Nat.reduceLeDiff, Nat.reduceMul, Int.reduceToNat, reduceCtorEq, ↓reduceIte, Tryd.ntmps32, Tryd.results32, ks_32, mu_32, nd_32, ti_ag3, ti_ag9, ti_fl100_0, ti_fl100_1, ti_fl100_2, ti_fl106_3, ti_fl106_4, ti_fl106_5, ti_hb30, ti_pl106, ti_sb49, ti_sb52, ti_sl49, ti_sl52, ti_sz3, ti_zr106, evD, evV, ndC, h1, hl0, Int.reduceEq, Int.reduceLE, hx, hin', List.length_map, List.getElem?_map, Option.map_some]; omega)⟩
          · have h1f : (x.k = 1) = False := eq_false h1
            
            repeat' (first
              | with_reducible refine And.intro ?_ ?_
              | with_reducible intro _
              | with_reducible refine AWp_seq ?_
              | with_reducible refine AWp_block ?_
              | (with_reducible refine hKv _ _ (AWp_nop ?_); clear hKv Kv)
              | (with_reducible refine hKv _ _ ?_; clear hKv Kv; simp (dsimp := false) only [go_sem, Nat.reduceAdd, Nat.reduceBEq, Nat.reduceEqDiff, Nat.reduceLT, Nat.reduceLeDiff, Nat.reduceMul, Int.reduceToNat, reduceCtorEq, ↓reduceIte, Tryd.ntmps32, Tryd.results32, ks_32, mu_32, nd_32, ti_ag3, ti_ag9, ti_fl100_0, ti_fl100_1, ti_fl100_2, ti_fl106_3, ti_fl106_4, ti_fl106_5, ti_hb30, ti_pl106, ti_sb49, ti_sb52, ti_sl49, ti_sl52, ti_sz3, ti_zr106, evD, evV, ndC, h1f, hl0, Int.reduceEq, Int.reduceLE, hx, hin', List.length_map, List.getElem?_map, Option.map_some])
              | (with_reducible refine hKA ?_; clear hKA hKB KA KB)
              | (with_reducible refine hKB ?_; clear hKA hKB KA KB)
              | ((first | with_reducible refine AWp_regC mu_32 ks_32 ?_ | with_reducible refine AWp_draw nd_32 mu_32 ks_32 ti_mixed (by kernel_rfl) ?_); intro Kv hKv; simp (dsimp := false) only [go_sem, Nat.reduceAdd, Nat.reduceBEq, Nat.reduceEqDiff, Nat.reduceLT, Nat.reduceLeDiff, Nat.reduceMul, Int.reduceToNat, reduceCtorEq, ↓reduceIte, Tryd.ntmps32, Tryd.results32, ks_32, mu_32, nd_32, ti_ag3, ti_ag9, ti_fl100_0, ti_fl100_1, ti_fl100_2, ti_fl106_3, ti_fl106_4, ti_fl106_5, ti_hb30, ti_pl106, ti_sb49, ti_sb52, ti_sl49, ti_sl52, ti_sz3, ti_zr106, evD, evV, ndC, h1f, hl0, Int.reduceEq, Int.reduceLE, hx, hin', List.length_map, List.getElem?_map, Option.map_some])
              | with_reducible refine AWp_skipN ?_
              | with_reducible refine AWp_exitO (by repeat (first | with_reducible exact Out.hit | with_reducible apply Out.thenA | with_reducible apply Out.out rfl)) ?_
              | (with_reducible refine AWp_retR ?_; simp (dsimp := false) only [go_sem, Nat.reduceAdd, Nat.reduceBEq, Nat.reduceEqDiff, Nat.reduceLT, Nat.reduceLeDiff, Nat.reduceMul, Int.reduceToNat, reduceCtorEq, ↓reduceIte, Tryd.ntmps32, Tryd.results32, ks_32, mu_32, nd_32, ti_ag3, ti_ag9, ti_fl100_0, ti_fl100_1, ti_fl100_2, ti_fl106_3, ti_fl106_4, ti_fl106_5, ti_hb30, ti_pl106, ti_sb49, ti_sb52, ti_sl49, ti_sl52, ti_sz3, ti_zr106, evD, evV, ndC, h1f, hl0, Int.reduceEq, Int.reduceLE, hx, hin', List.length_map, List.getElem?_map, Option.map_some])
              | ((first | with_reducible refine AWp_regE mu_32 ks_32 ?_ | with_reducible refine AWp_drawE nd_32 mu_32 ks_32 ti_mixed (by kernel_rfl) ?_); intro Kv hKv; simp (dsimp := false) only [go_sem, Nat.reduceAdd, Nat.reduceBEq, Nat.reduceEqDiff, Nat.reduceLT, Nat.reduceLeDiff, Nat.reduceMul, Int.reduceToNat, reduceCtorEq, ↓reduceIte, Tryd.ntmps32, Tryd.results32, ks_32, mu_32, nd_32, ti_ag3, ti_ag9, ti_fl100_0, ti_fl100_1, ti_fl100_2, ti_fl106_3, ti_fl106_4, ti_fl106_5, ti_hb30, ti_pl106, ti_sb49, ti_sb52, ti_sl49, ti_sl52, ti_sz3, ti_zr106, evD, evV, ndC, h1f, hl0, Int.reduceEq, Int.reduceLE, hx, hin', List.length_map, List.getElem?_map, Option.map_some])
              | (refine AWp_condC rfl ?_; intro KA KB hKA hKB; try simp only [onB_true, onB_false, onB_dec, onB_ndec, onB_not, onB_and, onB_or])
              | (refine AWp_condA rfl ?_ ?_)
              | with_reducible refine onB_of ?_ ?_
              | with_reducible rfl
              | omega)
            all_goals first
              | omega
              | exact hcl _ _
              | exact ⟨⟨i + 1, evS s x, bump (os ++ [up]) out ++ [shNew out up x], os, up, a + 1, b⟩, hy.more hx h1 h5 (a + 1) b, by show l.length - (i + 1) < l.length - i; omega, by first | rfl | (simp; done), by (repeat' (refine And.intro ?_ ?_)) <;> first | rfl | omega | (simp; done) | (simp; omega) | (simp (dsimp := false) only [go_sem, Nat.reduceAdd, Nat.reduceBEq, Nat.reduceEqDiff, Nat.reduceLT, Nat.reduceLeDiff, Nat.reduceMul, Int.reduceToNat, reduceCtorEq, ↓reduceIte, Tryd.ntmps32, Tryd.results32, ks_32, mu_32, nd_32, ti_ag3, ti_ag9, ti_fl100_0, ti_fl100_1, ti_fl100_2, ti_fl106_3, ti_fl106_4, ti_fl106_5, ti_hb30, ti_pl106, ti_sb49, ti_sb52, ti_sl49, ti_sl52, ti_sz3, ti_zr106, evD, evV, ndC, h1f, hl0, Int.reduceEq, Int.reduceLE, hx, hin', List.length_map, List.getElem?_map, Option.map_some]; done) | (simp (dsimp := false) only [go_sem, Nat.reduceAdd, Nat.reduceBEq, Nat.reduceEqDiff, Nat.reduceLT, Nat.reduceLeDiff, Nat.reduceMul, Int.reduceToNat, reduceCtorEq, ↓reduceIte, Tryd.ntmps32, Tryd.results32, ks_32, mu_32, nd_32, ti_ag3, ti_ag9, ti_fl100_0, ti_fl100_1, ti_fl100_2, ti_fl106_3, ti_fl106_4, ti_fl106_5, ti_hb30, ti_pl106, ti_sb49, ti_sb52, ti_sl49, ti_sl52, ti_sz3, ti_zr106, evD, evV, ndC, h1f, hl0, Int.reduceEq, Int.reduceLE, hx, hin', List.length_map, List.getElem?_map, Option.map_some]; omega)⟩
        · rw [List.concat_eq_append] at he ⊢
          rw [lastI_app]
          have he2 : os ++ [up] = q ++ p :: suf := by rw [he, List.append_assoc]; rfl
          have hpl : p < out.length := hinv.lt p (by rw [he2]; simp)
          obtain ⟨y, hyp⟩ : ∃ y, out[p]? = some y := ⟨out[p], List.getElem?_eq_getElem hpl⟩
          have hns := asc_last he2 hinv.asc
          have hup := up_of hinv he2 hyp
          have hbp : (bump suf out ++ [shNew out up x])[p]? = some y := by
            rw [List.getElem?_append_left (by rw [bump_len]; exact hpl), bump_get hyp, if_neg hns]
          have hszb := hinv.szb y (List.mem_of_getElem? hyp)
          have hp1 : ((0 : Int) ≤ (p : Int)) = True := eq_true (by omega)
          have hp2 : ((p : Int) < ((out.length + 1 : Nat) : Int)) = True := eq_true (by omega)
          have hbl : (bump suf out ++ [shNew out up x]).length = out.length + 1 := by rw [List.length_append, bump_len]; rfl
          have hset : ((bump suf out ++ [shNew out up x]).map ndC).set p (ndC (szTo y (y.sz + 1))) = (bump (p :: suf) out ++ [shNew out up x]).map ndC := by
            rw [← List.map_set, List.set_append_left _ _ (by rw [bump_len]; exact hpl), bump_cons hyp hns]
          have hbp2 : (bump (p :: suf) out ++ [shNew out up x])[p]? = some (szTo y (y.sz + 1)) := by
            rw [List.getElem?_append_left (by rw [bump_len]; exact hpl), bump_get hyp, if_pos (by simp)]
          have hlb : ∀ L : List Nat, (bump L out ++ [shNew out up x]).length = out.length + 1 := fun L => by rw [List.length_append, bump_len]; rfl
          simp only [ndC, szTo, hup] at hset
          simp only [szTo] at hbp2
          
          repeat' (first
            | with_reducible refine And.intro ?_ ?_
            | with_reducible intro _
            | with_reducible refine AWp_seq ?_
            | with_reducible refine AWp_block ?_
            | (with_reducible refine hKv _ _ (AWp_nop ?_); clear hKv Kv)
            | (with_reducible refine hKv _ _ ?_; clear hKv Kv; simp (dsimp := false) only [go_sem, Nat.reduceAdd, Nat.reduceBEq, Nat.reduceEqDiff, Nat.reduceLT, Nat.reduceLeDiff, Nat.reduceMul, Int.reduceToNat, reduceCtorEq, ↓reduceIte, Tryd.ntmps32, Tryd.results32, ks_32, mu_32, nd_32, ti_ag3, ti_ag9, ti_fl100_0, ti_fl100_1, ti_fl100_2, ti_fl106_3, ti_fl106_4, ti_fl106_5, ti_hb30, ti_pl106, ti_sb49, ti_sb52, ti_sl49, ti_sl52, ti_sz3, ti_zr106, evD, evV, ndC, hx, hin', hp1, hp2, hlb, hset, hbp, hbp2, hup, List.length_map, List.getElem?_map, Option.map_some])
            | (with_reducible refine hKA ?_; clear hKA hKB KA KB)
            | (with_reducible refine hKB ?_; clear hKA hKB KA KB)
            | ((first | with_reducible refine AWp_regC mu_32 ks_32 ?_ | with_reducible refine AWp_draw nd_32 mu_32 ks_32 ti_mixed (by kernel_rfl) ?_); intro Kv hKv; simp (dsimp := false) only [go_sem, Nat.reduceAdd, Nat.reduceBEq, Nat.reduceEqDiff, Nat.reduceLT, Nat.reduceLeDiff, Nat.reduceMul, Int.reduceToNat, reduceCtorEq, ↓reduceIte, Tryd.ntmps32, Tryd.results32, ks_32, mu_32, nd_32, ti_ag3, ti_ag9, ti_fl100_0, ti_fl100_1, ti_fl100_2, ti_fl106_3, ti_fl106_4, ti_fl106_5, ti_hb30, ti_pl106, ti_sb49, ti_sb52, ti_sl49, ti_sl52, ti_sz3, ti_zr106, evD, evV, ndC, hx, hin', hp1, hp2, hlb, hset, hbp, hbp2, hup, List.length_map, List.getElem?_map, Option.map_some])
            | with_reducible refine AWp_skipN ?_
            | with_reducible refine AWp_exitO (by repeat (first | with_reducible exact Out.hit | with_reducible apply Out.thenA | with_reducible apply Out.out rfl)) ?_
            | (with_reducible refine AWp_retR ?_; simp (dsimp := false) only [go_sem, Nat.reduceAdd, Nat.reduceBEq, Nat.reduceEqDiff, Nat.reduceLT, Nat.reduceLeDiff, Nat.reduceMul, Int.reduceToNat, reduceCtorEq, ↓reduceIte, Tryd.ntmps32, Tryd.results32, ks_32, mu_32, nd_32, ti_ag3, ti_ag9, ti_fl100_0, ti_fl100_1, ti_fl100_2, ti_fl106_3, ti_fl106_4, ti_fl106_5, ti_hb30, ti_pl106, ti_sb49, ti_sb52, ti_sl49, ti_sl52, ti_sz3, ti_zr106, evD, evV, ndC, hx, hin', hp1, hp2, hlb, hset, hbp, hbp2, hup, List.length_map, List.getElem?_map, Option.map_some])
            | ((first | with_reducible refine AWp_regE mu_32 ks_32 ?_ | with_reducible refine AWp_drawE nd_32 mu_32 ks_32 ti_mixed (by kernel_rfl) ?_); intro Kv hKv; simp (dsimp := false) only [go_sem, Nat.reduceAdd, Nat.reduceBEq, Nat.reduceEqDiff, Nat.reduceLT, Nat.reduceLeDiff, Nat.reduceMul, Int.reduceToNat, reduceCtorEq, ↓reduceIte, Tryd.ntmps32, Tryd.results32, ks_32, mu_32, nd_32, ti_ag3, ti_ag9, ti_fl100_0, ti_fl100_1, ti_fl100_2, ti_fl106_3, ti_fl106_4, ti_fl106_5, ti_hb30, ti_pl106, ti_sb49, ti_sb52, ti_sl49, ti_sl52, ti_sz3, ti_zr106, evD, evV, ndC, hx, hin', hp1, hp2, hlb, hset, hbp, hbp2, hup, List.length_map, List.getElem?_map, Option.map_some])
            | (refine AWp_condC rfl ?_; intro KA KB hKA hKB; try simp only [onB_true, onB_false, onB_dec, onB_ndec, onB_not, onB_and, onB_or])
            | (refine AWp_condA rfl ?_ ?_)
            | with_reducible refine onB_of ?_ ?_
            | with_reducible rfl
            | omega)
          all_goals first
            | omega
            | exact hcl _ _
            | exact ⟨(q, p :: suf), he2, by simp, by first | rfl | (simp; done), by (repeat' (refine And.intro ?_ ?_)) <;> first | rfl | omega | (simp; done) | (simp; omega) | (simp (dsimp := false) only [go_sem, Nat.reduceAdd, Nat.reduceBEq, Nat.reduceEqDiff, Nat.reduceLT, Nat.reduceLeDiff, Nat.reduceMul, Int.reduceToNat, reduceCtorEq, ↓reduceIte, Tryd.ntmps32, Tryd.results32, ks_32, mu_32, nd_32, ti_ag3, ti_ag9, ti_fl100_0, ti_fl100_1, ti_fl100_2, ti_fl106_3, ti_fl106_4, ti_fl106_5, ti_hb30, ti_pl106, ti_sb49, ti_sb52, ti_sl49, ti_sl52, ti_sz3, ti_zr106, evD, evV, ndC, hx, hin', hp1, hp2, hlb, hset, hbp, hbp2, hup, List.length_map, List.getElem?_map, Option.map_some]; done) | (simp (dsimp := false) only [go_sem, Nat.reduceAdd, Nat.reduceBEq, Nat.reduceEqDiff, Nat.reduceLT, Nat.reduceLeDiff, Nat.reduceMul, Int.reduceToNat, reduceCtorEq, ↓reduceIte, Tryd.ntmps32, Tryd.results32, ks_32, mu_32, nd_32, ti_ag3, ti_ag9, ti_fl100_0, ti_fl100_1, ti_fl100_2, ti_fl106_3, ti_fl106_4, ti_fl106_5, ti_hb30, ti_pl106, ti_sb49, ti_sb52, ti_sl49, ti_sl52, ti_sz3, ti_zr106, evD, evV, ndC, hx, hin', hp1, hp2, hlb, hset, hbp, hbp2, hup, List.length_map, List.getElem?_map, Option.map_some]; omega)⟩
    · have e : i = l.length := by omega
      have hin' : ((i : Int) < (l.length : Int)) = False := eq_false (by omega)
      obtain ⟨_, ho, _⟩ := hy.last e
      simp only [] at ho
      rw [← ho] at hk
      
      repeat' (first
        | with_reducible refine And.intro ?_ ?_
        | with_reducible intro _
        | with_reducible refine AWp_seq ?_
        | with_reducible refine AWp_block ?_
        | (with_reducible refine hKv _ _ (AWp_nop ?_); clear hKv Kv)
        | (with_reducible refine hKv _ _ ?_; clear hKv Kv; simp (dsimp := false) only [go_sem, Nat.reduceAdd, Nat.reduceBEq, Nat.reduceEqDiff, Nat.reduceLT, Nat.reduceLeDiff, Nat.reduceMul, Int.reduceToNat, reduceCtorEq, ↓reduceIte, Tryd.ntmps32, Tryd.results32, ks_32, mu_32, nd_32, ti_ag3, ti_ag9, ti_fl100_0, ti_fl100_1, ti_fl100_2, ti_fl106_3, ti_fl106_4, ti_fl106_5, ti_hb30, ti_pl106, ti_sb49, ti_sb52, ti_sl49, ti_sl52, ti_sz3, ti_zr106, evD, evV, hin'])
        | (with_reducible refine hKA ?_; clear hKA hKB KA KB)
        | (with_reducible refine hKB ?_; clear hKA hKB KA KB)
        | ((first | with_reducible refine AWp_regC mu_32 ks_32 ?_ | with_reducible refine AWp_draw nd_32 mu_32 ks_32 ti_mixed (by kernel_rfl) ?_); intro Kv hKv; simp (dsimp := false) only [go_sem, Nat.reduceAdd, Nat.reduceBEq, Nat.reduceEqDiff, Nat.reduceLT, Nat.reduceLeDiff, Nat.reduceMul, Int.reduceToNat, reduceCtorEq, ↓reduceIte, Tryd.ntmps32, Tryd.results32, ks_32, mu_32, nd_32, ti_ag3, ti_ag9, ti_fl100_0, ti_fl100_1, ti_fl100_2, ti_fl106_3, ti_fl106_4, ti_fl106_5, ti_hb30, ti_pl106, ti_sb49, ti_sb52, ti_sl49, ti_sl52, ti_sz3, ti_zr106, evD, evV, hin'])
        | with_reducible refine AWp_skipN ?_
        | with_reducible refine AWp_exitO (by repeat (first | with_reducible exact Out.hit | with_reducible apply Out.thenA | with_reducible apply Out.out rfl)) ?_
        | (with_reducible refine AWp_retR ?_; simp (dsimp := false) only [go_sem, Nat.reduceAdd, Nat.reduceBEq, Nat.reduceEqDiff, Nat.reduceLT, Nat.reduceLeDiff, Nat.reduceMul, Int.reduceToNat, reduceCtorEq, ↓reduceIte, Tryd.ntmps32, Tryd.results32, ks_32, mu_32, nd_32, ti_ag3, ti_ag9, ti_fl100_0, ti_fl100_1, ti_fl100_2, ti_fl106_3, ti_fl106_4, ti_fl106_5, ti_hb30, ti_pl106, ti_sb49, ti_sb52, ti_sl49, ti_sl52, ti_sz3, ti_zr106, evD, evV, hin'])
        | ((first | with_reducible refine AWp_regE mu_32 ks_32 ?_ | with_reducible refine AWp_drawE nd_32 mu_32 ks_32 ti_mixed (by kernel_rfl) ?_); intro Kv hKv; simp (dsimp := false) only [go_sem, Nat.reduceAdd, Nat.reduceBEq, Nat.reduceEqDiff, Nat.reduceLT, Nat.reduceLeDiff, Nat.reduceMul, Int.reduceToNat, reduceCtorEq, ↓reduceIte, Tryd.ntmps32, Tryd.results32, ks_32, mu_32, nd_32, ti_ag3, ti_ag9, ti_fl100_0, ti_fl100_1, ti_fl100_2, ti_fl106_3, ti_fl106_4, ti_fl106_5, ti_hb30, ti_pl106, ti_sb49, ti_sb52, ti_sl49, ti_sl52, ti_sz3, ti_zr106, evD, evV, hin'])
        | (refine AWp_condC rfl ?_; intro KA KB hKA hKB; try simp only [onB_true, onB_false, onB_dec, onB_ndec, onB_not, onB_and, onB_or])
        | (refine AWp_condA rfl ?_ ?_)
        | with_reducible refine onB_of ?_ ?_
        | with_reducible rfl
        | omega)
      all_goals first
        | omega
        | exact hcl _ _
        | exact dropF hk (Fz_tu2 (.os _ _ 106 6 _ _ (by omega) (get_app0 _ _) (nds_data _)) (.same _)) (by simp [Bel_tu, Bel_d])
  · rw [shredded, if_neg hf] at hk
    have hf' : (eventsFault l = 0) = False := eq_false hf
    
    refine ACalls_of Tryd.func32 rfl in_32 (Nat.le_of_ble_eq_true rfl) ?_
    intro F hF
    simp (dsimp := false) only [go_sem, Nat.reduceAdd, Nat.reduceBEq, Nat.reduceEqDiff, Nat.reduceLT, Nat.reduceLeDiff, Nat.reduceMul, Int.reduceToNat, reduceCtorEq, ↓reduceIte, Tryd.ntmps32, Tryd.results32, ks_32, mu_32, nd_32, ti_ag3, ti_ag9, ti_fl100_0, ti_fl100_1, ti_fl100_2, ti_fl106_3, ti_fl106_4, ti_fl106_5, ti_hb30, ti_pl106, ti_sb49, ti_sb52, ti_sl49, ti_sl52, ti_sz3, ti_zr106, evD, evV, hf', in_32] at hF
    subst hF
    repeat' (first
      | with_reducible refine And.intro ?_ ?_
      | with_reducible intro _
      | with_reducible refine AWp_seq ?_
      | with_reducible refine AWp_block ?_
      | (with_reducible refine hKv _ _ (AWp_nop ?_); clear hKv Kv)
      | (with_reducible refine hKv _ _ ?_; clear hKv Kv; simp (dsimp := false) only [go_sem, Nat.reduceAdd, Nat.reduceBEq, Nat.reduceEqDiff, Nat.reduceLT, Nat.reduceLeDiff, Nat.reduceMul, Int.reduceToNat, reduceCtorEq, ↓reduceIte, Tryd.ntmps32, Tryd.results32, ks_32, mu_32, nd_32, ti_ag3, ti_ag9, ti_fl100_0, ti_fl100_1, ti_fl100_2, ti_fl106_3, ti_fl106_4, ti_fl106_5, ti_hb30, ti_pl106, ti_sb49, ti_sb52, ti_sl49, ti_sl52, ti_sz3, ti_zr106, evD, evV, hf'])
      | (with_reducible refine hKA ?_; clear hKA hKB KA KB)
      | (with_reducible refine hKB ?_; clear hKA hKB KA KB)
      | ((first | with_reducible refine AWp_regC mu_32 ks_32 ?_ | with_reducible refine AWp_draw nd_32 mu_32 ks_32 ti_mixed (by kernel_rfl) ?_); intro Kv hKv; simp (dsimp := false) only [go_sem, Nat.reduceAdd, Nat.reduceBEq, Nat.reduceEqDiff, Nat.reduceLT, Nat.reduceLeDiff, Nat.reduceMul, Int.reduceToNat, reduceCtorEq, ↓reduceIte, Tryd.ntmps32, Tryd.results32, ks_32, mu_32, nd_32, ti_ag3, ti_ag9, ti_fl100_0, ti_fl100_1, ti_fl100_2, ti_fl106_3, ti_fl106_4, ti_fl106_5, ti_hb30, ti_pl106, ti_sb49, ti_sb52, ti_sl49, ti_sl52, ti_sz3, ti_zr106, evD, evV, hf'])
      | with_reducible refine AWp_skipN ?_
      | with_reducible refine AWp_exitO (by repeat (first | with_reducible exact Out.hit | with_reducible apply Out.thenA | with_reducible apply Out.out rfl)) ?_
      | (with_reducible refine AWp_retR ?_; simp (dsimp := false) only [go_sem, Nat.reduceAdd, Nat.reduceBEq, Nat.reduceEqDiff, Nat.reduceLT, Nat.reduceLeDiff, Nat.reduceMul, Int.reduceToNat, reduceCtorEq, ↓reduceIte, Tryd.ntmps32, Tryd.results32, ks_32, mu_32, nd_32, ti_ag3, ti_ag9, ti_fl100_0, ti_fl100_1, ti_fl100_2, ti_fl106_3, ti_fl106_4, ti_fl106_5, ti_hb30, ti_pl106, ti_sb49, ti_sb52, ti_sl49, ti_sl52, ti_sz3, ti_zr106, evD, evV, hf'])
      | ((first | with_reducible refine AWp_regE mu_32 ks_32 ?_ | with_reducible refine AWp_drawE nd_32 mu_32 ks_32 ti_mixed (by kernel_rfl) ?_); intro Kv hKv; simp (dsimp := false) only [go_sem, Nat.reduceAdd, Nat.reduceBEq, Nat.reduceEqDiff, Nat.reduceLT, Nat.reduceLeDiff, Nat.reduceMul, Int.reduceToNat, reduceCtorEq, ↓reduceIte, Tryd.ntmps32, Tryd.results32, ks_32, mu_32, nd_32, ti_ag3, ti_ag9, ti_fl100_0, ti_fl100_1, ti_fl100_2, ti_fl106_3, ti_fl106_4, ti_fl106_5, ti_hb30, ti_pl106, ti_sb49, ti_sb52, ti_sl49, ti_sl52, ti_sz3, ti_zr106, evD, evV, hf'])
      | (refine AWp_condC rfl ?_; intro KA KB hKA hKB; try simp only [onB_true, onB_false, onB_dec, onB_ndec, onB_not, onB_and, onB_or])
      | (refine AWp_condA rfl ?_ ?_)
      | ((first | refine eventsFault_A l hS _ _ ?_ | refine QCall_of (eventsFault_A l hS _ _ (Two_intro _ _)) ?_); try simp (dsimp := false) only [go_sem, Nat.reduceAdd, Nat.reduceBEq, Nat.reduceEqDiff, Nat.reduceLT, Nat.reduceLeDiff, Nat.reduceMul, Int.reduceToNat, reduceCtorEq, ↓reduceIte, Tryd.ntmps32, Tryd.results32, ks_32, mu_32, nd_32, ti_ag3, ti_ag9, ti_fl100_0, ti_fl100_1, ti_fl100_2, ti_fl106_3, ti_fl106_4, ti_fl106_5, ti_hb30, ti_pl106, ti_sb49, ti_sb52, ti_sl49, ti_sl52, ti_sz3, ti_zr106, evD, evV, hf'])
      | with_reducible refine onB_of ?_ ?_
      | with_reducible rfl
      | omega)
    all_goals first
      | exact keepFz hk (Fz_tu2 (.nil 6) (.same _)) (by simp [Bel_tu, Bel_d])
end Go.Proofs.YtafbojmnmadlpaaDoor
