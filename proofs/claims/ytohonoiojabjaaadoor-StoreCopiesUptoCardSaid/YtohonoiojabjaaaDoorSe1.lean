/- Events of a node: what the program and the reference make of them. No condition but that the tables of package unicode/utf8 are there. -/
import Derived.Test.YtohonoiojabjaaaDoorSt3
import Derived.Test.YtohonoiojabjaaaDoorSe0
set_option linter.all false
set_option linter.unusedSimpArgs false
set_option linter.unusedVariables false
namespace Go.Proofs.YtohonoiojabjaaaDoor
open Go Go.Proofs.YtohonoiojabjaaaDoor.Ab
variable [Glo] [U8]
set_option maxHeartbeats 4000000
set_option maxRecDepth 20000

/-- Whether there is such a node, in a store that may be. -/
def atFault (l : List Nd) (n : Int) : Int := if nodesFault l = 0 then (if 0 ≤ n ∧ n < l.length then 0 else 6) else nodesFault l
theorem atFault_ok {l : List Nd} {n : Int} (h : atFault l n = 0) : nodesFault l = 0 ∧ 0 ≤ n ∧ n < l.length := by
  unfold atFault at h
  split at h
  · rename_i h1
    split at h
    · rename_i h2
      exact ⟨h1, h2.1, h2.2⟩
    · omega
  · contradiction
/- the live slots of pleacher/store.at -/
def ks_28 : Nat → List Nat
  | 0 => [0, 1]
  | 1 => [0, 1, 5]
  | 2 => [0, 1, 5, 9]
  | 3 => [4]
  | 4 => [18]
  | 5 => [4]
  | 6 => [4]
  | _ => []
def mu_28 : List Nat := []
def in_28 : List Nat := [0, 1]
theorem at_A (l : List Nd) (n : Int) (hlen : l.length ≤ 9223372036854775807) (hS : Short l) (H : Heap) (K : V → Heap → Prop) (hk : K (.d (.i .i64 (atFault l n))) H) :
    ACalls Tryd.prog 28 [.d (.sl 6 (l.map ndD)), .d (.i .i64 n)] H K := by
  refine ACalls_of Tryd.func28 rfl in_28 (Nat.le_of_ble_eq_true rfl) ?_
  intro F hF
  simp (dsimp := false) only [go_sem, Nat.reduceAdd, Nat.reduceBEq, Nat.reduceEqDiff, Nat.reduceLT, Nat.reduceLeDiff, Nat.reduceMul, Int.reduceToNat, reduceCtorEq, ↓reduceIte, Tryd.ntmps28, Tryd.results28, ks_28, mu_28, ti_hb65, ti_sb22, itD, itV, ndD, ndV, evD, evV, in_28] at hF
  subst hF
  repeat' (first
    | with_reducible refine And.intro ?_ ?_
    | with_reducible intro _
    | with_reducible refine AWp_seq ?_
    | with_reducible refine AWp_block ?_
    | (with_reducible refine hKv _ _ (AWp_nop ?_); clear hKv Kv)
    | (with_reducible refine hKv _ _ ?_; clear hKv Kv; simp (dsimp := false) only [go_sem, Nat.reduceAdd, Nat.reduceBEq, Nat.reduceEqDiff, Nat.reduceLT, Nat.reduceLeDiff, Nat.reduceMul, Int.reduceToNat, reduceCtorEq, ↓reduceIte, Tryd.ntmps28, Tryd.results28, ks_28, mu_28, ti_hb65, ti_sb22, itD, itV, ndD, ndV, evD, evV])
    | (with_reducible refine hKA ?_; clear hKA hKB KA KB)
    | (with_reducible refine hKB ?_; clear hKA hKB KA KB)
    | (with_reducible refine AWp_regC mu_28 ks_28 ?_; intro Kv hKv; simp (dsimp := false) only [go_sem, Nat.reduceAdd, Nat.reduceBEq, Nat.reduceEqDiff, Nat.reduceLT, Nat.reduceLeDiff, Nat.reduceMul, Int.reduceToNat, reduceCtorEq, ↓reduceIte, Tryd.ntmps28, Tryd.results28, ks_28, mu_28, ti_hb65, ti_sb22, itD, itV, ndD, ndV, evD, evV])
    | with_reducible refine AWp_skipN ?_
    | with_reducible refine AWp_exitO (by repeat (first | with_reducible exact Out.hit | with_reducible apply Out.thenA | with_reducible apply Out.out rfl)) ?_
    | (with_reducible refine AWp_retR ?_; simp (dsimp := false) only [go_sem, Nat.reduceAdd, Nat.reduceBEq, Nat.reduceEqDiff, Nat.reduceLT, Nat.reduceLeDiff, Nat.reduceMul, Int.reduceToNat, reduceCtorEq, ↓reduceIte, Tryd.ntmps28, Tryd.results28, ks_28, mu_28, ti_hb65, ti_sb22, itD, itV, ndD, ndV, evD, evV])
    | (with_reducible refine AWp_regE mu_28 ks_28 ?_; intro Kv hKv; simp (dsimp := false) only [go_sem, Nat.reduceAdd, Nat.reduceBEq, Nat.reduceEqDiff, Nat.reduceLT, Nat.reduceLeDiff, Nat.reduceMul, Int.reduceToNat, reduceCtorEq, ↓reduceIte, Tryd.ntmps28, Tryd.results28, ks_28, mu_28, ti_hb65, ti_sb22, itD, itV, ndD, ndV, evD, evV])
    | (refine AWp_condC rfl ?_; intro KA KB hKA hKB; try simp only [onB_true, onB_false, onB_dec, onB_ndec, onB_not, onB_and, onB_or])
    | (refine AWp_condA rfl ?_ ?_)
    | (refine storeCheck_A l hlen hS _ _ ?_; try simp (dsimp := false) only [go_sem, Nat.reduceAdd, Nat.reduceBEq, Nat.reduceEqDiff, Nat.reduceLT, Nat.reduceLeDiff, Nat.reduceMul, Int.reduceToNat, reduceCtorEq, ↓reduceIte, Tryd.ntmps28, Tryd.results28, ks_28, mu_28, ti_hb65, ti_sb22, itD, itV, ndD, ndV, evD, evV])
    | with_reducible refine onB_of ?_ ?_
    | with_reducible rfl
    | omega)
  all_goals exact keepD hk (by (simp only [V.d.injEq, D.i.injEq, D.b.injEq, D.s.injEq, true_and]; grind [atFault]))
/- the live slots of pleacher/pleacherref.nodeFault -/
def ks_30 : Nat → List Nat
  | 0 => [0, 1]
  | 1 => [0, 1, 5]
  | 2 => [5, 17]
  | 3 => [5]
  | 4 => [4]
  | _ => []
def mu_30 : List Nat := []
def in_30 : List Nat := [0, 1]
theorem nodeFault_A (l : List Nd) (n : Int) (hlen : l.length ≤ 9223372036854775807) (hS : Short l) (H : Heap) (K : V → Heap → Prop) (hk : K (.d (.i .i64 (atFault l n))) H) :
    ACalls Tryd.prog 30 [.d (.sl 6 (l.map ndD)), .d (.i .i64 n)] H K := by
  refine ACalls_of Tryd.func30 rfl in_30 (Nat.le_of_ble_eq_true rfl) ?_
  intro F hF
  simp (dsimp := false) only [go_sem, Nat.reduceAdd, Nat.reduceBEq, Nat.reduceEqDiff, Nat.reduceLT, Nat.reduceLeDiff, Nat.reduceMul, Int.reduceToNat, reduceCtorEq, ↓reduceIte, Tryd.ntmps30, Tryd.results30, ks_30, mu_30, ti_hb31, ti_hb66, ti_sb22, itD, itV, ndD, ndV, evD, evV, in_30] at hF
  subst hF
  repeat' (first
    | with_reducible refine And.intro ?_ ?_
    | with_reducible intro _
    | with_reducible refine AWp_seq ?_
    | with_reducible refine AWp_block ?_
    | (with_reducible refine hKv _ _ (AWp_nop ?_); clear hKv Kv)
    | (with_reducible refine hKv _ _ ?_; clear hKv Kv; simp (dsimp := false) only [go_sem, Nat.reduceAdd, Nat.reduceBEq, Nat.reduceEqDiff, Nat.reduceLT, Nat.reduceLeDiff, Nat.reduceMul, Int.reduceToNat, reduceCtorEq, ↓reduceIte, Tryd.ntmps30, Tryd.results30, ks_30, mu_30, ti_hb31, ti_hb66, ti_sb22, itD, itV, ndD, ndV, evD, evV])
    | (with_reducible refine hKA ?_; clear hKA hKB KA KB)
    | (with_reducible refine hKB ?_; clear hKA hKB KA KB)
    | (with_reducible refine AWp_regC mu_30 ks_30 ?_; intro Kv hKv; simp (dsimp := false) only [go_sem, Nat.reduceAdd, Nat.reduceBEq, Nat.reduceEqDiff, Nat.reduceLT, Nat.reduceLeDiff, Nat.reduceMul, Int.reduceToNat, reduceCtorEq, ↓reduceIte, Tryd.ntmps30, Tryd.results30, ks_30, mu_30, ti_hb31, ti_hb66, ti_sb22, itD, itV, ndD, ndV, evD, evV])
    | with_reducible refine AWp_skipN ?_
    | with_reducible refine AWp_exitO (by repeat (first | with_reducible exact Out.hit | with_reducible apply Out.thenA | with_reducible apply Out.out rfl)) ?_
    | (with_reducible refine AWp_retR ?_; simp (dsimp := false) only [go_sem, Nat.reduceAdd, Nat.reduceBEq, Nat.reduceEqDiff, Nat.reduceLT, Nat.reduceLeDiff, Nat.reduceMul, Int.reduceToNat, reduceCtorEq, ↓reduceIte, Tryd.ntmps30, Tryd.results30, ks_30, mu_30, ti_hb31, ti_hb66, ti_sb22, itD, itV, ndD, ndV, evD, evV])
    | (with_reducible refine AWp_regE mu_30 ks_30 ?_; intro Kv hKv; simp (dsimp := false) only [go_sem, Nat.reduceAdd, Nat.reduceBEq, Nat.reduceEqDiff, Nat.reduceLT, Nat.reduceLeDiff, Nat.reduceMul, Int.reduceToNat, reduceCtorEq, ↓reduceIte, Tryd.ntmps30, Tryd.results30, ks_30, mu_30, ti_hb31, ti_hb66, ti_sb22, itD, itV, ndD, ndV, evD, evV])
    | (refine AWp_condC rfl ?_; intro KA KB hKA hKB; try simp only [onB_true, onB_false, onB_dec, onB_ndec, onB_not, onB_and, onB_or])
    | (refine AWp_condA rfl ?_ ?_)
    | (refine nodesFault_A l hlen hS _ _ ?_; try simp (dsimp := false) only [go_sem, Nat.reduceAdd, Nat.reduceBEq, Nat.reduceEqDiff, Nat.reduceLT, Nat.reduceLeDiff, Nat.reduceMul, Int.reduceToNat, reduceCtorEq, ↓reduceIte, Tryd.ntmps30, Tryd.results30, ks_30, mu_30, ti_hb31, ti_hb66, ti_sb22, itD, itV, ndD, ndV, evD, evV])
    | (refine in_A _ _ _ _ _ ?_; try simp (dsimp := false) only [go_sem, Nat.reduceAdd, Nat.reduceBEq, Nat.reduceEqDiff, Nat.reduceLT, Nat.reduceLeDiff, Nat.reduceMul, Int.reduceToNat, reduceCtorEq, ↓reduceIte, Tryd.ntmps30, Tryd.results30, ks_30, mu_30, ti_hb31, ti_hb66, ti_sb22, itD, itV, ndD, ndV, evD, evV])
    | with_reducible refine onB_of ?_ ?_
    | with_reducible rfl
    | omega)
  all_goals exact keepD hk (by (simp only [V.d.injEq, D.i.injEq, D.b.injEq, D.s.injEq, true_and]; grind [atFault]))
def evC (x : Ev) : List V := [.d (.i .i64 x.k), .d (.s x.nm), .d (.s x.vl)]
theorem evs_data (l : List Ev) : dsRows (l.map evC) = some (l.map evD) := by
  induction l with
  | nil => rfl
  | cons x rs ih => simp [dsRows, evC, evD, dsOf, asD, ih]
def natCells (e : Nat) : List V := [.d (.i .i64 (e : Int))]
theorem obBel_nat (m ver e sz : Nat) (xs : List Nat) : ObBel m (.row ver e sz (xs.map natCells)) := obBel_map (fun e => [D.i .i64 ((e : Nat) : Int)]) m ver e sz xs
theorem obBel_ev (m ver e sz : Nat) (xs : List Ev) : ObBel m (.row ver e sz (xs.map evC)) := obBel_map evD m ver e sz xs
theorem nat_top {e : Nat} {r st : List Nat} (h : st = e :: r) : st.reverse[((st.length : Int) - 1).toNat]? = some e := by
  subst h
  have : (((e :: r).length : Int) - 1).toNat = r.length := by simp
  rw [this, List.reverse_cons, List.getElem?_append_right (by simp)]
  simp
theorem nat_take {e : Nat} {r st : List Nat} (h : st = e :: r) : List.take ((st.length : Int) - 1).toNat (st.reverse.map natCells) = r.reverse.map natCells := by
  subst h
  have : (((e :: r).length : Int) - 1).toNat = r.length := by simp
  rw [this, List.reverse_cons, List.map_append, List.take_left' (by simp)]
/-- Where what is open began. -/
def org (l : List Nd) (i : Nat) (st : List Nat) : Prop := ∀ e, e ∈ st → ∃ j, j < i ∧ j + (gd l j).sz.toNat = e
theorem org.mono {l : List Nd} {i : Nat} {st : List Nat} (h : org l i st) : org l (i + 1) st := fun e he => by
  obtain ⟨j, j1, j2⟩ := h e he
  exact ⟨j, by omega, j2⟩
theorem org.push {l : List Nd} {i : Nat} {st : List Nat} (h : org l i st) {e : Nat} (he : i + (gd l i).sz.toNat = e) : org l (i + 1) (e :: st) := fun e' h' => by
  rcases List.mem_cons.1 h' with rfl | h'
  · exact ⟨i, by omega, he⟩
  · exact h.mono e' h'
theorem stk_top {l : List Nd} {N i : Nat} : ∀ {st : List Nat}, stk N i st → N ≤ i → remE l N i st = List.replicate st.length evE
  | [], _, h => by rw [remE, evF_end h]; rfl
  | e :: r, hs, h => by
    have h1 := stk_le hs
    have h2 := stk_le hs.2
    have h3 := hs.1
    rw [remE, evF_end (by omega), stk_top (i := e + 1) hs.2 (by omega)]
    rfl


end Go.Proofs.YtohonoiojabjaaaDoor
