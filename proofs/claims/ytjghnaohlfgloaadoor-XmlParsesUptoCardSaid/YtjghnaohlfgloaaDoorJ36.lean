/- Whether events are a document: what the program makes. No condition but that the tables of package unicode/utf8, and what package bytealg calls its greatest length, are there. -/
import Derived.Test.YtjghnaohlfgloaaDoorJ33
import Derived.Test.YtjghnaohlfgloaaDoorJ34
import Derived.Test.YtjghnaohlfgloaaDoorJ35
set_option linter.all false
set_option linter.unusedSimpArgs false
set_option linter.unusedVariables false
namespace Go.Proofs.YtjghnaohlfgloaaDoor
open Go Go.Proofs.YtjghnaohlfgloaaDoor.Ab
variable [Glo] [U8] [Ml]
set_option maxHeartbeats 4000000
set_option maxRecDepth 20000
theorem event_ok1 (s : Es) (x : Ev) (first : Bool) (id ver : Nat) (rows : List (List V)) (H : Heap) (K : V → Heap → Prop) (ho : OpenAt H id ver s rows) (hB : ObBel H.length (.row ver 177 3 rows)) (hn : s.n ≤ 20) (hx : x.nm.length + x.vl.length ≤ 1048576) (h1 : x.k = 1) (hf : evF1 s x first = 0) (hk : K (evOut id (ver + 1)) (H.set id (.row (ver + 1) 177 3 ((if 0 < s.n then mark rows s.n false else rows) ++ [newRow])))) : ACalls Tryd.prog 111 [.os id ver, evV x, .d (.b first)] H K :=
  event_1 s x first id ver rows H K ho hB hn hx h1 ⟨fun h => absurd hf h, fun _ => hk⟩
theorem event_ok3 (s : Es) (x : Ev) (first : Bool) (id ver : Nat) (rows : List (List V)) (H : Heap) (K : V → Heap → Prop) (ho : OpenAt H id ver s rows) (hB : ObBel H.length (.row ver 177 3 rows)) (hn : s.n ≤ 20) (hx : x.nm.length + x.vl.length ≤ 1048576) (h1 : x.k = 3) (hf : evF1 s x first = 0) (hk : K (evOut id ver) (H.set id (.row ver 177 3 (mark rows s.n true)))) : ACalls Tryd.prog 111 [.os id ver, evV x, .d (.b first)] H K :=
  event_3 s x first id ver rows H K ho hB hn hx h1 ⟨fun h => absurd hf h, fun _ => hk⟩
theorem event_ok4 (s : Es) (x : Ev) (first : Bool) (id ver : Nat) (rows : List (List V)) (H : Heap) (K : V → Heap → Prop) (ho : OpenAt H id ver s rows) (hB : ObBel H.length (.row ver 177 3 rows)) (hn : s.n ≤ 20) (hx : x.nm.length + x.vl.length ≤ 1048576) (h1 : x.k = 4) (hf : evF1 s x first = 0) (hk : K (evOut id ver) (H.set id (.row ver 177 3 (mark rows s.n false)))) : ACalls Tryd.prog 111 [.os id ver, evV x, .d (.b first)] H K :=
  event_4 s x first id ver rows H K ho hB hn hx h1 ⟨fun h => absurd hf h, fun _ => hk⟩
theorem event_ok5 (s : Es) (x : Ev) (first : Bool) (id ver : Nat) (rows : List (List V)) (H : Heap) (K : V → Heap → Prop) (ho : OpenAt H id ver s rows) (hB : ObBel H.length (.row ver 177 3 rows)) (hn : s.n ≤ 20) (hx : x.nm.length + x.vl.length ≤ 1048576) (h1 : x.k = 5) (hf : evF1 s x first = 0) (hk : K (evOut id (ver + 1)) (H.set id (.row (ver + 1) 177 3 (rows.take ((s.n : Int) - 1).toNat)))) : ACalls Tryd.prog 111 [.os id ver, evV x, .d (.b first)] H K :=
  event_5 s x first id ver rows H K ho hB hn hx h1 ⟨fun h => absurd hf h, fun _ => hk⟩
theorem event_ok2a (s : Es) (x : Ev) (first : Bool) (id ver : Nat) (rows : List (List V)) (H : Heap) (K : V → Heap → Prop) (ho : OpenAt H id ver s rows) (hB : ObBel H.length (.row ver 177 3 rows)) (hn : s.n ≤ 20) (hx : x.nm.length + x.vl.length ≤ 1048576) (h1 : x.k = 2) (hal : s.at_.length ≤ 1000) (ha : s.at_ = []) (hf : evF1 s x first = 0) (hk : K (evOut id ver) ((H ++ [Ob.row 0 9 1 [strC x.nm]]).set id (.row ver 177 3 (rows.set ((s.n : Int) - 1).toNat [.os H.length 0, .d (.b false), .d (.b s.txt)])))) : ACalls Tryd.prog 111 [.os id ver, evV x, .d (.b first)] H K :=
  event_2 s x first id ver rows H K ho hB hn hx h1 hal ⟨fun h => absurd hf h, fun _ _ => hk, fun _ _ _ h => absurd ha h⟩
theorem event_ok2b (s : Es) (x : Ev) (first : Bool) (id ver : Nat) (rows : List (List V)) (H : Heap) (K : V → Heap → Prop) (ho : OpenAt H id ver s rows) (hB : ObBel H.length (.row ver 177 3 rows)) (hn : s.n ≤ 20) (hx : x.nm.length + x.vl.length ≤ 1048576) (h1 : x.k = 2) (hal : s.at_.length ≤ 1000) (ha : s.at_ ≠ []) (hf : evF1 s x first = 0) (hk : ∀ ia va, id < ia → ia < H.length → K (evOut id ver) ((H.set ia (.row (va + 1) 9 1 ((s.at_ ++ [x.nm]).map strC))).set id (.row ver 177 3 (rows.set ((s.n : Int) - 1).toNat [.os ia (va + 1), .d (.b false), .d (.b s.txt)])))) : ACalls Tryd.prog 111 [.os id ver, evV x, .d (.b first)] H K :=
  event_2 s x first id ver rows H K ho hB hn hx h1 hal ⟨fun h => absurd hf h, fun _ h => absurd h ha, fun _ ia va _ h hg => hk ia va h (lt_of_get hg)⟩
theorem event_bad (s : Es) (x : Ev) (first : Bool) (id ver : Nat) (rows : List (List V)) (H : Heap) (K : V → Heap → Prop) (ho : OpenAt H id ver s rows) (hB : ObBel H.length (.row ver 177 3 rows)) (hn : s.n ≤ 20) (hx : x.nm.length + x.vl.length ≤ 1048576) (h1 : 1 ≤ x.k) (h5 : x.k ≤ 5) (hal : s.at_.length ≤ 1000) (hf : evF1 s x first ≠ 0) (hk : K (evBad (evF1 s x first)) H) : ACalls Tryd.prog 111 [.os id ver, evV x, .d (.b first)] H K := by
  obtain h | h | h | h | h : x.k = 1 ∨ x.k = 2 ∨ x.k = 3 ∨ x.k = 4 ∨ x.k = 5 := by omega
  · exact event_1 s x first id ver rows H K ho hB hn hx h ⟨fun _ => hk, fun h => absurd h hf⟩
  · exact event_2 s x first id ver rows H K ho hB hn hx h hal ⟨fun _ => hk, fun h => absurd h hf, fun h => absurd h hf⟩
  · exact event_3 s x first id ver rows H K ho hB hn hx h ⟨fun _ => hk, fun h => absurd h hf⟩
  · exact event_4 s x first id ver rows H K ho hB hn hx h ⟨fun _ => hk, fun h => absurd h hf⟩
  · exact event_5 s x first id ver rows H K ho hB hn hx h ⟨fun _ => hk, fun h => absurd h hf⟩
def ks_55 : Nat → List Nat
  | 0 => [0]
  | 1 => [0, 10]
  | 2 => [2]
  | 3 => [0, 3]
  | 4 => [0, 3, 11, 12, 13]
  | 5 => [0, 3, 11, 12, 13, 14]
  | 6 => [0, 3, 4, 5, 11, 12, 13]
  | 7 => [0, 3, 4, 5, 11, 12, 13, 25]
  | 8 => [2]
  | 9 => [0, 6, 7, 11, 12, 13]
  | 10 => [0, 6, 7, 11, 12, 13, 35]
  | 11 => [2]
  | 12 => [0, 3, 11, 12, 13]
  | 13 => [0, 3, 11, 12, 13]
  | 14 => [46]
  | 15 => [2]
  | 16 => [2]
  | _ => []
def mu_55 : List Nat := [3]
def in_55 : List Nat := [0]
def ro_55 : Nat → List Nat
  | 6 => [5]
  | _ => []
theorem xmlCheck_A (l : List Ev) (hS : EvSh l) (H : Heap) (K : V → Heap → Prop) (hk : K (.d (.i .i64 (eventsFault l))) H) :
    ACalls Tryd.prog 55 [.d (.sl 3 (l.map evD))] H K := by
  have hS1 := hS.1
  by_cases hN : l.length ≤ 400
  · rw [eventsFault_go hN] at hk
    have hN' : (400 < (l.length : Int)) = False := eq_false (by omega)
    refine ACalls_of Tryd.func55 rfl in_55 (Nat.le_of_ble_eq_true rfl) ?_
    intro F hF
    simp (dsimp := false) only [go_sem, Nat.reduceAdd, Nat.reduceBEq, Nat.reduceEqDiff, Nat.reduceLT, Nat.reduceLeDiff, Nat.reduceMul, Int.reduceToNat, reduceCtorEq, ↓reduceIte, Tryd.ntmps55, Tryd.results55, ks_55, mu_55, ro_55, ti_ag3, ti_ag97, ti_fl97_0, ti_hb111, ti_sb43, ti_sb146, ti_sl43, ti_sz97, ti_zr97, evD, evV, hN', ti_sl146, in_55] at hF
    subst hF
    repeat' (first | with_reducible (first | refine And.intro ?_ ?_ | intro _ | refine AWp_seq ?_ | refine AWp_block ?_ | (refine hKv _ _ (AWp_nop ?_); clear hKv Kv) | (refine hKA ?_; clear hKA hKB KA KB) | (refine hKB ?_; clear hKA hKB KA KB) | refine AWp_skipN ?_ | refine AWp_exitO (by repeat (first | exact Out.hit | apply Out.thenA | apply Out.out rfl)) ?_) | (with_reducible (first | (refine hKv _ _ ?_; clear hKv Kv) | ((first | refine AWp_regro mu_55 ks_55 ro_55 ?_ | refine AWp_regC mu_55 ks_55 ?_ | refine AWp_regE mu_55 ks_55 ?_); intro Kv hKv) | refine AWp_retR ?_); try simp (dsimp := false) only [go_sem, Nat.reduceAdd, Nat.reduceBEq, Nat.reduceEqDiff, Nat.reduceLT, Nat.reduceLeDiff, Nat.reduceMul, Int.reduceToNat, reduceCtorEq, ↓reduceIte, Tryd.ntmps55, Tryd.results55, ks_55, mu_55, ro_55, ti_ag3, ti_ag97, ti_fl97_0, ti_hb111, ti_sb43, ti_sb146, ti_sl43, ti_sz97, ti_zr97, evD, evV, hN', ti_sl146]) | (refine AWp_condC rfl ?_; intro KA KB hKA hKB; try simp only [onB_true, onB_false, onB_dec, onB_ndec, onB_not, onB_and, onB_or]) | (refine AWp_condA rfl ?_ ?_) | with_reducible (first | refine onB_of ?_ ?_ | rfl) | omega)
    refine AWp_whileP (CsOk H l) (csFr l H) (csH H) (fun y => l.length - y.i) ⟨0, evSt, 0, [], []⟩ (CsOk.zero H l) ?_ ?_ ?_ ?_ ?_
    · first | rfl
    · simp only [csFr, csH]
      simp (dsimp := false) only [go_sem, Nat.reduceAdd, Nat.reduceBEq, Nat.reduceEqDiff, Nat.reduceLT, Nat.reduceLeDiff, Nat.reduceMul, Int.reduceToNat, reduceCtorEq, ↓reduceIte, Tryd.ntmps55, Tryd.results55, ks_55, mu_55, ro_55, ti_ag3, ti_ag97, ti_fl97_0, ti_hb111, ti_sb43, ti_sb146, ti_sl43, ti_sz97, ti_zr97, evD, evV, hN', ti_sl146]
      first | done | (simp; done)
    · intro y _
      rw [csH_len]; omega
    · intro y hy
      exact hy.closed
    rintro y hy
    simp only [csFr]
    have hg := csH_get H y
    have hB : ObBel (csH H y).length (.row y.ver 177 3 y.rows) := by rw [csH_len]; exact hy.bo
    have hal : y.s.at_.length ≤ 1000 := by have := hy.at_; have := hy.hi; omega
    by_cases hin : y.i < l.length
    · obtain ⟨x, hx⟩ : ∃ x, l[y.i]? = some x := ⟨l[y.i], List.getElem?_eq_getElem hin⟩
      have hxs := hS.2 x (List.mem_of_getElem? hx)
      have hin' : ((y.i : Int) < (l.length : Int)) = True := eq_true (by omega)
      by_cases hk1 : x.k < 1
      · rw [hy.go, evGo_step hx, if_pos (.inl hk1)] at hk
        have k1 : (x.k < 1) = True := eq_true hk1
        repeat' (first | with_reducible (first | refine And.intro ?_ ?_ | intro _ | refine AWp_seq ?_ | refine AWp_block ?_ | (refine hKv _ _ (AWp_nop ?_); clear hKv Kv) | (refine hKA ?_; clear hKA hKB KA KB) | (refine hKB ?_; clear hKA hKB KA KB) | refine AWp_skipN ?_ | refine AWp_exitO (by repeat (first | exact Out.hit | apply Out.thenA | apply Out.out rfl)) ?_) | (with_reducible (first | (refine hKv _ _ ?_; clear hKv Kv) | ((first | refine AWp_regro mu_55 ks_55 ro_55 ?_ | refine AWp_regC mu_55 ks_55 ?_ | refine AWp_regE mu_55 ks_55 ?_); intro Kv hKv) | refine AWp_retR ?_); try simp (dsimp := false) only [go_sem, Nat.reduceAdd, Nat.reduceBEq, Nat.reduceEqDiff, Nat.reduceLT, Nat.reduceLeDiff, Nat.reduceMul, Int.reduceToNat, reduceCtorEq, ↓reduceIte, Tryd.ntmps55, Tryd.results55, ks_55, mu_55, ro_55, ti_ag3, ti_ag97, ti_fl97_0, ti_hb111, ti_sb43, ti_sb146, ti_sl43, ti_sz97, ti_zr97, evD, evV, evOut, evBad, hg, hx, hin', roP_gen, k1]) | (refine AWp_condC rfl ?_; intro KA KB hKA hKB; try simp only [onB_true, onB_false, onB_dec, onB_ndec, onB_not, onB_and, onB_or]) | (refine AWp_condA rfl ?_ ?_) | with_reducible (first | refine onB_of ?_ ?_ | rfl) | omega)
        all_goals first
          | omega
          | exact hy.closed
          | (rw [csH_len]; omega)
          | exact dropD hk rfl
      by_cases hk5 : 5 < x.k
      · rw [hy.go, evGo_step hx, if_pos (.inr hk5)] at hk
        have k1 : (x.k < 1) = False := eq_false hk1
        have k5 : (5 < x.k) = True := eq_true hk5
        repeat' (first | with_reducible (first | refine And.intro ?_ ?_ | intro _ | refine AWp_seq ?_ | refine AWp_block ?_ | (refine hKv _ _ (AWp_nop ?_); clear hKv Kv) | (refine hKA ?_; clear hKA hKB KA KB) | (refine hKB ?_; clear hKA hKB KA KB) | refine AWp_skipN ?_ | refine AWp_exitO (by repeat (first | exact Out.hit | apply Out.thenA | apply Out.out rfl)) ?_) | (with_reducible (first | (refine hKv _ _ ?_; clear hKv Kv) | ((first | refine AWp_regro mu_55 ks_55 ro_55 ?_ | refine AWp_regC mu_55 ks_55 ?_ | refine AWp_regE mu_55 ks_55 ?_); intro Kv hKv) | refine AWp_retR ?_); try simp (dsimp := false) only [go_sem, Nat.reduceAdd, Nat.reduceBEq, Nat.reduceEqDiff, Nat.reduceLT, Nat.reduceLeDiff, Nat.reduceMul, Int.reduceToNat, reduceCtorEq, ↓reduceIte, Tryd.ntmps55, Tryd.results55, ks_55, mu_55, ro_55, ti_ag3, ti_ag97, ti_fl97_0, ti_hb111, ti_sb43, ti_sb146, ti_sl43, ti_sz97, ti_zr97, evD, evV, evOut, evBad, hg, hx, hin', roP_gen, k1, k5]) | (refine AWp_condC rfl ?_; intro KA KB hKA hKB; try simp only [onB_true, onB_false, onB_dec, onB_ndec, onB_not, onB_and, onB_or]) | (refine AWp_condA rfl ?_ ?_) | with_reducible (first | refine onB_of ?_ ?_ | rfl) | omega)
        all_goals first
          | omega
          | exact hy.closed
          | (rw [csH_len]; omega)
          | exact dropD hk rfl
      have k1 : (x.k < 1) = False := eq_false hk1
      have k5 : (5 < x.k) = False := eq_false hk5
      have hfi : decide ((y.i : Int) = 0) = decide (y.i = 0) := decide_eq_decide.2 (by omega)
      by_cases hf : evF1 y.s x (decide ((y.i : Int) = 0)) = 0
      · rw [hfi] at hf
        have hf' : evF1 y.s x (decide ((y.i : Int) = 0)) = 0 := by rw [hfi]; exact hf
        obtain h | h | h | h | h : x.k = 1 ∨ x.k = 2 ∨ x.k = 3 ∨ x.k = 4 ∨ x.k = 5 := by omega
        · skip
          repeat' (first | with_reducible (first | refine And.intro ?_ ?_ | intro _ | refine AWp_seq ?_ | refine AWp_block ?_ | (refine hKv _ _ (AWp_nop ?_); clear hKv Kv) | (refine hKA ?_; clear hKA hKB KA KB) | (refine hKB ?_; clear hKA hKB KA KB) | refine AWp_skipN ?_ | refine AWp_exitO (by repeat (first | exact Out.hit | apply Out.thenA | apply Out.out rfl)) ?_) | ((first | with_reducible (first | (refine hKv _ _ ?_; clear hKv Kv) | ((first | refine AWp_regro mu_55 ks_55 ro_55 ?_ | refine AWp_regC mu_55 ks_55 ?_ | refine AWp_regE mu_55 ks_55 ?_); intro Kv hKv) | refine AWp_retR ?_) | refine event_ok1 y.s x (decide ((y.i : Int) = 0)) H.length y.ver y.rows (csH H y) _ hy.op hB hy.n20 hxs h hf' ?_); try simp (dsimp := false) only [go_sem, Nat.reduceAdd, Nat.reduceBEq, Nat.reduceEqDiff, Nat.reduceLT, Nat.reduceLeDiff, Nat.reduceMul, Int.reduceToNat, reduceCtorEq, ↓reduceIte, Tryd.ntmps55, Tryd.results55, ks_55, mu_55, ro_55, ti_ag3, ti_ag97, ti_fl97_0, ti_hb111, ti_sb43, ti_sb146, ti_sl43, ti_sz97, ti_zr97, evD, evV, evOut, evBad, hg, hx, hin', roP_gen, k1, k5]) | (refine AWp_condC rfl ?_; intro KA KB hKA hKB; try simp only [onB_true, onB_false, onB_dec, onB_ndec, onB_not, onB_and, onB_or]) | (refine AWp_condA rfl ?_ ?_) | with_reducible (first | refine onB_of ?_ ?_ | rfl) | omega)
          all_goals first
            | omega
            | exact hy.closed
            | (rw [csH_len]; omega)
            | exact ⟨⟨y.i + 1, evS y.s x, y.ver + 1, (if 0 < y.s.n then mark y.rows y.s.n false else y.rows) ++ [newRow], y.G⟩, hy.start hx h hf, by show l.length - (y.i + 1) < l.length - y.i; omega, csH_set .., by (try simp only [csFr]); (repeat' (refine And.intro ?_ ?_)) <;> first | rfl | omega | (rw [csH_len]; omega) | (simp [csH_len]; done) | (simp [csH_len]; omega) | (simp; done) | (simp; omega) | (simp (dsimp := false) only [go_sem, Nat.reduceAdd, Nat.reduceBEq, Nat.reduceEqDiff, Nat.reduceLT, Nat.reduceLeDiff, Nat.reduceMul, Int.reduceToNat, reduceCtorEq, ↓reduceIte, Tryd.ntmps55, Tryd.results55, ks_55, mu_55, ro_55, ti_ag3, ti_ag97, ti_fl97_0, ti_hb111, ti_sb43, ti_sb146, ti_sl43, ti_sz97, ti_zr97, evD, evV, evOut, evBad, hg, hx, hin', roP_gen, k1, k5]; done) | (simp (dsimp := false) only [go_sem, Nat.reduceAdd, Nat.reduceBEq, Nat.reduceEqDiff, Nat.reduceLT, Nat.reduceLeDiff, Nat.reduceMul, Int.reduceToNat, reduceCtorEq, ↓reduceIte, Tryd.ntmps55, Tryd.results55, ks_55, mu_55, ro_55, ti_ag3, ti_ag97, ti_fl97_0, ti_hb111, ti_sb43, ti_sb146, ti_sl43, ti_sz97, ti_zr97, evD, evV, evOut, evBad, hg, hx, hin', roP_gen, k1, k5]; omega)⟩
        · obtain ⟨hn0, hins⟩ := evF1_2i h hf
          by_cases ha : y.s.at_ = []
          · skip
            repeat' (first | with_reducible (first | refine And.intro ?_ ?_ | intro _ | refine AWp_seq ?_ | refine AWp_block ?_ | (refine hKv _ _ (AWp_nop ?_); clear hKv Kv) | (refine hKA ?_; clear hKA hKB KA KB) | (refine hKB ?_; clear hKA hKB KA KB) | refine AWp_skipN ?_ | refine AWp_exitO (by repeat (first | exact Out.hit | apply Out.thenA | apply Out.out rfl)) ?_) | ((first | with_reducible (first | (refine hKv _ _ ?_; clear hKv Kv) | ((first | refine AWp_regro mu_55 ks_55 ro_55 ?_ | refine AWp_regC mu_55 ks_55 ?_ | refine AWp_regE mu_55 ks_55 ?_); intro Kv hKv) | refine AWp_retR ?_) | refine event_ok2a y.s x (decide ((y.i : Int) = 0)) H.length y.ver y.rows (csH H y) _ hy.op hB hy.n20 hxs h hal ha hf' ?_); try simp (dsimp := false) only [go_sem, Nat.reduceAdd, Nat.reduceBEq, Nat.reduceEqDiff, Nat.reduceLT, Nat.reduceLeDiff, Nat.reduceMul, Int.reduceToNat, reduceCtorEq, ↓reduceIte, Tryd.ntmps55, Tryd.results55, ks_55, mu_55, ro_55, ti_ag3, ti_ag97, ti_fl97_0, ti_hb111, ti_sb43, ti_sb146, ti_sl43, ti_sz97, ti_zr97, evD, evV, evOut, evBad, hg, hx, hin', roP_gen, k1, k5]) | (refine AWp_condC rfl ?_; intro KA KB hKA hKB; try simp only [onB_true, onB_false, onB_dec, onB_ndec, onB_not, onB_and, onB_or]) | (refine AWp_condA rfl ?_ ?_) | with_reducible (first | refine onB_of ?_ ?_ | rfl) | omega)
            all_goals first
              | omega
              | exact hy.closed
              | (rw [csH_len]; omega)
              | exact ⟨⟨y.i + 1, evS y.s x, y.ver, _, _⟩, hy.attr0 hx h hf hn0 ha hins, by show l.length - (y.i + 1) < l.length - y.i; omega, csH_new .., by (try simp only [csFr]); (repeat' (refine And.intro ?_ ?_)) <;> first | rfl | omega | (rw [csH_len]; omega) | (simp [csH_len]; done) | (simp [csH_len]; omega) | (simp; done) | (simp; omega) | (simp (dsimp := false) only [go_sem, Nat.reduceAdd, Nat.reduceBEq, Nat.reduceEqDiff, Nat.reduceLT, Nat.reduceLeDiff, Nat.reduceMul, Int.reduceToNat, reduceCtorEq, ↓reduceIte, Tryd.ntmps55, Tryd.results55, ks_55, mu_55, ro_55, ti_ag3, ti_ag97, ti_fl97_0, ti_hb111, ti_sb43, ti_sb146, ti_sl43, ti_sz97, ti_zr97, evD, evV, evOut, evBad, hg, hx, hin', roP_gen, k1, k5]; done) | (simp (dsimp := false) only [go_sem, Nat.reduceAdd, Nat.reduceBEq, Nat.reduceEqDiff, Nat.reduceLT, Nat.reduceLeDiff, Nat.reduceMul, Int.reduceToNat, reduceCtorEq, ↓reduceIte, Tryd.ntmps55, Tryd.results55, ks_55, mu_55, ro_55, ti_ag3, ti_ag97, ti_fl97_0, ti_hb111, ti_sb43, ti_sb146, ti_sl43, ti_sz97, ti_zr97, evD, evV, evOut, evBad, hg, hx, hin', roP_gen, k1, k5]; omega)⟩
          · skip
            repeat' (first | with_reducible (first | refine And.intro ?_ ?_ | intro _ | refine AWp_seq ?_ | refine AWp_block ?_ | (refine hKv _ _ (AWp_nop ?_); clear hKv Kv) | (refine hKA ?_; clear hKA hKB KA KB) | (refine hKB ?_; clear hKA hKB KA KB) | refine AWp_skipN ?_ | refine AWp_exitO (by repeat (first | exact Out.hit | apply Out.thenA | apply Out.out rfl)) ?_) | ((first | with_reducible (first | (refine hKv _ _ ?_; clear hKv Kv) | ((first | refine AWp_regro mu_55 ks_55 ro_55 ?_ | refine AWp_regC mu_55 ks_55 ?_ | refine AWp_regE mu_55 ks_55 ?_); intro Kv hKv) | refine AWp_retR ?_) | refine event_ok2b y.s x (decide ((y.i : Int) = 0)) H.length y.ver y.rows (csH H y) _ hy.op hB hy.n20 hxs h hal ha hf' ?_); try simp (dsimp := false) only [go_sem, Nat.reduceAdd, Nat.reduceBEq, Nat.reduceEqDiff, Nat.reduceLT, Nat.reduceLeDiff, Nat.reduceMul, Int.reduceToNat, reduceCtorEq, ↓reduceIte, Tryd.ntmps55, Tryd.results55, ks_55, mu_55, ro_55, ti_ag3, ti_ag97, ti_fl97_0, ti_hb111, ti_sb43, ti_sb146, ti_sl43, ti_sz97, ti_zr97, evD, evV, evOut, evBad, hg, hx, hin', roP_gen, k1, k5]) | (refine AWp_condC rfl ?_; intro KA KB hKA hKB; try simp only [onB_true, onB_false, onB_dec, onB_ndec, onB_not, onB_and, onB_or]) | (refine AWp_condA rfl ?_ ?_) | with_reducible (first | refine onB_of ?_ ?_ | rfl) | omega)
            all_goals first
              | omega
              | exact hy.closed
              | (rw [csH_len]; omega)
              | (rename_i ia va h1 h2; rw [csH_len] at h2; obtain ⟨j, rfl⟩ : ∃ j, ia = H.length + 1 + j := ⟨ia - (H.length + 1), by omega⟩; exact ⟨⟨y.i + 1, evS y.s x, y.ver, _, _⟩, hy.attr1 hx h hf hn0 ha hins (va := va) (by omega), by show l.length - (y.i + 1) < l.length - y.i; omega, csH_tl .., by (try simp only [csFr]); (repeat' (refine And.intro ?_ ?_)) <;> first | rfl | omega | (rw [csH_len]; omega) | (simp [csH_len]; done) | (simp [csH_len]; omega) | (simp; done) | (simp; omega) | (simp (dsimp := false) only [go_sem, Nat.reduceAdd, Nat.reduceBEq, Nat.reduceEqDiff, Nat.reduceLT, Nat.reduceLeDiff, Nat.reduceMul, Int.reduceToNat, reduceCtorEq, ↓reduceIte, Tryd.ntmps55, Tryd.results55, ks_55, mu_55, ro_55, ti_ag3, ti_ag97, ti_fl97_0, ti_hb111, ti_sb43, ti_sb146, ti_sl43, ti_sz97, ti_zr97, evD, evV, evOut, evBad, hg, hx, hin', roP_gen, k1, k5]; done) | (simp (dsimp := false) only [go_sem, Nat.reduceAdd, Nat.reduceBEq, Nat.reduceEqDiff, Nat.reduceLT, Nat.reduceLeDiff, Nat.reduceMul, Int.reduceToNat, reduceCtorEq, ↓reduceIte, Tryd.ntmps55, Tryd.results55, ks_55, mu_55, ro_55, ti_ag3, ti_ag97, ti_fl97_0, ti_hb111, ti_sb43, ti_sb146, ti_sl43, ti_sz97, ti_zr97, evD, evV, evOut, evBad, hg, hx, hin', roP_gen, k1, k5]; omega)⟩)
        · skip
          repeat' (first | with_reducible (first | refine And.intro ?_ ?_ | intro _ | refine AWp_seq ?_ | refine AWp_block ?_ | (refine hKv _ _ (AWp_nop ?_); clear hKv Kv) | (refine hKA ?_; clear hKA hKB KA KB) | (refine hKB ?_; clear hKA hKB KA KB) | refine AWp_skipN ?_ | refine AWp_exitO (by repeat (first | exact Out.hit | apply Out.thenA | apply Out.out rfl)) ?_) | ((first | with_reducible (first | (refine hKv _ _ ?_; clear hKv Kv) | ((first | refine AWp_regro mu_55 ks_55 ro_55 ?_ | refine AWp_regC mu_55 ks_55 ?_ | refine AWp_regE mu_55 ks_55 ?_); intro Kv hKv) | refine AWp_retR ?_) | refine event_ok3 y.s x (decide ((y.i : Int) = 0)) H.length y.ver y.rows (csH H y) _ hy.op hB hy.n20 hxs h hf' ?_); try simp (dsimp := false) only [go_sem, Nat.reduceAdd, Nat.reduceBEq, Nat.reduceEqDiff, Nat.reduceLT, Nat.reduceLeDiff, Nat.reduceMul, Int.reduceToNat, reduceCtorEq, ↓reduceIte, Tryd.ntmps55, Tryd.results55, ks_55, mu_55, ro_55, ti_ag3, ti_ag97, ti_fl97_0, ti_hb111, ti_sb43, ti_sb146, ti_sl43, ti_sz97, ti_zr97, evD, evV, evOut, evBad, hg, hx, hin', roP_gen, k1, k5]) | (refine AWp_condC rfl ?_; intro KA KB hKA hKB; try simp only [onB_true, onB_false, onB_dec, onB_ndec, onB_not, onB_and, onB_or]) | (refine AWp_condA rfl ?_ ?_) | with_reducible (first | refine onB_of ?_ ?_ | rfl) | omega)
          all_goals first
            | omega
            | exact hy.closed
            | (rw [csH_len]; omega)
            | exact ⟨⟨y.i + 1, evS y.s x, y.ver, mark y.rows y.s.n true, y.G⟩, hy.marked hx (.inl ⟨h, rfl⟩) hf, by show l.length - (y.i + 1) < l.length - y.i; omega, csH_set .., by (try simp only [csFr]); (repeat' (refine And.intro ?_ ?_)) <;> first | rfl | omega | (rw [csH_len]; omega) | (simp [csH_len]; done) | (simp [csH_len]; omega) | (simp; done) | (simp; omega) | (simp (dsimp := false) only [go_sem, Nat.reduceAdd, Nat.reduceBEq, Nat.reduceEqDiff, Nat.reduceLT, Nat.reduceLeDiff, Nat.reduceMul, Int.reduceToNat, reduceCtorEq, ↓reduceIte, Tryd.ntmps55, Tryd.results55, ks_55, mu_55, ro_55, ti_ag3, ti_ag97, ti_fl97_0, ti_hb111, ti_sb43, ti_sb146, ti_sl43, ti_sz97, ti_zr97, evD, evV, evOut, evBad, hg, hx, hin', roP_gen, k1, k5]; done) | (simp (dsimp := false) only [go_sem, Nat.reduceAdd, Nat.reduceBEq, Nat.reduceEqDiff, Nat.reduceLT, Nat.reduceLeDiff, Nat.reduceMul, Int.reduceToNat, reduceCtorEq, ↓reduceIte, Tryd.ntmps55, Tryd.results55, ks_55, mu_55, ro_55, ti_ag3, ti_ag97, ti_fl97_0, ti_hb111, ti_sb43, ti_sb146, ti_sl43, ti_sz97, ti_zr97, evD, evV, evOut, evBad, hg, hx, hin', roP_gen, k1, k5]; omega)⟩
        · skip
          repeat' (first | with_reducible (first | refine And.intro ?_ ?_ | intro _ | refine AWp_seq ?_ | refine AWp_block ?_ | (refine hKv _ _ (AWp_nop ?_); clear hKv Kv) | (refine hKA ?_; clear hKA hKB KA KB) | (refine hKB ?_; clear hKA hKB KA KB) | refine AWp_skipN ?_ | refine AWp_exitO (by repeat (first | exact Out.hit | apply Out.thenA | apply Out.out rfl)) ?_) | ((first | with_reducible (first | (refine hKv _ _ ?_; clear hKv Kv) | ((first | refine AWp_regro mu_55 ks_55 ro_55 ?_ | refine AWp_regC mu_55 ks_55 ?_ | refine AWp_regE mu_55 ks_55 ?_); intro Kv hKv) | refine AWp_retR ?_) | refine event_ok4 y.s x (decide ((y.i : Int) = 0)) H.length y.ver y.rows (csH H y) _ hy.op hB hy.n20 hxs h hf' ?_); try simp (dsimp := false) only [go_sem, Nat.reduceAdd, Nat.reduceBEq, Nat.reduceEqDiff, Nat.reduceLT, Nat.reduceLeDiff, Nat.reduceMul, Int.reduceToNat, reduceCtorEq, ↓reduceIte, Tryd.ntmps55, Tryd.results55, ks_55, mu_55, ro_55, ti_ag3, ti_ag97, ti_fl97_0, ti_hb111, ti_sb43, ti_sb146, ti_sl43, ti_sz97, ti_zr97, evD, evV, evOut, evBad, hg, hx, hin', roP_gen, k1, k5]) | (refine AWp_condC rfl ?_; intro KA KB hKA hKB; try simp only [onB_true, onB_false, onB_dec, onB_ndec, onB_not, onB_and, onB_or]) | (refine AWp_condA rfl ?_ ?_) | with_reducible (first | refine onB_of ?_ ?_ | rfl) | omega)
          all_goals first
            | omega
            | exact hy.closed
            | (rw [csH_len]; omega)
            | exact ⟨⟨y.i + 1, evS y.s x, y.ver, mark y.rows y.s.n false, y.G⟩, hy.marked hx (.inr ⟨h, rfl⟩) hf, by show l.length - (y.i + 1) < l.length - y.i; omega, csH_set .., by (try simp only [csFr]); (repeat' (refine And.intro ?_ ?_)) <;> first | rfl | omega | (rw [csH_len]; omega) | (simp [csH_len]; done) | (simp [csH_len]; omega) | (simp; done) | (simp; omega) | (simp (dsimp := false) only [go_sem, Nat.reduceAdd, Nat.reduceBEq, Nat.reduceEqDiff, Nat.reduceLT, Nat.reduceLeDiff, Nat.reduceMul, Int.reduceToNat, reduceCtorEq, ↓reduceIte, Tryd.ntmps55, Tryd.results55, ks_55, mu_55, ro_55, ti_ag3, ti_ag97, ti_fl97_0, ti_hb111, ti_sb43, ti_sb146, ti_sl43, ti_sz97, ti_zr97, evD, evV, evOut, evBad, hg, hx, hin', roP_gen, k1, k5]; done) | (simp (dsimp := false) only [go_sem, Nat.reduceAdd, Nat.reduceBEq, Nat.reduceEqDiff, Nat.reduceLT, Nat.reduceLeDiff, Nat.reduceMul, Int.reduceToNat, reduceCtorEq, ↓reduceIte, Tryd.ntmps55, Tryd.results55, ks_55, mu_55, ro_55, ti_ag3, ti_ag97, ti_fl97_0, ti_hb111, ti_sb43, ti_sb146, ti_sl43, ti_sz97, ti_zr97, evD, evV, evOut, evBad, hg, hx, hin', roP_gen, k1, k5]; omega)⟩
        · skip
          repeat' (first | with_reducible (first | refine And.intro ?_ ?_ | intro _ | refine AWp_seq ?_ | refine AWp_block ?_ | (refine hKv _ _ (AWp_nop ?_); clear hKv Kv) | (refine hKA ?_; clear hKA hKB KA KB) | (refine hKB ?_; clear hKA hKB KA KB) | refine AWp_skipN ?_ | refine AWp_exitO (by repeat (first | exact Out.hit | apply Out.thenA | apply Out.out rfl)) ?_) | ((first | with_reducible (first | (refine hKv _ _ ?_; clear hKv Kv) | ((first | refine AWp_regro mu_55 ks_55 ro_55 ?_ | refine AWp_regC mu_55 ks_55 ?_ | refine AWp_regE mu_55 ks_55 ?_); intro Kv hKv) | refine AWp_retR ?_) | refine event_ok5 y.s x (decide ((y.i : Int) = 0)) H.length y.ver y.rows (csH H y) _ hy.op hB hy.n20 hxs h hf' ?_); try simp (dsimp := false) only [go_sem, Nat.reduceAdd, Nat.reduceBEq, Nat.reduceEqDiff, Nat.reduceLT, Nat.reduceLeDiff, Nat.reduceMul, Int.reduceToNat, reduceCtorEq, ↓reduceIte, Tryd.ntmps55, Tryd.results55, ks_55, mu_55, ro_55, ti_ag3, ti_ag97, ti_fl97_0, ti_hb111, ti_sb43, ti_sb146, ti_sl43, ti_sz97, ti_zr97, evD, evV, evOut, evBad, hg, hx, hin', roP_gen, k1, k5]) | (refine AWp_condC rfl ?_; intro KA KB hKA hKB; try simp only [onB_true, onB_false, onB_dec, onB_ndec, onB_not, onB_and, onB_or]) | (refine AWp_condA rfl ?_ ?_) | with_reducible (first | refine onB_of ?_ ?_ | rfl) | omega)
          all_goals first
            | omega
            | exact hy.closed
            | (rw [csH_len]; omega)
            | exact ⟨⟨y.i + 1, evS y.s x, y.ver + 1, y.rows.take ((y.s.n : Int) - 1).toNat, y.G⟩, hy.end_ hx h hf, by show l.length - (y.i + 1) < l.length - y.i; omega, csH_set .., by (try simp only [csFr]); (repeat' (refine And.intro ?_ ?_)) <;> first | rfl | omega | (rw [csH_len]; omega) | (simp [csH_len]; done) | (simp [csH_len]; omega) | (simp; done) | (simp; omega) | (simp (dsimp := false) only [go_sem, Nat.reduceAdd, Nat.reduceBEq, Nat.reduceEqDiff, Nat.reduceLT, Nat.reduceLeDiff, Nat.reduceMul, Int.reduceToNat, reduceCtorEq, ↓reduceIte, Tryd.ntmps55, Tryd.results55, ks_55, mu_55, ro_55, ti_ag3, ti_ag97, ti_fl97_0, ti_hb111, ti_sb43, ti_sb146, ti_sl43, ti_sz97, ti_zr97, evD, evV, evOut, evBad, hg, hx, hin', roP_gen, k1, k5]; done) | (simp (dsimp := false) only [go_sem, Nat.reduceAdd, Nat.reduceBEq, Nat.reduceEqDiff, Nat.reduceLT, Nat.reduceLeDiff, Nat.reduceMul, Int.reduceToNat, reduceCtorEq, ↓reduceIte, Tryd.ntmps55, Tryd.results55, ks_55, mu_55, ro_55, ti_ag3, ti_ag97, ti_fl97_0, ti_hb111, ti_sb43, ti_sb146, ti_sl43, ti_sz97, ti_zr97, evD, evV, evOut, evBad, hg, hx, hin', roP_gen, k1, k5]; omega)⟩
      · have hf2 := hf
        rw [hfi] at hf2
        rw [hy.go, evGo_step hx, if_neg (by omega), if_neg hf2, ← hfi] at hk
        have hf' : (evF1 y.s x (decide ((y.i : Int) = 0)) = 0) = False := eq_false hf
        repeat' (first | with_reducible (first | refine And.intro ?_ ?_ | intro _ | refine AWp_seq ?_ | refine AWp_block ?_ | (refine hKv _ _ (AWp_nop ?_); clear hKv Kv) | (refine hKA ?_; clear hKA hKB KA KB) | (refine hKB ?_; clear hKA hKB KA KB) | refine AWp_skipN ?_ | refine AWp_exitO (by repeat (first | exact Out.hit | apply Out.thenA | apply Out.out rfl)) ?_) | ((first | with_reducible (first | (refine hKv _ _ ?_; clear hKv Kv) | ((first | refine AWp_regro mu_55 ks_55 ro_55 ?_ | refine AWp_regC mu_55 ks_55 ?_ | refine AWp_regE mu_55 ks_55 ?_); intro Kv hKv) | refine AWp_retR ?_) | refine event_bad y.s x (decide ((y.i : Int) = 0)) H.length y.ver y.rows (csH H y) _ hy.op hB hy.n20 hxs (by omega) (by omega) hal hf ?_); try simp (dsimp := false) only [go_sem, Nat.reduceAdd, Nat.reduceBEq, Nat.reduceEqDiff, Nat.reduceLT, Nat.reduceLeDiff, Nat.reduceMul, Int.reduceToNat, reduceCtorEq, ↓reduceIte, Tryd.ntmps55, Tryd.results55, ks_55, mu_55, ro_55, ti_ag3, ti_ag97, ti_fl97_0, ti_hb111, ti_sb43, ti_sb146, ti_sl43, ti_sz97, ti_zr97, evD, evV, evOut, evBad, hg, hx, hin', roP_gen, k1, k5, hf']) | (refine AWp_condC rfl ?_; intro KA KB hKA hKB; try simp only [onB_true, onB_false, onB_dec, onB_ndec, onB_not, onB_and, onB_or]) | (refine AWp_condA rfl ?_ ?_) | with_reducible (first | refine onB_of ?_ ?_ | rfl) | omega)
        all_goals first
          | omega
          | exact hy.closed
          | (rw [csH_len]; omega)
          | exact dropD hk rfl
    · have e : y.i = l.length := by have := hy.hi; omega
      have hin' : ((y.i : Int) < (l.length : Int)) = False := eq_false (by omega)
      have hl := hy.op.len
      rw [hy.go, e, List.drop_length, evGo_end] at hk
      by_cases h0 : l.length = 0
      · rw [if_pos (.inl h0)] at hk
        have h0' : ((l.length : Int) = 0) = True := eq_true (by omega)
        repeat' (first | with_reducible (first | refine And.intro ?_ ?_ | intro _ | refine AWp_seq ?_ | refine AWp_block ?_ | (refine hKv _ _ (AWp_nop ?_); clear hKv Kv) | (refine hKA ?_; clear hKA hKB KA KB) | (refine hKB ?_; clear hKA hKB KA KB) | refine AWp_skipN ?_ | refine AWp_exitO (by repeat (first | exact Out.hit | apply Out.thenA | apply Out.out rfl)) ?_) | (with_reducible (first | (refine hKv _ _ ?_; clear hKv Kv) | ((first | refine AWp_regro mu_55 ks_55 ro_55 ?_ | refine AWp_regC mu_55 ks_55 ?_ | refine AWp_regE mu_55 ks_55 ?_); intro Kv hKv) | refine AWp_retR ?_); try simp (dsimp := false) only [go_sem, Nat.reduceAdd, Nat.reduceBEq, Nat.reduceEqDiff, Nat.reduceLT, Nat.reduceLeDiff, Nat.reduceMul, Int.reduceToNat, reduceCtorEq, ↓reduceIte, Tryd.ntmps55, Tryd.results55, ks_55, mu_55, ro_55, ti_ag3, ti_ag97, ti_fl97_0, ti_hb111, ti_sb43, ti_sb146, ti_sl43, ti_sz97, ti_zr97, evD, evV, hg, hin', hl, h0']) | (refine AWp_condC rfl ?_; intro KA KB hKA hKB; try simp only [onB_true, onB_false, onB_dec, onB_ndec, onB_not, onB_and, onB_or]) | (refine AWp_condA rfl ?_ ?_) | with_reducible (first | refine onB_of ?_ ?_ | rfl) | omega)
        all_goals first
          | omega
          | exact hy.closed
          | (rw [csH_len]; omega)
          | exact dropD hk rfl
      · have h0' : ((l.length : Int) = 0) = False := eq_false (by omega)
        by_cases hn : 0 < y.s.n
        · rw [if_pos (.inr hn)] at hk
          have hn' : (0 < (y.s.n : Int)) = True := eq_true (by omega)
          repeat' (first | with_reducible (first | refine And.intro ?_ ?_ | intro _ | refine AWp_seq ?_ | refine AWp_block ?_ | (refine hKv _ _ (AWp_nop ?_); clear hKv Kv) | (refine hKA ?_; clear hKA hKB KA KB) | (refine hKB ?_; clear hKA hKB KA KB) | refine AWp_skipN ?_ | refine AWp_exitO (by repeat (first | exact Out.hit | apply Out.thenA | apply Out.out rfl)) ?_) | (with_reducible (first | (refine hKv _ _ ?_; clear hKv Kv) | ((first | refine AWp_regro mu_55 ks_55 ro_55 ?_ | refine AWp_regC mu_55 ks_55 ?_ | refine AWp_regE mu_55 ks_55 ?_); intro Kv hKv) | refine AWp_retR ?_); try simp (dsimp := false) only [go_sem, Nat.reduceAdd, Nat.reduceBEq, Nat.reduceEqDiff, Nat.reduceLT, Nat.reduceLeDiff, Nat.reduceMul, Int.reduceToNat, reduceCtorEq, ↓reduceIte, Tryd.ntmps55, Tryd.results55, ks_55, mu_55, ro_55, ti_ag3, ti_ag97, ti_fl97_0, ti_hb111, ti_sb43, ti_sb146, ti_sl43, ti_sz97, ti_zr97, evD, evV, hg, hin', hl, h0', hn']) | (refine AWp_condC rfl ?_; intro KA KB hKA hKB; try simp only [onB_true, onB_false, onB_dec, onB_ndec, onB_not, onB_and, onB_or]) | (refine AWp_condA rfl ?_ ?_) | with_reducible (first | refine onB_of ?_ ?_ | rfl) | omega)
          all_goals first
            | omega
            | exact hy.closed
            | (rw [csH_len]; omega)
            | exact dropD hk rfl
        · rw [if_neg (by omega)] at hk
          have hn' : (0 < (y.s.n : Int)) = False := eq_false (by omega)
          repeat' (first | with_reducible (first | refine And.intro ?_ ?_ | intro _ | refine AWp_seq ?_ | refine AWp_block ?_ | (refine hKv _ _ (AWp_nop ?_); clear hKv Kv) | (refine hKA ?_; clear hKA hKB KA KB) | (refine hKB ?_; clear hKA hKB KA KB) | refine AWp_skipN ?_ | refine AWp_exitO (by repeat (first | exact Out.hit | apply Out.thenA | apply Out.out rfl)) ?_) | (with_reducible (first | (refine hKv _ _ ?_; clear hKv Kv) | ((first | refine AWp_regro mu_55 ks_55 ro_55 ?_ | refine AWp_regC mu_55 ks_55 ?_ | refine AWp_regE mu_55 ks_55 ?_); intro Kv hKv) | refine AWp_retR ?_); try simp (dsimp := false) only [go_sem, Nat.reduceAdd, Nat.reduceBEq, Nat.reduceEqDiff, Nat.reduceLT, Nat.reduceLeDiff, Nat.reduceMul, Int.reduceToNat, reduceCtorEq, ↓reduceIte, Tryd.ntmps55, Tryd.results55, ks_55, mu_55, ro_55, ti_ag3, ti_ag97, ti_fl97_0, ti_hb111, ti_sb43, ti_sb146, ti_sl43, ti_sz97, ti_zr97, evD, evV, hg, hin', hl, h0', hn']) | (refine AWp_condC rfl ?_; intro KA KB hKA hKB; try simp only [onB_true, onB_false, onB_dec, onB_ndec, onB_not, onB_and, onB_or]) | (refine AWp_condA rfl ?_ ?_) | with_reducible (first | refine onB_of ?_ ?_ | rfl) | omega)
          all_goals first
            | omega
            | exact hy.closed
            | (rw [csH_len]; omega)
            | exact dropD hk rfl
  · rw [eventsFault_big hN] at hk
    have hN' : (400 < (l.length : Int)) = True := eq_true (by omega)
    refine ACalls_of Tryd.func55 rfl in_55 (Nat.le_of_ble_eq_true rfl) ?_
    intro F hF
    simp (dsimp := false) only [go_sem, Nat.reduceAdd, Nat.reduceBEq, Nat.reduceEqDiff, Nat.reduceLT, Nat.reduceLeDiff, Nat.reduceMul, Int.reduceToNat, reduceCtorEq, ↓reduceIte, Tryd.ntmps55, Tryd.results55, ks_55, mu_55, ro_55, ti_ag3, ti_ag97, ti_fl97_0, ti_hb111, ti_sb43, ti_sb146, ti_sl43, ti_sz97, ti_zr97, evD, evV, hN', in_55] at hF
    subst hF
    repeat' (first | with_reducible (first | refine And.intro ?_ ?_ | intro _ | refine AWp_seq ?_ | refine AWp_block ?_ | (refine hKv _ _ (AWp_nop ?_); clear hKv Kv) | (refine hKA ?_; clear hKA hKB KA KB) | (refine hKB ?_; clear hKA hKB KA KB) | refine AWp_skipN ?_ | refine AWp_exitO (by repeat (first | exact Out.hit | apply Out.thenA | apply Out.out rfl)) ?_) | (with_reducible (first | (refine hKv _ _ ?_; clear hKv Kv) | ((first | refine AWp_regro mu_55 ks_55 ro_55 ?_ | refine AWp_regC mu_55 ks_55 ?_ | refine AWp_regE mu_55 ks_55 ?_); intro Kv hKv) | refine AWp_retR ?_); try simp (dsimp := false) only [go_sem, Nat.reduceAdd, Nat.reduceBEq, Nat.reduceEqDiff, Nat.reduceLT, Nat.reduceLeDiff, Nat.reduceMul, Int.reduceToNat, reduceCtorEq, ↓reduceIte, Tryd.ntmps55, Tryd.results55, ks_55, mu_55, ro_55, ti_ag3, ti_ag97, ti_fl97_0, ti_hb111, ti_sb43, ti_sb146, ti_sl43, ti_sz97, ti_zr97, evD, evV, hN']) | (refine AWp_condC rfl ?_; intro KA KB hKA hKB; try simp only [onB_true, onB_false, onB_dec, onB_ndec, onB_not, onB_and, onB_or]) | (refine AWp_condA rfl ?_ ?_) | with_reducible (first | refine onB_of ?_ ?_ | rfl) | omega)
    all_goals first
      | exact keepD hk rfl
end Go.Proofs.YtjghnaohlfgloaaDoor
