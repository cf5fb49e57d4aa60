/- A text as it must stand: what the program and the reference make. No condition but that the table of escapes, and what package bytealg calls its greatest length, are there. -/
import Derived.Test.YtafbojmnmadlpaaDoorRp
set_option linter.all false
set_option linter.unusedSimpArgs false
set_option linter.unusedVariables false
namespace Go.Proofs.YtafbojmnmadlpaaDoor
open Go Go.Proofs.YtafbojmnmadlpaaDoor.Ab
variable [Glo]
set_option maxHeartbeats 4000000
set_option maxRecDepth 20000
def escRow : List D := [.s [38], .s [38, 97, 109, 112, 59], .s [60], .s [38, 108, 116, 59], .s [62], .s [38, 103, 116, 59], .s [34], .s [38, 113, 117, 111, 116, 59]]
class Ec [Glo] : Prop where
  esc : glob 0 = some escRow
theorem esc_bel (n : Nat) : Bel n (.ag [.d (.s [38]), .d (.s [38, 97, 109, 112, 59]), .d (.s [60]), .d (.s [38, 108, 116, 59]), .d (.s [62]), .d (.s [38, 103, 116, 59]), .d (.s [34]), .d (.s [38, 113, 117, 111, 116, 59])]) := by simp [Bel_ag, Bel_d]
variable [Ml] [Ec]
def escSt (s : List UInt8) : Nat → List UInt8
  | 0 => s
  | 1 => esc1 38 [38, 97, 109, 112, 59] s
  | 2 => esc1 60 [38, 108, 116, 59] (esc1 38 [38, 97, 109, 112, 59] s)
  | 3 => esc1 62 [38, 103, 116, 59] (esc1 60 [38, 108, 116, 59] (esc1 38 [38, 97, 109, 112, 59] s))
  | _ => escT s
/- the live slots of pleacher/xml.Escape -/
def ks_27 : Nat → List Nat
  | 0 => [0]
  | 1 => [0, 5, 6]
  | 2 => [0, 5, 6, 7]
  | 3 => [0, 4, 5, 6]
  | 4 => [0, 5, 6]
  | 5 => [0, 5, 6]
  | 6 => [2]
  | _ => []
def mu_27 : List Nat := []
def in_27 : List Nat := [0]
def ro_27 : Nat → List Nat
  | 3 => [4]
  | _ => []
theorem escape_A (s : List UInt8) (hs : s.length ≤ 1048576) (H : Heap) (K : V → Heap → Prop) (hk : K (.d (.s (escT s))) H) : ACalls Tryd.prog 27 [.d (.s s)] H K := by
  have he : glob 0 = some escRow := Ec.esc
  have l1 := esc1_len 38 [38, 97, 109, 112, 59] s (by decide)
  have l2 := esc1_len 60 [38, 108, 116, 59] (esc1 38 [38, 97, 109, 112, 59] s) (by decide)
  have l3 := esc1_len 62 [38, 103, 116, 59] (esc1 60 [38, 108, 116, 59] (esc1 38 [38, 97, 109, 112, 59] s)) (by decide)
  have ee := escT_eq s
  
  refine ACalls_of Tryd.func27 rfl in_27 (Nat.le_of_ble_eq_true rfl) ?_
  intro F hF
  simp (dsimp := false) only [go_sem, Nat.reduceAdd, Nat.reduceBEq, Nat.reduceEqDiff, Nat.reduceLT, Nat.reduceLeDiff, Nat.reduceMul, Int.reduceToNat, reduceCtorEq, ↓reduceIte, Tryd.ntmps27, Tryd.results27, ks_27, mu_27, ro_27, ti_ag9, ti_ag96, ti_an96, ti_az96, ti_el95, ti_hb70, ti_sn95, ti_sz95, ti_sz96, ti_zr95, he, escRow, in_27] at hF
  subst hF
  repeat' (first
    | with_reducible refine And.intro ?_ ?_
    | with_reducible intro _
    | with_reducible refine AWp_seq ?_
    | with_reducible refine AWp_block ?_
    | (with_reducible refine hKv _ _ (AWp_nop ?_); clear hKv Kv)
    | (with_reducible refine hKv _ _ ?_; clear hKv Kv; simp (dsimp := false) only [go_sem, Nat.reduceAdd, Nat.reduceBEq, Nat.reduceEqDiff, Nat.reduceLT, Nat.reduceLeDiff, Nat.reduceMul, Int.reduceToNat, reduceCtorEq, ↓reduceIte, Tryd.ntmps27, Tryd.results27, ks_27, mu_27, ro_27, ti_ag9, ti_ag96, ti_an96, ti_az96, ti_el95, ti_hb70, ti_sn95, ti_sz95, ti_sz96, ti_zr95, he, escRow])
    | (with_reducible refine hKA ?_; clear hKA hKB KA KB)
    | (with_reducible refine hKB ?_; clear hKA hKB KA KB)
    | ((first | with_reducible refine AWp_regro mu_27 ks_27 ro_27 ?_ | with_reducible refine AWp_regC mu_27 ks_27 ?_); intro Kv hKv; simp (dsimp := false) only [go_sem, Nat.reduceAdd, Nat.reduceBEq, Nat.reduceEqDiff, Nat.reduceLT, Nat.reduceLeDiff, Nat.reduceMul, Int.reduceToNat, reduceCtorEq, ↓reduceIte, Tryd.ntmps27, Tryd.results27, ks_27, mu_27, ro_27, ti_ag9, ti_ag96, ti_an96, ti_az96, ti_el95, ti_hb70, ti_sn95, ti_sz95, ti_sz96, ti_zr95, he, escRow])
    | with_reducible refine AWp_skipN ?_
    | with_reducible refine AWp_exitO (by repeat (first | with_reducible exact Out.hit | with_reducible apply Out.thenA | with_reducible apply Out.out rfl)) ?_
    | (with_reducible refine AWp_retR ?_; simp (dsimp := false) only [go_sem, Nat.reduceAdd, Nat.reduceBEq, Nat.reduceEqDiff, Nat.reduceLT, Nat.reduceLeDiff, Nat.reduceMul, Int.reduceToNat, reduceCtorEq, ↓reduceIte, Tryd.ntmps27, Tryd.results27, ks_27, mu_27, ro_27, ti_ag9, ti_ag96, ti_an96, ti_az96, ti_el95, ti_hb70, ti_sn95, ti_sz95, ti_sz96, ti_zr95, he, escRow])
    | (with_reducible refine AWp_regE mu_27 ks_27 ?_; intro Kv hKv; simp (dsimp := false) only [go_sem, Nat.reduceAdd, Nat.reduceBEq, Nat.reduceEqDiff, Nat.reduceLT, Nat.reduceLeDiff, Nat.reduceMul, Int.reduceToNat, reduceCtorEq, ↓reduceIte, Tryd.ntmps27, Tryd.results27, ks_27, mu_27, ro_27, ti_ag9, ti_ag96, ti_an96, ti_az96, ti_el95, ti_hb70, ti_sn95, ti_sz95, ti_sz96, ti_zr95, he, escRow])
    | (refine AWp_condC rfl ?_; intro KA KB hKA hKB; try simp only [onB_true, onB_false, onB_dec, onB_ndec, onB_not, onB_and, onB_or])
    | (refine AWp_condA rfl ?_ ?_)
    | with_reducible refine onB_of ?_ ?_
    | with_reducible rfl
    | omega)
  refine AWp_while0 (fun i : Int => 0 ≤ i ∧ i ≤ 4) (fun i => [(0, .d (.s (escSt s i.toNat))), (5, .ag (escRow.map V.d)), (6, .d (.i .i64 i))]) (fun i => (4 - i).toNat) 0 ⟨by decide, by decide⟩ ?_ ?_
  · simp (dsimp := false) only [go_sem, Nat.reduceAdd, Nat.reduceBEq, Nat.reduceEqDiff, Nat.reduceLT, Nat.reduceLeDiff, Nat.reduceMul, Int.reduceToNat, reduceCtorEq, ↓reduceIte, Tryd.ntmps27, Tryd.results27, ks_27, mu_27, ro_27, ti_ag9, ti_ag96, ti_an96, ti_az96, ti_el95, ti_hb70, ti_sn95, ti_sz95, ti_sz96, ti_zr95, he, escRow]
    exact ⟨rfl, esc_bel _⟩
  rintro i ⟨h1, h2⟩
  obtain rfl | rfl | rfl | rfl | rfl : i = 0 ∨ i = 1 ∨ i = 2 ∨ i = 3 ∨ i = 4 := by omega
  · 
    repeat' (first
      | with_reducible refine And.intro ?_ ?_
      | with_reducible intro _
      | with_reducible refine AWp_seq ?_
      | with_reducible refine AWp_block ?_
      | (with_reducible refine hKv _ _ (AWp_nop ?_); clear hKv Kv)
      | (with_reducible refine hKv _ _ ?_; clear hKv Kv; simp (dsimp := false) only [go_sem, Nat.reduceAdd, Nat.reduceBEq, Nat.reduceEqDiff, Nat.reduceLT, Nat.reduceLeDiff, Nat.reduceMul, Int.reduceToNat, reduceCtorEq, ↓reduceIte, Tryd.ntmps27, Tryd.results27, ks_27, mu_27, ro_27, ti_ag9, ti_ag96, ti_an96, ti_az96, ti_el95, ti_hb70, ti_sn95, ti_sz95, ti_sz96, ti_zr95, escRow, escSt])
      | (with_reducible refine hKA ?_; clear hKA hKB KA KB)
      | (with_reducible refine hKB ?_; clear hKA hKB KA KB)
      | ((first | with_reducible refine AWp_regro mu_27 ks_27 ro_27 ?_ | with_reducible refine AWp_regC mu_27 ks_27 ?_); intro Kv hKv; simp (dsimp := false) only [go_sem, Nat.reduceAdd, Nat.reduceBEq, Nat.reduceEqDiff, Nat.reduceLT, Nat.reduceLeDiff, Nat.reduceMul, Int.reduceToNat, reduceCtorEq, ↓reduceIte, Tryd.ntmps27, Tryd.results27, ks_27, mu_27, ro_27, ti_ag9, ti_ag96, ti_an96, ti_az96, ti_el95, ti_hb70, ti_sn95, ti_sz95, ti_sz96, ti_zr95, escRow, escSt])
      | with_reducible refine AWp_skipN ?_
      | with_reducible refine AWp_exitO (by repeat (first | with_reducible exact Out.hit | with_reducible apply Out.thenA | with_reducible apply Out.out rfl)) ?_
      | (with_reducible refine AWp_retR ?_; simp (dsimp := false) only [go_sem, Nat.reduceAdd, Nat.reduceBEq, Nat.reduceEqDiff, Nat.reduceLT, Nat.reduceLeDiff, Nat.reduceMul, Int.reduceToNat, reduceCtorEq, ↓reduceIte, Tryd.ntmps27, Tryd.results27, ks_27, mu_27, ro_27, ti_ag9, ti_ag96, ti_an96, ti_az96, ti_el95, ti_hb70, ti_sn95, ti_sz95, ti_sz96, ti_zr95, escRow, escSt])
      | (with_reducible refine AWp_regE mu_27 ks_27 ?_; intro Kv hKv; simp (dsimp := false) only [go_sem, Nat.reduceAdd, Nat.reduceBEq, Nat.reduceEqDiff, Nat.reduceLT, Nat.reduceLeDiff, Nat.reduceMul, Int.reduceToNat, reduceCtorEq, ↓reduceIte, Tryd.ntmps27, Tryd.results27, ks_27, mu_27, ro_27, ti_ag9, ti_ag96, ti_an96, ti_az96, ti_el95, ti_hb70, ti_sn95, ti_sz95, ti_sz96, ti_zr95, escRow, escSt])
      | (refine AWp_condC rfl ?_; intro KA KB hKA hKB; try simp only [onB_true, onB_false, onB_dec, onB_ndec, onB_not, onB_and, onB_or])
      | (refine AWp_condA rfl ?_ ?_)
      | (refine replaceAll_A s 38 [38, 97, 109, 112, 59] (by decide) (by omega) (by decide) _ _ ?_; try simp (dsimp := false) only [go_sem, Nat.reduceAdd, Nat.reduceBEq, Nat.reduceEqDiff, Nat.reduceLT, Nat.reduceLeDiff, Nat.reduceMul, Int.reduceToNat, reduceCtorEq, ↓reduceIte, Tryd.ntmps27, Tryd.results27, ks_27, mu_27, ro_27, ti_ag9, ti_ag96, ti_an96, ti_az96, ti_el95, ti_hb70, ti_sn95, ti_sz95, ti_sz96, ti_zr95, escRow, escSt])
      | with_reducible refine onB_of ?_ ?_
      | with_reducible rfl
      | omega)
    all_goals first
      | exact esc_bel _
      | exact ⟨1, ⟨by decide, by decide⟩, by decide, by (repeat' (refine And.intro ?_ ?_)) <;> first | rfl | omega | exact esc_bel _ | (simp; done) | (simp; omega) | (simp (dsimp := false) only [go_sem, Nat.reduceAdd, Nat.reduceBEq, Nat.reduceEqDiff, Nat.reduceLT, Nat.reduceLeDiff, Nat.reduceMul, Int.reduceToNat, reduceCtorEq, ↓reduceIte, Tryd.ntmps27, Tryd.results27, ks_27, mu_27, ro_27, ti_ag9, ti_ag96, ti_an96, ti_az96, ti_el95, ti_hb70, ti_sn95, ti_sz95, ti_sz96, ti_zr95, escRow, escSt]; done) | (simp (dsimp := false) only [go_sem, Nat.reduceAdd, Nat.reduceBEq, Nat.reduceEqDiff, Nat.reduceLT, Nat.reduceLeDiff, Nat.reduceMul, Int.reduceToNat, reduceCtorEq, ↓reduceIte, Tryd.ntmps27, Tryd.results27, ks_27, mu_27, ro_27, ti_ag9, ti_ag96, ti_an96, ti_az96, ti_el95, ti_hb70, ti_sn95, ti_sz95, ti_sz96, ti_zr95, escRow, escSt]; omega)⟩
  · 
    repeat' (first
      | with_reducible refine And.intro ?_ ?_
      | with_reducible intro _
      | with_reducible refine AWp_seq ?_
      | with_reducible refine AWp_block ?_
      | (with_reducible refine hKv _ _ (AWp_nop ?_); clear hKv Kv)
      | (with_reducible refine hKv _ _ ?_; clear hKv Kv; simp (dsimp := false) only [go_sem, Nat.reduceAdd, Nat.reduceBEq, Nat.reduceEqDiff, Nat.reduceLT, Nat.reduceLeDiff, Nat.reduceMul, Int.reduceToNat, reduceCtorEq, ↓reduceIte, Tryd.ntmps27, Tryd.results27, ks_27, mu_27, ro_27, ti_ag9, ti_ag96, ti_an96, ti_az96, ti_el95, ti_hb70, ti_sn95, ti_sz95, ti_sz96, ti_zr95, escRow, escSt])
      | (with_reducible refine hKA ?_; clear hKA hKB KA KB)
      | (with_reducible refine hKB ?_; clear hKA hKB KA KB)
      | ((first | with_reducible refine AWp_regro mu_27 ks_27 ro_27 ?_ | with_reducible refine AWp_regC mu_27 ks_27 ?_); intro Kv hKv; simp (dsimp := false) only [go_sem, Nat.reduceAdd, Nat.reduceBEq, Nat.reduceEqDiff, Nat.reduceLT, Nat.reduceLeDiff, Nat.reduceMul, Int.reduceToNat, reduceCtorEq, ↓reduceIte, Tryd.ntmps27, Tryd.results27, ks_27, mu_27, ro_27, ti_ag9, ti_ag96, ti_an96, ti_az96, ti_el95, ti_hb70, ti_sn95, ti_sz95, ti_sz96, ti_zr95, escRow, escSt])
      | with_reducible refine AWp_skipN ?_
      | with_reducible refine AWp_exitO (by repeat (first | with_reducible exact Out.hit | with_reducible apply Out.thenA | with_reducible apply Out.out rfl)) ?_
      | (with_reducible refine AWp_retR ?_; simp (dsimp := false) only [go_sem, Nat.reduceAdd, Nat.reduceBEq, Nat.reduceEqDiff, Nat.reduceLT, Nat.reduceLeDiff, Nat.reduceMul, Int.reduceToNat, reduceCtorEq, ↓reduceIte, Tryd.ntmps27, Tryd.results27, ks_27, mu_27, ro_27, ti_ag9, ti_ag96, ti_an96, ti_az96, ti_el95, ti_hb70, ti_sn95, ti_sz95, ti_sz96, ti_zr95, escRow, escSt])
      | (with_reducible refine AWp_regE mu_27 ks_27 ?_; intro Kv hKv; simp (dsimp := false) only [go_sem, Nat.reduceAdd, Nat.reduceBEq, Nat.reduceEqDiff, Nat.reduceLT, Nat.reduceLeDiff, Nat.reduceMul, Int.reduceToNat, reduceCtorEq, ↓reduceIte, Tryd.ntmps27, Tryd.results27, ks_27, mu_27, ro_27, ti_ag9, ti_ag96, ti_an96, ti_az96, ti_el95, ti_hb70, ti_sn95, ti_sz95, ti_sz96, ti_zr95, escRow, escSt])
      | (refine AWp_condC rfl ?_; intro KA KB hKA hKB; try simp only [onB_true, onB_false, onB_dec, onB_ndec, onB_not, onB_and, onB_or])
      | (refine AWp_condA rfl ?_ ?_)
      | (refine replaceAll_A (escSt s 1) 60 [38, 108, 116, 59] (by decide) (by simp only [escSt]; omega) (by decide) _ _ ?_; try simp (dsimp := false) only [go_sem, Nat.reduceAdd, Nat.reduceBEq, Nat.reduceEqDiff, Nat.reduceLT, Nat.reduceLeDiff, Nat.reduceMul, Int.reduceToNat, reduceCtorEq, ↓reduceIte, Tryd.ntmps27, Tryd.results27, ks_27, mu_27, ro_27, ti_ag9, ti_ag96, ti_an96, ti_az96, ti_el95, ti_hb70, ti_sn95, ti_sz95, ti_sz96, ti_zr95, escRow, escSt])
      | with_reducible refine onB_of ?_ ?_
      | with_reducible rfl
      | omega)
    all_goals first
      | exact esc_bel _
      | exact ⟨2, ⟨by decide, by decide⟩, by decide, by (repeat' (refine And.intro ?_ ?_)) <;> first | rfl | omega | exact esc_bel _ | (simp; done) | (simp; omega) | (simp (dsimp := false) only [go_sem, Nat.reduceAdd, Nat.reduceBEq, Nat.reduceEqDiff, Nat.reduceLT, Nat.reduceLeDiff, Nat.reduceMul, Int.reduceToNat, reduceCtorEq, ↓reduceIte, Tryd.ntmps27, Tryd.results27, ks_27, mu_27, ro_27, ti_ag9, ti_ag96, ti_an96, ti_az96, ti_el95, ti_hb70, ti_sn95, ti_sz95, ti_sz96, ti_zr95, escRow, escSt]; done) | (simp (dsimp := false) only [go_sem, Nat.reduceAdd, Nat.reduceBEq, Nat.reduceEqDiff, Nat.reduceLT, Nat.reduceLeDiff, Nat.reduceMul, Int.reduceToNat, reduceCtorEq, ↓reduceIte, Tryd.ntmps27, Tryd.results27, ks_27, mu_27, ro_27, ti_ag9, ti_ag96, ti_an96, ti_az96, ti_el95, ti_hb70, ti_sn95, ti_sz95, ti_sz96, ti_zr95, escRow, escSt]; omega)⟩
  · 
    repeat' (first
      | with_reducible refine And.intro ?_ ?_
      | with_reducible intro _
      | with_reducible refine AWp_seq ?_
      | with_reducible refine AWp_block ?_
      | (with_reducible refine hKv _ _ (AWp_nop ?_); clear hKv Kv)
      | (with_reducible refine hKv _ _ ?_; clear hKv Kv; simp (dsimp := false) only [go_sem, Nat.reduceAdd, Nat.reduceBEq, Nat.reduceEqDiff, Nat.reduceLT, Nat.reduceLeDiff, Nat.reduceMul, Int.reduceToNat, reduceCtorEq, ↓reduceIte, Tryd.ntmps27, Tryd.results27, ks_27, mu_27, ro_27, ti_ag9, ti_ag96, ti_an96, ti_az96, ti_el95, ti_hb70, ti_sn95, ti_sz95, ti_sz96, ti_zr95, escRow, escSt])
      | (with_reducible refine hKA ?_; clear hKA hKB KA KB)
      | (with_reducible refine hKB ?_; clear hKA hKB KA KB)
      | ((first | with_reducible refine AWp_regro mu_27 ks_27 ro_27 ?_ | with_reducible refine AWp_regC mu_27 ks_27 ?_); intro Kv hKv; simp (dsimp := false) only [go_sem, Nat.reduceAdd, Nat.reduceBEq, Nat.reduceEqDiff, Nat.reduceLT, Nat.reduceLeDiff, Nat.reduceMul, Int.reduceToNat, reduceCtorEq, ↓reduceIte, Tryd.ntmps27, Tryd.results27, ks_27, mu_27, ro_27, ti_ag9, ti_ag96, ti_an96, ti_az96, ti_el95, ti_hb70, ti_sn95, ti_sz95, ti_sz96, ti_zr95, escRow, escSt])
      | with_reducible refine AWp_skipN ?_
      | with_reducible refine AWp_exitO (by repeat (first | with_reducible exact Out.hit | with_reducible apply Out.thenA | with_reducible apply Out.out rfl)) ?_
      | (with_reducible refine AWp_retR ?_; simp (dsimp := false) only [go_sem, Nat.reduceAdd, Nat.reduceBEq, Nat.reduceEqDiff, Nat.reduceLT, Nat.reduceLeDiff, Nat.reduceMul, Int.reduceToNat, reduceCtorEq, ↓reduceIte, Tryd.ntmps27, Tryd.results27, ks_27, mu_27, ro_27, ti_ag9, ti_ag96, ti_an96, ti_az96, ti_el95, ti_hb70, ti_sn95, ti_sz95, ti_sz96, ti_zr95, escRow, escSt])
      | (with_reducible refine AWp_regE mu_27 ks_27 ?_; intro Kv hKv; simp (dsimp := false) only [go_sem, Nat.reduceAdd, Nat.reduceBEq, Nat.reduceEqDiff, Nat.reduceLT, Nat.reduceLeDiff, Nat.reduceMul, Int.reduceToNat, reduceCtorEq, ↓reduceIte, Tryd.ntmps27, Tryd.results27, ks_27, mu_27, ro_27, ti_ag9, ti_ag96, ti_an96, ti_az96, ti_el95, ti_hb70, ti_sn95, ti_sz95, ti_sz96, ti_zr95, escRow, escSt])
      | (refine AWp_condC rfl ?_; intro KA KB hKA hKB; try simp only [onB_true, onB_false, onB_dec, onB_ndec, onB_not, onB_and, onB_or])
      | (refine AWp_condA rfl ?_ ?_)
      | (refine replaceAll_A (escSt s 2) 62 [38, 103, 116, 59] (by decide) (by simp only [escSt]; omega) (by decide) _ _ ?_; try simp (dsimp := false) only [go_sem, Nat.reduceAdd, Nat.reduceBEq, Nat.reduceEqDiff, Nat.reduceLT, Nat.reduceLeDiff, Nat.reduceMul, Int.reduceToNat, reduceCtorEq, ↓reduceIte, Tryd.ntmps27, Tryd.results27, ks_27, mu_27, ro_27, ti_ag9, ti_ag96, ti_an96, ti_az96, ti_el95, ti_hb70, ti_sn95, ti_sz95, ti_sz96, ti_zr95, escRow, escSt])
      | with_reducible refine onB_of ?_ ?_
      | with_reducible rfl
      | omega)
    all_goals first
      | exact esc_bel _
      | exact ⟨3, ⟨by decide, by decide⟩, by decide, by (repeat' (refine And.intro ?_ ?_)) <;> first | rfl | omega | exact esc_bel _ | (simp; done) | (simp; omega) | (simp (dsimp := false) only [go_sem, Nat.reduceAdd, Nat.reduceBEq, Nat.reduceEqDiff, Nat.reduceLT, Nat.reduceLeDiff, Nat.reduceMul, Int.reduceToNat, reduceCtorEq, ↓reduceIte, Tryd.ntmps27, Tryd.results27, ks_27, mu_27, ro_27, ti_ag9, ti_ag96, ti_an96, ti_az96, ti_el95, ti_hb70, ti_sn95, ti_sz95, ti_sz96, ti_zr95, escRow, escSt]; done) | (simp (dsimp := false) only [go_sem, Nat.reduceAdd, Nat.reduceBEq, Nat.reduceEqDiff, Nat.reduceLT, Nat.reduceLeDiff, Nat.reduceMul, Int.reduceToNat, reduceCtorEq, ↓reduceIte, Tryd.ntmps27, Tryd.results27, ks_27, mu_27, ro_27, ti_ag9, ti_ag96, ti_an96, ti_az96, ti_el95, ti_hb70, ti_sn95, ti_sz95, ti_sz96, ti_zr95, escRow, escSt]; omega)⟩
  · 
    repeat' (first
      | with_reducible refine And.intro ?_ ?_
      | with_reducible intro _
      | with_reducible refine AWp_seq ?_
      | with_reducible refine AWp_block ?_
      | (with_reducible refine hKv _ _ (AWp_nop ?_); clear hKv Kv)
      | (with_reducible refine hKv _ _ ?_; clear hKv Kv; simp (dsimp := false) only [go_sem, Nat.reduceAdd, Nat.reduceBEq, Nat.reduceEqDiff, Nat.reduceLT, Nat.reduceLeDiff, Nat.reduceMul, Int.reduceToNat, reduceCtorEq, ↓reduceIte, Tryd.ntmps27, Tryd.results27, ks_27, mu_27, ro_27, ti_ag9, ti_ag96, ti_an96, ti_az96, ti_el95, ti_hb70, ti_sn95, ti_sz95, ti_sz96, ti_zr95, escRow, escSt, ee])
      | (with_reducible refine hKA ?_; clear hKA hKB KA KB)
      | (with_reducible refine hKB ?_; clear hKA hKB KA KB)
      | ((first | with_reducible refine AWp_regro mu_27 ks_27 ro_27 ?_ | with_reducible refine AWp_regC mu_27 ks_27 ?_); intro Kv hKv; simp (dsimp := false) only [go_sem, Nat.reduceAdd, Nat.reduceBEq, Nat.reduceEqDiff, Nat.reduceLT, Nat.reduceLeDiff, Nat.reduceMul, Int.reduceToNat, reduceCtorEq, ↓reduceIte, Tryd.ntmps27, Tryd.results27, ks_27, mu_27, ro_27, ti_ag9, ti_ag96, ti_an96, ti_az96, ti_el95, ti_hb70, ti_sn95, ti_sz95, ti_sz96, ti_zr95, escRow, escSt, ee])
      | with_reducible refine AWp_skipN ?_
      | with_reducible refine AWp_exitO (by repeat (first | with_reducible exact Out.hit | with_reducible apply Out.thenA | with_reducible apply Out.out rfl)) ?_
      | (with_reducible refine AWp_retR ?_; simp (dsimp := false) only [go_sem, Nat.reduceAdd, Nat.reduceBEq, Nat.reduceEqDiff, Nat.reduceLT, Nat.reduceLeDiff, Nat.reduceMul, Int.reduceToNat, reduceCtorEq, ↓reduceIte, Tryd.ntmps27, Tryd.results27, ks_27, mu_27, ro_27, ti_ag9, ti_ag96, ti_an96, ti_az96, ti_el95, ti_hb70, ti_sn95, ti_sz95, ti_sz96, ti_zr95, escRow, escSt, ee])
      | (with_reducible refine AWp_regE mu_27 ks_27 ?_; intro Kv hKv; simp (dsimp := false) only [go_sem, Nat.reduceAdd, Nat.reduceBEq, Nat.reduceEqDiff, Nat.reduceLT, Nat.reduceLeDiff, Nat.reduceMul, Int.reduceToNat, reduceCtorEq, ↓reduceIte, Tryd.ntmps27, Tryd.results27, ks_27, mu_27, ro_27, ti_ag9, ti_ag96, ti_an96, ti_az96, ti_el95, ti_hb70, ti_sn95, ti_sz95, ti_sz96, ti_zr95, escRow, escSt, ee])
      | (refine AWp_condC rfl ?_; intro KA KB hKA hKB; try simp only [onB_true, onB_false, onB_dec, onB_ndec, onB_not, onB_and, onB_or])
      | (refine AWp_condA rfl ?_ ?_)
      | (refine replaceAll_A (escSt s 3) 34 [38, 113, 117, 111, 116, 59] (by decide) (by simp only [escSt]; omega) (by decide) _ _ ?_; try simp (dsimp := false) only [go_sem, Nat.reduceAdd, Nat.reduceBEq, Nat.reduceEqDiff, Nat.reduceLT, Nat.reduceLeDiff, Nat.reduceMul, Int.reduceToNat, reduceCtorEq, ↓reduceIte, Tryd.ntmps27, Tryd.results27, ks_27, mu_27, ro_27, ti_ag9, ti_ag96, ti_an96, ti_az96, ti_el95, ti_hb70, ti_sn95, ti_sz95, ti_sz96, ti_zr95, escRow, escSt, ee])
      | with_reducible refine onB_of ?_ ?_
      | with_reducible rfl
      | omega)
    all_goals first
      | exact esc_bel _
      | exact ⟨4, ⟨by decide, by decide⟩, by decide, by (repeat' (refine And.intro ?_ ?_)) <;> first | rfl | omega | exact esc_bel _ | (simp; done) | (simp; omega) | (simp (dsimp := false) only [go_sem, Nat.reduceAdd, Nat.reduceBEq, Nat.reduceEqDiff, Nat.reduceLT, Nat.reduceLeDiff, Nat.reduceMul, Int.reduceToNat, reduceCtorEq, ↓reduceIte, Tryd.ntmps27, Tryd.results27, ks_27, mu_27, ro_27, ti_ag9, ti_ag96, ti_an96, ti_az96, ti_el95, ti_hb70, ti_sn95, ti_sz95, ti_sz96, ti_zr95, escRow, escSt, ee]; done) | (simp (dsimp := false) only [go_sem, Nat.reduceAdd, Nat.reduceBEq, Nat.reduceEqDiff, Nat.reduceLT, Nat.reduceLeDiff, Nat.reduceMul, Int.reduceToNat, reduceCtorEq, ↓reduceIte, Tryd.ntmps27, Tryd.results27, ks_27, mu_27, ro_27, ti_ag9, ti_ag96, ti_an96, ti_az96, ti_el95, ti_hb70, ti_sn95, ti_sz95, ti_sz96, ti_zr95, escRow, escSt, ee]; omega)⟩
  · 
    repeat' (first
      | with_reducible refine And.intro ?_ ?_
      | with_reducible intro _
      | with_reducible refine AWp_seq ?_
      | with_reducible refine AWp_block ?_
      | (with_reducible refine hKv _ _ (AWp_nop ?_); clear hKv Kv)
      | (with_reducible refine hKv _ _ ?_; clear hKv Kv; simp (dsimp := false) only [go_sem, Nat.reduceAdd, Nat.reduceBEq, Nat.reduceEqDiff, Nat.reduceLT, Nat.reduceLeDiff, Nat.reduceMul, Int.reduceToNat, reduceCtorEq, ↓reduceIte, Tryd.ntmps27, Tryd.results27, ks_27, mu_27, ro_27, ti_ag9, ti_ag96, ti_an96, ti_az96, ti_el95, ti_hb70, ti_sn95, ti_sz95, ti_sz96, ti_zr95, escRow, escSt])
      | (with_reducible refine hKA ?_; clear hKA hKB KA KB)
      | (with_reducible refine hKB ?_; clear hKA hKB KA KB)
      | ((first | with_reducible refine AWp_regro mu_27 ks_27 ro_27 ?_ | with_reducible refine AWp_regC mu_27 ks_27 ?_); intro Kv hKv; simp (dsimp := false) only [go_sem, Nat.reduceAdd, Nat.reduceBEq, Nat.reduceEqDiff, Nat.reduceLT, Nat.reduceLeDiff, Nat.reduceMul, Int.reduceToNat, reduceCtorEq, ↓reduceIte, Tryd.ntmps27, Tryd.results27, ks_27, mu_27, ro_27, ti_ag9, ti_ag96, ti_an96, ti_az96, ti_el95, ti_hb70, ti_sn95, ti_sz95, ti_sz96, ti_zr95, escRow, escSt])
      | with_reducible refine AWp_skipN ?_
      | with_reducible refine AWp_exitO (by repeat (first | with_reducible exact Out.hit | with_reducible apply Out.thenA | with_reducible apply Out.out rfl)) ?_
      | (with_reducible refine AWp_retR ?_; simp (dsimp := false) only [go_sem, Nat.reduceAdd, Nat.reduceBEq, Nat.reduceEqDiff, Nat.reduceLT, Nat.reduceLeDiff, Nat.reduceMul, Int.reduceToNat, reduceCtorEq, ↓reduceIte, Tryd.ntmps27, Tryd.results27, ks_27, mu_27, ro_27, ti_ag9, ti_ag96, ti_an96, ti_az96, ti_el95, ti_hb70, ti_sn95, ti_sz95, ti_sz96, ti_zr95, escRow, escSt])
      | (with_reducible refine AWp_regE mu_27 ks_27 ?_; intro Kv hKv; simp (dsimp := false) only [go_sem, Nat.reduceAdd, Nat.reduceBEq, Nat.reduceEqDiff, Nat.reduceLT, Nat.reduceLeDiff, Nat.reduceMul, Int.reduceToNat, reduceCtorEq, ↓reduceIte, Tryd.ntmps27, Tryd.results27, ks_27, mu_27, ro_27, ti_ag9, ti_ag96, ti_an96, ti_az96, ti_el95, ti_hb70, ti_sn95, ti_sz95, ti_sz96, ti_zr95, escRow, escSt])
      | (refine AWp_condC rfl ?_; intro KA KB hKA hKB; try simp only [onB_true, onB_false, onB_dec, onB_ndec, onB_not, onB_and, onB_or])
      | (refine AWp_condA rfl ?_ ?_)
      | with_reducible refine onB_of ?_ ?_
      | with_reducible rfl
      | omega)
    all_goals first
      | exact keepD hk rfl

/- the live slots of pleacher/pleacherref.Escaped -/
def ks_28 : Nat → List Nat
  | 0 => [0]
  | 1 => [0, 3]
  | 2 => [0, 3, 4]
  | 3 => [0, 3, 4, 8]
  | 4 => [0, 3, 4]
  | 5 => [0, 3, 4, 13]
  | 6 => [0, 3, 4]
  | 7 => [0, 3, 4, 13, 21]
  | 8 => [0, 3, 4]
  | 9 => [0, 3, 4, 13, 25]
  | 10 => [0, 3, 4]
  | 11 => [0, 3, 4, 13, 29]
  | 12 => [0, 3, 4]
  | 13 => [0, 3, 4, 33]
  | 14 => [0, 3, 4]
  | 15 => [2]
  | _ => []
def mu_28 : List Nat := []
def in_28 : List Nat := [0]
theorem escaped_A (s : List UInt8) (hs : s.length ≤ 1048576) (H : Heap) (K : V → Heap → Prop) (hk : K (.d (.s (escT s))) H) : ACalls Tryd.prog 28 [.d (.s s)] H K := by
  refine ACalls_of Tryd.func28 rfl in_28 (Nat.le_of_ble_eq_true rfl) ?_
  intro F hF
  simp (dsimp := false) only [go_sem, Nat.reduceAdd, Nat.reduceBEq, Nat.reduceEqDiff, Nat.reduceLT, Nat.reduceLeDiff, Nat.reduceMul, Int.reduceToNat, reduceCtorEq, ↓reduceIte, Tryd.ntmps28, Tryd.results28, ks_28, mu_28, ti_st9, in_28] at hF
  subst hF
  repeat' (first
    | with_reducible refine And.intro ?_ ?_
    | with_reducible intro _
    | with_reducible refine AWp_seq ?_
    | with_reducible refine AWp_block ?_
    | (with_reducible refine hKv _ _ (AWp_nop ?_); clear hKv Kv)
    | (with_reducible refine hKv _ _ ?_; clear hKv Kv; simp (dsimp := false) only [go_sem, Nat.reduceAdd, Nat.reduceBEq, Nat.reduceEqDiff, Nat.reduceLT, Nat.reduceLeDiff, Nat.reduceMul, Int.reduceToNat, reduceCtorEq, ↓reduceIte, Tryd.ntmps28, Tryd.results28, ks_28, mu_28, ti_st9])
    | (with_reducible refine hKA ?_; clear hKA hKB KA KB)
    | (with_reducible refine hKB ?_; clear hKA hKB KA KB)
    | (with_reducible refine AWp_regC mu_28 ks_28 ?_; intro Kv hKv; simp (dsimp := false) only [go_sem, Nat.reduceAdd, Nat.reduceBEq, Nat.reduceEqDiff, Nat.reduceLT, Nat.reduceLeDiff, Nat.reduceMul, Int.reduceToNat, reduceCtorEq, ↓reduceIte, Tryd.ntmps28, Tryd.results28, ks_28, mu_28, ti_st9])
    | with_reducible refine AWp_skipN ?_
    | with_reducible refine AWp_exitO (by repeat (first | with_reducible exact Out.hit | with_reducible apply Out.thenA | with_reducible apply Out.out rfl)) ?_
    | (with_reducible refine AWp_retR ?_; simp (dsimp := false) only [go_sem, Nat.reduceAdd, Nat.reduceBEq, Nat.reduceEqDiff, Nat.reduceLT, Nat.reduceLeDiff, Nat.reduceMul, Int.reduceToNat, reduceCtorEq, ↓reduceIte, Tryd.ntmps28, Tryd.results28, ks_28, mu_28, ti_st9])
    | (with_reducible refine AWp_regE mu_28 ks_28 ?_; intro Kv hKv; simp (dsimp := false) only [go_sem, Nat.reduceAdd, Nat.reduceBEq, Nat.reduceEqDiff, Nat.reduceLT, Nat.reduceLeDiff, Nat.reduceMul, Int.reduceToNat, reduceCtorEq, ↓reduceIte, Tryd.ntmps28, Tryd.results28, ks_28, mu_28, ti_st9])
    | (refine AWp_condC rfl ?_; intro KA KB hKA hKB; try simp only [onB_true, onB_false, onB_dec, onB_ndec, onB_not, onB_and, onB_or])
    | (refine AWp_condA rfl ?_ ?_)
    | with_reducible refine onB_of ?_ ?_
    | with_reducible rfl
    | omega)
  refine AWp_while0 (fun i : Nat => i ≤ s.length) (fun i => [(0, .d (.s s)), (3, .d (.s (escT (s.take i)))), (4, .d (.i .i64 i))]) (fun i => s.length - i) 0 (Nat.zero_le _) ?_ ?_
  · simp (dsimp := false) only [go_sem, Nat.reduceAdd, Nat.reduceBEq, Nat.reduceEqDiff, Nat.reduceLT, Nat.reduceLeDiff, Nat.reduceMul, Int.reduceToNat, reduceCtorEq, ↓reduceIte, Tryd.ntmps28, Tryd.results28, ks_28, mu_28, ti_st9]
    first | done | simp [escT]
  rintro i hi
  have hl := escT_len (s.take i)
  rw [List.length_take] at hl
  by_cases hj : i < s.length
  · obtain ⟨c, hc⟩ : ∃ c, s[i]? = some c := ⟨s[i], List.getElem?_eq_getElem hj⟩
    have ht := escT_take hc
    have e1 : ((i : Int) + 1).toNat = i + 1 := by omega
    have hone : List.drop i (List.take (i + 1) s) = [c] := by
      rw [List.drop_take, Nat.add_sub_cancel_left, drop_of_get hc]; rfl
    have hcc : ∀ n : Nat, n < 256 → ((c.toNat : Int) = n ↔ c = UInt8.ofNat n) := fun n hn => by
      rw [← UInt8.toNat_inj, UInt8.toNat_ofNat_of_lt' hn]; omega
    by_cases h1 : c = 38
    · have n1 : ((c.toNat : Int) = 38) = True := eq_true (by rw [h1]; rfl)
      rw [escB, if_pos h1] at ht
      
      repeat' (first
        | with_reducible refine And.intro ?_ ?_
        | with_reducible intro _
        | with_reducible refine AWp_seq ?_
        | with_reducible refine AWp_block ?_
        | (with_reducible refine hKv _ _ (AWp_nop ?_); clear hKv Kv)
        | (with_reducible refine hKv _ _ ?_; clear hKv Kv; simp (dsimp := false) only [go_sem, Nat.reduceAdd, Nat.reduceBEq, Nat.reduceEqDiff, Nat.reduceLT, Nat.reduceLeDiff, Nat.reduceMul, Int.reduceToNat, reduceCtorEq, ↓reduceIte, Tryd.ntmps28, Tryd.results28, ks_28, mu_28, ti_st9, hc, n1, e1, hone])
        | (with_reducible refine hKA ?_; clear hKA hKB KA KB)
        | (with_reducible refine hKB ?_; clear hKA hKB KA KB)
        | (with_reducible refine AWp_regC mu_28 ks_28 ?_; intro Kv hKv; simp (dsimp := false) only [go_sem, Nat.reduceAdd, Nat.reduceBEq, Nat.reduceEqDiff, Nat.reduceLT, Nat.reduceLeDiff, Nat.reduceMul, Int.reduceToNat, reduceCtorEq, ↓reduceIte, Tryd.ntmps28, Tryd.results28, ks_28, mu_28, ti_st9, hc, n1, e1, hone])
        | with_reducible refine AWp_skipN ?_
        | with_reducible refine AWp_exitO (by repeat (first | with_reducible exact Out.hit | with_reducible apply Out.thenA | with_reducible apply Out.out rfl)) ?_
        | (with_reducible refine AWp_retR ?_; simp (dsimp := false) only [go_sem, Nat.reduceAdd, Nat.reduceBEq, Nat.reduceEqDiff, Nat.reduceLT, Nat.reduceLeDiff, Nat.reduceMul, Int.reduceToNat, reduceCtorEq, ↓reduceIte, Tryd.ntmps28, Tryd.results28, ks_28, mu_28, ti_st9, hc, n1, e1, hone])
        | (with_reducible refine AWp_regE mu_28 ks_28 ?_; intro Kv hKv; simp (dsimp := false) only [go_sem, Nat.reduceAdd, Nat.reduceBEq, Nat.reduceEqDiff, Nat.reduceLT, Nat.reduceLeDiff, Nat.reduceMul, Int.reduceToNat, reduceCtorEq, ↓reduceIte, Tryd.ntmps28, Tryd.results28, ks_28, mu_28, ti_st9, hc, n1, e1, hone])
        | (refine AWp_condC rfl ?_; intro KA KB hKA hKB; try simp only [onB_true, onB_false, onB_dec, onB_ndec, onB_not, onB_and, onB_or])
        | (refine AWp_condA rfl ?_ ?_)
        | with_reducible refine onB_of ?_ ?_
        | with_reducible rfl
        | omega)
      all_goals first
        | exact ⟨i + 1, by omega, by omega, by rw [ht]; (repeat' (refine And.intro ?_ ?_)) <;> first | rfl | omega | exact esc_bel _ | (simp; done) | (simp; omega) | (simp (dsimp := false) only [go_sem, Nat.reduceAdd, Nat.reduceBEq, Nat.reduceEqDiff, Nat.reduceLT, Nat.reduceLeDiff, Nat.reduceMul, Int.reduceToNat, reduceCtorEq, ↓reduceIte, Tryd.ntmps28, Tryd.results28, ks_28, mu_28, ti_st9, hc, n1, e1, hone]; done) | (simp (dsimp := false) only [go_sem, Nat.reduceAdd, Nat.reduceBEq, Nat.reduceEqDiff, Nat.reduceLT, Nat.reduceLeDiff, Nat.reduceMul, Int.reduceToNat, reduceCtorEq, ↓reduceIte, Tryd.ntmps28, Tryd.results28, ks_28, mu_28, ti_st9, hc, n1, e1, hone]; omega)⟩
    have n1 : ((c.toNat : Int) = 38) = False := eq_false fun h => h1 ((hcc 38 (by decide)).1 h)
    by_cases h2 : c = 60
    · have n2 : ((c.toNat : Int) = 60) = True := eq_true (by rw [h2]; rfl)
      rw [escB, if_neg h1, if_pos h2] at ht
      
      repeat' (first
        | with_reducible refine And.intro ?_ ?_
        | with_reducible intro _
        | with_reducible refine AWp_seq ?_
        | with_reducible refine AWp_block ?_
        | (with_reducible refine hKv _ _ (AWp_nop ?_); clear hKv Kv)
        | (with_reducible refine hKv _ _ ?_; clear hKv Kv; simp (dsimp := false) only [go_sem, Nat.reduceAdd, Nat.reduceBEq, Nat.reduceEqDiff, Nat.reduceLT, Nat.reduceLeDiff, Nat.reduceMul, Int.reduceToNat, reduceCtorEq, ↓reduceIte, Tryd.ntmps28, Tryd.results28, ks_28, mu_28, ti_st9, hc, n1, n2, e1, hone])
        | (with_reducible refine hKA ?_; clear hKA hKB KA KB)
        | (with_reducible refine hKB ?_; clear hKA hKB KA KB)
        | (with_reducible refine AWp_regC mu_28 ks_28 ?_; intro Kv hKv; simp (dsimp := false) only [go_sem, Nat.reduceAdd, Nat.reduceBEq, Nat.reduceEqDiff, Nat.reduceLT, Nat.reduceLeDiff, Nat.reduceMul, Int.reduceToNat, reduceCtorEq, ↓reduceIte, Tryd.ntmps28, Tryd.results28, ks_28, mu_28, ti_st9, hc, n1, n2, e1, hone])
        | with_reducible refine AWp_skipN ?_
        | with_reducible refine AWp_exitO (by repeat (first | with_reducible exact Out.hit | with_reducible apply Out.thenA | with_reducible apply Out.out rfl)) ?_
        | (with_reducible refine AWp_retR ?_; simp (dsimp := false) only [go_sem, Nat.reduceAdd, Nat.reduceBEq, Nat.reduceEqDiff, Nat.reduceLT, Nat.reduceLeDiff, Nat.reduceMul, Int.reduceToNat, reduceCtorEq, ↓reduceIte, Tryd.ntmps28, Tryd.results28, ks_28, mu_28, ti_st9, hc, n1, n2, e1, hone])
        | (with_reducible refine AWp_regE mu_28 ks_28 ?_; intro Kv hKv; simp (dsimp := false) only [go_sem, Nat.reduceAdd, Nat.reduceBEq, Nat.reduceEqDiff, Nat.reduceLT, Nat.reduceLeDiff, Nat.reduceMul, Int.reduceToNat, reduceCtorEq, ↓reduceIte, Tryd.ntmps28, Tryd.results28, ks_28, mu_28, ti_st9, hc, n1, n2, e1, hone])
        | (refine AWp_condC rfl ?_; intro KA KB hKA hKB; try simp only [onB_true, onB_false, onB_dec, onB_ndec, onB_not, onB_and, onB_or])
        | (refine AWp_condA rfl ?_ ?_)
        | with_reducible refine onB_of ?_ ?_
        | with_reducible rfl
        | omega)
      all_goals first
        | exact ⟨i + 1, by omega, by omega, by rw [ht]; (repeat' (refine And.intro ?_ ?_)) <;> first | rfl | omega | exact esc_bel _ | (simp; done) | (simp; omega) | (simp (dsimp := false) only [go_sem, Nat.reduceAdd, Nat.reduceBEq, Nat.reduceEqDiff, Nat.reduceLT, Nat.reduceLeDiff, Nat.reduceMul, Int.reduceToNat, reduceCtorEq, ↓reduceIte, Tryd.ntmps28, Tryd.results28, ks_28, mu_28, ti_st9, hc, n1, n2, e1, hone]; done) | (simp (dsimp := false) only [go_sem, Nat.reduceAdd, Nat.reduceBEq, Nat.reduceEqDiff, Nat.reduceLT, Nat.reduceLeDiff, Nat.reduceMul, Int.reduceToNat, reduceCtorEq, ↓reduceIte, Tryd.ntmps28, Tryd.results28, ks_28, mu_28, ti_st9, hc, n1, n2, e1, hone]; omega)⟩
    have n2 : ((c.toNat : Int) = 60) = False := eq_false fun h => h2 ((hcc 60 (by decide)).1 h)
    by_cases h3 : c = 62
    · have n3 : ((c.toNat : Int) = 62) = True := eq_true (by rw [h3]; rfl)
      rw [escB, if_neg h1, if_neg h2, if_pos h3] at ht
      
      repeat' (first
        | with_reducible refine And.intro ?_ ?_
        | with_reducible intro _
        | with_reducible refine AWp_seq ?_
        | with_reducible refine AWp_block ?_
        | (with_reducible refine hKv _ _ (AWp_nop ?_); clear hKv Kv)
        | (with_reducible refine hKv _ _ ?_; clear hKv Kv; simp (dsimp := false) only [go_sem, Nat.reduceAdd, Nat.reduceBEq, Nat.reduceEqDiff, Nat.reduceLT, Nat.reduceLeDiff, Nat.reduceMul, Int.reduceToNat, reduceCtorEq, ↓reduceIte, Tryd.ntmps28, Tryd.results28, ks_28, mu_28, ti_st9, hc, n1, n2, n3, e1, hone])
        | (with_reducible refine hKA ?_; clear hKA hKB KA KB)
        | (with_reducible refine hKB ?_; clear hKA hKB KA KB)
        | (with_reducible refine AWp_regC mu_28 ks_28 ?_; intro Kv hKv; simp (dsimp := false) only [go_sem, Nat.reduceAdd, Nat.reduceBEq, Nat.reduceEqDiff, Nat.reduceLT, Nat.reduceLeDiff, Nat.reduceMul, Int.reduceToNat, reduceCtorEq, ↓reduceIte, Tryd.ntmps28, Tryd.results28, ks_28, mu_28, ti_st9, hc, n1, n2, n3, e1, hone])
        | with_reducible refine AWp_skipN ?_
        | with_reducible refine AWp_exitO (by repeat (first | with_reducible exact Out.hit | with_reducible apply Out.thenA | with_reducible apply Out.out rfl)) ?_
        | (with_reducible refine AWp_retR ?_; simp (dsimp := false) only [go_sem, Nat.reduceAdd, Nat.reduceBEq, Nat.reduceEqDiff, Nat.reduceLT, Nat.reduceLeDiff, Nat.reduceMul, Int.reduceToNat, reduceCtorEq, ↓reduceIte, Tryd.ntmps28, Tryd.results28, ks_28, mu_28, ti_st9, hc, n1, n2, n3, e1, hone])
        | (with_reducible refine AWp_regE mu_28 ks_28 ?_; intro Kv hKv; simp (dsimp := false) only [go_sem, Nat.reduceAdd, Nat.reduceBEq, Nat.reduceEqDiff, Nat.reduceLT, Nat.reduceLeDiff, Nat.reduceMul, Int.reduceToNat, reduceCtorEq, ↓reduceIte, Tryd.ntmps28, Tryd.results28, ks_28, mu_28, ti_st9, hc, n1, n2, n3, e1, hone])
        | (refine AWp_condC rfl ?_; intro KA KB hKA hKB; try simp only [onB_true, onB_false, onB_dec, onB_ndec, onB_not, onB_and, onB_or])
        | (refine AWp_condA rfl ?_ ?_)
        | with_reducible refine onB_of ?_ ?_
        | with_reducible rfl
        | omega)
      all_goals first
        | exact ⟨i + 1, by omega, by omega, by rw [ht]; (repeat' (refine And.intro ?_ ?_)) <;> first | rfl | omega | exact esc_bel _ | (simp; done) | (simp; omega) | (simp (dsimp := false) only [go_sem, Nat.reduceAdd, Nat.reduceBEq, Nat.reduceEqDiff, Nat.reduceLT, Nat.reduceLeDiff, Nat.reduceMul, Int.reduceToNat, reduceCtorEq, ↓reduceIte, Tryd.ntmps28, Tryd.results28, ks_28, mu_28, ti_st9, hc, n1, n2, n3, e1, hone]; done) | (simp (dsimp := false) only [go_sem, Nat.reduceAdd, Nat.reduceBEq, Nat.reduceEqDiff, Nat.reduceLT, Nat.reduceLeDiff, Nat.reduceMul, Int.reduceToNat, reduceCtorEq, ↓reduceIte, Tryd.ntmps28, Tryd.results28, ks_28, mu_28, ti_st9, hc, n1, n2, n3, e1, hone]; omega)⟩
    have n3 : ((c.toNat : Int) = 62) = False := eq_false fun h => h3 ((hcc 62 (by decide)).1 h)
    by_cases h4 : c = 34
    · have n4 : ((c.toNat : Int) = 34) = True := eq_true (by rw [h4]; rfl)
      rw [escB, if_neg h1, if_neg h2, if_neg h3, if_pos h4] at ht
      
      repeat' (first
        | with_reducible refine And.intro ?_ ?_
        | with_reducible intro _
        | with_reducible refine AWp_seq ?_
        | with_reducible refine AWp_block ?_
        | (with_reducible refine hKv _ _ (AWp_nop ?_); clear hKv Kv)
        | (with_reducible refine hKv _ _ ?_; clear hKv Kv; simp (dsimp := false) only [go_sem, Nat.reduceAdd, Nat.reduceBEq, Nat.reduceEqDiff, Nat.reduceLT, Nat.reduceLeDiff, Nat.reduceMul, Int.reduceToNat, reduceCtorEq, ↓reduceIte, Tryd.ntmps28, Tryd.results28, ks_28, mu_28, ti_st9, hc, n1, n2, n3, n4, e1, hone])
        | (with_reducible refine hKA ?_; clear hKA hKB KA KB)
        | (with_reducible refine hKB ?_; clear hKA hKB KA KB)
        | (with_reducible refine AWp_regC mu_28 ks_28 ?_; intro Kv hKv; simp (dsimp := false) only [go_sem, Nat.reduceAdd, Nat.reduceBEq, Nat.reduceEqDiff, Nat.reduceLT, Nat.reduceLeDiff, Nat.reduceMul, Int.reduceToNat, reduceCtorEq, ↓reduceIte, Tryd.ntmps28, Tryd.results28, ks_28, mu_28, ti_st9, hc, n1, n2, n3, n4, e1, hone])
        | with_reducible refine AWp_skipN ?_
        | with_reducible refine AWp_exitO (by repeat (first | with_reducible exact Out.hit | with_reducible apply Out.thenA | with_reducible apply Out.out rfl)) ?_
        | (with_reducible refine AWp_retR ?_; simp (dsimp := false) only [go_sem, Nat.reduceAdd, Nat.reduceBEq, Nat.reduceEqDiff, Nat.reduceLT, Nat.reduceLeDiff, Nat.reduceMul, Int.reduceToNat, reduceCtorEq, ↓reduceIte, Tryd.ntmps28, Tryd.results28, ks_28, mu_28, ti_st9, hc, n1, n2, n3, n4, e1, hone])
        | (with_reducible refine AWp_regE mu_28 ks_28 ?_; intro Kv hKv; simp (dsimp := false) only [go_sem, Nat.reduceAdd, Nat.reduceBEq, Nat.reduceEqDiff, Nat.reduceLT, Nat.reduceLeDiff, Nat.reduceMul, Int.reduceToNat, reduceCtorEq, ↓reduceIte, Tryd.ntmps28, Tryd.results28, ks_28, mu_28, ti_st9, hc, n1, n2, n3, n4, e1, hone])
        | (refine AWp_condC rfl ?_; intro KA KB hKA hKB; try simp only [onB_true, onB_false, onB_dec, onB_ndec, onB_not, onB_and, onB_or])
        | (refine AWp_condA rfl ?_ ?_)
        | with_reducible refine onB_of ?_ ?_
        | with_reducible rfl
        | omega)
      all_goals first
        | exact ⟨i + 1, by omega, by omega, by rw [ht]; (repeat' (refine And.intro ?_ ?_)) <;> first | rfl | omega | exact esc_bel _ | (simp; done) | (simp; omega) | (simp (dsimp := false) only [go_sem, Nat.reduceAdd, Nat.reduceBEq, Nat.reduceEqDiff, Nat.reduceLT, Nat.reduceLeDiff, Nat.reduceMul, Int.reduceToNat, reduceCtorEq, ↓reduceIte, Tryd.ntmps28, Tryd.results28, ks_28, mu_28, ti_st9, hc, n1, n2, n3, n4, e1, hone]; done) | (simp (dsimp := false) only [go_sem, Nat.reduceAdd, Nat.reduceBEq, Nat.reduceEqDiff, Nat.reduceLT, Nat.reduceLeDiff, Nat.reduceMul, Int.reduceToNat, reduceCtorEq, ↓reduceIte, Tryd.ntmps28, Tryd.results28, ks_28, mu_28, ti_st9, hc, n1, n2, n3, n4, e1, hone]; omega)⟩
    have n4 : ((c.toNat : Int) = 34) = False := eq_false fun h => h4 ((hcc 34 (by decide)).1 h)
    rw [escB, if_neg h1, if_neg h2, if_neg h3, if_neg h4] at ht
    
    repeat' (first
      | with_reducible refine And.intro ?_ ?_
      | with_reducible intro _
      | with_reducible refine AWp_seq ?_
      | with_reducible refine AWp_block ?_
      | (with_reducible refine hKv _ _ (AWp_nop ?_); clear hKv Kv)
      | (with_reducible refine hKv _ _ ?_; clear hKv Kv; simp (dsimp := false) only [go_sem, Nat.reduceAdd, Nat.reduceBEq, Nat.reduceEqDiff, Nat.reduceLT, Nat.reduceLeDiff, Nat.reduceMul, Int.reduceToNat, reduceCtorEq, ↓reduceIte, Tryd.ntmps28, Tryd.results28, ks_28, mu_28, ti_st9, hc, n1, n2, n3, n4, e1, hone])
      | (with_reducible refine hKA ?_; clear hKA hKB KA KB)
      | (with_reducible refine hKB ?_; clear hKA hKB KA KB)
      | (with_reducible refine AWp_regC mu_28 ks_28 ?_; intro Kv hKv; simp (dsimp := false) only [go_sem, Nat.reduceAdd, Nat.reduceBEq, Nat.reduceEqDiff, Nat.reduceLT, Nat.reduceLeDiff, Nat.reduceMul, Int.reduceToNat, reduceCtorEq, ↓reduceIte, Tryd.ntmps28, Tryd.results28, ks_28, mu_28, ti_st9, hc, n1, n2, n3, n4, e1, hone])
      | with_reducible refine AWp_skipN ?_
      | with_reducible refine AWp_exitO (by repeat (first | with_reducible exact Out.hit | with_reducible apply Out.thenA | with_reducible apply Out.out rfl)) ?_
      | (with_reducible refine AWp_retR ?_; simp (dsimp := false) only [go_sem, Nat.reduceAdd, Nat.reduceBEq, Nat.reduceEqDiff, Nat.reduceLT, Nat.reduceLeDiff, Nat.reduceMul, Int.reduceToNat, reduceCtorEq, ↓reduceIte, Tryd.ntmps28, Tryd.results28, ks_28, mu_28, ti_st9, hc, n1, n2, n3, n4, e1, hone])
      | (with_reducible refine AWp_regE mu_28 ks_28 ?_; intro Kv hKv; simp (dsimp := false) only [go_sem, Nat.reduceAdd, Nat.reduceBEq, Nat.reduceEqDiff, Nat.reduceLT, Nat.reduceLeDiff, Nat.reduceMul, Int.reduceToNat, reduceCtorEq, ↓reduceIte, Tryd.ntmps28, Tryd.results28, ks_28, mu_28, ti_st9, hc, n1, n2, n3, n4, e1, hone])
      | (refine AWp_condC rfl ?_; intro KA KB hKA hKB; try simp only [onB_true, onB_false, onB_dec, onB_ndec, onB_not, onB_and, onB_or])
      | (refine AWp_condA rfl ?_ ?_)
      | with_reducible refine onB_of ?_ ?_
      | with_reducible rfl
      | omega)
    all_goals first
      | exact ⟨i + 1, by omega, by omega, by rw [ht]; (repeat' (refine And.intro ?_ ?_)) <;> first | rfl | omega | exact esc_bel _ | (simp; done) | (simp; omega) | (simp (dsimp := false) only [go_sem, Nat.reduceAdd, Nat.reduceBEq, Nat.reduceEqDiff, Nat.reduceLT, Nat.reduceLeDiff, Nat.reduceMul, Int.reduceToNat, reduceCtorEq, ↓reduceIte, Tryd.ntmps28, Tryd.results28, ks_28, mu_28, ti_st9, hc, n1, n2, n3, n4, e1, hone]; done) | (simp (dsimp := false) only [go_sem, Nat.reduceAdd, Nat.reduceBEq, Nat.reduceEqDiff, Nat.reduceLT, Nat.reduceLeDiff, Nat.reduceMul, Int.reduceToNat, reduceCtorEq, ↓reduceIte, Tryd.ntmps28, Tryd.results28, ks_28, mu_28, ti_st9, hc, n1, n2, n3, n4, e1, hone]; omega)⟩
  · have e : i = s.length := by omega
    subst e
    rw [List.take_length]
    
    repeat' (first
      | with_reducible refine And.intro ?_ ?_
      | with_reducible intro _
      | with_reducible refine AWp_seq ?_
      | with_reducible refine AWp_block ?_
      | (with_reducible refine hKv _ _ (AWp_nop ?_); clear hKv Kv)
      | (with_reducible refine hKv _ _ ?_; clear hKv Kv; simp (dsimp := false) only [go_sem, Nat.reduceAdd, Nat.reduceBEq, Nat.reduceEqDiff, Nat.reduceLT, Nat.reduceLeDiff, Nat.reduceMul, Int.reduceToNat, reduceCtorEq, ↓reduceIte, Tryd.ntmps28, Tryd.results28, ks_28, mu_28, ti_st9])
      | (with_reducible refine hKA ?_; clear hKA hKB KA KB)
      | (with_reducible refine hKB ?_; clear hKA hKB KA KB)
      | (with_reducible refine AWp_regC mu_28 ks_28 ?_; intro Kv hKv; simp (dsimp := false) only [go_sem, Nat.reduceAdd, Nat.reduceBEq, Nat.reduceEqDiff, Nat.reduceLT, Nat.reduceLeDiff, Nat.reduceMul, Int.reduceToNat, reduceCtorEq, ↓reduceIte, Tryd.ntmps28, Tryd.results28, ks_28, mu_28, ti_st9])
      | with_reducible refine AWp_skipN ?_
      | with_reducible refine AWp_exitO (by repeat (first | with_reducible exact Out.hit | with_reducible apply Out.thenA | with_reducible apply Out.out rfl)) ?_
      | (with_reducible refine AWp_retR ?_; simp (dsimp := false) only [go_sem, Nat.reduceAdd, Nat.reduceBEq, Nat.reduceEqDiff, Nat.reduceLT, Nat.reduceLeDiff, Nat.reduceMul, Int.reduceToNat, reduceCtorEq, ↓reduceIte, Tryd.ntmps28, Tryd.results28, ks_28, mu_28, ti_st9])
      | (with_reducible refine AWp_regE mu_28 ks_28 ?_; intro Kv hKv; simp (dsimp := false) only [go_sem, Nat.reduceAdd, Nat.reduceBEq, Nat.reduceEqDiff, Nat.reduceLT, Nat.reduceLeDiff, Nat.reduceMul, Int.reduceToNat, reduceCtorEq, ↓reduceIte, Tryd.ntmps28, Tryd.results28, ks_28, mu_28, ti_st9])
      | (refine AWp_condC rfl ?_; intro KA KB hKA hKB; try simp only [onB_true, onB_false, onB_dec, onB_ndec, onB_not, onB_and, onB_or])
      | (refine AWp_condA rfl ?_ ?_)
      | with_reducible refine onB_of ?_ ?_
      | with_reducible rfl
      | omega)
    all_goals first
      | exact keepD hk rfl
end Go.Proofs.YtafbojmnmadlpaaDoor
