/- Plans: the reference's ColumnsOf, walked. No condition but that the tables of package unicode/utf8 are there. -/
import Derived.Test.YtppalmoicjogaaaDoorR37
import Derived.Test.YtppalmoicjogaaaDoorR41
import Derived.Test.YtppalmoicjogaaaDoorR42
import Derived.Test.YtppalmoicjogaaaDoorR43
import Derived.Test.YtppalmoicjogaaaDoorR44
import Derived.Test.YtppalmoicjogaaaDoorR45
import Derived.Test.YtppalmoicjogaaaDoorR46
import Derived.Test.YtppalmoicjogaaaDoorR47
set_option linter.all false
set_option linter.unusedSimpArgs false
set_option linter.unusedVariables false
namespace Go.Proofs.YtppalmoicjogaaaDoor
open Go Go.Proofs.YtppalmoicjogaaaDoor.Ab
variable [Glo] [U8] [Ar] [Inp]
set_option maxHeartbeats 4000000
set_option maxRecDepth 20000
theorem opCols_A (o : Opp) (ok : OkO o) (h1 : 1 ≤ o.kind) (h2 : o.kind ≤ 15) (a b : List (List UInt8)) (ha : OkC a) (hb : OkC b) (H : Heap) (K : V → Heap → Prop) (hk : K (.tu [.d (.sl 1 ((opC2 o a b).map strRow)), .d (.i .i64 (opCols o a b).1)]) H) :
    ACalls Tryd.prog 19 [opV o, .d (.sl 1 (a.map strRow)), .d (.sl 1 (b.map strRow))] H K := by
  have : o.kind = 1 ∨ o.kind = 2 ∨ o.kind = 3 ∨ o.kind = 4 ∨ o.kind = 5 ∨ o.kind = 6 ∨ o.kind = 7 ∨ o.kind = 8 ∨ o.kind = 9 ∨ o.kind = 10 ∨ o.kind = 11 ∨ o.kind = 12 ∨ o.kind = 13 ∨ o.kind = 14 ∨ o.kind = 15 := by omega
  rcases this with h | h | h | h | h | h | h | h | h | h | h | h | h | h | h
  · exact opCols1_A o ok h a b .un .un H K hk
  · exact opCols2_A o ok h a b ha hb H K hk
  · exact opCols3_A o ok h a b ha hb H K hk
  · exact opCols4_A o ok h a b ha hb H K hk
  · exact opCols5_A o ok h a b ha hb H K hk
  · exact opCols6_A o ok h a b ha hb H K hk
  · exact opCols7_A o ok h a b ha hb H K hk
  · exact opCols8_A o ok h a b ha hb H K hk
  · exact opCols9_A o ok h a b ha hb H K hk
  · exact opCols10_A o ok h a b ha hb H K hk
  · exact opCols11_A o ok h a b ha hb H K hk
  · exact opCols12_A o ok h a b ha hb H K hk
  · exact opCols13_A o ok h a b ha hb H K hk
  · exact opCols14_A o ok h a b ha hb H K hk
  · exact opCols15_A o ok h a b ha hb H K hk
theorem ACalls_sees {P : Program} {f : Nat} {vs vs' : List V} {H : Heap} {K : V → Heap → Prop} (hl : vs.length = vs'.length) (hs : ∀ (j : Nat) (v v' : V), vs[j]? = some v → vs'[j]? = some v' → Sees v v') (h : ACalls P f vs' H K) : ACalls P f vs H K :=
  fun w σ args hw hl' hr => h w σ args hw (by omega) fun j c u hc hu => by
    have hj : j < vs.length := by have := lt_of_get hc; omega
    exact hs j _ c (List.getElem?_eq_getElem hj) hc _ _ _ _ _ (hr j _ u (List.getElem?_eq_getElem hj) hu)
def nilS : V := .d (.c (.slice none 0 0))
def SeesL (v : V) (l : List (List UInt8)) : Prop := v = .d (.sl 1 (l.map strRow)) ∨ (l = [] ∧ v = nilS)
theorem SeesL.sees {v : V} {l : List (List UInt8)} (h : SeesL v l) : Sees v (.d (.sl 1 (l.map strRow))) := by
  rcases h with rfl | ⟨rfl, rfl⟩
  · exact .refl _
  · exact .nil _
theorem opColsS_A (o : Opp) (ok : OkO o) (h1 : 1 ≤ o.kind) (h2 : o.kind ≤ 15) (a b : List (List UInt8)) (ha : OkC a) (hb : OkC b) (va vb : V) (hva : SeesL va a) (hvb : SeesL vb b) (H : Heap) (K : V → Heap → Prop) (hk : K (.tu [.d (.sl 1 ((opC2 o a b).map strRow)), .d (.i .i64 (opCols o a b).1)]) H) :
    ACalls Tryd.prog 19 [opV o, va, vb] H K :=
  ACalls_sees (vs' := [opV o, .d (.sl 1 (a.map strRow)), .d (.sl 1 (b.map strRow))]) rfl (fun j v v' h h' => by
    match j, h, h' with
    | 0, h, h' => simp at h h'; subst h h'; exact .refl _
    | 1, h, h' => simp at h h'; subst h h'; exact hva.sees
    | 2, h, h' => simp at h h'; subst h h'; exact hvb.sees) (opCols_A o ok h1 h2 a b ha hb H K hk)
def BigL (l : List (List UInt8)) : Prop := l.length ≤ 1100000 ∧ ∀ s, s ∈ l → s.length ≤ 1048576
theorem okC_big {t : Bool} {l : List (List UInt8)} (h : BigL l) : BigL (okC t l).2 := by
  rcases okC_cases t l with ⟨_, e⟩ | ⟨_, e⟩
  · rw [e]; exact h
  · rw [e]; exact ⟨by simp, by simp⟩
theorem big_nil : BigL [] := ⟨by simp, by simp⟩
theorem OkC.big {a : List (List UInt8)} (h : OkC a) : BigL a := ⟨by have := h.le8; omega, h.s⟩
theorem big_ite {c : Prop} [Decidable c] {x y : Int × List (List UInt8)} (h1 : BigL x.2) (h2 : BigL y.2) : BigL (if c then x else y).2 := by
  split <;> assumption
theorem opCols_big (o : Opp) (ok : OkO o) (a b : List (List UInt8)) (ha : OkC a) (hb : OkC b) : BigL (opCols o a b).2 := by
  have h8a := ha.le8
  have h8b := hb.le8
  have hcols : BigL o.cols := ⟨by have := ok.ncols; omega, ok.scols⟩
  have hrel : BigL o.rel.cols := ⟨by have := ok.rel.ncols; omega, ok.rel.col⟩
  have hab : BigL (a ++ b) := ⟨by rw [List.length_append]; omega, (ha.app hb).2⟩
  have hnew : BigL (a ++ [o.new]) := ⟨by rw [List.length_append, List.length_singleton]; omega, fun s hs => by
    rcases List.mem_append.1 hs with h | h
    · exact ha.s s h
    · rw [List.mem_singleton.1 h]; exact ok.snew⟩
  have hpn : BigL [o.part, o.new] := ⟨by simp, fun s hs => by
    simp only [List.mem_cons, List.not_mem_nil, or_false] at hs
    rcases hs with rfl | rfl
    · exact ok.spart
    · exact ok.snew⟩
  have hii : BigL [sIter, sItem] := ⟨by decide, by decide⟩
  have hi : BigL [sItem] := ⟨by decide, by decide⟩
  unfold opCols
  cases lookE arE o.name
  all_goals
    repeat' (refine big_ite ?_ ?_)
    all_goals first
      | exact okC_big hcols
      | exact okC_big ha.big
      | exact okC_big hab
      | exact okC_big hnew
      | exact okC_big hpn
      | exact okC_big hii
      | exact hrel
      | exact hab
      | exact hcols
      | exact ha.big
      | exact hnew
      | exact hpn
      | exact hii
      | exact hi
      | exact big_nil
theorem opC2_ok {o : Opp} {a b : List (List UInt8)} (h : (opCols o a b).1 = 0) : opC2 o a b = (opCols o a b).2 := by
  unfold opC2
  split
  · rename_i hk
    rw [opCols13_eq hk] at h ⊢
    split at h
    · rename_i h1
      exact absurd h h1
    · rename_i h1
      rw [if_neg h1]
      rcases okC_cases (decide (sIter ∈ a) && hasQ b [sIter, sPos, sItem]) [sIter, sItem] with ⟨_, e⟩ | ⟨_, e⟩
      · rw [e]
      · rw [e] at h; exact absurd h (by decide)
  · rfl
theorem texts1_A (c : List (List UInt8)) (h : BigL c) (hs : c.length ≤ 1048576) (H : Heap) (K : V → Heap → Prop) (hk : K (.d (.sl 1 (c.map strRow))) H) : ACalls Tryd.prog 21 [.d (.sl 1 [[.sl 1 (c.map strRow)]])] H K :=
  texts_A [c] (by simp) (by intro l hl; rw [List.mem_singleton.1 hl]; exact hs) (by simp; omega) H K (by simpa using hk)
def ks_7 : Nat → List Nat
  | 0 => [0]
  | 1 => [0, 12]
  | 2 => [2, 3]
  | 3 => [0, 15]
  | 4 => [2, 3]
  | 5 => [0, 4]
  | 6 => [0, 4, 5]
  | 7 => [0, 4, 5, 19]
  | 8 => [0, 4, 5]
  | 9 => [0, 4, 5, 28]
  | 10 => [2, 3]
  | 11 => [0, 4, 5, 41]
  | 12 => [2, 3]
  | 13 => [0, 4, 5, 6]
  | 14 => [0, 4, 5, 6, 7]
  | 15 => [0, 4, 5, 6, 7, 49]
  | 16 => [0, 4, 5, 6, 7]
  | 17 => [0, 4, 5, 6, 7, 63]
  | 18 => [2, 3]
  | 19 => [0, 4, 5, 6, 7]
  | 20 => [0, 4, 5, 6]
  | 21 => [0, 4, 5, 8, 9]
  | 22 => [0, 4, 5, 8, 9, 96]
  | 23 => [0, 4, 5, 8, 9]
  | 24 => [0, 4, 5, 8, 9, 100]
  | 25 => [2, 3]
  | 26 => [0, 4, 5]
  | 27 => [4, 116]
  | 28 => [2, 3]
  | 29 => [2, 3]
  | _ => []
def mu_7 : List Nat := [4, 6]
def in_7 : List Nat := [0]
def nd_7 : Nat → Nat
  | 11 => 12
  | 21 => 15
  | _ => 0
theorem columnsOf_A (p : List Opp) (hlen : p.length ≤ 1048576) (ok : ∀ o, o ∈ p → OkO o) (H : Heap) (K : V → Heap → Prop) (hk : K (colsR (columnsQ p)) H) :
    ACalls Tryd.prog 7 [.d (.sl 13 (p.map opD))] H K := by
  by_cases hbig : 200000 < p.length
  · have b1 : ((200000 : Int) < (p.length : Int)) = True := eq_true (by omega)
    rw [columnsQ, if_pos hbig, colsR, List.map_nil] at hk
    refine ACalls_of Tryd.func7 rfl in_7 (Nat.le_of_ble_eq_true rfl) ?_
    intro F hF
    simp (dsimp := false) only [go_sem, Nat.reduceAdd, Nat.reduceBEq, Nat.reduceEqDiff, Nat.reduceLT, Nat.reduceLeDiff, Nat.reduceMul, Int.reduceToNat, reduceCtorEq, ↓reduceIte, Tryd.ntmps7, Tryd.results7, ks_7, mu_7, nd_7, ti_ag3, ti_ag47, ti_ag48, ti_ag53, ti_fl53_0, ti_fl53_1, ti_hb17, ti_hb18, ti_hb19, ti_hb20, ti_hb21, ti_hb22, ti_sb23, ti_sb24, ti_sb47, ti_sl23, ti_sl24, ti_sl47, ti_sl48, ti_sz53, b1, in_7] at hF
    subst hF
    repeat' (first | with_reducible (first | refine And.intro ?_ ?_ | intro _ | refine AWp_seq ?_ | refine AWp_block ?_ | (refine hKv _ _ (AWp_nop ?_); clear hKv Kv) | (refine hKA ?_; clear hKA hKB KA KB) | (refine hKB ?_; clear hKA hKB KA KB) | refine AWp_skipN ?_ | refine AWp_exitO (by repeat (first | exact Out.hit | apply Out.thenA | apply Out.out rfl)) ?_) | (with_reducible (first | (refine hKv _ _ ?_; clear hKv Kv) | ((first | refine AWp_regC mu_7 ks_7 ?_ | refine AWp_draw nd_7 mu_7 ks_7 ti_mixed (by kernel_rfl) ?_ | refine AWp_regE mu_7 ks_7 ?_ | refine AWp_drawE nd_7 mu_7 ks_7 ti_mixed (by kernel_rfl) ?_); intro Kv hKv) | refine AWp_retR ?_); try simp (dsimp := false) only [go_sem, Nat.reduceAdd, Nat.reduceBEq, Nat.reduceEqDiff, Nat.reduceLT, Nat.reduceLeDiff, Nat.reduceMul, Int.reduceToNat, reduceCtorEq, ↓reduceIte, Tryd.ntmps7, Tryd.results7, ks_7, mu_7, nd_7, ti_ag3, ti_ag47, ti_ag48, ti_ag53, ti_fl53_0, ti_fl53_1, ti_hb17, ti_hb18, ti_hb19, ti_hb20, ti_hb21, ti_hb22, ti_sb23, ti_sb24, ti_sb47, ti_sl23, ti_sl24, ti_sl47, ti_sl48, ti_sz53, b1]) | (refine AWp_condC rfl ?_; intro KA KB hKA hKB; try simp only [onB_true, onB_false, onB_dec, onB_ndec, onB_not, onB_and, onB_or]) | (refine AWp_condA rfl ?_ ?_) | with_reducible (first | refine onB_of ?_ ?_ | rfl) | omega)
    all_goals first
      | omega
      | exact keepFz hk (Fz_tu2 (.nil _) (.same _)) (by simp [Bel_tu, Bel_d])
  have b1 : ((200000 : Int) < (p.length : Int)) = False := eq_false (by omega)
  by_cases hnil : p = []
  · subst hnil
    rw [columnsQ, if_neg hbig, if_pos rfl, colsR, List.map_nil] at hk
    refine ACalls_of Tryd.func7 rfl in_7 (Nat.le_of_ble_eq_true rfl) ?_
    intro F hF
    simp (dsimp := false) only [go_sem, Nat.reduceAdd, Nat.reduceBEq, Nat.reduceEqDiff, Nat.reduceLT, Nat.reduceLeDiff, Nat.reduceMul, Int.reduceToNat, reduceCtorEq, ↓reduceIte, Tryd.ntmps7, Tryd.results7, ks_7, mu_7, nd_7, ti_ag3, ti_ag47, ti_ag48, ti_ag53, ti_fl53_0, ti_fl53_1, ti_hb17, ti_hb18, ti_hb19, ti_hb20, ti_hb21, ti_hb22, ti_sb23, ti_sb24, ti_sb47, ti_sl23, ti_sl24, ti_sl47, ti_sl48, ti_sz53, b1, List.map_nil, Int.reduceEq, Int.reduceLT, in_7] at hF
    subst hF
    repeat' (first | with_reducible (first | refine And.intro ?_ ?_ | intro _ | refine AWp_seq ?_ | refine AWp_block ?_ | (refine hKv _ _ (AWp_nop ?_); clear hKv Kv) | (refine hKA ?_; clear hKA hKB KA KB) | (refine hKB ?_; clear hKA hKB KA KB) | refine AWp_skipN ?_ | refine AWp_exitO (by repeat (first | exact Out.hit | apply Out.thenA | apply Out.out rfl)) ?_) | (with_reducible (first | (refine hKv _ _ ?_; clear hKv Kv) | ((first | refine AWp_regC mu_7 ks_7 ?_ | refine AWp_draw nd_7 mu_7 ks_7 ti_mixed (by kernel_rfl) ?_ | refine AWp_regE mu_7 ks_7 ?_ | refine AWp_drawE nd_7 mu_7 ks_7 ti_mixed (by kernel_rfl) ?_); intro Kv hKv) | refine AWp_retR ?_); try simp (dsimp := false) only [go_sem, Nat.reduceAdd, Nat.reduceBEq, Nat.reduceEqDiff, Nat.reduceLT, Nat.reduceLeDiff, Nat.reduceMul, Int.reduceToNat, reduceCtorEq, ↓reduceIte, Tryd.ntmps7, Tryd.results7, ks_7, mu_7, nd_7, ti_ag3, ti_ag47, ti_ag48, ti_ag53, ti_fl53_0, ti_fl53_1, ti_hb17, ti_hb18, ti_hb19, ti_hb20, ti_hb21, ti_hb22, ti_sb23, ti_sb24, ti_sb47, ti_sl23, ti_sl24, ti_sl47, ti_sl48, ti_sz53, b1, List.map_nil, Int.reduceEq, Int.reduceLT]) | (refine AWp_condC rfl ?_; intro KA KB hKA hKB; try simp only [onB_true, onB_false, onB_dec, onB_ndec, onB_not, onB_and, onB_or]) | (refine AWp_condA rfl ?_ ?_) | with_reducible (first | refine onB_of ?_ ?_ | rfl) | omega)
    all_goals first
      | omega
      | exact keepFz hk (Fz_tu2 (.nil _) (.same _)) (by simp [Bel_tu, Bel_d])
  have hpos : 0 < p.length := by cases p with | nil => exact absurd rfl hnil | cons x l => simp
  have b2 : ((p.length : Int) = 0) = False := eq_false (by omega)
  have fault : ∀ {i : Nat} {o : Opp} {out : List (List (List UInt8))}, p[i]? = some o → planQ (p.drop i) out = planQ p [] → (stepQ out o).1 ≠ 0 → K (.tu [.d (.sl 1 []), .d (.i .i64 (stepQ out o).1)]) H := fun h hp hs => by
    rw [planQ_fault h hp hs hnil hbig, colsR, List.map_nil] at hk
    exact hk
  refine ACalls_of Tryd.func7 rfl in_7 (Nat.le_of_ble_eq_true rfl) ?_
  intro F hF
  simp (dsimp := false) only [go_sem, Nat.reduceAdd, Nat.reduceBEq, Nat.reduceEqDiff, Nat.reduceLT, Nat.reduceLeDiff, Nat.reduceMul, Int.reduceToNat, reduceCtorEq, ↓reduceIte, Tryd.ntmps7, Tryd.results7, ks_7, mu_7, nd_7, ti_ag3, ti_ag47, ti_ag48, ti_ag53, ti_fl53_0, ti_fl53_1, ti_hb17, ti_hb18, ti_hb19, ti_hb20, ti_hb21, ti_hb22, ti_sb23, ti_sb24, ti_sb47, ti_sl23, ti_sl24, ti_sl47, ti_sl48, ti_sz53, b1, b2, in_7] at hF
  subst hF
  repeat' (first | with_reducible (first | refine And.intro ?_ ?_ | intro _ | refine AWp_seq ?_ | refine AWp_block ?_ | (refine hKv _ _ (AWp_nop ?_); clear hKv Kv) | (refine hKA ?_; clear hKA hKB KA KB) | (refine hKB ?_; clear hKA hKB KA KB) | refine AWp_skipN ?_ | refine AWp_exitO (by repeat (first | exact Out.hit | apply Out.thenA | apply Out.out rfl)) ?_) | (with_reducible (first | (refine hKv _ _ ?_; clear hKv Kv) | ((first | refine AWp_regC mu_7 ks_7 ?_ | refine AWp_draw nd_7 mu_7 ks_7 ti_mixed (by kernel_rfl) ?_ | refine AWp_regE mu_7 ks_7 ?_ | refine AWp_drawE nd_7 mu_7 ks_7 ti_mixed (by kernel_rfl) ?_); intro Kv hKv) | refine AWp_retR ?_); try simp (dsimp := false) only [go_sem, Nat.reduceAdd, Nat.reduceBEq, Nat.reduceEqDiff, Nat.reduceLT, Nat.reduceLeDiff, Nat.reduceMul, Int.reduceToNat, reduceCtorEq, ↓reduceIte, Tryd.ntmps7, Tryd.results7, ks_7, mu_7, nd_7, ti_ag3, ti_ag47, ti_ag48, ti_ag53, ti_fl53_0, ti_fl53_1, ti_hb17, ti_hb18, ti_hb19, ti_hb20, ti_hb21, ti_hb22, ti_sb23, ti_sb24, ti_sb47, ti_sl23, ti_sl24, ti_sl47, ti_sl48, ti_sz53, b1, b2]) | (refine AWp_condC rfl ?_; intro KA KB hKA hKB; try simp only [onB_true, onB_false, onB_dec, onB_ndec, onB_not, onB_and, onB_or]) | (refine AWp_condA rfl ?_ ?_) | with_reducible (first | refine onB_of ?_ ?_ | rfl) | omega)
  refine AWp_whileD (opQ p) (fun y => [(0, .d (.sl 13 (p.map opD))), (4, .os H.length y.1), (5, .d (.i .i64 y.1))])
    (fun y => [.row y.1 48 1 (y.2.map lsC)]) (fun y => p.length - y.1) (0, []) ⟨Nat.zero_le _, rfl, by simp, rfl⟩ ⟨[], ?_⟩ ?_ ?_ ?_
  · first | rfl | (simp; done)
  · simp (dsimp := false) only [go_sem, Nat.reduceAdd, Nat.reduceBEq, Nat.reduceEqDiff, Nat.reduceLT, Nat.reduceLeDiff, Nat.reduceMul, Int.reduceToNat, reduceCtorEq, ↓reduceIte, Tryd.ntmps7, Tryd.results7, ks_7, mu_7, nd_7, ti_ag3, ti_ag47, ti_ag48, ti_ag53, ti_fl53_0, ti_fl53_1, ti_hb17, ti_hb18, ti_hb19, ti_hb20, ti_hb21, ti_hb22, ti_sb23, ti_sb24, ti_sb47, ti_sl23, ti_sl24, ti_sl47, ti_sl48, ti_sz53, b1, b2]
    first | done | (simp; done)
  · rintro y _ ob hob
    rw [List.mem_singleton.1 hob]
    exact lsC_bel _ _ _ _ _
  rintro ⟨i, out⟩ ⟨hi, hol, hok, hpl⟩
  simp only at hi hol hok hpl
  subst hol
  have i0 : ((0 : Int) ≤ (out.length : Int)) = True := eq_true (by omega)
  by_cases hiN : out.length < p.length
  · obtain ⟨o, ho⟩ : ∃ o, p[out.length]? = some o := ⟨p[out.length], List.getElem?_eq_getElem hiN⟩
    have hin : ((out.length : Int) < (p.length : Int)) = True := eq_true (by omega)
    have oko := ok o (List.mem_of_getElem? ho)
    have hI := fun H K hk => in_A o.kind 1 15 H K hk
    by_cases k12 : 1 ≤ o.kind ∧ o.kind ≤ 15
    case neg =>
      rw [decide_eq_false k12] at hI
      have hq : stepQ out o = (3, []) := by rw [stepQ, if_neg k12]
      have hkk := fault ho hpl (by rw [hq]; decide)
      rw [hq] at hkk
      repeat' (first | with_reducible (first | refine And.intro ?_ ?_ | intro _ | refine AWp_seq ?_ | refine AWp_block ?_ | (refine hKv _ _ (AWp_nop ?_); clear hKv Kv) | (refine hKA ?_; clear hKA hKB KA KB) | (refine hKB ?_; clear hKA hKB KA KB) | refine AWp_skipN ?_ | refine AWp_exitO (by repeat (first | exact Out.hit | apply Out.thenA | apply Out.out rfl)) ?_) | ((first | with_reducible (first | (refine hKv _ _ ?_; clear hKv Kv) | ((first | refine AWp_regC mu_7 ks_7 ?_ | refine AWp_draw nd_7 mu_7 ks_7 ti_mixed (by kernel_rfl) ?_ | refine AWp_regE mu_7 ks_7 ?_ | refine AWp_drawE nd_7 mu_7 ks_7 ti_mixed (by kernel_rfl) ?_); intro Kv hKv) | refine AWp_retR ?_) | refine hI _ _ ?_ | refine QCall_of (hI _ _ (Two_intro _ _)) ?_); try simp (dsimp := false) only [go_sem, Nat.reduceAdd, Nat.reduceBEq, Nat.reduceEqDiff, Nat.reduceLT, Nat.reduceLeDiff, Nat.reduceMul, Int.reduceToNat, reduceCtorEq, ↓reduceIte, Tryd.ntmps7, Tryd.results7, ks_7, mu_7, nd_7, ti_ag3, ti_ag47, ti_ag48, ti_ag53, ti_fl53_0, ti_fl53_1, ti_hb17, ti_hb18, ti_hb19, ti_hb20, ti_hb21, ti_hb22, ti_sb23, ti_sb24, ti_sb47, ti_sl23, ti_sl24, ti_sl47, ti_sl48, ti_sz53, opD, hin, i0, ho]) | (refine AWp_condC rfl ?_; intro KA KB hKA hKB; try simp only [onB_true, onB_false, onB_dec, onB_ndec, onB_not, onB_and, onB_or]) | (refine AWp_condA rfl ?_ ?_) | with_reducible (first | refine onB_of ?_ ?_ | rfl) | omega)
      all_goals first
        | omega
        | exact dropF hkk (Fz_tu2 (.nil _) (.same _)) (by simp [Bel_tu, Bel_d])
    rw [decide_eq_true k12] at hI
    obtain ⟨k1', k2'⟩ := k12
    have hC := inCount_A o.kind
    by_cases k3 : o.inn.length = inCnt o.kind
    case neg =>
      have t5 : ((o.inn.length : Int) = (inCnt o.kind : Int)) = False := eq_false (by omega)
      have hq : stepQ out o = (11, []) := by rw [stepQ, if_pos ⟨k1', k2'⟩, if_neg k3]
      have hkk := fault ho hpl (by rw [hq]; decide)
      rw [hq] at hkk
      repeat' (first | with_reducible (first | refine And.intro ?_ ?_ | intro _ | refine AWp_seq ?_ | refine AWp_block ?_ | (refine hKv _ _ (AWp_nop ?_); clear hKv Kv) | (refine hKA ?_; clear hKA hKB KA KB) | (refine hKB ?_; clear hKA hKB KA KB) | refine AWp_skipN ?_ | refine AWp_exitO (by repeat (first | exact Out.hit | apply Out.thenA | apply Out.out rfl)) ?_) | ((first | with_reducible (first | (refine hKv _ _ ?_; clear hKv Kv) | ((first | refine AWp_regC mu_7 ks_7 ?_ | refine AWp_draw nd_7 mu_7 ks_7 ti_mixed (by kernel_rfl) ?_ | refine AWp_regE mu_7 ks_7 ?_ | refine AWp_drawE nd_7 mu_7 ks_7 ti_mixed (by kernel_rfl) ?_); intro Kv hKv) | refine AWp_retR ?_) | refine hI _ _ ?_ | refine QCall_of (hI _ _ (Two_intro _ _)) ?_ | refine hC _ _ ?_ | refine QCall_of (hC _ _ (Two_intro _ _)) ?_); try simp (dsimp := false) only [go_sem, Nat.reduceAdd, Nat.reduceBEq, Nat.reduceEqDiff, Nat.reduceLT, Nat.reduceLeDiff, Nat.reduceMul, Int.reduceToNat, reduceCtorEq, ↓reduceIte, Tryd.ntmps7, Tryd.results7, ks_7, mu_7, nd_7, ti_ag3, ti_ag47, ti_ag48, ti_ag53, ti_fl53_0, ti_fl53_1, ti_hb17, ti_hb18, ti_hb19, ti_hb20, ti_hb21, ti_hb22, ti_sb23, ti_sb24, ti_sb47, ti_sl23, ti_sl24, ti_sl47, ti_sl48, ti_sz53, opD, hin, i0, ho, t5, not_false_eq_true]) | (refine AWp_condC rfl ?_; intro KA KB hKA hKB; try simp only [onB_true, onB_false, onB_dec, onB_ndec, onB_not, onB_and, onB_or]) | (refine AWp_condA rfl ?_ ?_) | with_reducible (first | refine onB_of ?_ ?_ | rfl) | omega)
      all_goals first
        | omega
        | exact dropF hkk (Fz_tu2 (.nil _) (.same _)) (by simp [Bel_tu, Bel_d])
    have t5 : ((o.inn.length : Int) = (inCnt o.kind : Int)) = True := eq_true (by omega)
    repeat' (first | with_reducible (first | refine And.intro ?_ ?_ | intro _ | refine AWp_seq ?_ | refine AWp_block ?_ | (refine hKv _ _ (AWp_nop ?_); clear hKv Kv) | (refine hKA ?_; clear hKA hKB KA KB) | (refine hKB ?_; clear hKA hKB KA KB) | refine AWp_skipN ?_ | refine AWp_exitO (by repeat (first | exact Out.hit | apply Out.thenA | apply Out.out rfl)) ?_) | ((first | with_reducible (first | (refine hKv _ _ ?_; clear hKv Kv) | ((first | refine AWp_regC mu_7 ks_7 ?_ | refine AWp_draw nd_7 mu_7 ks_7 ti_mixed (by kernel_rfl) ?_ | refine AWp_regE mu_7 ks_7 ?_ | refine AWp_drawE nd_7 mu_7 ks_7 ti_mixed (by kernel_rfl) ?_); intro Kv hKv) | refine AWp_retR ?_) | refine hI _ _ ?_ | refine QCall_of (hI _ _ (Two_intro _ _)) ?_ | refine hC _ _ ?_ | refine QCall_of (hC _ _ (Two_intro _ _)) ?_); try simp (dsimp := false) only [go_sem, Nat.reduceAdd, Nat.reduceBEq, Nat.reduceEqDiff, Nat.reduceLT, Nat.reduceLeDiff, Nat.reduceMul, Int.reduceToNat, reduceCtorEq, ↓reduceIte, Tryd.ntmps7, Tryd.results7, ks_7, mu_7, nd_7, ti_ag3, ti_ag47, ti_ag48, ti_ag53, ti_fl53_0, ti_fl53_1, ti_hb17, ti_hb18, ti_hb19, ti_hb20, ti_hb21, ti_hb22, ti_sb23, ti_sb24, ti_sb47, ti_sl23, ti_sl24, ti_sl47, ti_sl48, ti_sz53, opD, hin, i0, ho, t5, not_true_eq_false]) | (refine AWp_condC rfl ?_; intro KA KB hKA hKB; try simp only [onB_true, onB_false, onB_dec, onB_ndec, onB_not, onB_and, onB_or]) | (refine AWp_condA rfl ?_ ?_) | with_reducible (first | refine onB_of ?_ ?_ | rfl) | omega)
    all_goals first
      | omega
      | skip
    refine AWp_whileH (fun k : Nat => k ≤ o.inn.length ∧ ∀ n, n ∈ o.inn.take k → 0 ≤ n ∧ n < out.length)
      (fun k => [(0, .d (.sl 13 (p.map opD))), (4, .os H.length out.length), (5, .d (.i .i64 out.length)), (6, .os (H.length + 1) k), (7, .d (.i .i64 k))])
      (fun k => [.row out.length 48 1 (out.map lsC), .row k 48 1 (((o.inn.take k).map fun n => (out[n.toNat]?).getD []).map lsC)]) (fun k => o.inn.length - k) 0 ⟨Nat.zero_le _, by simp⟩ ?_ ?_ ?_ ?_
    · first | rfl | (simp; done)
    · simp (dsimp := false) only [go_sem, Nat.reduceAdd, Nat.reduceBEq, Nat.reduceEqDiff, Nat.reduceLT, Nat.reduceLeDiff, Nat.reduceMul, Int.reduceToNat, reduceCtorEq, ↓reduceIte, Tryd.ntmps7, Tryd.results7, ks_7, mu_7, nd_7, ti_ag3, ti_ag47, ti_ag48, ti_ag53, ti_fl53_0, ti_fl53_1, ti_hb17, ti_hb18, ti_hb19, ti_hb20, ti_hb21, ti_hb22, ti_sb23, ti_sb24, ti_sb47, ti_sl23, ti_sl24, ti_sl47, ti_sl48, ti_sz53, opD, hin, i0, ho, t5, not_true_eq_false]
      first | done | (simp; done) | (simp [opD]; done)
    · rintro k _ ob hob
      simp only [List.mem_cons, List.not_mem_nil, or_false] at hob
      rcases hob with rfl | rfl <;> exact lsC_bel _ _ _ _ _
    rintro k ⟨hkl, hkr⟩
    by_cases hkN : k < o.inn.length
    · obtain ⟨n, hn⟩ : ∃ n, o.inn[k]? = some n := ⟨o.inn[k], List.getElem?_eq_getElem hkN⟩
      have hkin : ((k : Int) < (o.inn.length : Int)) = True := eq_true (by omega)
      have k0 : ((0 : Int) ≤ (k : Int)) = True := eq_true (by omega)
      have hmem := List.mem_of_getElem? hn
      have hnl := oko.ninn
      have hJ := fun H K hk => in_A n 0 ((out.length : Int) - 1) H K hk
      by_cases n12 : 0 ≤ n ∧ n < out.length
      case neg =>
        rw [decide_eq_false (by omega)] at hJ
        have hq := stepQ_rng (out := out) k1' k2' k3 hmem n12
        have hkk := fault ho hpl (by rw [hq]; decide)
        rw [hq] at hkk
        repeat' (first | with_reducible (first | refine And.intro ?_ ?_ | intro _ | refine AWp_seq ?_ | refine AWp_block ?_ | (refine hKv _ _ (AWp_nop ?_); clear hKv Kv) | (refine hKA ?_; clear hKA hKB KA KB) | (refine hKB ?_; clear hKA hKB KA KB) | refine AWp_skipN ?_ | refine AWp_exitO (by repeat (first | exact Out.hit | apply Out.thenA | apply Out.out rfl)) ?_) | ((first | with_reducible (first | (refine hKv _ _ ?_; clear hKv Kv) | ((first | refine AWp_regC mu_7 ks_7 ?_ | refine AWp_draw nd_7 mu_7 ks_7 ti_mixed (by kernel_rfl) ?_ | refine AWp_regE mu_7 ks_7 ?_ | refine AWp_drawE nd_7 mu_7 ks_7 ti_mixed (by kernel_rfl) ?_); intro Kv hKv) | refine AWp_retR ?_) | refine hJ _ _ ?_ | refine QCall_of (hJ _ _ (Two_intro _ _)) ?_); try simp (dsimp := false) only [go_sem, Nat.reduceAdd, Nat.reduceBEq, Nat.reduceEqDiff, Nat.reduceLT, Nat.reduceLeDiff, Nat.reduceMul, Int.reduceToNat, reduceCtorEq, ↓reduceIte, Tryd.ntmps7, Tryd.results7, ks_7, mu_7, nd_7, ti_ag3, ti_ag47, ti_ag48, ti_ag53, ti_fl53_0, ti_fl53_1, ti_hb17, ti_hb18, ti_hb19, ti_hb20, ti_hb21, ti_hb22, ti_sb23, ti_sb24, ti_sb47, ti_sl23, ti_sl24, ti_sl47, ti_sl48, ti_sz53, opD, inR1, hin, i0, ho, hkin, k0, hn]) | (refine AWp_condC rfl ?_; intro KA KB hKA hKB; try simp only [onB_true, onB_false, onB_dec, onB_ndec, onB_not, onB_and, onB_or]) | (refine AWp_condA rfl ?_ ?_) | with_reducible (first | refine onB_of ?_ ?_ | rfl) | omega)
        all_goals first
          | omega
          | exact dropF hkk (Fz_tu2 (.nil _) (.same _)) (by simp [Bel_tu, Bel_d])
      rw [decide_eq_true (by omega)] at hJ
      have u3 : (0 ≤ n) = True := eq_true n12.1
      have u4 : (n < (out.length : Int)) = True := eq_true n12.2
      obtain ⟨l, hl⟩ : ∃ l, out[n.toNat]? = some l := ⟨out[n.toNat]'(by omega), List.getElem?_eq_getElem (by omega)⟩
      have htk : (((o.inn.take k).map fun n => (out[n.toNat]?).getD []).map lsC).length = k := by rw [List.length_map, List.length_map, List.length_take]; omega
      repeat' (first | with_reducible (first | refine And.intro ?_ ?_ | intro _ | refine AWp_seq ?_ | refine AWp_block ?_ | (refine hKv _ _ (AWp_nop ?_); clear hKv Kv) | (refine hKA ?_; clear hKA hKB KA KB) | (refine hKB ?_; clear hKA hKB KA KB) | refine AWp_skipN ?_ | refine AWp_exitO (by repeat (first | exact Out.hit | apply Out.thenA | apply Out.out rfl)) ?_) | ((first | with_reducible (first | (refine hKv _ _ ?_; clear hKv Kv) | ((first | refine AWp_regC mu_7 ks_7 ?_ | refine AWp_draw nd_7 mu_7 ks_7 ti_mixed (by kernel_rfl) ?_ | refine AWp_regE mu_7 ks_7 ?_ | refine AWp_drawE nd_7 mu_7 ks_7 ti_mixed (by kernel_rfl) ?_); intro Kv hKv) | refine AWp_retR ?_) | refine hJ _ _ ?_ | refine QCall_of (hJ _ _ (Two_intro _ _)) ?_); try simp (dsimp := false) only [go_sem, Nat.reduceAdd, Nat.reduceBEq, Nat.reduceEqDiff, Nat.reduceLT, Nat.reduceLeDiff, Nat.reduceMul, Int.reduceToNat, reduceCtorEq, ↓reduceIte, Tryd.ntmps7, Tryd.results7, ks_7, mu_7, nd_7, ti_ag3, ti_ag47, ti_ag48, ti_ag53, ti_fl53_0, ti_fl53_1, ti_hb17, ti_hb18, ti_hb19, ti_hb20, ti_hb21, ti_hb22, ti_sb23, ti_sb24, ti_sb47, ti_sl23, ti_sl24, ti_sl47, ti_sl48, ti_sz53, opD, inR1, lsC, hin, i0, ho, hkin, k0, hn, u3, u4, hl, htk]) | (refine AWp_condC rfl ?_; intro KA KB hKA hKB; try simp only [onB_true, onB_false, onB_dec, onB_ndec, onB_not, onB_and, onB_or]) | (refine AWp_condA rfl ?_ ?_) | with_reducible (first | refine onB_of ?_ ?_ | rfl) | omega)
      all_goals first
        | omega
        | skip
      refine ⟨k + 1, ⟨by omega, ?_⟩, by omega, ?_, by omega, rfl, by omega, by omega⟩
      · intro m hm
        rw [take_of_get hn] at hm
        rcases List.mem_append.1 hm with hm | hm
        · exact hkr m hm
        · rw [List.mem_singleton.1 hm]; exact n12
      · rw [take_of_get hn, List.map_append, List.map_append]
        simp [hl, lsC]
    obtain rfl : k = o.inn.length := by omega
    have hkin : ((o.inn.length : Int) < (o.inn.length : Int)) = False := eq_false (by omega)
    rw [List.take_of_length_le (Nat.le_refl _)] at hkr ⊢
    have hq := stepQ_val (out := out) k1' k2' k3 hkr
    have hia := inAt_ok hok o.inn 0
    have hib := inAt_ok hok o.inn 1
    have hb2 := opCols_big o oko _ _ hia hib
    obtain ⟨va, vb, rest, hrows, hva, hvb, hrl⟩ : ∃ (va vb : V) (rest : List (List V)), ((o.inn.map fun n => (out[n.toNat]?).getD []).map lsC) ++ [[nilS], [nilS]] = [va] :: [vb] :: rest ∧ SeesL va (inAt out o.inn 0) ∧ SeesL vb (inAt out o.inn 1) ∧ ∀ r, r ∈ [va] :: [vb] :: rest → r = [nilS] ∨ ∃ l, r = lsC l := by
      have hc3 : inCnt o.kind = 0 ∨ inCnt o.kind = 1 ∨ inCnt o.kind = 2 := by unfold inCnt; split; exact .inl rfl; split; exact .inr (.inr rfl); exact .inr (.inl rfl)
      rw [← k3] at hc3
      rcases hc3 with h | h | h
      · rw [List.length_eq_zero_iff.1 h]
        exact ⟨nilS, nilS, [], rfl, .inr ⟨rfl, rfl⟩, .inr ⟨rfl, rfl⟩, by simp⟩
      · obtain ⟨x, hx⟩ := List.length_eq_one_iff.1 h
        rw [hx]
        exact ⟨_, nilS, [[nilS]], rfl, .inl rfl, .inr ⟨rfl, rfl⟩, by intro r hr; simp only [List.mem_cons, List.not_mem_nil, or_false] at hr; rcases hr with rfl | rfl | rfl; exact .inr ⟨_, rfl⟩; exact .inl rfl; exact .inl rfl⟩
      · obtain ⟨x, y, hxy⟩ : ∃ x y, o.inn = [x, y] := by
          match hxx : o.inn, h with
          | [x, y], _ => exact ⟨x, y, rfl⟩
        rw [hxy]
        exact ⟨_, _, [[nilS], [nilS]], rfl, .inl rfl, .inl rfl, by intro r hr; simp only [List.mem_cons, List.not_mem_nil, or_false] at hr; rcases hr with rfl | rfl | rfl | rfl; exact .inr ⟨_, rfl⟩; exact .inr ⟨_, rfl⟩; exact .inl rfl; exact .inl rfl⟩
    have hoc := opColsS_A o oko k1' k2' _ _ hia hib va vb hva hvb
    have hnl := oko.ninn
    rw [nilS] at hrows
    have hsl : (((o.inn.map fun n => (out[n.toNat]?).getD []).map lsC)).length = o.inn.length := by simp
    rw [colsQ] at hq
    by_cases he : (opCols o (inAt out o.inn 0) (inAt out o.inn 1)).1 = 0
    case neg =>
      have e1 : ((opCols o (inAt out o.inn 0) (inAt out o.inn 1)).1 = 0) = False := eq_false he
      rw [namedQ, if_neg he] at hq
      have hkk := fault ho hpl (by rw [hq]; exact he)
      rw [hq] at hkk
      repeat' (first | with_reducible (first | refine And.intro ?_ ?_ | intro _ | refine AWp_seq ?_ | refine AWp_block ?_ | (refine hKv _ _ (AWp_nop ?_); clear hKv Kv) | (refine hKA ?_; clear hKA hKB KA KB) | (refine hKB ?_; clear hKA hKB KA KB) | refine AWp_skipN ?_ | refine AWp_exitO (by repeat (first | exact Out.hit | apply Out.thenA | apply Out.out rfl)) ?_) | ((first | with_reducible (first | (refine hKv _ _ ?_; clear hKv Kv) | ((first | refine AWp_regC mu_7 ks_7 ?_ | refine AWp_draw nd_7 mu_7 ks_7 ti_mixed (by kernel_rfl) ?_ | refine AWp_regE mu_7 ks_7 ?_ | refine AWp_drawE nd_7 mu_7 ks_7 ti_mixed (by kernel_rfl) ?_); intro Kv hKv) | refine AWp_retR ?_) | refine hoc _ _ ?_ | refine QCall_of (hoc _ _ (Two_intro _ _)) ?_); try simp (dsimp := false) only [go_sem, Nat.reduceAdd, Nat.reduceBEq, Nat.reduceEqDiff, Nat.reduceLT, Nat.reduceLeDiff, Nat.reduceMul, Int.reduceToNat, reduceCtorEq, ↓reduceIte, Tryd.ntmps7, Tryd.results7, ks_7, mu_7, nd_7, ti_ag3, ti_ag47, ti_ag48, ti_ag53, ti_fl53_0, ti_fl53_1, ti_hb17, ti_hb18, ti_hb19, ti_hb20, ti_hb21, ti_hb22, ti_sb23, ti_sb24, ti_sb47, ti_sl23, ti_sl24, ti_sl47, ti_sl48, ti_sz53, opD, opV, lsC, hin, i0, ho, hkin, hrows, hsl, e1]) | (refine AWp_condC rfl ?_; intro KA KB hKA hKB; try simp only [onB_true, onB_false, onB_dec, onB_ndec, onB_not, onB_and, onB_or]) | (refine AWp_condA rfl ?_ ?_) | with_reducible (first | refine onB_of ?_ ?_ | rfl) | omega)
      all_goals first
        | omega
        | exact dropF hkk (Fz_tu2 (.nil _) (.same _)) (by simp [Bel_tu, Bel_d])
    have e1 : ((opCols o (inAt out o.inn 0) (inAt out o.inn 1)).1 = 0) = True := eq_true he
    rw [opC2_ok he] at hoc
    rw [namedQ, if_pos he] at hq
    have hcf := colsFault_A (opCols o (inAt out o.inn 0) (inAt out o.inn 1)).2 (by have := hb2.1; omega) (fun s hs => by have := hb2.2 s hs; omega)
    by_cases hf : colsFault (opCols o (inAt out o.inn 0) (inAt out o.inn 1)).2 = 0
    case neg =>
      have e2 : (colsFault (opCols o (inAt out o.inn 0) (inAt out o.inn 1)).2 = 0) = False := eq_false hf
      rw [if_neg hf] at hq
      have hkk := fault ho hpl (by rw [hq]; exact hf)
      rw [hq] at hkk
      repeat' (first | with_reducible (first | refine And.intro ?_ ?_ | intro _ | refine AWp_seq ?_ | refine AWp_block ?_ | (refine hKv _ _ (AWp_nop ?_); clear hKv Kv) | (refine hKA ?_; clear hKA hKB KA KB) | (refine hKB ?_; clear hKA hKB KA KB) | refine AWp_skipN ?_ | refine AWp_exitO (by repeat (first | exact Out.hit | apply Out.thenA | apply Out.out rfl)) ?_) | ((first | with_reducible (first | (refine hKv _ _ ?_; clear hKv Kv) | ((first | refine AWp_regC mu_7 ks_7 ?_ | refine AWp_draw nd_7 mu_7 ks_7 ti_mixed (by kernel_rfl) ?_ | refine AWp_regE mu_7 ks_7 ?_ | refine AWp_drawE nd_7 mu_7 ks_7 ti_mixed (by kernel_rfl) ?_); intro Kv hKv) | refine AWp_retR ?_) | refine hoc _ _ ?_ | refine QCall_of (hoc _ _ (Two_intro _ _)) ?_ | refine hcf _ _ ?_ | refine QCall_of (hcf _ _ (Two_intro _ _)) ?_); try simp (dsimp := false) only [go_sem, Nat.reduceAdd, Nat.reduceBEq, Nat.reduceEqDiff, Nat.reduceLT, Nat.reduceLeDiff, Nat.reduceMul, Int.reduceToNat, reduceCtorEq, ↓reduceIte, Tryd.ntmps7, Tryd.results7, ks_7, mu_7, nd_7, ti_ag3, ti_ag47, ti_ag48, ti_ag53, ti_fl53_0, ti_fl53_1, ti_hb17, ti_hb18, ti_hb19, ti_hb20, ti_hb21, ti_hb22, ti_sb23, ti_sb24, ti_sb47, ti_sl23, ti_sl24, ti_sl47, ti_sl48, ti_sz53, opD, opV, lsC, hin, i0, ho, hkin, hrows, hsl, e1, e2]) | (refine AWp_condC rfl ?_; intro KA KB hKA hKB; try simp only [onB_true, onB_false, onB_dec, onB_ndec, onB_not, onB_and, onB_or]) | (refine AWp_condA rfl ?_ ?_) | with_reducible (first | refine onB_of ?_ ?_ | rfl) | omega)
      all_goals first
        | omega
        | exact dropF hkk (Fz_tu2 (.nil _) (.same _)) (by simp [Bel_tu, Bel_d])
    have e2 : (colsFault (opCols o (inAt out o.inn 0) (inAt out o.inn 1)).2 = 0) = True := eq_true hf
    rw [if_pos hf] at hq
    have hs8 := colsFault_short hf
    have htx := texts1_A (opCols o (inAt out o.inn 0) (inAt out o.inn 1)).2 hb2 (by omega)
    repeat' (first | with_reducible (first | refine And.intro ?_ ?_ | intro _ | refine AWp_seq ?_ | refine AWp_block ?_ | (refine hKv _ _ (AWp_nop ?_); clear hKv Kv) | (refine hKA ?_; clear hKA hKB KA KB) | (refine hKB ?_; clear hKA hKB KA KB) | refine AWp_skipN ?_ | refine AWp_exitO (by repeat (first | exact Out.hit | apply Out.thenA | apply Out.out rfl)) ?_) | ((first | with_reducible (first | (refine hKv _ _ ?_; clear hKv Kv) | ((first | refine AWp_regC mu_7 ks_7 ?_ | refine AWp_draw nd_7 mu_7 ks_7 ti_mixed (by kernel_rfl) ?_ | refine AWp_regE mu_7 ks_7 ?_ | refine AWp_drawE nd_7 mu_7 ks_7 ti_mixed (by kernel_rfl) ?_); intro Kv hKv) | refine AWp_retR ?_) | refine hoc _ _ ?_ | refine QCall_of (hoc _ _ (Two_intro _ _)) ?_ | refine hcf _ _ ?_ | refine QCall_of (hcf _ _ (Two_intro _ _)) ?_ | refine htx _ _ ?_ | refine QCall_of (htx _ _ (Two_intro _ _)) ?_); try simp (dsimp := false) only [go_sem, Nat.reduceAdd, Nat.reduceBEq, Nat.reduceEqDiff, Nat.reduceLT, Nat.reduceLeDiff, Nat.reduceMul, Int.reduceToNat, reduceCtorEq, ↓reduceIte, Tryd.ntmps7, Tryd.results7, ks_7, mu_7, nd_7, ti_ag3, ti_ag47, ti_ag48, ti_ag53, ti_fl53_0, ti_fl53_1, ti_hb17, ti_hb18, ti_hb19, ti_hb20, ti_hb21, ti_hb22, ti_sb23, ti_sb24, ti_sb47, ti_sl23, ti_sl24, ti_sl47, ti_sl48, ti_sz53, opD, opV, lsC, hin, i0, ho, hkin, hrows, hsl, e1, e2]) | (refine AWp_condC rfl ?_; intro KA KB hKA hKB; try simp only [onB_true, onB_false, onB_dec, onB_ndec, onB_not, onB_and, onB_or]) | (refine AWp_condA rfl ?_ ?_) | with_reducible (first | refine onB_of ?_ ?_ | rfl) | omega)
    all_goals first
      | omega
      | skip
    refine ⟨(out.length + 1, out ++ [(opCols o (inAt out o.inn 0) (inAt out o.inn 1)).2]), [.row (o.inn.length + 1) 48 1 ([va] :: [vb] :: rest)], ⟨by simp only; omega, by simp, fun l hl => ?_, ?_⟩, by simp only; omega, ?_, rfl, by omega, by simp⟩
    · rcases List.mem_append.1 hl with hl | hl
      · exact hok l hl
      · rw [List.mem_singleton.1 hl]; exact OkC_of hf
    · rw [planQ_next ho, if_pos (by rw [hq]; exact he), hq] at hpl
      exact hpl
    · simp [lsC]
  have hol : out.length = p.length := by omega
  have hne : out ≠ [] := by intro e; subst e; simp at hol; omega
  have hin : ((out.length : Int) < (p.length : Int)) = False := eq_false (by omega)
  rw [hol, planQ_end] at hpl
  obtain ⟨last, hlast⟩ : ∃ l, out[out.length - 1]? = some l := ⟨out[out.length - 1]'(by omega), List.getElem?_eq_getElem (by omega)⟩
  have hg : out.getLastD [] = last := by
    rw [List.getLastD_eq_getLast?, List.getLast?_eq_getElem?, hlast]; rfl
  have okl := hok last (List.mem_of_getElem? hlast)
  have v1 : ((out.length : Int) - 1).toNat = out.length - 1 := by omega
  have v2 : ((0 : Int) ≤ (out.length : Int) - 1) = True := eq_true (by omega)
  have v3 : ((out.length : Int) - 1 < (out.length : Int)) = True := eq_true (by omega)
  have hh : ∀ x, out[out.length - 1]? = some x → ∀ (H : Heap) (K : V → Heap → Prop), K (.d (.b (hasQ last [sPos, sItem]))) H → ACalls Tryd.prog 22 [.d (.sl 1 (x.map strRow)), .d (.sl 1 ([sPos, sItem].map strRow))] H K := fun x hx H K hk => by
    obtain rfl : last = x := Option.some.inj (hlast.symm.trans hx)
    exact allThere_A last [sPos, sItem] okl.len (by decide) H K hk
  have hcq : columnsQ p = if hasQ last [sPos, sItem] = true then (0, out) else (9, []) := by
    rw [columnsQ, if_neg hbig, if_neg hnil, ← hpl, if_pos rfl, hg]
  rw [hcq] at hk
  cases hc : hasQ last [sPos, sItem] with
  | true =>
    rw [hc] at hh hk
    rw [if_pos rfl, colsR] at hk
    repeat' (first | with_reducible (first | refine And.intro ?_ ?_ | intro _ | refine AWp_seq ?_ | refine AWp_block ?_ | (refine hKv _ _ (AWp_nop ?_); clear hKv Kv) | (refine hKA ?_; clear hKA hKB KA KB) | (refine hKB ?_; clear hKA hKB KA KB) | refine AWp_skipN ?_ | refine AWp_exitO (by repeat (first | exact Out.hit | apply Out.thenA | apply Out.out rfl)) ?_) | ((first | with_reducible (first | (refine hKv _ _ ?_; clear hKv Kv) | ((first | refine AWp_regC mu_7 ks_7 ?_ | refine AWp_draw nd_7 mu_7 ks_7 ti_mixed (by kernel_rfl) ?_ | refine AWp_regE mu_7 ks_7 ?_ | refine AWp_drawE nd_7 mu_7 ks_7 ti_mixed (by kernel_rfl) ?_); intro Kv hKv) | refine AWp_retR ?_) | refine hh _ (by assumption) _ _ ?_ | refine QCall_of (hh _ (by assumption) _ _ (Two_intro _ _)) ?_); try simp (dsimp := false) only [go_sem, Nat.reduceAdd, Nat.reduceBEq, Nat.reduceEqDiff, Nat.reduceLT, Nat.reduceLeDiff, Nat.reduceMul, Int.reduceToNat, reduceCtorEq, ↓reduceIte, Tryd.ntmps7, Tryd.results7, ks_7, mu_7, nd_7, ti_ag3, ti_ag47, ti_ag48, ti_ag53, ti_fl53_0, ti_fl53_1, ti_hb17, ti_hb18, ti_hb19, ti_hb20, ti_hb21, ti_hb22, ti_sb23, ti_sb24, ti_sb47, ti_sl23, ti_sl24, ti_sl47, ti_sl48, ti_sz53, opD, sPos, sItem, lsC, hin, v1, v2, v3]) | (refine AWp_condC rfl ?_; intro KA KB hKA hKB; try simp only [onB_true, onB_false, onB_dec, onB_ndec, onB_not, onB_and, onB_or]) | (refine AWp_condA rfl ?_ ?_) | with_reducible (first | refine onB_of ?_ ?_ | rfl) | omega)
    all_goals first
      | omega
      | (refine dropF hk (Fz_tu2 ?_ (.same _)) ?_
         · exact .os _ _ 48 1 _ _ (by omega) (get_app0 _ _) (lsC_data _)
         · simp [Bel_tu, Bel_d])
  | false =>
    rw [hc] at hh hk
    rw [if_neg (by decide), colsR, List.map_nil] at hk
    repeat' (first | with_reducible (first | refine And.intro ?_ ?_ | intro _ | refine AWp_seq ?_ | refine AWp_block ?_ | (refine hKv _ _ (AWp_nop ?_); clear hKv Kv) | (refine hKA ?_; clear hKA hKB KA KB) | (refine hKB ?_; clear hKA hKB KA KB) | refine AWp_skipN ?_ | refine AWp_exitO (by repeat (first | exact Out.hit | apply Out.thenA | apply Out.out rfl)) ?_) | ((first | with_reducible (first | (refine hKv _ _ ?_; clear hKv Kv) | ((first | refine AWp_regC mu_7 ks_7 ?_ | refine AWp_draw nd_7 mu_7 ks_7 ti_mixed (by kernel_rfl) ?_ | refine AWp_regE mu_7 ks_7 ?_ | refine AWp_drawE nd_7 mu_7 ks_7 ti_mixed (by kernel_rfl) ?_); intro Kv hKv) | refine AWp_retR ?_) | refine hh _ (by assumption) _ _ ?_ | refine QCall_of (hh _ (by assumption) _ _ (Two_intro _ _)) ?_); try simp (dsimp := false) only [go_sem, Nat.reduceAdd, Nat.reduceBEq, Nat.reduceEqDiff, Nat.reduceLT, Nat.reduceLeDiff, Nat.reduceMul, Int.reduceToNat, reduceCtorEq, ↓reduceIte, Tryd.ntmps7, Tryd.results7, ks_7, mu_7, nd_7, ti_ag3, ti_ag47, ti_ag48, ti_ag53, ti_fl53_0, ti_fl53_1, ti_hb17, ti_hb18, ti_hb19, ti_hb20, ti_hb21, ti_hb22, ti_sb23, ti_sb24, ti_sb47, ti_sl23, ti_sl24, ti_sl47, ti_sl48, ti_sz53, opD, sPos, sItem, lsC, hin, v1, v2, v3]) | (refine AWp_condC rfl ?_; intro KA KB hKA hKB; try simp only [onB_true, onB_false, onB_dec, onB_ndec, onB_not, onB_and, onB_or]) | (refine AWp_condA rfl ?_ ?_) | with_reducible (first | refine onB_of ?_ ?_ | rfl) | omega)
    all_goals first
      | omega
      | exact dropF hk (Fz_tu2 (.nil _) (.same _)) (by simp [Bel_tu, Bel_d])
end Go.Proofs.YtppalmoicjogaaaDoor
