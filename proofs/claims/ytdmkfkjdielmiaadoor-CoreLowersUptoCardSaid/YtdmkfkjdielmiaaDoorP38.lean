/- Lowering: the lowerer, its tuples: a loop without an order. No condition but that the tables of package unicode/utf8 and of the core's functions are there. -/
import Derived.Test.YtdmkfkjdielmiaaDoorP19
import Derived.Test.YtdmkfkjdielmiaaDoorP37
set_option linter.all false
set_option linter.unusedSimpArgs false
set_option linter.unusedVariables false
namespace Go.Proofs.YtdmkfkjdielmiaaDoor
open Go Go.Proofs.YtdmkfkjdielmiaaDoor.Ab
variable [Glo] [U8] [CAr]
set_option maxHeartbeats 4000000
set_option maxRecDepth 20000
open FN141 in
theorem tupF_A {f : Ph → Sc → Int → Ex × Int} {id B : Nat} (hf : LowAt f id B) (L rest : List Cl) (c : Cl) (hL : L = c :: rest) (hR : TupAt f id B rest) (b : Nat) (p : Ph) (key : Bool) (sc : Sc) (flt : Int) (H : Heap) (K : V → Heap → Prop) (hT : TLow B b L p sc) (hr : H[id]? = some (lwC flt))
    (hk : K (exW (tupP f L p key sc flt).1) (H.set id (lwC (tupP f L p key sc flt).2))) (hk2 : c.c.k ≠ 2) (hk3 : c.c.k ≠ 3) (hk4 : c.c.k ≠ 4) (hlast : (rest.getLastD c).c.k ≠ 4) :
    ACalls Tryd.prog 141 [.pt id 0 0 0, .d (.sl 15 (L.map clD)), phW p.h p.args p.cls, .d (.b key), .d (.sl 1 (sc.map strRow))] H K := by
  have hid := lt_of_get hr
  obtain ⟨ga, sa, gs, ss, gsa, ssa, gl0, glk, sl0, slk⟩ := atH hr
  have hlen := hT.len
  have hmem : c ∈ L := by rw [hL]; exact .head _
  have x0 : L[0]? = some c := by rw [hL]; rfl
  have xd : List.drop 1 (List.take L.length (L.map clD)) = rest.map clD := by rw [List.take_of_length_le (by simp), hL]; rfl
  have hll : L.length = rest.length + 1 := by rw [hL]; rfl
  have xl : ((L.length : Int) = 0) = False := eq_false (by omega)
  have o1 := (hT.cls c hmem).2.2.1
  have o2 := (hT.cls c hmem).2.2.2
  have hscl := hT.sc
  have hx := fun G K hk => hf.app (hT.clow hmem) hr G K hk
  rw [hL, tupP] at hk
  rw [hL] at hT
  have k2 : (c.c.k = 2) = False := eq_false (by omega)
  have k3 : (c.c.k = 3) = False := eq_false (by omega)
  have k4 : (c.c.k = 4) = False := eq_false (by omega)
  rw [if_neg hk3, if_neg hk2, if_neg hk4, if_pos hlast] at hk
  obtain ⟨d, hd⟩ : ∃ d, rest.getLastD c = d := ⟨_, rfl⟩
  rw [hd] at hlast
  have xq : L[L.length - 1]? = some d := by
    rw [← hd, hL]
    cases rest with
    | nil => rfl
    | cons e r => rw [List.getLastD_eq_getLast?, List.getLast?_eq_getElem?]; simp
  have kd : (d.c.k = 4) = False := eq_false hlast
  have v1 : ((L.length : Int) - 1).toNat = L.length - 1 := by omega
  have v2 : ((0 : Int) ≤ (L.length : Int) - 1) = True := eq_true (by omega)
  have v3 : ((L.length : Int) - 1 < (L.length : Int)) = True := eq_true (by omega)
  by_cases h0 : c.c.at_ = []
  · have i0 : (c.c.at_ = []) = True := eq_true h0
    have hin : innerQ c.c sc = sc ++ [c.c.nm] := by rw [innerQ, if_pos h0]
    rw [hin] at hk
    have ht := fun G K hk => hR.set (hT.rest (sc' := sc ++ [c.c.nm]) (by simp)) key hr (f c.x sc flt).2 G K hk
    have hwi := with_A sc [c.c.nm] (by omega) (by simp)
    rw [phW] at ht
    rw [phW] at hx
    have hlo := loop_A c.c.nm c.c.at_ (f c.x sc flt).1 (tupP f rest p key (sc ++ [c.c.nm]) (f c.x sc flt).2).1
    simp only [exW, exV] at hlo
    refine We ?_
    have c21 := hx; have c22 := hwi; have c23 := ht; have c24 := hlo; have us := an x0 (an xd (an xl (an k2 (an k3 (an k4 (an i0 (an kd (an xq (an v1 (an v2 v3))))))))))
    exact W71
  · have i0 : (c.c.at_ = []) = False := eq_false h0
    have hin : innerQ c.c sc = sc ++ [c.c.nm, c.c.at_] := by rw [innerQ, if_neg h0]
    rw [hin] at hk
    have ht := fun G K hk => hR.set (hT.rest (sc' := sc ++ [c.c.nm, c.c.at_]) (by simp)) key hr (f c.x sc flt).2 G K hk
    have hwi := withO_A sc [c.c.nm] (by omega) (by simp)
    have h34 : H.length + 3 + 1 = H.length + 4 := rfl
    have hds : dsRows ((sc.map strRow).map (fun r => r.map V.d) ++ [[V.d (.s c.c.nm)], [V.d (.s c.c.at_)]]) = some ((sc ++ [c.c.nm, c.c.at_]).map strRow) := strs_cells sc [c.c.nm, c.c.at_]
    rw [phW] at ht
    rw [phW] at hx
    have hlo := loop_A c.c.nm c.c.at_ (f c.x sc flt).1 (tupP f rest p key (sc ++ [c.c.nm, c.c.at_]) (f c.x sc flt).2).1
    simp only [exW, exV] at hlo
    refine We ?_
    have c21 := hx; have c22 := hwi; have c23 := ht; have c24 := hlo; have us := an x0 (an xd (an xl (an k2 (an k3 (an k4 (an i0 (an kd (an xq (an v1 (an v2 (an v3 (an hds h34))))))))))))
    exact W71
end Go.Proofs.YtdmkfkjdielmiaaDoor
namespace Go.Proofs.YtdmkfkjdielmiaaDoor
open Go Go.Proofs.YtdmkfkjdielmiaaDoor.Ab
variable [Glo] [U8] [CAr]
set_option maxHeartbeats 4000000
set_option maxRecDepth 20000
theorem TLow.last {B b : Nat} {c : Cl} {L : List Cl} {p : Ph} {sc sc' : Sc} (h : TLow B b (c :: L) p sc) {d : Cl} (hd : d ∈ c :: L) (hs : sc'.length ≤ sc.length + 2) : TLow B b L d.x sc' :=
  ⟨h.le, fun d hd => h.cls d (.tail _ hd), (h.cls d hd).1, (h.cls d hd).2.1, by have := h.len; rw [List.length_cons] at this; omega, by have := h.sc; rw [List.length_cons] at this; omega⟩
theorem getLastD_in {c : Cl} : ∀ {l : List Cl}, l.getLastD c ∈ c :: l
  | [] => .head _
  | e :: r => .tail _ (by rw [List.getLastD_cons]; exact getLastD_in)
open FN141 in
theorem tupS_A {f : Ph → Sc → Int → Ex × Int} {id B : Nat} (hf : LowAt f id B) (L rest : List Cl) (c : Cl) (hL : L = c :: rest) (hR : TupAt f id B rest) (b : Nat) (p : Ph) (key : Bool) (sc : Sc) (flt : Int) (H : Heap) (K : V → Heap → Prop) (hT : TLow B b L p sc) (hr : H[id]? = some (lwC flt))
    (hk : K (exW (tupP f L p key sc flt).1) (H.set id (lwC (tupP f L p key sc flt).2))) (hk2 : c.c.k ≠ 2) (hk3 : c.c.k ≠ 3) (hk4 : c.c.k ≠ 4) (hlast : (rest.getLastD c).c.k = 4) :
    ACalls Tryd.prog 141 [.pt id 0 0 0, .d (.sl 15 (L.map clD)), phW p.h p.args p.cls, .d (.b key), .d (.sl 1 (sc.map strRow))] H K := by
  have hid := lt_of_get hr
  obtain ⟨ga, sa, gs, ss, gsa, ssa, gl0, glk, sl0, slk⟩ := atH hr
  have hlen := hT.len
  have hmem : c ∈ L := by rw [hL]; exact .head _
  have x0 : L[0]? = some c := by rw [hL]; rfl
  have xd : List.drop 1 (List.take L.length (L.map clD)) = rest.map clD := by rw [List.take_of_length_le (by simp), hL]; rfl
  have hll : L.length = rest.length + 1 := by rw [hL]; rfl
  have xl : ((L.length : Int) = 0) = False := eq_false (by omega)
  have o1 := (hT.cls c hmem).2.2.1
  have o2 := (hT.cls c hmem).2.2.2
  have hscl := hT.sc
  have hx := fun G K hk => hf.app (hT.clow hmem) hr G K hk
  rw [hL, tupP] at hk
  rw [hL] at hT
  have k2 : (c.c.k = 2) = False := eq_false (by omega)
  have k3 : (c.c.k = 3) = False := eq_false (by omega)
  have k4 : (c.c.k = 4) = False := eq_false (by omega)
  rw [if_neg hk3, if_neg hk2, if_neg hk4, if_neg (fun e => e hlast)] at hk
  have hdm : rest.getLastD c ∈ c :: rest := getLastD_in
  obtain ⟨d, hd⟩ : ∃ d, rest.getLastD c = d := ⟨_, rfl⟩
  rw [hd] at hlast hk hdm
  have xq : L[L.length - 1]? = some d := by
    rw [← hd, hL]
    cases rest with
    | nil => rfl
    | cons e r => rw [List.getLastD_eq_getLast?, List.getLast?_eq_getElem?]; simp
  have kd : (d.c.k = 4) = True := eq_true hlast
  have v1 : ((L.length : Int) - 1).toNat = L.length - 1 := by omega
  have v2 : ((0 : Int) ≤ (L.length : Int) - 1) = True := eq_true (by omega)
  have v3 : ((L.length : Int) - 1 < (L.length : Int)) = True := eq_true (by omega)
  by_cases h0 : c.c.at_ = []
  · have i0 : (c.c.at_ = []) = True := eq_true h0
    have hin : innerQ c.c sc = sc ++ [c.c.nm] := by rw [innerQ, if_pos h0]
    rw [hin] at hk
    have ht1 := fun G K hk => hR.set (hT.last (sc' := sc ++ [c.c.nm]) hdm (by simp)) true hr (f c.x sc flt).2 G K hk
    have ht2 := fun G K hk => hR.set (hT.rest (sc' := sc ++ [c.c.nm]) (by simp)) false hr (tupP f rest d.x true (sc ++ [c.c.nm]) (f c.x sc flt).2).2 G K hk
    have hwi := with_A sc [c.c.nm] (by omega) (by simp)
    rw [phW] at ht1 ht2
    rw [phW] at hx
    cases hdn : d.c.down with
    | true =>
      rw [hdn, if_pos rfl] at hk
      refine We ?_
      have c21 := hx; have c22 := hwi; have c23 := ht1; have c24 := ht2; have us := an x0 (an xd (an xl (an k2 (an k3 (an k4 (an i0 (an kd (an xq (an v1 (an v2 (an v3 hdn)))))))))))
      exact W71
    | false =>
      rw [hdn, if_neg (by decide)] at hk
      refine We ?_
      have c21 := hx; have c22 := hwi; have c23 := ht1; have c24 := ht2; have us := an x0 (an xd (an xl (an k2 (an k3 (an k4 (an i0 (an kd (an xq (an v1 (an v2 (an v3 hdn)))))))))))
      exact W71
  · have i0 : (c.c.at_ = []) = False := eq_false h0
    have hin : innerQ c.c sc = sc ++ [c.c.nm, c.c.at_] := by rw [innerQ, if_neg h0]
    rw [hin] at hk
    have ht1 := fun G K hk => hR.set (hT.last (sc' := sc ++ [c.c.nm, c.c.at_]) hdm (by simp)) true hr (f c.x sc flt).2 G K hk
    have ht2 := fun G K hk => hR.set (hT.rest (sc' := sc ++ [c.c.nm, c.c.at_]) (by simp)) false hr (tupP f rest d.x true (sc ++ [c.c.nm, c.c.at_]) (f c.x sc flt).2).2 G K hk
    have hwi := withO_A sc [c.c.nm] (by omega) (by simp)
    rw [phW] at ht1 ht2
    rw [phW] at hx
    have h34 : H.length + 3 + 1 = H.length + 4 := rfl
    have hds : dsRows ((sc.map strRow).map (fun r => r.map V.d) ++ [[V.d (.s c.c.nm)], [V.d (.s c.c.at_)]]) = some ((sc ++ [c.c.nm, c.c.at_]).map strRow) := strs_cells sc [c.c.nm, c.c.at_]
    cases hdn : d.c.down with
    | true =>
      rw [hdn, if_pos rfl] at hk
      refine We ?_
      repeat' (first | (refine AWp_frz (H.length + 4) ((glk _ _ 4).trans rfl) hds ?_; simp only [frz, frzV, List.map_cons, List.map_nil, slk, List.set_cons_zero, List.set_cons_succ, and_self, if_true]) | with_reducible (first | refine And.intro ?_ ?_ | intro _ | refine AWp_seq ?_ | refine AWp_block ?_ | (refine hKv _ _ (AWp_nop ?_); clear hKv Kv) | (refine hKA ?_; clear hKA hKB KA KB) | (refine hKB ?_; clear hKA hKB KA KB) | refine AWp_skipN ?_ | refine AWp_exitO (by repeat (first | exact Out.hit | apply Out.thenA | apply Out.out rfl)) ?_) | ((first | with_reducible (first | (refine hKv _ _ ?_; clear hKv Kv) | ((first | refine AWp_regC tmu tks ?_ | refine AWp_drawT txt tmu tks (by decide) ti_mixed (by kernel_rfl) ?_ | refine AWp_drawV txv tmu tks (by decide) ti_mixed (by kernel_rfl) ?_ | refine AWp_regE tmu tks ?_); intro Kv hKv) | refine AWp_retR ?_) | refine hx _ _ ?_ | refine QCall_of (hx _ _ (Two_intro _ _)) ?_ | refine ECall_of (hx _ _ (Two_intro _ _)) ?_ | refine hwi _ _ ?_ | refine QCall_of (hwi _ _ (Two_intro _ _)) ?_ | refine ECall_of (hwi _ _ (Two_intro _ _)) ?_ | refine ht1 _ _ ?_ | refine QCall_of (ht1 _ _ (Two_intro _ _)) ?_ | refine ECall_of (ht1 _ _ (Two_intro _ _)) ?_ | refine ht2 _ _ ?_ | refine QCall_of (ht2 _ _ (Two_intro _ _)) ?_ | refine ECall_of (ht2 _ _ (Two_intro _ _)) ?_); try simp (dsimp := false) only [go_sem, Nat.reduceAdd, Nat.reduceBEq, Nat.reduceEqDiff, Nat.reduceLT, Nat.reduceLeDiff, Nat.reduceMul, Int.reduceToNat, reduceCtorEq, ↓reduceIte, not_true_eq_false, not_false_eq_true, Bool.true_and, Bool.false_and, Int.reduceEq, Int.reduceLT, Int.reduceLE, Int.reduceNeg, List.map_cons, List.map_nil, List.length_set, exW, exV, clD_1, phD_1, lwC, hid, ga, sa, gs, ss, gsa, ssa, gl0, glk, sl0, slk, x0, xd, xl, k2, k3, k4, phW, strRow, i0, kd, xq, v1, v2, v3, hdn, hds, h34]) | (refine AWp_condC rfl ?_; intro KA KB hKA hKB; try simp only [onB_true, onB_false, onB_dec, onB_ndec, onB_not, onB_and, onB_or]) | (refine AWp_condA rfl ?_ ?_) | with_reducible (first | refine onB_of ?_ ?_ | rfl) | omega)
      all_goals first
        | omega
        | exact dropSe hk (by simp) (closed_set (closed_self H) (lwC_bel _ _)) (exW_bel _ _) rfl
        | exact dropSe hk (by simp) (closed_set (closed_self H) (lwC_bel _ _)) (exW_bel _ _) (by simp [exW, exV, eNone, eVar, eCall, eLit, eRoot, eSeq, eIf, ifE, eMake, makeE, eStep, exD_1, Ex.h, Ex.args, xh0, eLet, eFor, eSorted])
        | exact dropSF hk (by simp) (closed_set (closed_self H) (lwC_bel _ _)) (Fz_ex (.nil _)) (exW_bel _ _)
        | exact dropK hk (exW_bel _ _) rfl
        | exact dropF hk (Fz_ex (.nil _)) (exW_bel _ _)
    | false =>
      rw [hdn, if_neg (by decide)] at hk
      refine We ?_
      repeat' (first | (refine AWp_frz (H.length + 4) ((glk _ _ 4).trans rfl) hds ?_; simp only [frz, frzV, List.map_cons, List.map_nil, slk, List.set_cons_zero, List.set_cons_succ, and_self, if_true]) | with_reducible (first | refine And.intro ?_ ?_ | intro _ | refine AWp_seq ?_ | refine AWp_block ?_ | (refine hKv _ _ (AWp_nop ?_); clear hKv Kv) | (refine hKA ?_; clear hKA hKB KA KB) | (refine hKB ?_; clear hKA hKB KA KB) | refine AWp_skipN ?_ | refine AWp_exitO (by repeat (first | exact Out.hit | apply Out.thenA | apply Out.out rfl)) ?_) | ((first | with_reducible (first | (refine hKv _ _ ?_; clear hKv Kv) | ((first | refine AWp_regC tmu tks ?_ | refine AWp_drawT txt tmu tks (by decide) ti_mixed (by kernel_rfl) ?_ | refine AWp_drawV txv tmu tks (by decide) ti_mixed (by kernel_rfl) ?_ | refine AWp_regE tmu tks ?_); intro Kv hKv) | refine AWp_retR ?_) | refine hx _ _ ?_ | refine QCall_of (hx _ _ (Two_intro _ _)) ?_ | refine ECall_of (hx _ _ (Two_intro _ _)) ?_ | refine hwi _ _ ?_ | refine QCall_of (hwi _ _ (Two_intro _ _)) ?_ | refine ECall_of (hwi _ _ (Two_intro _ _)) ?_ | refine ht1 _ _ ?_ | refine QCall_of (ht1 _ _ (Two_intro _ _)) ?_ | refine ECall_of (ht1 _ _ (Two_intro _ _)) ?_ | refine ht2 _ _ ?_ | refine QCall_of (ht2 _ _ (Two_intro _ _)) ?_ | refine ECall_of (ht2 _ _ (Two_intro _ _)) ?_); try simp (dsimp := false) only [go_sem, Nat.reduceAdd, Nat.reduceBEq, Nat.reduceEqDiff, Nat.reduceLT, Nat.reduceLeDiff, Nat.reduceMul, Int.reduceToNat, reduceCtorEq, ↓reduceIte, not_true_eq_false, not_false_eq_true, Bool.true_and, Bool.false_and, Int.reduceEq, Int.reduceLT, Int.reduceLE, Int.reduceNeg, List.map_cons, List.map_nil, List.length_set, exW, exV, clD_1, phD_1, lwC, hid, ga, sa, gs, ss, gsa, ssa, gl0, glk, sl0, slk, x0, xd, xl, k2, k3, k4, phW, strRow, i0, kd, xq, v1, v2, v3, hdn, hds, h34]) | (refine AWp_condC rfl ?_; intro KA KB hKA hKB; try simp only [onB_true, onB_false, onB_dec, onB_ndec, onB_not, onB_and, onB_or]) | (refine AWp_condA rfl ?_ ?_) | with_reducible (first | refine onB_of ?_ ?_ | rfl) | omega)
      all_goals first
        | omega
        | exact dropSe hk (by simp) (closed_set (closed_self H) (lwC_bel _ _)) (exW_bel _ _) rfl
        | exact dropSe hk (by simp) (closed_set (closed_self H) (lwC_bel _ _)) (exW_bel _ _) (by simp [exW, exV, eNone, eVar, eCall, eLit, eRoot, eSeq, eIf, ifE, eMake, makeE, eStep, exD_1, Ex.h, Ex.args, xh0, eLet, eFor, eSorted])
        | exact dropSF hk (by simp) (closed_set (closed_self H) (lwC_bel _ _)) (Fz_ex (.nil _)) (exW_bel _ _)
        | exact dropK hk (exW_bel _ _) rfl
        | exact dropF hk (Fz_ex (.nil _)) (exW_bel _ _)
end Go.Proofs.YtdmkfkjdielmiaaDoor
namespace Go.Proofs.YtdmkfkjdielmiaaDoor
open Go Go.Proofs.YtdmkfkjdielmiaaDoor.Ab
variable [Glo] [U8] [CAr]
set_option maxHeartbeats 4000000
set_option maxRecDepth 20000
open FN141 in
theorem tup_A {f : Ph → Sc → Int → Ex × Int} {id B : Nat} (hf : LowAt f id B) : ∀ L : List Cl, TupAt f id B L
  | [] => fun b p key sc flt H K hT hr hk => by
    have hid := lt_of_get hr
    obtain ⟨ga, sa, gs, ss, gsa, ssa, gl0, glk, sl0, slk⟩ := atH hr
    have hx := fun G K hk => hf.app hT.plow hr G K hk
    rw [phW] at hx
    rw [phW]
    rw [tupP] at hk
    have x0 := hT.sc
    have xd := hT.sc
    have xl := hT.sc
    refine We ?_
    have c21 := hx; have us := an x0 (an xd xl)
    exact W72
  | c :: rest => fun b p key sc flt H K hT hr hk => by
    have hR := tup_A hf rest
    by_cases h3 : c.c.k = 3
    · exact tup3_A hf _ rest c rfl hR b p key sc flt H K hT hr hk h3
    by_cases h4 : c.c.k = 4
    · exact tup4_A hf _ rest c rfl hR b p key sc flt H K hT hr hk h4
    by_cases h2 : c.c.k = 2
    · exact tup2_A hf _ rest c rfl hR b p key sc flt H K hT hr hk h2
    by_cases hl : (rest.getLastD c).c.k = 4
    · exact tupS_A hf _ rest c rfl hR b p key sc flt H K hT hr hk h2 h3 h4 hl
    · exact tupF_A hf _ rest c rfl hR b p key sc flt H K hT hr hk h2 h3 h4 hl
end Go.Proofs.YtdmkfkjdielmiaaDoor
namespace Go.Proofs.YtdmkfkjdielmiaaDoor
open Go Go.Proofs.YtdmkfkjdielmiaaDoor.Ab
variable [Glo] [U8] [CAr]
set_option maxHeartbeats 4000000
set_option maxRecDepth 20000
open FN15 in
theorem lowerB_A {f : Ph → Sc → Int → Ex × Int} {id B : Nat} (hf : LowAt f id B) (h : Phh) (l : List Ph) (c : List Cl) (ok : PhhOk h) (hl : l.length ≤ 1048576) (sc : Sc) (flt : Int) (hflt : flt ≠ 0) (H : Heap) (K : V → Heap → Prop) (hr : H[id]? = some (lwC flt))
    (hk : K (exW (lowP1 f h l c sc flt).1) (H.set id (lwC (lowP1 f h l c sc flt).2))) :
    ACalls Tryd.prog 15 [.pt id 0 0 0, phW h l c, .d (.sl 1 (sc.map strRow))] H K := by
  have hid := lt_of_get hr
  obtain ⟨ga, sa, gs, ss, gsa, ssa, gl0, glk, sl0, slk⟩ := atH hr
  have hsm := lw_keep hr
  have i1 : (flt = 0) = False := eq_false hflt
  rw [lowP1, if_pos hflt, hsm] at hk
  have hn := nothing_A
  refine We ?_
  have c21 := hn; have us := i1
  exact W73
open FN15 in
theorem lowerF_A {f : Ph → Sc → Int → Ex × Int} {id B : Nat} (hf : LowAt f id B) (h : Phh) (l : List Ph) (c : List Cl) (ok : PhhOk h) (hl : l.length ≤ 1048576) (sc : Sc) (hform : formQ h.k l.length ≠ 0) (H : Heap) (K : V → Heap → Prop) (hr : H[id]? = some (lwC 0))
    (hk : K (exW (lowP1 f h l c sc 0).1) (H.set id (lwC (lowP1 f h l c sc 0).2))) :
    ACalls Tryd.prog 15 [.pt id 0 0 0, phW h l c, .d (.sl 1 (sc.map strRow))] H K := by
  have hid := lt_of_get hr
  obtain ⟨ga, sa, gs, ss, gsa, ssa, gl0, glk, sl0, slk⟩ := atH hr
  have hsm := lw_keep hr
  have hz : ((0 : Int) = 0) = True := eq_true rfl
  have i1 : (formQ h.k l.length = 0) = False := eq_false hform
  have hF := form_A h l c hl
  have hw := fun e G K hk => wrong_A id e 0 (H ++ G) K (ga G) hk
  rw [lowP1, if_neg (nn (x := (0 : Int)) rfl), if_pos hform] at hk
  rw [phW] at hF
  refine We ?_
  have c21 := hF; have c31 := hw; have us := i1
  exact W74
end Go.Proofs.YtdmkfkjdielmiaaDoor
namespace Go.Proofs.YtdmkfkjdielmiaaDoor
open Go Go.Proofs.YtdmkfkjdielmiaaDoor.Ab
variable [Glo] [U8] [CAr]
set_option maxHeartbeats 4000000
set_option maxRecDepth 20000
open FN15 in
theorem lower1_A {f : Ph → Sc → Int → Ex × Int} {id B : Nat} (hf : LowAt f id B) (h : Phh) (l : List Ph) (c : List Cl) (hkind : h.k = 1) (ok : PhhOk h) (hl : l.length ≤ 1048576) (sc : Sc) (hsc : sc.length ≤ 10000000) (hp : ∀ p, p ∈ l → PLow B p sc) (hform : formQ h.k l.length = 0) (H : Heap) (K : V → Heap → Prop) (hr : H[id]? = some (lwC 0))
    (hk : K (exW (lowP1 f h l c sc 0).1) (H.set id (lwC (lowP1 f h l c sc 0).2))) :
    ACalls Tryd.prog 15 [.pt id 0 0 0, phW h l c, .d (.sl 1 (sc.map strRow))] H K := by
  have hid := lt_of_get hr
  obtain ⟨ga, sa, gs, ss, gsa, ssa, gl0, glk, sl0, slk⟩ := atH hr
  have hsm := lw_keep hr
  have o1 := ok.it
  have o2 := ok.nm
  have o3 := ok.tn
  have hz : ((0 : Int) = 0) = True := eq_true rfl
  have hF := form_A h l c hl
  rw [hform, phW_k hkind] at hF
  have hw := fun e G K hk => wrong_A id e 0 (H ++ G) K (ga G) hk
  rw [lowP1, if_neg (nn (x := (0 : Int)) rfl), if_neg (nn hform)] at hk
  rw [phW_k hkind]
  rw [if_pos hkind] at hk
  have hi := checkItem_A h.it (by omega)
  by_cases h1 : itemFault h.it = 0
  · have i1 : (itemFault h.it = 0) = True := eq_true h1
    by_cases h2 : h.it.k = 1
    · have i2 : (h.it.k = 1) = True := eq_true h2
      rw [if_pos (.inr h2)] at hk
      refine We ?_
      have c21 := hF; have c22 := hi; have c31 := hw; have us := an i1 i2
      exact W75
    · have i2 : (h.it.k = 1) = False := eq_false h2
      rw [if_neg (by simp [h1, h2]), hsm] at hk
      refine We ?_
      have c21 := hF; have c22 := hi; have c31 := hw; have us := an i1 i2
      exact W75
  · have i1 : (itemFault h.it = 0) = False := eq_false h1
    rw [if_pos (.inl h1)] at hk
    refine We ?_
    have c21 := hF; have c22 := hi; have c31 := hw; have us := i1
    exact W75
end Go.Proofs.YtdmkfkjdielmiaaDoor
namespace Go.Proofs.YtdmkfkjdielmiaaDoor
open Go Go.Proofs.YtdmkfkjdielmiaaDoor.Ab
variable [Glo] [U8] [CAr]
set_option maxHeartbeats 4000000
set_option maxRecDepth 20000
open FN15 in
theorem lower2_A {f : Ph → Sc → Int → Ex × Int} {id B : Nat} (hf : LowAt f id B) (h : Phh) (l : List Ph) (c : List Cl) (hkind : h.k = 2) (ok : PhhOk h) (hl : l.length ≤ 1048576) (sc : Sc) (hsc : sc.length ≤ 10000000) (hp : ∀ p, p ∈ l → PLow B p sc) (hform : formQ h.k l.length = 0) (H : Heap) (K : V → Heap → Prop) (hr : H[id]? = some (lwC 0))
    (hk : K (exW (lowP1 f h l c sc 0).1) (H.set id (lwC (lowP1 f h l c sc 0).2))) :
    ACalls Tryd.prog 15 [.pt id 0 0 0, phW h l c, .d (.sl 1 (sc.map strRow))] H K := by
  have hid := lt_of_get hr
  obtain ⟨ga, sa, gs, ss, gsa, ssa, gl0, glk, sl0, slk⟩ := atH hr
  have hsm := lw_keep hr
  have o1 := ok.it
  have o2 := ok.nm
  have o3 := ok.tn
  have hz : ((0 : Int) = 0) = True := eq_true rfl
  have hF := form_A h l c hl
  rw [hform, phW_k hkind] at hF
  have hw := fun e G K hk => wrong_A id e 0 (H ++ G) K (ga G) hk
  rw [lowP1, if_neg (nn (x := (0 : Int)) rfl), if_neg (nn hform)] at hk
  rw [phW_k hkind]
  rw [if_neg (by omega), if_pos hkind] at hk
  have hs := fun G K hk => seen_A id h.nm sc 0 (by omega) (H ++ G) K (ga G) hk
  refine We ?_
  have c21 := hF; have c22 := hs; have us := eq_self (0 : Nat)
  exact W75
end Go.Proofs.YtdmkfkjdielmiaaDoor
namespace Go.Proofs.YtdmkfkjdielmiaaDoor
open Go Go.Proofs.YtdmkfkjdielmiaaDoor.Ab
variable [Glo] [U8] [CAr]
set_option maxHeartbeats 4000000
set_option maxRecDepth 20000
open FN15 in
theorem lower11_A {f : Ph → Sc → Int → Ex × Int} {id B : Nat} (hf : LowAt f id B) (h : Phh) (l : List Ph) (c : List Cl) (hkind : h.k = 11) (ok : PhhOk h) (hl : l.length ≤ 1048576) (sc : Sc) (hsc : sc.length ≤ 10000000) (hp : ∀ p, p ∈ l → PLow B p sc) (hform : formQ h.k l.length = 0) (H : Heap) (K : V → Heap → Prop) (hr : H[id]? = some (lwC 0))
    (hk : K (exW (lowP1 f h l c sc 0).1) (H.set id (lwC (lowP1 f h l c sc 0).2))) :
    ACalls Tryd.prog 15 [.pt id 0 0 0, phW h l c, .d (.sl 1 (sc.map strRow))] H K := by
  have hid := lt_of_get hr
  obtain ⟨ga, sa, gs, ss, gsa, ssa, gl0, glk, sl0, slk⟩ := atH hr
  have hsm := lw_keep hr
  have o1 := ok.it
  have o2 := ok.nm
  have o3 := ok.tn
  have hz : ((0 : Int) = 0) = True := eq_true rfl
  have hF := form_A h l c hl
  rw [hform, phW_k hkind] at hF
  have hw := fun e G K hk => wrong_A id e 0 (H ++ G) K (ga G) hk
  rw [lowP1, if_neg (nn (x := (0 : Int)) rfl), if_neg (nn hform)] at hk
  rw [phW_k hkind]
  rw [if_neg (by omega), if_neg (by omega), if_neg (by omega), if_pos hkind] at hk
  rw [hsm] at hk
  refine We ?_
  have c21 := hF; have us := eq_self (0 : Nat)
  exact W75
end Go.Proofs.YtdmkfkjdielmiaaDoor
namespace Go.Proofs.YtdmkfkjdielmiaaDoor
open Go Go.Proofs.YtdmkfkjdielmiaaDoor.Ab
variable [Glo] [U8] [CAr]
set_option maxHeartbeats 4000000
set_option maxRecDepth 20000
open FN15 in
theorem lower27_A {f : Ph → Sc → Int → Ex × Int} {id B : Nat} (hf : LowAt f id B) (h : Phh) (l : List Ph) (c : List Cl) (hkind : h.k = 27) (ok : PhhOk h) (hl : l.length ≤ 1048576) (sc : Sc) (hsc : sc.length ≤ 10000000) (hp : ∀ p, p ∈ l → PLow B p sc) (hform : formQ h.k l.length = 0) (H : Heap) (K : V → Heap → Prop) (hr : H[id]? = some (lwC 0))
    (hk : K (exW (lowP1 f h l c sc 0).1) (H.set id (lwC (lowP1 f h l c sc 0).2))) :
    ACalls Tryd.prog 15 [.pt id 0 0 0, phW h l c, .d (.sl 1 (sc.map strRow))] H K := by
  have hid := lt_of_get hr
  obtain ⟨ga, sa, gs, ss, gsa, ssa, gl0, glk, sl0, slk⟩ := atH hr
  have hsm := lw_keep hr
  have o1 := ok.it
  have o2 := ok.nm
  have o3 := ok.tn
  have hz : ((0 : Int) = 0) = True := eq_true rfl
  have hF := form_A h l c hl
  rw [hform, phW_k hkind] at hF
  have hw := fun e G K hk => wrong_A id e 0 (H ++ G) K (ga G) hk
  rw [lowP1, if_neg (nn (x := (0 : Int)) rfl), if_neg (nn hform)] at hk
  rw [phW_k hkind]
  rw [if_neg (by omega), if_neg (by omega), if_pos hkind] at hk
  have hs := fun G K hk => seen_A id sDot sc 0 (by omega) (H ++ G) K (ga G) hk
  refine We ?_
  have c21 := hF; have c22 := hs; have us := eq_self (0 : Nat)
  exact W75
end Go.Proofs.YtdmkfkjdielmiaaDoor
namespace Go.Proofs.YtdmkfkjdielmiaaDoor
open Go Go.Proofs.YtdmkfkjdielmiaaDoor.Ab
variable [Glo] [U8] [CAr]
set_option maxHeartbeats 4000000
set_option maxRecDepth 20000
open FN15 in
theorem lower9_A {f : Ph → Sc → Int → Ex × Int} {id B : Nat} (hf : LowAt f id B) (h : Phh) (l : List Ph) (c : List Cl) (hkind : h.k = 9) (ok : PhhOk h) (hl : l.length ≤ 1048576) (sc : Sc) (hsc : sc.length ≤ 10000000) (hp : ∀ p, p ∈ l → PLow B p sc) (hform : formQ h.k l.length = 0) (H : Heap) (K : V → Heap → Prop) (hr : H[id]? = some (lwC 0))
    (hk : K (exW (lowP1 f h l c sc 0).1) (H.set id (lwC (lowP1 f h l c sc 0).2))) :
    ACalls Tryd.prog 15 [.pt id 0 0 0, phW h l c, .d (.sl 1 (sc.map strRow))] H K := by
  have hid := lt_of_get hr
  obtain ⟨ga, sa, gs, ss, gsa, ssa, gl0, glk, sl0, slk⟩ := atH hr
  have hsm := lw_keep hr
  have o1 := ok.it
  have o2 := ok.nm
  have o3 := ok.tn
  have hz : ((0 : Int) = 0) = True := eq_true rfl
  have hF := form_A h l c hl
  rw [hform, phW_k hkind] at hF
  have hw := fun e G K hk => wrong_A id e 0 (H ++ G) K (ga G) hk
  rw [lowP1, if_neg (nn (x := (0 : Int)) rfl), if_neg (nn hform)] at hk
  rw [phW_k hkind]
  rw [if_neg (by omega), if_neg (by omega), if_neg (by omega), if_neg (by omega), if_neg (by omega), if_neg (by omega), if_neg (by omega), if_neg (by omega), if_pos hkind] at hk
  have hs := fun G K hk => stepW_A id h l c sc 0 (by omega) (H ++ G) K (ga G) hk
  rw [phW_k hkind] at hs
  refine We ?_
  have c21 := hF; have c22 := hs; have us := eq_self (0 : Nat)
  exact W75
end Go.Proofs.YtdmkfkjdielmiaaDoor
namespace Go.Proofs.YtdmkfkjdielmiaaDoor
open Go Go.Proofs.YtdmkfkjdielmiaaDoor.Ab
variable [Glo] [U8] [CAr]
set_option maxHeartbeats 4000000
set_option maxRecDepth 20000
open FN15 in
theorem lower10_A {f : Ph → Sc → Int → Ex × Int} {id B : Nat} (hf : LowAt f id B) (h : Phh) (l : List Ph) (c : List Cl) (hkind : h.k = 10) (ok : PhhOk h) (hl : l.length ≤ 1048576) (sc : Sc) (hsc : sc.length ≤ 10000000) (hp : ∀ p, p ∈ l → PLow B p sc) (hform : formQ h.k l.length = 0) (H : Heap) (K : V → Heap → Prop) (hr : H[id]? = some (lwC 0))
    (hk : K (exW (lowP1 f h l c sc 0).1) (H.set id (lwC (lowP1 f h l c sc 0).2))) :
    ACalls Tryd.prog 15 [.pt id 0 0 0, phW h l c, .d (.sl 1 (sc.map strRow))] H K := by
  have hid := lt_of_get hr
  obtain ⟨ga, sa, gs, ss, gsa, ssa, gl0, glk, sl0, slk⟩ := atH hr
  have hsm := lw_keep hr
  have o1 := ok.it
  have o2 := ok.nm
  have o3 := ok.tn
  have hz : ((0 : Int) = 0) = True := eq_true rfl
  have hF := form_A h l c hl
  rw [hform, phW_k hkind] at hF
  have hw := fun e G K hk => wrong_A id e 0 (H ++ G) K (ga G) hk
  rw [lowP1, if_neg (nn (x := (0 : Int)) rfl), if_neg (nn hform)] at hk
  rw [phW_k hkind]
  rw [if_neg (by omega), if_neg (by omega), if_neg (by omega), if_neg (by omega), if_neg (by omega), if_neg (by omega), if_neg (by omega), if_neg (by omega), if_neg (by omega), if_pos hkind] at hk
  have ha := fun G K hk => args_app hf l hl sc hp hr G K hk
  have hm := made_A h.n h.nm (by omega)
  by_cases h1 : madeQ h.n h.nm = 0
  · have i1 : (madeQ h.n h.nm = 0) = True := eq_true h1
    rw [h1] at hm
    rw [if_neg (nn h1)] at hk
    by_cases h3 : h.n = 3
    · have i3 : (h.n = 3) = True := eq_true h3
      rw [makeE, if_pos h3] at hk
      refine We ?_
      have c21 := hF; have c22 := hm; have c23 := ha; have us := i3
      exact W75
    · have i3 : (h.n = 3) = False := eq_false h3
      rw [makeE, if_neg h3] at hk
      refine We ?_
      have c21 := hF; have c22 := hm; have c23 := ha; have us := i3
      exact W75
  · have i1 : (madeQ h.n h.nm = 0) = False := eq_false h1
    rw [if_pos h1] at hk
    refine We ?_
    have c21 := hF; have c22 := hm; have c31 := hw; have us := i1
    exact W75
end Go.Proofs.YtdmkfkjdielmiaaDoor
namespace Go.Proofs.YtdmkfkjdielmiaaDoor
open Go Go.Proofs.YtdmkfkjdielmiaaDoor.Ab
variable [Glo] [U8] [CAr]
set_option maxHeartbeats 4000000
set_option maxRecDepth 20000
open FN15 in
theorem lower26_A {f : Ph → Sc → Int → Ex × Int} {id B : Nat} (hf : LowAt f id B) (h : Phh) (l : List Ph) (c : List Cl) (hkind : h.k = 26) (ok : PhhOk h) (hl : l.length ≤ 1048576) (sc : Sc) (hsc : sc.length ≤ 10000000) (hp : ∀ p, p ∈ l → PLow B p sc) (hform : formQ h.k l.length = 0) (H : Heap) (K : V → Heap → Prop) (hr : H[id]? = some (lwC 0))
    (hk : K (exW (lowP1 f h l c sc 0).1) (H.set id (lwC (lowP1 f h l c sc 0).2))) :
    ACalls Tryd.prog 15 [.pt id 0 0 0, phW h l c, .d (.sl 1 (sc.map strRow))] H K := by
  have hid := lt_of_get hr
  obtain ⟨ga, sa, gs, ss, gsa, ssa, gl0, glk, sl0, slk⟩ := atH hr
  have hsm := lw_keep hr
  have o1 := ok.it
  have o2 := ok.nm
  have o3 := ok.tn
  have hz : ((0 : Int) = 0) = True := eq_true rfl
  have hF := form_A h l c hl
  rw [hform, phW_k hkind] at hF
  have hw := fun e G K hk => wrong_A id e 0 (H ++ G) K (ga G) hk
  rw [lowP1, if_neg (nn (x := (0 : Int)) rfl), if_neg (nn hform)] at hk
  rw [phW_k hkind]
  rw [if_neg (by omega), if_neg (by omega), if_neg (by omega), if_neg (by omega), if_neg (by omega), if_neg (by omega), if_pos hkind] at hk
  have ha := fun G K hk => args_app hf l hl sc hp hr G K hk
  refine We ?_
  have c21 := hF; have c22 := ha; have us := eq_self (0 : Nat)
  exact W76
end Go.Proofs.YtdmkfkjdielmiaaDoor
