/- Lowering: the lowerer, kind 24. No condition but that the tables of package unicode/utf8 and of the core's functions are there. -/
import Derived.Test.YtdmkfkjdielmiaaDoorP19
import Derived.Test.YtdmkfkjdielmiaaDoorP39
import Derived.Test.YtdmkfkjdielmiaaDoorP37
import Derived.Test.YtdmkfkjdielmiaaDoorP38
set_option linter.all false
set_option linter.unusedSimpArgs false
set_option linter.unusedVariables false
namespace Go.Proofs.YtdmkfkjdielmiaaDoor
open Go Go.Proofs.YtdmkfkjdielmiaaDoor.Ab
variable [Glo] [U8] [CAr]
set_option maxHeartbeats 4000000
set_option maxRecDepth 20000
open FN15 in
theorem lower24_A {f : Ph → Sc → Int → Ex × Int} {id B : Nat} (hf : LowAt f id B) (h : Phh) (l : List Ph) (c : List Cl) (hkind : h.k = 24) (ok : PhhOk h) (hl : l.length ≤ 1048576) (sc : Sc) (hsc : sc.length ≤ 10000000) (hp : ∀ p, p ∈ l → PLow B p sc) (hform : formQ h.k l.length = 0) (H : Heap) (K : V → Heap → Prop) (hr : H[id]? = some (lwC 0)) (hl2 : l.length = 2) (hp1 : ∀ p, p ∈ l → PLow B p (sc ++ [h.nm]))
    (hk : K (exW (lowP1 f h l c sc 0).1) (H.set id (lwC (lowP1 f h l c sc 0).2))) :
    ACalls Tryd.prog 15 [.pt id 0 0 0, phW h l c, .d (.sl 1 (sc.map strRow))] H K := by
  have hid := lt_of_get hr
  obtain ⟨ga, sa, gs, ss, gsa, ssa, gl0, glk, sl0, slk⟩ := atH hr
  have hsm := lw_keep hr
  have o1 := ok.it
  have o2 := ok.nm
  have o3 := ok.tn
  have hz : ((0 : Int) = 0) = True := eq_true rfl
  have hF := form_A h l c hl
  rw [hform, phW_k hkind] at hF
  have hw := fun e G K hk => wrong_A id e 0 (H ++ G) K (ga G) hk
  rw [lowP1, if_neg (nn (x := (0 : Int)) rfl), if_neg (nn hform)] at hk
  rw [phW_k hkind]
  rw [if_neg (by omega), if_neg (by omega), if_neg (by omega), if_neg (by omega), if_neg (by omega), if_neg (by omega), if_neg (by omega), if_neg (by omega), if_neg (by omega), if_neg (by omega), if_neg (by omega), if_neg (by omega), if_neg (by omega), if_pos (by omega)] at hk
  have hq := fun G K hk => more24_A hf h l c hkind ok hl sc hsc hp hl2 hp1 (H ++ G) K (ga G) hk
  rw [phW_k hkind] at hq
  refine We ?_
  have c21 := hF; have c22 := hq; have us := eq_self (0 : Nat)
  exact W75
end Go.Proofs.YtdmkfkjdielmiaaDoor
namespace Go.Proofs.YtdmkfkjdielmiaaDoor
open Go Go.Proofs.YtdmkfkjdielmiaaDoor.Ab
variable [Glo] [U8] [CAr] [COp]
set_option maxHeartbeats 4000000
set_option maxRecDepth 20000
open FN15 in
theorem lower25_A {f : Ph → Sc → Int → Ex × Int} {id B : Nat} (hf : LowAt f id B) (h : Phh) (l : List Ph) (c : List Cl) (hkind : h.k = 25) (ok : PhhOk h) (hl : l.length ≤ 1048576) (sc : Sc) (hsc : sc.length ≤ 10000000) (hp : ∀ p, p ∈ l → PLow B p sc) (hform : formQ h.k l.length = 0) (H : Heap) (K : V → Heap → Prop) (hr : H[id]? = some (lwC 0))
    (hk : K (exW (lowP1 f h l c sc 0).1) (H.set id (lwC (lowP1 f h l c sc 0).2))) :
    ACalls Tryd.prog 15 [.pt id 0 0 0, phW h l c, .d (.sl 1 (sc.map strRow))] H K := by
  have hid := lt_of_get hr
  obtain ⟨ga, sa, gs, ss, gsa, ssa, gl0, glk, sl0, slk⟩ := atH hr
  have hsm := lw_keep hr
  have o1 := ok.it
  have o2 := ok.nm
  have o3 := ok.tn
  have hz : ((0 : Int) = 0) = True := eq_true rfl
  have hF := form_A h l c hl
  rw [hform, phW_k hkind] at hF
  have hw := fun e G K hk => wrong_A id e 0 (H ++ G) K (ga G) hk
  rw [lowP1, if_neg (nn (x := (0 : Int)) rfl), if_neg (nn hform)] at hk
  rw [phW_k hkind]
  rw [if_neg (by omega), if_neg (by omega), if_neg (by omega), if_neg (by omega), if_neg (by omega), if_neg (by omega), if_neg (by omega), if_pos hkind] at hk
  have ha := fun G K hk => args_app hf l hl sc hp hr G K hk
  have hgl : glob 0 = some [.m [.s] (mapKsS COp.L) (mapVsS COp.L)] := COp.at_
  obtain ⟨g1, g2⟩ := mapGetES COp.perm opE_nodup h.nm (.s [])
  cases hlk : lookS opE h.nm with
  | none =>
    rw [hlk] at g1 g2 hk
    have g1 : mget (mapKsS COp.L) (mapVsS COp.L) [.s h.nm] (.s []) = .s [] := g1
    have g2 : mhas (mapKsS COp.L) [.s h.nm] = false := g2
    refine We ?_
    have c21 := hF; have c31 := hw; have us := an hgl (an g1 g2)
    exact W88
  | some s =>
    rw [hlk] at g1 g2 hk
    have g1 : mget (mapKsS COp.L) (mapVsS COp.L) [.s h.nm] (.s []) = .s s := g1
    have g2 : mhas (mapKsS COp.L) [.s h.nm] = true := g2
    refine We ?_
    have c21 := hF; have c22 := ha; have us := an hgl (an g1 g2)
    exact W89
end Go.Proofs.YtdmkfkjdielmiaaDoor
namespace Go.Proofs.YtdmkfkjdielmiaaDoor
open Go Go.Proofs.YtdmkfkjdielmiaaDoor.Ab
variable [Glo] [U8] [CAr]
set_option maxHeartbeats 4000000
set_option maxRecDepth 20000
open FN15 in
theorem lower7_A {f : Ph → Sc → Int → Ex × Int} {id B : Nat} (hf : LowAt f id B) (h : Phh) (l : List Ph) (c : List Cl) (hkind : h.k = 7) (ok : PhhOk h) (hl : l.length ≤ 1048576) (sc : Sc) (hsc : sc.length ≤ 10000000) (hp : ∀ p, p ∈ l → PLow B p sc) (hform : formQ h.k l.length = 0) (H : Heap) (K : V → Heap → Prop) (hr : H[id]? = some (lwC 0))
    (hk : K (exW (lowP1 f h l c sc 0).1) (H.set id (lwC (lowP1 f h l c sc 0).2))) :
    ACalls Tryd.prog 15 [.pt id 0 0 0, phW h l c, .d (.sl 1 (sc.map strRow))] H K := by
  have hid := lt_of_get hr
  obtain ⟨ga, sa, gs, ss, gsa, ssa, gl0, glk, sl0, slk⟩ := atH hr
  have hsm := lw_keep hr
  have o1 := ok.it
  have o2 := ok.nm
  have o3 := ok.tn
  have hz : ((0 : Int) = 0) = True := eq_true rfl
  have hF := form_A h l c hl
  rw [hform, phW_k hkind] at hF
  have hw := fun e G K hk => wrong_A id e 0 (H ++ G) K (ga G) hk
  rw [lowP1, if_neg (nn (x := (0 : Int)) rfl), if_neg (nn hform)] at hk
  rw [phW_k hkind]
  rw [if_neg (by omega), if_neg (by omega), if_neg (by omega), if_neg (by omega), if_neg (by omega), if_pos hkind] at hk
  have ha := fun G K hk => args_app hf l hl sc hp hr G K hk
  have hal := argsP_len f sc l 0
  have hn : l.length = 3 := by
    rw [hkind] at hform
    unfold formQ at hform
    simp at hform
    exact hform
  obtain ⟨x, y, z, hxyz⟩ : ∃ x y z, (argsP f l sc 0).1 = [x, y, z] := by
    rw [hn] at hal
    match (argsP f l sc 0).1, hal with
    | [x, y, z], _ => exact ⟨x, y, z, rfl⟩
  rw [hxyz] at ha hk
  have hcall := call_A sBoolean [x]
  have hch := choose_A (eCall sBoolean [x]) y z
  simp only [exW, exV, List.map_cons, List.map_nil, exD_1] at hcall hch
  refine We ?_
  have c21 := hF; have c22 := ha; have c23 := hcall; have c24 := hch; have us := eq_self (0 : Nat)
  exact W90
end Go.Proofs.YtdmkfkjdielmiaaDoor
namespace Go.Proofs.YtdmkfkjdielmiaaDoor
open Go Go.Proofs.YtdmkfkjdielmiaaDoor.Ab
variable [Glo] [U8] [CAr]
set_option maxHeartbeats 4000000
set_option maxRecDepth 20000
open FN15 in
theorem lower3_A {f : Ph → Sc → Int → Ex × Int} {id B : Nat} (hf : LowAt f id B) (h : Phh) (l : List Ph) (c : List Cl) (hkind : h.k = 3) (ok : PhhOk h) (hl : l.length ≤ 1048576) (sc : Sc) (hsc : sc.length ≤ 10000000) (hp : ∀ p, p ∈ l → PLow B p sc) (hform : formQ h.k l.length = 0) (H : Heap) (K : V → Heap → Prop) (hr : H[id]? = some (lwC 0))
    (hk : K (exW (lowP1 f h l c sc 0).1) (H.set id (lwC (lowP1 f h l c sc 0).2))) :
    ACalls Tryd.prog 15 [.pt id 0 0 0, phW h l c, .d (.sl 1 (sc.map strRow))] H K := by
  have hid := lt_of_get hr
  obtain ⟨ga, sa, gs, ss, gsa, ssa, gl0, glk, sl0, slk⟩ := atH hr
  have hsm := lw_keep hr
  have o1 := ok.it
  have o2 := ok.nm
  have o3 := ok.tn
  have hz : ((0 : Int) = 0) = True := eq_true rfl
  have hF := form_A h l c hl
  rw [hform, phW_k hkind] at hF
  have hw := fun e G K hk => wrong_A id e 0 (H ++ G) K (ga G) hk
  rw [lowP1, if_neg (nn (x := (0 : Int)) rfl), if_neg (nn hform)] at hk
  rw [phW_k hkind]
  rw [if_neg (by omega), if_neg (by omega), if_neg (by omega), if_neg (by omega), if_pos hkind] at hk
  have ha := fun G K hk => args_app hf l hl sc hp hr G K hk
  refine We ?_
  have c21 := hF; have c22 := ha; have us := eq_self (0 : Nat)
  exact W75
end Go.Proofs.YtdmkfkjdielmiaaDoor
namespace Go.Proofs.YtdmkfkjdielmiaaDoor
open Go Go.Proofs.YtdmkfkjdielmiaaDoor.Ab
variable [Glo] [U8] [CAr] [CCa]
set_option maxHeartbeats 4000000
set_option maxRecDepth 20000
open FN43 in
theorem more8_A {f : Ph → Sc → Int → Ex × Int} {id B : Nat} (hf : LowAt f id B) (h : Phh) (l : List Ph) (c : List Cl) (hkind : h.k = 8) (ok : PhhOk h) (hl : l.length ≤ 1048576) (sc : Sc) (hsc : sc.length ≤ 10000000) (hp : ∀ p, p ∈ l → PLow B p sc) (H : Heap) (K : V → Heap → Prop) (hr : H[id]? = some (lwC 0))
    (hk : K (exW (callP f h.nm l sc 0).1) (H.set id (lwC (callP f h.nm l sc 0).2))) :
    ACalls Tryd.prog 43 [.pt id 0 0 0, phW h l c, .d (.sl 1 (sc.map strRow))] H K := by
  have hid := lt_of_get hr
  obtain ⟨ga, sa, gs, ss, gsa, ssa, gl0, glk, sl0, slk⟩ := atH hr
  have hsm := lw_keep hr
  have o1 := ok.it
  have o2 := ok.nm
  have o3 := ok.tn
  have hz : ((0 : Int) = 0) = True := eq_true rfl
  have hw := fun e G K hk => wrong_A id e 0 (H ++ G) K (ga G) hk
  have hq := fun G K hk => lcall_A hf h l c ok hl sc hsc hp (H ++ G) K (ga G) hk
  rw [phW_k hkind] at hq
  rw [phW_k hkind]
  refine We ?_
  have c21 := hq; have us := eq_self (0 : Nat)
  exact W77
end Go.Proofs.YtdmkfkjdielmiaaDoor
namespace Go.Proofs.YtdmkfkjdielmiaaDoor
open Go Go.Proofs.YtdmkfkjdielmiaaDoor.Ab
variable [Glo] [U8] [CAr] [CCa]
set_option maxHeartbeats 4000000
set_option maxRecDepth 20000
open FN15 in
theorem lower8_A {f : Ph → Sc → Int → Ex × Int} {id B : Nat} (hf : LowAt f id B) (h : Phh) (l : List Ph) (c : List Cl) (hkind : h.k = 8) (ok : PhhOk h) (hl : l.length ≤ 1048576) (sc : Sc) (hsc : sc.length ≤ 10000000) (hp : ∀ p, p ∈ l → PLow B p sc) (hform : formQ h.k l.length = 0) (H : Heap) (K : V → Heap → Prop) (hr : H[id]? = some (lwC 0))
    (hk : K (exW (lowP1 f h l c sc 0).1) (H.set id (lwC (lowP1 f h l c sc 0).2))) :
    ACalls Tryd.prog 15 [.pt id 0 0 0, phW h l c, .d (.sl 1 (sc.map strRow))] H K := by
  have hid := lt_of_get hr
  obtain ⟨ga, sa, gs, ss, gsa, ssa, gl0, glk, sl0, slk⟩ := atH hr
  have hsm := lw_keep hr
  have o1 := ok.it
  have o2 := ok.nm
  have o3 := ok.tn
  have hz : ((0 : Int) = 0) = True := eq_true rfl
  have hF := form_A h l c hl
  rw [hform, phW_k hkind] at hF
  have hw := fun e G K hk => wrong_A id e 0 (H ++ G) K (ga G) hk
  rw [lowP1, if_neg (nn (x := (0 : Int)) rfl), if_neg (nn hform)] at hk
  rw [phW_k hkind]
  rw [if_neg (by omega), if_neg (by omega), if_neg (by omega), if_neg (by omega), if_neg (by omega), if_neg (by omega), if_neg (by omega), if_neg (by omega), if_neg (by omega), if_neg (by omega), if_pos hkind] at hk
  have hq := fun G K hk => more8_A hf h l c hkind ok hl sc hsc hp (H ++ G) K (ga G) hk
  rw [phW_k hkind] at hq
  refine We ?_
  have c21 := hF; have c22 := hq; have us := eq_self (0 : Nat)
  exact W75
end Go.Proofs.YtdmkfkjdielmiaaDoor
namespace Go.Proofs.YtdmkfkjdielmiaaDoor
open Go Go.Proofs.YtdmkfkjdielmiaaDoor.Ab
variable [Glo] [U8] [CAr]
set_option maxHeartbeats 4000000
set_option maxRecDepth 20000
theorem filP_snoc (f : Ph → Sc → Int → Ex × Int) (sc : Sc) (q : Ph) : ∀ (l : List Ph) (x : Ex) (flt : Int), filP f sc (l ++ [q]) x flt = (fBody (f q (filS sc) (filP f sc l x flt).2).1 (filP f sc l x flt).1, (f q (filS sc) (filP f sc l x flt).2).2)
  | [], _, _ => rfl
  | p :: l, x, flt => by rw [List.cons_append, filP, filP_snoc f sc q l, filP]
theorem app2 {X G : Heap} {a b a' b' : Ob} (h1 : a = a') (h2 : b = b') : X ++ a :: b :: G = X ++ a' :: b' :: G := by subst h1 h2; rfl
def eZeroC : List V := [.d (.i .i64 0), .d (.i .i64 0), .d (.i .i64 0), .d (.s []), .d (.s []), .d (.s []), .d (.i .i64 0), .d (.i .i64 0), .d (.i .i64 0), .d (.s []), .d (.c (.slice none 0 0))]
open FN43 in
theorem more22_A {f : Ph → Sc → Int → Ex × Int} {id B : Nat} (hf : LowAt f id B) (h : Phh) (l : List Ph) (c : List Cl) (hkind : h.k = 22) (ok : PhhOk h) (hl : l.length ≤ 1048576) (sc : Sc) (hsc : sc.length ≤ 10000000) (hp : ∀ p, p ∈ l → PLow B p sc) (hl1 : 0 < l.length) (hpF : ∀ p, p ∈ l → PLow B p (filS sc)) (H : Heap) (K : V → Heap → Prop) (hr : H[id]? = some (lwC 0))
    (hk : K (exW (filP f sc (l.drop 1) (f (argAt l 0) sc 0).1 (f (argAt l 0) sc 0).2).1) (H.set id (lwC (filP f sc (l.drop 1) (f (argAt l 0) sc 0).1 (f (argAt l 0) sc 0).2).2))) :
    ACalls Tryd.prog 43 [.pt id 0 0 0, phW h l c, .d (.sl 1 (sc.map strRow))] H K := by
  have hid := lt_of_get hr
  obtain ⟨ga, sa, gs, ss, gsa, ssa, gl0, glk, sl0, slk⟩ := atH hr
  have hsm := lw_keep hr
  have o1 := ok.it
  have o2 := ok.nm
  have o3 := ok.tn
  have hz : ((0 : Int) = 0) = True := eq_true rfl
  have hw := fun e G K hk => wrong_A id e 0 (H ++ G) K (ga G) hk
  obtain ⟨a, r, hlr⟩ : ∃ a r, l = a :: r := by
    cases l with
    | nil => exact absurd hl1 (by simp)
    | cons a r => exact ⟨a, r, rfl⟩
  have x0 : l[0]? = some a := by rw [hlr]; rfl
  have xd : List.drop 1 (List.take l.length (l.map phD)) = r.map phD := by rw [List.take_of_length_le (by simp), hlr]; rfl
  have hll : l.length = r.length + 1 := by rw [hlr]; rfl
  have l0 : ((0 : Int) < (l.length : Int)) = True := eq_true (by omega)
  have hge2 : ((l.length : Int) ≤ (l.length : Int)) = True := eq_true (by omega)
  have hge1 : ((1 : Int) ≤ (l.length : Int)) = True := eq_true (by omega)
  have e1 : argAt l 0 = a := by rw [hlr]; rfl
  have e2 : l.drop 1 = r := by rw [hlr]; rfl
  have hsub : ∀ p, p ∈ r → p ∈ l := fun p hp => by rw [hlr]; exact .tail _ hp
  rw [e1, e2] at hk
  have hx := fun G K hk => hf.app (hp _ (List.mem_of_getElem? x0)) hr G K hk
  rw [phW] at hx
  rw [phW_k hkind]
  generalize f a sc 0 = r0 at hx hk
  obtain ⟨v, f1⟩ := r0
  refine We ?_
  have c21 := hx; have us := an x0 (an xd (an l0 (an hge1 hge2)))
  refine W91 ?_
  all_goals first
    | omega
    | skip
  refine AWp_whileG (fun i : Nat => i ≤ r.length) (fun i => [(0, .pt id 0 0 0), (2, .d (.sl 1 (sc.map strRow))), (6, .pt H.length 0 0 0), (10, .pt (H.length + 1) 0 0 0), (86, .d (.sl 11 (r.map phD))), (87, .d (.i .i64 r.length)), (88, .d (.i .i64 i))])
    (fun i => H.set id (lwC (filP f sc (r.take i) v f1).2) ++ [.row 0 32 11 [eZeroC], .row 0 32 11 [exC (filP f sc (r.take i) v f1).1]]) (fun i => r.length - i) 0 (Nat.zero_le _) ⟨[], ?_⟩ ?_ ?_ ?_ ?_
  · rw [List.take_zero, filP]
    simp only [exC_1, eZeroC, lwC, List.append_nil]
  · simp (dsimp := false) only [go_sem, Nat.reduceAdd, Nat.reduceBEq, Nat.reduceEqDiff, Nat.reduceLT, Nat.reduceLeDiff, Nat.reduceMul, Int.reduceToNat, reduceCtorEq, ↓reduceIte, not_true_eq_false, not_false_eq_true, Bool.true_and, Bool.false_and, Int.reduceEq, Int.reduceLT, Int.reduceLE, Int.reduceNeg, List.map_cons, List.map_nil, List.length_set, exW, exV, tsV, itV, phD_1, lwC, hid, ga, sa, gs, ss, gsa, ssa, gl0, glk, sl0, slk, phW, x0, xd, l0, hge1, hge2]
    first | done | (simp [hid]; done) | (simp [hid, hll]; done) | (simp [hid, hll]; omega)
  · intro i _; simp
  · intro i _
    refine closed_sa hr (lwC_bel _ _) fun ob hob => ?_
    rcases List.mem_cons.1 hob with rfl | hob
    · exact obBel_data _ _ _ _ [[.i .i64 0, .i .i64 0, .i .i64 0, .s [], .s [], .s [], .i .i64 0, .i .i64 0, .i .i64 0, .s [], .c (.slice none 0 0)]]
    · rw [List.mem_singleton.1 hob]; exact exC_bel _ _ _ _ [_]
  rintro i hi
  have t2 : ((0 : Int) ≤ (i : Int)) = True := eq_true (by omega)
  by_cases hil : i < r.length
  case neg =>
    have t1 : ((i : Int) < (r.length : Int)) = False := eq_false (by omega)
    rw [List.take_of_length_le (by omega)]
    generalize filP f sc r v f1 = r3 at hk
    obtain ⟨w, f3⟩ := r3
    have us := t1
    exact W92
  have t1 : ((i : Int) < (r.length : Int)) = True := eq_true (by omega)
  obtain ⟨q, hq⟩ : ∃ x, r[i]? = some x := ⟨r[i], List.getElem?_eq_getElem hil⟩
  have hpq := hpF q (hsub q (List.mem_of_getElem? hq))
  have hy := fun G K hk => hf.set hpq hr (filP f sc (r.take i) v f1).2 G K hk
  have hnext : filP f sc (r.take (i + 1)) v f1 = (fBody (f q (filS sc) (filP f sc (r.take i) v f1).2).1 (filP f sc (r.take i) v f1).1, (f q (filS sc) (filP f sc (r.take i) v f1).2).2) := by
    rw [take_of_get hq, filP_snoc]
  rw [phW] at hy
  generalize filP f sc (r.take i) v f1 = r3 at hy hnext
  obtain ⟨w, f3⟩ := r3
  generalize f q (filS sc) f3 = r2 at hy hnext
  obtain ⟨cx, f2⟩ := r2
  have hwi := with_A sc [sAll, sLast, sDot, sAt] (by omega) (by simp)
  have hva := variable_A
  have hno := nothing_A
  have hho := call_A sHolds [cx, eVar sAt]
  have hch := choose_A (eCall sHolds [cx, eVar sAt]) (eVar sDot) eNone
  have hco := call_A sCount [eVar sAll]
  have hlo := loop_A sDot sAt (eVar sAll) (eIf (eCall sHolds [cx, eVar sAt]) (eVar sDot) eNone)
  have hb1 := be_A sLast (eCall sCount [eVar sAll]) (eFor sDot sAt (eVar sAll) (eIf (eCall sHolds [cx, eVar sAt]) (eVar sDot) eNone))
  have hb2 := be_A sAll w (eLet sLast (eCall sCount [eVar sAll]) (eFor sDot sAt (eVar sAll) (eIf (eCall sHolds [cx, eVar sAt]) (eVar sDot) eNone)))
  simp only [exW, exV, List.map_cons, List.map_nil, exD_1] at hho hch hco hlo hb1 hb2
  have c21 := hy; have c22 := hwi; have c23 := hho; have c24 := hch; have c25 := hco; have c26 := hlo; have c27 := hb1; have c28 := hb2; have c29 := hno; have c31 := hva; have us := an t1 (an t2 hq)
  (repeat' (first | with_reducible (first | refine And.intro ?_ ?_ | intro _ | (refine hKv _ _ (AWp_nop ?_); clear hKv Kv) | (refine hKA ?_; clear hKA hKB KA KB) | (refine hKB ?_; clear hKA hKB KA KB) | refine Wp ?_ | fail) | ((first | with_reducible (first | (refine hKv _ _ ?_; clear hKv Kv) | (refine Wr ?_; intro Kv hKv) | refine AWp_retR ?_ | fail) | refine Wc ?_ | fail); try simp (dsimp := false) only [go_sem, Nat.reduceAdd, Nat.reduceBEq, Nat.reduceEqDiff, Nat.reduceLT, Nat.reduceLeDiff, Nat.reduceMul, Int.reduceToNat, reduceCtorEq, ↓reduceIte, us, Bool.false_and, Bool.true_and, Int.reduceEq, Int.reduceLE, Int.reduceLT, Int.reduceNeg, List.length_set, List.map_cons, List.map_nil, eZeroC, exC_1, exD_1, exV, exW, ga, gl0, glk, gs, gsa, hid, lwC, not_false_eq_true, not_true_eq_false, phD_1, sAll, sAt, sCount, sDot, sHolds, sLast, sa, sl0, slk, ss, ssa, strRow]) | (refine AWp_condC rfl ?_; intro KA KB hKA hKB; try simp only [onB_true, onB_false, onB_dec, onB_ndec, onB_not, onB_and, onB_or]) | (refine AWp_condA rfl ?_ ?_) | with_reducible (first | refine onB_of ?_ ?_ | rfl) | omega))
  all_goals first
    | omega
    | skip
  refine ⟨i + 1, ?G, by omega, by omega, ?h, ?s⟩
  case h =>
    rw [hnext]
    refine app2 ?_ ?_
    · rfl
    · first | (rw [exC_1]; rfl) | (simp [exC_1, exD_1, fBody, eLet, eFor, eCall, eIf, eVar, eNone, xh0, Ex.h, Ex.args, sDot, sAt, sLast, sAll, sHolds, sCount]; done)
  case s => first | exact ⟨rfl, by omega, by omega⟩ | (simp [hid]; done)
end Go.Proofs.YtdmkfkjdielmiaaDoor
namespace Go.Proofs.YtdmkfkjdielmiaaDoor
open Go Go.Proofs.YtdmkfkjdielmiaaDoor.Ab
variable [Glo] [U8] [CAr]
set_option maxHeartbeats 4000000
set_option maxRecDepth 20000
open FN15 in
theorem lower22_A {f : Ph → Sc → Int → Ex × Int} {id B : Nat} (hf : LowAt f id B) (h : Phh) (l : List Ph) (c : List Cl) (hkind : h.k = 22) (ok : PhhOk h) (hl : l.length ≤ 1048576) (sc : Sc) (hsc : sc.length ≤ 10000000) (hp : ∀ p, p ∈ l → PLow B p sc) (hform : formQ h.k l.length = 0) (H : Heap) (K : V → Heap → Prop) (hr : H[id]? = some (lwC 0)) (hl1 : 0 < l.length) (hpF : ∀ p, p ∈ l → PLow B p (filS sc))
    (hk : K (exW (lowP1 f h l c sc 0).1) (H.set id (lwC (lowP1 f h l c sc 0).2))) :
    ACalls Tryd.prog 15 [.pt id 0 0 0, phW h l c, .d (.sl 1 (sc.map strRow))] H K := by
  have hid := lt_of_get hr
  obtain ⟨ga, sa, gs, ss, gsa, ssa, gl0, glk, sl0, slk⟩ := atH hr
  have hsm := lw_keep hr
  have o1 := ok.it
  have o2 := ok.nm
  have o3 := ok.tn
  have hz : ((0 : Int) = 0) = True := eq_true rfl
  have hF := form_A h l c hl
  rw [hform, phW_k hkind] at hF
  have hw := fun e G K hk => wrong_A id e 0 (H ++ G) K (ga G) hk
  rw [lowP1, if_neg (nn (x := (0 : Int)) rfl), if_neg (nn hform)] at hk
  rw [phW_k hkind]
  rw [if_neg (by omega), if_neg (by omega), if_neg (by omega), if_neg (by omega), if_neg (by omega), if_neg (by omega), if_neg (by omega), if_neg (by omega), if_neg (by omega), if_neg (by omega), if_neg (by omega), if_neg (by omega), if_pos hkind] at hk
  have hq := fun G K hk => more22_A hf h l c hkind ok hl sc hsc hp hl1 hpF (H ++ G) K (ga G) hk
  rw [phW_k hkind] at hq
  refine We ?_
  have c21 := hF; have c22 := hq; have us := eq_self (0 : Nat)
  exact W75
end Go.Proofs.YtdmkfkjdielmiaaDoor
namespace Go.Proofs.YtdmkfkjdielmiaaDoor
open Go Go.Proofs.YtdmkfkjdielmiaaDoor.Ab
variable [Glo] [U8] [CAr] [COp] [CCa]
set_option maxHeartbeats 4000000
set_option maxRecDepth 20000
theorem form_kinds {k : Int} {n : Nat} (h : formQ k n = 0) : k = 1 ∨ k = 2 ∨ k = 11 ∨ k = 27 ∨ k = 9 ∨ k = 10 ∨ k = 26 ∨ k = 28 ∨ k = 21 ∨ k = 23 ∨ k = 24 ∨ k = 25 ∨ k = 7 ∨ k = 3 ∨ k = 8 ∨ k = 22 := by
  unfold formQ at h
  split at h
  · omega
  split at h
  · omega
  split at h
  · omega
  split at h
  · omega
  split at h
  · omega
  split at h
  · omega
  · cases h
theorem form_2 {k : Int} {n : Nat} (h : formQ k n = 0) (hk : k = 21 ∨ k = 23 ∨ k = 24) : n = 2 := by
  unfold formQ at h
  rw [if_neg (by omega), if_neg (by omega), if_pos (by omega)] at h
  split at h
  · assumption
  · cases h
theorem form_1 {k : Int} {n : Nat} (h : formQ k n = 0) (hk : k = 28) : n = 1 := by
  unfold formQ at h
  rw [if_neg (by omega), if_pos (by omega)] at h
  split at h
  · assumption
  · cases h
theorem form_0 {k : Int} {n : Nat} (h : formQ k n = 0) (hk : k = 22) : 0 < n := by
  unfold formQ at h
  rw [if_neg (by omega), if_neg (by omega), if_neg (by omega), if_neg (by omega), if_neg (by omega), if_pos hk] at h
  split at h
  · cases h
  · omega
theorem clNs_mem2 {d : Cl} : ∀ {l : List Cl}, d ∈ l → phN d.x + l.length ≤ clNs l
  | [], h => by cases h
  | .mk k x :: l, h => by
    rw [clNs_cons, clN_eq, List.length_cons]
    have := clNs_len l
    rcases List.mem_cons.1 h with rfl | h
    · simp only [Cl.x]; omega
    · have := clNs_mem2 h; omega
theorem phN_pos : ∀ p : Ph, 1 ≤ phN p
  | .mk h l c => by rw [phN_eq]; omega
theorem PhOk.h {h : Phh} {l : List Ph} {c : List Cl} (x : PhOk (.mk h l c)) : PhhOk h := by cases x; assumption
theorem PhOk.len {h : Phh} {l : List Ph} {c : List Cl} (x : PhOk (.mk h l c)) : l.length ≤ 1048576 := by cases x; assumption
theorem PhOk.clen {h : Phh} {l : List Ph} {c : List Cl} (x : PhOk (.mk h l c)) : c.length ≤ 1048576 := by cases x; assumption
theorem PhOk.mem {h : Phh} {l : List Ph} {c : List Cl} (x : PhOk (.mk h l c)) : ∀ y, y ∈ l → PhOk y := by cases x; assumption
theorem PhOk.cmem {h : Phh} {l : List Ph} {c : List Cl} (x : PhOk (.mk h l c)) : ∀ y, y ∈ c → ClOk y := by cases x; assumption
theorem ClOk.x {d : Cl} (x : ClOk d) : PhOk d.x := by cases x; assumption
theorem ClOk.nm {d : Cl} (x : ClOk d) : d.c.nm.length ≤ 1048576 := by cases x; assumption
theorem ClOk.at_ {d : Cl} (x : ClOk d) : d.c.at_.length ≤ 1048576 := by cases x; assumption
theorem plow_arg {n : Nat} {h : Phh} {l : List Ph} {c : List Cl} {sc : Sc} (hp : PLow (n + 1) (.mk h l c) sc) {q : Ph} (hq : q ∈ l) {sc' : Sc} (hs : sc'.length ≤ sc.length + 4) : PLow n q sc' := by
  have h1 := phN_args (p := .mk h l c) hq
  have h2 := hp.le
  have h3 := hp.sc
  exact ⟨by omega, hp.ok.mem q hq, by omega⟩
theorem arg_in {l : List Ph} {i : Nat} (h : i < l.length) : argAt l i ∈ l := List.mem_of_getElem? (arg_at h)
theorem tlow_of {n : Nat} {h : Phh} {l : List Ph} {c : List Cl} {sc : Sc} (hp : PLow (n + 1) (.mk h l c) sc) (hl : 0 < l.length) : TLow n (phN (.mk h l c) - 1 - c.length) c (argAt l 0) sc := by
  have h2 := hp.le
  have h3 := hp.sc
  have h4 := phNs_mem (arg_in hl)
  have h5 := clNs_len c
  rw [phN_eq] at h2 h3 ⊢
  refine ⟨by omega, fun d hd => ⟨?_, (hp.ok.cmem d hd).x, (hp.ok.cmem d hd).nm, (hp.ok.cmem d hd).at_⟩, by omega, hp.ok.mem _ (arg_in hl), hp.ok.clen, by omega⟩
  have := clNs_mem2 hd
  omega
theorem clsOk_of {h : Phh} {l : List Ph} {c : List Cl} (x : PhOk (.mk h l c)) : ClsOk c := ⟨x.clen, fun d hd => (x.cmem d hd).nm, fun d hd => (x.cmem d hd).at_⟩
theorem low_A : ∀ (n id : Nat), LowAt (lowP n) id n
  | 0, id => fun p sc flt H K hp hr hk => by have := phN_pos p; have := hp.le; omega
  | n + 1, id => fun p sc flt H K hp hr hk => by
    have hf := low_A n id
    cases p with | mk h l c =>
    have ok := hp.ok.h
    have hl := hp.ok.len
    have hsc : sc.length ≤ 10000000 := by have := hp.sc; omega
    have ha : ∀ q, q ∈ l → PLow n q sc := fun q hq => plow_arg hp hq (by omega)
    by_cases hflt : flt = 0
    case neg => exact lowerB_A hf h l c ok hl sc flt hflt H K hr hk
    subst hflt
    by_cases hform : formQ h.k l.length = 0
    case neg => exact lowerF_A hf h l c ok hl sc hform H K hr hk
    rcases form_kinds hform with e | e | e | e | e | e | e | e | e | e | e | e | e | e | e | e
    · exact lower1_A hf h l c e ok hl sc hsc ha hform H K hr hk
    · exact lower2_A hf h l c e ok hl sc hsc ha hform H K hr hk
    · exact lower11_A hf h l c e ok hl sc hsc ha hform H K hr hk
    · exact lower27_A hf h l c e ok hl sc hsc ha hform H K hr hk
    · exact lower9_A hf h l c e ok hl sc hsc ha hform H K hr hk
    · exact lower10_A hf h l c e ok hl sc hsc ha hform H K hr hk
    · exact lower26_A hf h l c e ok hl sc hsc ha hform H K hr hk
    · exact lower28_A hf h l c e ok hl sc hsc ha hform H K hr (clsOk_of hp.ok) _ (tlow_of hp (by have := form_1 hform e; omega)) (form_1 hform e) (tup_A hf c) hk
    · exact lower21_A hf h l c e ok hl sc hsc ha hform H K hr (form_2 hform (by omega)) (fun q hq => plow_arg hp hq (by simp)) hk
    · exact lower23_A hf h l c e ok hl sc hsc ha hform H K hr (form_2 hform (by omega)) (fun q hq => plow_arg hp hq (by simp)) hk
    · exact lower24_A hf h l c e ok hl sc hsc ha hform H K hr (form_2 hform (by omega)) (fun q hq => plow_arg hp hq (by simp)) hk
    · exact lower25_A hf h l c e ok hl sc hsc ha hform H K hr hk
    · exact lower7_A hf h l c e ok hl sc hsc ha hform H K hr hk
    · exact lower3_A hf h l c e ok hl sc hsc ha hform H K hr hk
    · exact lower8_A hf h l c e ok hl sc hsc ha hform H K hr hk
    · exact lower22_A hf h l c e ok hl sc hsc ha hform H K hr (form_0 hform e) (fun q hq => plow_arg hp hq (by simp [filS])) hk
end Go.Proofs.YtdmkfkjdielmiaaDoor
