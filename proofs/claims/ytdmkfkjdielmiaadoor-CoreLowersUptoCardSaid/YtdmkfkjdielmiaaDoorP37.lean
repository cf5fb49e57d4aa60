/- Lowering: has a phrase as many parts as it must have, may its clauses stand so: walked. No condition but that the tables of package unicode/utf8 are there. -/
import Derived.Test.YtdmkfkjdielmiaaDoorP19
import Derived.Test.YtdmkfkjdielmiaaDoorP35
import Derived.Test.YtdmkfkjdielmiaaDoorP36
import Derived.Test.YtdmkfkjdielmiaaDoorP17
set_option linter.all false
set_option linter.unusedSimpArgs false
set_option linter.unusedVariables false
namespace Go.Proofs.YtdmkfkjdielmiaaDoor
open Go Go.Proofs.YtdmkfkjdielmiaaDoor.Ab
variable [Glo] [U8] [CAr]
set_option maxHeartbeats 4000000
set_option maxRecDepth 20000
namespace FN35
def tks : Nat → List Nat | 0 => [1] | 1 => [1, 3] | 2 => [1, 3, 5] | 3 => [2] | 4 => [1, 3, 5, 6] | 5 => [1, 3, 5, 6] | 6 => [1, 3, 5, 6] | 7 => [1, 3, 5, 6] | 8 => [1, 3, 5, 6] | 9 => [1, 3] | 10 => [1, 3, 5, 12] | 11 => [1, 3, 5, 12] | 12 => [1, 3, 5, 12] | 13 => [1, 3] | 14 => [1, 3, 5, 16] | 15 => [1, 3, 5, 16] | 16 => [1, 3, 5, 16] | 17 => [1, 3, 5, 16] | 18 => [1, 3] | 19 => [1, 3, 5, 21] | 20 => [1, 3] | 21 => [1, 3, 5, 23] | 22 => [1, 3, 5, 23] | 23 => [1, 3, 26] | 24 => [1, 3, 31] | 25 => [2] | 26 => [40] | 27 => [2] | 28 => [2] | _ => []
def tmu : List Nat := []
def tin : List Nat := [0]
abbrev tfn := @Tryd.func35
end FN35
attribute [go_sem] FN35.tks FN35.tmu FN35.tin Tryd.ntmps35 Tryd.results35
open FN35 in
theorem form_A (h : Phh) (l : List Ph) (c : List Cl) (hl : l.length ≤ 1048576) (H : Heap) (K : V → Heap → Prop) (hk : K (.d (.i .i64 (formQ h.k l.length))) H) : ACalls Tryd.prog 35 [phW h l c] H K := by
  by_cases c1 : h.k = 1
  · by_cases hn : l.length = 0
    · have i1 : ((l.length : Int) = 0) = True := eq_true (by omega)
      have i2 : ((0 : Int) = (l.length : Int)) = True := eq_true (by omega)
      have e : formQ h.k l.length = 0 := by simp [formQ, c1, hn]
      rw [e] at hk
      refine We ?_
      have us := an c1 (an i1 i2)
      exact W66
    · have i1 : ((l.length : Int) = 0) = False := eq_false (by omega)
      have i2 : ((0 : Int) = (l.length : Int)) = False := eq_false (by omega)
      have e : formQ h.k l.length = 11 := by simp [formQ, c1, hn]
      rw [e] at hk
      refine We ?_
      have us := an c1 (an i1 i2)
      exact W66
  by_cases c2 : h.k = 2
  · by_cases hn : l.length = 0
    · have i1 : ((l.length : Int) = 0) = True := eq_true (by omega)
      have i2 : ((0 : Int) = (l.length : Int)) = True := eq_true (by omega)
      have e : formQ h.k l.length = 0 := by simp [formQ, c2, hn]
      rw [e] at hk
      refine We ?_
      have us := an c2 (an i1 i2)
      exact W66
    · have i1 : ((l.length : Int) = 0) = False := eq_false (by omega)
      have i2 : ((0 : Int) = (l.length : Int)) = False := eq_false (by omega)
      have e : formQ h.k l.length = 11 := by simp [formQ, c2, hn]
      rw [e] at hk
      refine We ?_
      have us := an c2 (an i1 i2)
      exact W66
  by_cases c11 : h.k = 11
  · by_cases hn : l.length = 0
    · have i1 : ((l.length : Int) = 0) = True := eq_true (by omega)
      have i2 : ((0 : Int) = (l.length : Int)) = True := eq_true (by omega)
      have e : formQ h.k l.length = 0 := by simp [formQ, c11, hn]
      rw [e] at hk
      refine We ?_
      have us := an c11 (an i1 i2)
      exact W66
    · have i1 : ((l.length : Int) = 0) = False := eq_false (by omega)
      have i2 : ((0 : Int) = (l.length : Int)) = False := eq_false (by omega)
      have e : formQ h.k l.length = 11 := by simp [formQ, c11, hn]
      rw [e] at hk
      refine We ?_
      have us := an c11 (an i1 i2)
      exact W66
  by_cases c27 : h.k = 27
  · by_cases hn : l.length = 0
    · have i1 : ((l.length : Int) = 0) = True := eq_true (by omega)
      have i2 : ((0 : Int) = (l.length : Int)) = True := eq_true (by omega)
      have e : formQ h.k l.length = 0 := by simp [formQ, c27, hn]
      rw [e] at hk
      refine We ?_
      have us := an c27 (an i1 i2)
      exact W66
    · have i1 : ((l.length : Int) = 0) = False := eq_false (by omega)
      have i2 : ((0 : Int) = (l.length : Int)) = False := eq_false (by omega)
      have e : formQ h.k l.length = 11 := by simp [formQ, c27, hn]
      rw [e] at hk
      refine We ?_
      have us := an c27 (an i1 i2)
      exact W66
  by_cases c9 : h.k = 9
  · by_cases hn : l.length = 0
    · have i1 : ((l.length : Int) = 0) = True := eq_true (by omega)
      have i2 : ((0 : Int) = (l.length : Int)) = True := eq_true (by omega)
      have e : formQ h.k l.length = 0 := by simp [formQ, c9, hn]
      rw [e] at hk
      refine We ?_
      have us := an c9 (an i1 i2)
      exact W66
    · have i1 : ((l.length : Int) = 0) = False := eq_false (by omega)
      have i2 : ((0 : Int) = (l.length : Int)) = False := eq_false (by omega)
      have e : formQ h.k l.length = 11 := by simp [formQ, c9, hn]
      rw [e] at hk
      refine We ?_
      have us := an c9 (an i1 i2)
      exact W66
  by_cases c10 : h.k = 10
  · by_cases hn : l.length = 1
    · have i1 : ((l.length : Int) = 1) = True := eq_true (by omega)
      have i2 : ((1 : Int) = (l.length : Int)) = True := eq_true (by omega)
      have e : formQ h.k l.length = 0 := by simp [formQ, c10, hn]
      rw [e] at hk
      refine We ?_
      have us := an c10 (an i1 i2)
      exact W66
    · have i1 : ((l.length : Int) = 1) = False := eq_false (by omega)
      have i2 : ((1 : Int) = (l.length : Int)) = False := eq_false (by omega)
      have e : formQ h.k l.length = 11 := by simp [formQ, c10, hn]
      rw [e] at hk
      refine We ?_
      have us := an c10 (an i1 i2)
      exact W66
  by_cases c26 : h.k = 26
  · by_cases hn : l.length = 1
    · have i1 : ((l.length : Int) = 1) = True := eq_true (by omega)
      have i2 : ((1 : Int) = (l.length : Int)) = True := eq_true (by omega)
      have e : formQ h.k l.length = 0 := by simp [formQ, c26, hn]
      rw [e] at hk
      refine We ?_
      have us := an c26 (an i1 i2)
      exact W66
    · have i1 : ((l.length : Int) = 1) = False := eq_false (by omega)
      have i2 : ((1 : Int) = (l.length : Int)) = False := eq_false (by omega)
      have e : formQ h.k l.length = 11 := by simp [formQ, c26, hn]
      rw [e] at hk
      refine We ?_
      have us := an c26 (an i1 i2)
      exact W66
  by_cases c28 : h.k = 28
  · by_cases hn : l.length = 1
    · have i1 : ((l.length : Int) = 1) = True := eq_true (by omega)
      have i2 : ((1 : Int) = (l.length : Int)) = True := eq_true (by omega)
      have e : formQ h.k l.length = 0 := by simp [formQ, c28, hn]
      rw [e] at hk
      refine We ?_
      have us := an c28 (an i1 i2)
      exact W66
    · have i1 : ((l.length : Int) = 1) = False := eq_false (by omega)
      have i2 : ((1 : Int) = (l.length : Int)) = False := eq_false (by omega)
      have e : formQ h.k l.length = 11 := by simp [formQ, c28, hn]
      rw [e] at hk
      refine We ?_
      have us := an c28 (an i1 i2)
      exact W66
  by_cases c21 : h.k = 21
  · by_cases hn : l.length = 2
    · have i1 : ((l.length : Int) = 2) = True := eq_true (by omega)
      have i2 : ((2 : Int) = (l.length : Int)) = True := eq_true (by omega)
      have e : formQ h.k l.length = 0 := by simp [formQ, c21, hn]
      rw [e] at hk
      refine We ?_
      have us := an c21 (an i1 i2)
      exact W66
    · have i1 : ((l.length : Int) = 2) = False := eq_false (by omega)
      have i2 : ((2 : Int) = (l.length : Int)) = False := eq_false (by omega)
      have e : formQ h.k l.length = 11 := by simp [formQ, c21, hn]
      rw [e] at hk
      refine We ?_
      have us := an c21 (an i1 i2)
      exact W66
  by_cases c23 : h.k = 23
  · by_cases hn : l.length = 2
    · have i1 : ((l.length : Int) = 2) = True := eq_true (by omega)
      have i2 : ((2 : Int) = (l.length : Int)) = True := eq_true (by omega)
      have e : formQ h.k l.length = 0 := by simp [formQ, c23, hn]
      rw [e] at hk
      refine We ?_
      have us := an c23 (an i1 i2)
      exact W66
    · have i1 : ((l.length : Int) = 2) = False := eq_false (by omega)
      have i2 : ((2 : Int) = (l.length : Int)) = False := eq_false (by omega)
      have e : formQ h.k l.length = 11 := by simp [formQ, c23, hn]
      rw [e] at hk
      refine We ?_
      have us := an c23 (an i1 i2)
      exact W66
  by_cases c24 : h.k = 24
  · by_cases hn : l.length = 2
    · have i1 : ((l.length : Int) = 2) = True := eq_true (by omega)
      have i2 : ((2 : Int) = (l.length : Int)) = True := eq_true (by omega)
      have e : formQ h.k l.length = 0 := by simp [formQ, c24, hn]
      rw [e] at hk
      refine We ?_
      have us := an c24 (an i1 i2)
      exact W66
    · have i1 : ((l.length : Int) = 2) = False := eq_false (by omega)
      have i2 : ((2 : Int) = (l.length : Int)) = False := eq_false (by omega)
      have e : formQ h.k l.length = 11 := by simp [formQ, c24, hn]
      rw [e] at hk
      refine We ?_
      have us := an c24 (an i1 i2)
      exact W66
  by_cases c25 : h.k = 25
  · by_cases hn : l.length = 2
    · have i1 : ((l.length : Int) = 2) = True := eq_true (by omega)
      have i2 : ((2 : Int) = (l.length : Int)) = True := eq_true (by omega)
      have e : formQ h.k l.length = 0 := by simp [formQ, c25, hn]
      rw [e] at hk
      refine We ?_
      have us := an c25 (an i1 i2)
      exact W66
    · have i1 : ((l.length : Int) = 2) = False := eq_false (by omega)
      have i2 : ((2 : Int) = (l.length : Int)) = False := eq_false (by omega)
      have e : formQ h.k l.length = 11 := by simp [formQ, c25, hn]
      rw [e] at hk
      refine We ?_
      have us := an c25 (an i1 i2)
      exact W66
  by_cases c7 : h.k = 7
  · by_cases hn : l.length = 3
    · have i1 : ((l.length : Int) = 3) = True := eq_true (by omega)
      have i2 : ((3 : Int) = (l.length : Int)) = True := eq_true (by omega)
      have e : formQ h.k l.length = 0 := by simp [formQ, c7, hn]
      rw [e] at hk
      refine We ?_
      have us := an c7 (an i1 i2)
      exact W66
    · have i1 : ((l.length : Int) = 3) = False := eq_false (by omega)
      have i2 : ((3 : Int) = (l.length : Int)) = False := eq_false (by omega)
      have e : formQ h.k l.length = 11 := by simp [formQ, c7, hn]
      rw [e] at hk
      refine We ?_
      have us := an c7 (an i1 i2)
      exact W66
  by_cases c3 : h.k = 3
  · have e : formQ h.k l.length = 0 := by simp [formQ, c3]
    rw [e] at hk
    refine We ?_
    have us := c3
    exact W66
  by_cases c8 : h.k = 8
  · have e : formQ h.k l.length = 0 := by simp [formQ, c8]
    rw [e] at hk
    refine We ?_
    have us := c8
    exact W66
  by_cases c22 : h.k = 22
  · by_cases hn : l.length = 0
    · have i1 : ((l.length : Int) = 0) = True := eq_true (by omega)
      have i2 : ((0 : Int) < (l.length : Int)) = False := eq_false (by omega)
      have e : formQ h.k l.length = 11 := by simp [formQ, c22, hn]
      rw [e] at hk
      refine We ?_
      have us := an c22 (an i1 i2)
      exact W66
    · have i1 : ((l.length : Int) = 0) = False := eq_false (by omega)
      have i2 : ((0 : Int) < (l.length : Int)) = True := eq_true (by omega)
      have e : formQ h.k l.length = 0 := by simp [formQ, c22, hn]
      rw [e] at hk
      refine We ?_
      have us := an c22 (an i1 i2)
      exact W66
  have k1 : (h.k = 1) = False := eq_false c1
  have k2 : (h.k = 2) = False := eq_false c2
  have k11 : (h.k = 11) = False := eq_false c11
  have k27 : (h.k = 27) = False := eq_false c27
  have k9 : (h.k = 9) = False := eq_false c9
  have k10 : (h.k = 10) = False := eq_false c10
  have k26 : (h.k = 26) = False := eq_false c26
  have k28 : (h.k = 28) = False := eq_false c28
  have k21 : (h.k = 21) = False := eq_false c21
  have k23 : (h.k = 23) = False := eq_false c23
  have k24 : (h.k = 24) = False := eq_false c24
  have k25 : (h.k = 25) = False := eq_false c25
  have k7 : (h.k = 7) = False := eq_false c7
  have k3 : (h.k = 3) = False := eq_false c3
  have k8 : (h.k = 8) = False := eq_false c8
  have k22 : (h.k = 22) = False := eq_false c22
  have e : formQ h.k l.length = 3 := by simp [formQ, c1, c2, c11, c27, c9, c10, c26, c28, c21, c23, c24, c25, c7, c3, c8, c22]
  rw [e] at hk
  refine We ?_
  have us := an k1 (an k2 (an k11 (an k27 (an k9 (an k10 (an k26 (an k28 (an k21 (an k23 (an k24 (an k25 (an k7 (an k3 (an k8 k22))))))))))))))
  exact W66
end Go.Proofs.YtdmkfkjdielmiaaDoor
namespace Go.Proofs.YtdmkfkjdielmiaaDoor
open Go Go.Proofs.YtdmkfkjdielmiaaDoor.Ab
variable [Glo] [U8] [CAr]
set_option maxHeartbeats 4000000
set_option maxRecDepth 20000
theorem dropSF {H H1 G : Heap} {v v' : V} {K : V → Heap → Prop} (hk : K v' H1) (hl : H.length ≤ H1.length) (hc : Closed H H1) (hf : Fz H1.length (H1 ++ G) v v') (hb : Bel H1.length v') : RetK H K v (H1 ++ G) :=
  ⟨H1, G, v', rfl, hl, hc, hf, hb, hk⟩
structure PLow (B : Nat) (p : Ph) (sc : Sc) : Prop where
  le : phN p ≤ B
  ok : PhOk p
  sc : sc.length + 8 * phN p ≤ 10000000
def LowAt (f : Ph → Sc → Int → Ex × Int) (id B : Nat) : Prop := ∀ (p : Ph) (sc : Sc) (flt : Int) (H : Heap) (K : V → Heap → Prop), PLow B p sc → H[id]? = some (lwC flt) → K (exW (f p sc flt).1) (H.set id (lwC (f p sc flt).2)) →
  ACalls Tryd.prog 15 [.pt id 0 0 0, phW p.h p.args p.cls, .d (.sl 1 (sc.map strRow))] H K
theorem LowAt.set {f : Ph → Sc → Int → Ex × Int} {id B : Nat} (hf : LowAt f id B) {p : Ph} {sc : Sc} (hp : PLow B p sc) {H : Heap} {o : Ob} (hr : H[id]? = some o) (flt : Int) (G : Heap) (K : V → Heap → Prop) (hk : K (exW (f p sc flt).1) (H.set id (lwC (f p sc flt).2) ++ G)) :
    ACalls Tryd.prog 15 [.pt id 0 0 0, phW p.h p.args p.cls, .d (.sl 1 (sc.map strRow))] (H.set id (lwC flt) ++ G) K := by
  have a := atH hr
  refine hf p sc flt _ K hp (a.gsa _ _) ?_
  rw [a.ssa]
  exact hk
theorem LowAt.app {f : Ph → Sc → Int → Ex × Int} {id B : Nat} (hf : LowAt f id B) {p : Ph} {sc : Sc} (hp : PLow B p sc) {H : Heap} {flt : Int} (hr : H[id]? = some (lwC flt)) (G : Heap) (K : V → Heap → Prop) (hk : K (exW (f p sc flt).1) (H.set id (lwC (f p sc flt).2) ++ G)) :
    ACalls Tryd.prog 15 [.pt id 0 0 0, phW p.h p.args p.cls, .d (.sl 1 (sc.map strRow))] (H ++ G) K := by
  have a := atH hr
  refine hf p sc flt _ K hp (a.ga _) ?_
  rw [a.sa]
  exact hk
def exC (x : Ex) : List V := (exD x).map V.d
theorem exC_data (l : List Ex) : dsRows (l.map exC) = some (l.map exD) := by
  have := data_rows (l.map exD)
  rwa [List.map_map] at this
theorem exC_bel (m v e sz : Nat) (l : List Ex) : ObBel m (.row v e sz (l.map exC)) := by
  intro row hr w hw
  obtain ⟨r, _, rfl⟩ := List.mem_map.1 hr
  obtain ⟨d, _, rfl⟩ := List.mem_map.1 hw
  exact .d _
theorem exC_1 (x : Ex) : exC x = [.d (.i .i64 x.h.k), .d (.i .i64 x.h.it.k), .d (.i .i64 x.h.it.n), .d (.s x.h.it.s), .d (.s x.h.nm), .d (.s x.h.at_), .d (.i .i64 x.h.n), .d (.i .i64 x.h.ax), .d (.i .i64 x.h.tk), .d (.s x.h.tn), .d (.sl 11 (x.args.map exD))] := by
  rw [exC, exD_1]; rfl
theorem argsP_nil (f : Ph → Sc → Int → Ex × Int) (sc : Sc) (flt : Int) : argsP f [] sc flt = ([], flt) := rfl
theorem argsP_app (f : Ph → Sc → Int → Ex × Int) (x : Ph) (sc : Sc) : ∀ (l : List Ph) (flt : Int), argsP f (l ++ [x]) sc flt = ((argsP f l sc flt).1 ++ [(f x sc (argsP f l sc flt).2).1], (f x sc (argsP f l sc flt).2).2)
  | [], flt => rfl
  | p :: l, flt => by
    rw [List.cons_append, argsP, argsP_app f x sc l, argsP]
    rfl
theorem argsP_len (f : Ph → Sc → Int → Ex × Int) (sc : Sc) : ∀ (l : List Ph) (flt : Int), (argsP f l sc flt).1.length = l.length
  | [], _ => rfl
  | p :: l, flt => by rw [argsP, List.length_cons, List.length_cons, argsP_len f sc l]
theorem closed_sa {H : Heap} {id : Nat} {o X : Ob} (h : H[id]? = some o) {G : Heap} (hX : ObBel (H.set id X ++ G).length X) (hG : ∀ ob, ob ∈ G → ObBel (H.set id X ++ G).length ob) : Closed H (H.set id X ++ G) := by
  intro j ver e sz rows hj
  have hid := lt_of_get h
  by_cases hjl : j < H.length
  · rw [List.getElem?_append_left (by simpa using hjl), List.getElem?_set] at hj
    split at hj
    · first
      | (have := Option.some.inj hj
         subst this
         exact .inr hX)
      | (split at hj
         · have := Option.some.inj hj
           subst this
           exact .inr hX
         · cases hj)
    · exact .inl hj
  · rw [List.getElem?_append_right (by simpa using hjl)] at hj
    have := hG _ (List.mem_of_getElem? hj)
    exact .inr this
namespace FN38
def tks : Nat → List Nat | 0 => [0, 1, 2] | 1 => [0, 1, 2, 7] | 2 => [0, 2, 7, 10, 11, 12] | 3 => [0, 2, 7, 10, 11, 12, 13] | 4 => [0, 2, 7, 9, 10, 11, 12] | 5 => [0, 2, 7, 10, 11, 12] | 6 => [0, 2, 7, 10, 11, 12] | 7 => [6] | _ => []
def tmu : List Nat := [7]
def tin : List Nat := [0, 1, 2]
abbrev tfn := @Tryd.func38
end FN38
attribute [go_sem] FN38.tks FN38.tmu FN38.tin Tryd.ntmps38 Tryd.results38
open FN38 in
theorem args_A {f : Ph → Sc → Int → Ex × Int} {id B : Nat} (hf : LowAt f id B) (l : List Ph) (hlen : l.length ≤ 1048576) (sc : Sc) (hp : ∀ p, p ∈ l → PLow B p sc) (flt : Int) (H : Heap) (K : V → Heap → Prop) (hr : H[id]? = some (lwC flt))
    (hk : K (.d (.sl 11 ((argsP f l sc flt).1.map exD))) (H.set id (lwC (argsP f l sc flt).2))) :
    ACalls Tryd.prog 38 [.pt id 0 0 0, .d (.sl 11 (l.map phD)), .d (.sl 1 (sc.map strRow))] H K := by
  have hid := lt_of_get hr
  obtain ⟨ga, sa, gs, ss, gsa, ssa, gl0, glk, sl0, slk⟩ := atH hr
  have hsm := lw_keep hr
  refine We ?_
  have us := eq_self (0 : Nat)
  refine W67 ?_
  refine AWp_whileG (fun i : Nat => i ≤ l.length) (fun i => [(0, .pt id 0 0 0), (2, .d (.sl 1 (sc.map strRow))), (7, .os H.length i), (10, .d (.sl 11 (l.map phD))), (11, .d (.i .i64 l.length)), (12, .d (.i .i64 i))])
    (fun i => H.set id (lwC (argsP f (l.take i) sc flt).2) ++ [.row i 32 11 ((argsP f (l.take i) sc flt).1.map exC)]) (fun i => l.length - i) 0 (Nat.zero_le _) ⟨[], ?_⟩ ?_ ?_ ?_ ?_
  · rw [List.take_zero, argsP_nil]
    simp only [hsm, List.map_nil, List.append_nil]
  · simp (dsimp := false) only [go_sem, Nat.reduceAdd, Nat.reduceBEq, Nat.reduceEqDiff, Nat.reduceLT, Nat.reduceLeDiff, Nat.reduceMul, Int.reduceToNat, reduceCtorEq, ↓reduceIte, hid, List.length_set]
    first | done | (simp [hid]; done) | (simp [hid]; omega)
  · intro i _; simp
  · intro i _
    exact closed_sa hr (lwC_bel _ _) fun ob hob => by rw [List.mem_singleton.1 hob]; exact exC_bel _ _ _ _ _
  rintro i hi
  have t2 : ((0 : Int) ≤ (i : Int)) = True := eq_true (by omega)
  have hal := argsP_len f sc (l.take i) flt
  have hal' : (argsP f (l.take i) sc flt).1.length = i := by rw [hal, List.length_take]; omega
  by_cases hil : i < l.length
  case neg =>
    have t1 : ((i : Int) < (l.length : Int)) = False := eq_false (by omega)
    rw [List.take_of_length_le (by omega)]
    have us := t1
    exact W68
  have t1 : ((i : Int) < (l.length : Int)) = True := eq_true (by omega)
  obtain ⟨p, hx⟩ : ∃ x, l[i]? = some x := ⟨l[i], List.getElem?_eq_getElem hil⟩
  have hpl := hp p (List.mem_of_getElem? hx)
  have hc := fun G K hk => hf.set hpl hr (argsP f (l.take i) sc flt).2 G K hk
  rw [phW] at hc
  have c21 := hc; have us := an hx (an t1 (an t2 hal'))
  (repeat' (first | with_reducible (first | refine And.intro ?_ ?_ | intro _ | (refine hKv _ _ (AWp_nop ?_); clear hKv Kv) | (refine hKA ?_; clear hKA hKB KA KB) | (refine hKB ?_; clear hKA hKB KA KB) | refine Wp ?_ | fail) | ((first | with_reducible (first | (refine hKv _ _ ?_; clear hKv Kv) | (refine Wr ?_; intro Kv hKv) | refine AWp_retR ?_ | fail) | refine Wc ?_ | fail); try simp (dsimp := false) only [go_sem, Nat.reduceAdd, Nat.reduceBEq, Nat.reduceEqDiff, Nat.reduceLT, Nat.reduceLeDiff, Nat.reduceMul, Int.reduceToNat, reduceCtorEq, ↓reduceIte, us, List.length_set, exV, exW, gl0, glk, gsa, hid, phD_1, sl0, slk, ssa]) | (refine AWp_condC rfl ?_; intro KA KB hKA hKB; try simp only [onB_true, onB_false, onB_dec, onB_ndec, onB_not, onB_and, onB_or]) | (refine AWp_condA rfl ?_ ?_) | with_reducible (first | refine onB_of ?_ ?_ | rfl) | omega))
  all_goals first
    | omega
    | skip
  refine ⟨i + 1, [.row 0 29 11 [(phD p).map V.d]], by omega, by omega, ?_, rfl, by omega, by omega⟩
  rw [take_of_get hx, argsP_app]
  simp [exC_1, phD_1]
end Go.Proofs.YtdmkfkjdielmiaaDoor
namespace Go.Proofs.YtdmkfkjdielmiaaDoor
open Go Go.Proofs.YtdmkfkjdielmiaaDoor.Ab
variable [Glo] [U8] [CAr]
set_option maxHeartbeats 4000000
set_option maxRecDepth 20000
namespace FN15
def tks : Nat → List Nat | 0 => [0, 2, 4, 6] | 1 => [0, 2, 4, 6, 18] | 2 => [6] | 3 => [0, 2, 4, 6, 7] | 4 => [0, 2, 4, 6, 7, 23] | 5 => [6] | 6 => [0, 2, 4, 6, 28] | 7 => [0, 2, 4, 6, 28, 29] | 8 => [0, 4, 6, 8] | 9 => [0, 4, 6, 41] | 10 => [6] | 11 => [6] | 12 => [0, 2, 4, 6, 28, 47] | 13 => [6] | 14 => [0, 2, 4, 6, 28, 54] | 15 => [6] | 16 => [0, 2, 4, 6, 28, 59] | 17 => [6] | 18 => [0, 2, 4, 6, 28, 62] | 19 => [6] | 20 => [0, 2, 4, 6, 28, 70] | 21 => [6, 9] | 22 => [6] | 23 => [0, 2, 4, 6, 28, 89] | 24 => [6] | 25 => [0, 2, 4, 6, 28, 97] | 26 => [0, 2, 4, 6, 10, 11] | 27 => [0, 2, 4, 6, 10, 107] | 28 => [6] | 29 => [6] | 30 => [0, 2, 4, 6, 28, 117] | 31 => [6] | 32 => [0, 2, 4, 6, 123] | 33 => [0, 2, 4, 6, 12] | 34 => [0, 2, 4, 6, 12, 131] | 35 => [6] | 36 => [4, 6, 13] | 37 => [4, 6, 13, 145] | 38 => [6, 13] | 39 => [6] | 40 => [6] | _ => []
def tmu : List Nat := []
def tin : List Nat := [0, 1, 2]
def txv : Nat → Nat × Nat × List Ce | 36 => (9, 8, [.q 0 1 false, .q 0 1 false, .q 0 0 true, .q 0 0 false, .q 0 0 false, .q 0 0 true, .t, .q 0 0 false, .a]) | _ => (0, 0, [])
def tnd : Nat → Nat | 22 => 12 | _ => 0
abbrev tfn := @Tryd.func15
end FN15
attribute [go_sem] FN15.tks FN15.tmu FN15.tin FN15.txv FN15.tnd Tryd.ntmps15 Tryd.results15
class COp [Glo] where
  L : List (List UInt8 × List UInt8)
  perm : L.Perm opE
  at_ : glob 0 = some (mapRowS L)
class CCa [Glo] where
  L : List (List UInt8 × List UInt8)
  perm : L.Perm calledE
  at_ : glob 3 = some (mapRowS L)
theorem phW_k {h : Phh} {l : List Ph} {c : List Cl} {k : Int} (e : h.k = k) : phW h l c = .ag [.d (.i .i64 k), .d (.i .i64 h.it.k), .d (.i .i64 h.it.n), .d (.s h.it.s), .d (.s h.nm), .d (.i .i64 h.n), .d (.i .i64 h.ax), .d (.i .i64 h.tk), .d (.s h.tn), .d (.sl 11 (l.map phD)), .d (.sl 15 (c.map clD))] := by rw [← e]; rfl
theorem args_app {f : Ph → Sc → Int → Ex × Int} {id B : Nat} (hf : LowAt f id B) (l : List Ph) (hlen : l.length ≤ 1048576) (sc : Sc) (hp : ∀ p, p ∈ l → PLow B p sc) {flt : Int} {H : Heap} (hr : H[id]? = some (lwC flt)) (G : Heap) (K : V → Heap → Prop)
    (hk : K (.d (.sl 11 ((argsP f l sc flt).1.map exD))) (H.set id (lwC (argsP f l sc flt).2) ++ G)) :
    ACalls Tryd.prog 38 [.pt id 0 0 0, .d (.sl 11 (l.map phD)), .d (.sl 1 (sc.map strRow))] (H ++ G) K := by
  have a := atH hr
  refine args_A hf l hlen sc hp flt _ K (a.ga _) ?_
  rw [a.sa]
  exact hk
end Go.Proofs.YtdmkfkjdielmiaaDoor
namespace Go.Proofs.YtdmkfkjdielmiaaDoor
open Go Go.Proofs.YtdmkfkjdielmiaaDoor.Ab
variable [Glo] [U8] [CAr]
set_option maxHeartbeats 4000000
set_option maxRecDepth 20000
namespace FN141
def tks : Nat → List Nat | 0 => [0, 1, 3, 4, 7, 10] | 1 => [0, 1, 3, 4, 7, 10, 20] | 2 => [10] | 3 => [0, 1, 3, 4, 7, 10, 11] | 4 => [0, 1, 3, 4, 7, 10, 11, 29] | 5 => [0, 1, 3, 4, 7, 10, 11, 29, 30] | 6 => [0, 1, 3, 4, 7, 10, 11, 32] | 7 => [10] | 8 => [0, 1, 3, 4, 7, 10, 12] | 9 => [10] | 10 => [0, 1, 3, 4, 7, 10, 11, 29, 57] | 11 => [0, 1, 3, 4, 7, 10, 11, 13] | 12 => [10] | 13 => [0, 1, 3, 4, 7, 10, 11, 79] | 14 => [10] | 15 => [0, 1, 3, 4, 7, 10, 11, 14] | 16 => [0, 1, 3, 7, 10, 11, 14, 15] | 17 => [0, 1, 3, 7, 10, 11, 14, 15, 100] | 18 => [0, 1, 3, 7, 10, 11, 14, 15] | 19 => [0, 1, 3, 7, 10, 11, 14, 15, 16] | 20 => [0, 1, 3, 7, 10, 11, 14, 15, 16, 114] | 21 => [10] | 22 => [10, 16, 17] | 23 => [10, 17, 149] | 24 => [10, 17] | 25 => [10] | _ => []
def tmu : List Nat := []
def tin : List Nat := [0, 1, 2, 3, 4]
def txt : Nat → Nat × List Cd | 7 => (7, [.q 0 0, .q 0 0, .q 0 0, .q 0 0, .q 0 0, .q 0 0, .t]) | 9 => (9, [.q 0 1, .q 0 0, .q 0 0, .q 0 0, .q 0 0, .q 0 0, .q 0 0, .t, .q 0 0]) | 12 => (14, [.q 0 1, .q 0 1, .q 0 1, .q 0 0, .q 0 0, .q 0 0, .q 0 0, .q 0 0, .q 0 0, .q 0 0, .q 0 0, .q 0 0, .q 0 0, .t]) | 14 => (7, [.q 0 0, .q 0 0, .q 0 0, .q 0 0, .q 0 0, .q 0 0, .t]) | 21 => (12, [.q 0 2, .q 0 2, .q 0 2, .q 0 2, .q 0 2, .q 0 0, .q 0 0, .q 0 1, .q 0 1, .q 0 0, .g, .t]) | _ => (0, [])
def txv : Nat → Nat × Nat × List Ce | 22 => (21, 20, [.q 0 2 false, .q 0 2 false, .q 0 2 false, .q 0 2 false, .q 0 2 false, .q 0 0 true, .q 0 0 true, .q 0 0 false, .q 0 0 false, .q 0 0 false, .q 0 0 true, .t, .q 0 0 true, .q 0 0 true, .q 1 0 false, .q 1 0 false, .q 0 0 true, .t, .q 0 0 false, .q 2 0 false, .a]) | _ => (0, 0, [])
abbrev tfn := @Tryd.func141
end FN141
attribute [go_sem] FN141.tks FN141.tmu FN141.tin FN141.txt FN141.txv Tryd.ntmps141 Tryd.results141
structure TLow (B b : Nat) (L : List Cl) (p : Ph) (sc : Sc) : Prop where
  le : b ≤ B
  cls : ∀ c, c ∈ L → phN c.x ≤ b ∧ PhOk c.x ∧ c.c.nm.length ≤ 1048576 ∧ c.c.at_.length ≤ 1048576
  ple : phN p ≤ b
  ok : PhOk p
  len : L.length ≤ 1048576
  sc : sc.length + 2 * L.length + 8 * b ≤ 10000000
def TupAt (f : Ph → Sc → Int → Ex × Int) (id B : Nat) (L : List Cl) : Prop := ∀ (b : Nat) (p : Ph) (key : Bool) (sc : Sc) (flt : Int) (H : Heap) (K : V → Heap → Prop), TLow B b L p sc → H[id]? = some (lwC flt) → K (exW (tupP f L p key sc flt).1) (H.set id (lwC (tupP f L p key sc flt).2)) →
  ACalls Tryd.prog 141 [.pt id 0 0 0, .d (.sl 15 (L.map clD)), phW p.h p.args p.cls, .d (.b key), .d (.sl 1 (sc.map strRow))] H K
theorem TupAt.set {f : Ph → Sc → Int → Ex × Int} {id B : Nat} {L : List Cl} (hf : TupAt f id B L) {b : Nat} {p : Ph} {sc : Sc} (hp : TLow B b L p sc) (key : Bool) {H : Heap} {o : Ob} (hr : H[id]? = some o) (flt : Int) (G : Heap) (K : V → Heap → Prop) (hk : K (exW (tupP f L p key sc flt).1) (H.set id (lwC (tupP f L p key sc flt).2) ++ G)) :
    ACalls Tryd.prog 141 [.pt id 0 0 0, .d (.sl 15 (L.map clD)), phW p.h p.args p.cls, .d (.b key), .d (.sl 1 (sc.map strRow))] (H.set id (lwC flt) ++ G) K := by
  have a := atH hr
  refine hf b p key sc flt _ K hp (a.gsa _ _) ?_
  rw [a.ssa]
  exact hk
theorem TupAt.app {f : Ph → Sc → Int → Ex × Int} {id B : Nat} {L : List Cl} (hf : TupAt f id B L) {b : Nat} {p : Ph} {sc : Sc} (hp : TLow B b L p sc) (key : Bool) {H : Heap} {flt : Int} (hr : H[id]? = some (lwC flt)) (G : Heap) (K : V → Heap → Prop) (hk : K (exW (tupP f L p key sc flt).1) (H.set id (lwC (tupP f L p key sc flt).2) ++ G)) :
    ACalls Tryd.prog 141 [.pt id 0 0 0, .d (.sl 15 (L.map clD)), phW p.h p.args p.cls, .d (.b key), .d (.sl 1 (sc.map strRow))] (H ++ G) K := by
  have a := atH hr
  refine hf b p key sc flt _ K hp (a.ga _) ?_
  rw [a.sa]
  exact hk
theorem TLow.plow {B b : Nat} {L : List Cl} {p : Ph} {sc : Sc} (h : TLow B b L p sc) : PLow B p sc := ⟨Nat.le_trans h.ple h.le, h.ok, by have := h.sc; have := h.ple; omega⟩
theorem TLow.clow {B b : Nat} {L : List Cl} {p : Ph} {sc : Sc} (h : TLow B b L p sc) {c : Cl} (hc : c ∈ L) : PLow B c.x sc := ⟨Nat.le_trans (h.cls c hc).1 h.le, (h.cls c hc).2.1, by have := h.sc; have := (h.cls c hc).1; omega⟩
theorem TLow.rest {B b : Nat} {c : Cl} {L : List Cl} {p : Ph} {sc sc' : Sc} (h : TLow B b (c :: L) p sc) (hs : sc'.length ≤ sc.length + 2) : TLow B b L p sc' :=
  ⟨h.le, fun d hd => h.cls d (.tail _ hd), h.ple, h.ok, by have := h.len; rw [List.length_cons] at this; omega, by have := h.sc; rw [List.length_cons] at this; omega⟩
end Go.Proofs.YtdmkfkjdielmiaaDoor
namespace Go.Proofs.YtdmkfkjdielmiaaDoor
open Go Go.Proofs.YtdmkfkjdielmiaaDoor.Ab
variable [Glo] [U8] [CAr]
set_option maxHeartbeats 4000000
set_option maxRecDepth 20000
open FN141 in
theorem tup3_A {f : Ph → Sc → Int → Ex × Int} {id B : Nat} (hf : LowAt f id B) (L rest : List Cl) (c : Cl) (hL : L = c :: rest) (hR : TupAt f id B rest) (b : Nat) (p : Ph) (key : Bool) (sc : Sc) (flt : Int) (H : Heap) (K : V → Heap → Prop) (hT : TLow B b L p sc) (hr : H[id]? = some (lwC flt))
    (hk : K (exW (tupP f L p key sc flt).1) (H.set id (lwC (tupP f L p key sc flt).2))) (hck : c.c.k = 3) :
    ACalls Tryd.prog 141 [.pt id 0 0 0, .d (.sl 15 (L.map clD)), phW p.h p.args p.cls, .d (.b key), .d (.sl 1 (sc.map strRow))] H K := by
  have hid := lt_of_get hr
  obtain ⟨ga, sa, gs, ss, gsa, ssa, gl0, glk, sl0, slk⟩ := atH hr
  have hlen := hT.len
  have hmem : c ∈ L := by rw [hL]; exact .head _
  have x0 : L[0]? = some c := by rw [hL]; rfl
  have xd : List.drop 1 (List.take L.length (L.map clD)) = rest.map clD := by rw [List.take_of_length_le (by simp), hL]; rfl
  have hll : L.length = rest.length + 1 := by rw [hL]; rfl
  have xl : ((L.length : Int) = 0) = False := eq_false (by omega)
  have o1 := (hT.cls c hmem).2.2.1
  have o2 := (hT.cls c hmem).2.2.2
  have hscl := hT.sc
  have hx := fun G K hk => hf.app (hT.clow hmem) hr G K hk
  rw [hL, tupP] at hk
  rw [hL] at hT
  have k2 : (c.c.k = 2) = False := eq_false (by omega)
  have k3 : (c.c.k = 3) = True := eq_true (by omega)
  have k4 : (c.c.k = 4) = False := eq_false (by omega)
  rw [if_pos hck] at hk
  cases key with
  | true =>
    rw [if_pos rfl] at hk
    have ht := fun G K hk => hR.app (hT.rest (sc' := sc) (by omega)) true hr G K hk
    rw [phW] at ht
    refine We ?_
    have c21 := ht; have us := an x0 (an xd (an xl (an k2 (an k3 k4))))
    exact W69
  | false =>
    rw [if_neg (by decide)] at hk
    have ht := fun G K hk => hR.set (hT.rest (sc' := sc) (by omega)) false hr (f c.x sc flt).2 G K hk
    rw [phW] at ht
    rw [phW] at hx
    have hcall := call_A sBoolean [(f c.x sc flt).1]
    have hch := choose_A (eCall sBoolean [(f c.x sc flt).1]) (tupP f rest p false sc (f c.x sc flt).2).1 eNone
    simp only [exW, exV, List.map_cons, List.map_nil, exD_1] at hcall hch
    refine We ?_
    have c21 := hx; have c22 := ht; have c23 := hcall; have c24 := hch; have us := an x0 (an xd (an xl (an k2 (an k3 k4))))
    exact W70
open FN141 in
theorem tup4_A {f : Ph → Sc → Int → Ex × Int} {id B : Nat} (hf : LowAt f id B) (L rest : List Cl) (c : Cl) (hL : L = c :: rest) (hR : TupAt f id B rest) (b : Nat) (p : Ph) (key : Bool) (sc : Sc) (flt : Int) (H : Heap) (K : V → Heap → Prop) (hT : TLow B b L p sc) (hr : H[id]? = some (lwC flt))
    (hk : K (exW (tupP f L p key sc flt).1) (H.set id (lwC (tupP f L p key sc flt).2))) (hck : c.c.k = 4) :
    ACalls Tryd.prog 141 [.pt id 0 0 0, .d (.sl 15 (L.map clD)), phW p.h p.args p.cls, .d (.b key), .d (.sl 1 (sc.map strRow))] H K := by
  have hid := lt_of_get hr
  obtain ⟨ga, sa, gs, ss, gsa, ssa, gl0, glk, sl0, slk⟩ := atH hr
  have hlen := hT.len
  have hmem : c ∈ L := by rw [hL]; exact .head _
  have x0 : L[0]? = some c := by rw [hL]; rfl
  have xd : List.drop 1 (List.take L.length (L.map clD)) = rest.map clD := by rw [List.take_of_length_le (by simp), hL]; rfl
  have hll : L.length = rest.length + 1 := by rw [hL]; rfl
  have xl : ((L.length : Int) = 0) = False := eq_false (by omega)
  have o1 := (hT.cls c hmem).2.2.1
  have o2 := (hT.cls c hmem).2.2.2
  have hscl := hT.sc
  have hx := fun G K hk => hf.app (hT.clow hmem) hr G K hk
  rw [hL, tupP] at hk
  rw [hL] at hT
  have k2 : (c.c.k = 2) = False := eq_false (by omega)
  have k3 : (c.c.k = 3) = False := eq_false (by omega)
  have k4 : (c.c.k = 4) = True := eq_true (by omega)
  rw [if_neg (by omega), if_neg (by omega), if_pos hck] at hk
  have ht := fun G K hk => hR.app (hT.rest (sc' := sc) (by omega)) key hr G K hk
  rw [phW] at ht
  refine We ?_
  have c21 := ht; have us := an x0 (an xd (an xl (an k2 (an k3 k4))))
  exact W69
open FN141 in
theorem tup2_A {f : Ph → Sc → Int → Ex × Int} {id B : Nat} (hf : LowAt f id B) (L rest : List Cl) (c : Cl) (hL : L = c :: rest) (hR : TupAt f id B rest) (b : Nat) (p : Ph) (key : Bool) (sc : Sc) (flt : Int) (H : Heap) (K : V → Heap → Prop) (hT : TLow B b L p sc) (hr : H[id]? = some (lwC flt))
    (hk : K (exW (tupP f L p key sc flt).1) (H.set id (lwC (tupP f L p key sc flt).2))) (hck : c.c.k = 2) :
    ACalls Tryd.prog 141 [.pt id 0 0 0, .d (.sl 15 (L.map clD)), phW p.h p.args p.cls, .d (.b key), .d (.sl 1 (sc.map strRow))] H K := by
  have hid := lt_of_get hr
  obtain ⟨ga, sa, gs, ss, gsa, ssa, gl0, glk, sl0, slk⟩ := atH hr
  have hlen := hT.len
  have hmem : c ∈ L := by rw [hL]; exact .head _
  have x0 : L[0]? = some c := by rw [hL]; rfl
  have xd : List.drop 1 (List.take L.length (L.map clD)) = rest.map clD := by rw [List.take_of_length_le (by simp), hL]; rfl
  have hll : L.length = rest.length + 1 := by rw [hL]; rfl
  have xl : ((L.length : Int) = 0) = False := eq_false (by omega)
  have o1 := (hT.cls c hmem).2.2.1
  have o2 := (hT.cls c hmem).2.2.2
  have hscl := hT.sc
  have hx := fun G K hk => hf.app (hT.clow hmem) hr G K hk
  rw [hL, tupP] at hk
  rw [hL] at hT
  have k2 : (c.c.k = 2) = True := eq_true (by omega)
  have k3 : (c.c.k = 3) = False := eq_false (by omega)
  have k4 : (c.c.k = 4) = False := eq_false (by omega)
  rw [if_neg (by omega), if_pos hck] at hk
  have ht := fun G K hk => hR.set (hT.rest (sc' := sc ++ [c.c.nm]) (by simp)) key hr (f c.x sc flt).2 G K hk
  have hwi := with_A sc [c.c.nm] (by omega) (by simp)
  rw [phW] at ht
  rw [phW] at hx
  have hbe := be_A c.c.nm (f c.x sc flt).1 (tupP f rest p key (sc ++ [c.c.nm]) (f c.x sc flt).2).1
  simp only [exW, exV] at hbe
  refine We ?_
  have c21 := hx; have c22 := hwi; have c23 := ht; have c24 := hbe; have us := an x0 (an xd (an xl (an k2 (an k3 k4))))
  exact W71
end Go.Proofs.YtdmkfkjdielmiaaDoor
