/- Lowering: the lowerer, core.Lower, LoweredOf, and expressions held against themselves. No condition but that the tables of package unicode/utf8 and of the core's functions are there. -/
import Derived.Test.YtdmkfkjdielmiaaDoorP19
import Derived.Test.YtdmkfkjdielmiaaDoorP41
import Derived.Test.YtdmkfkjdielmiaaDoorP44
set_option linter.all false
set_option linter.unusedSimpArgs false
set_option linter.unusedVariables false
namespace Go.Proofs.YtdmkfkjdielmiaaDoor
open Go Go.Proofs.YtdmkfkjdielmiaaDoor.Ab
variable [Glo] [U8] [CAr] [COp] [CCa]
set_option maxHeartbeats 4000000
set_option maxRecDepth 20000
theorem sees_nil3 {P : Program} {f : Nat} {v u : V} {l : List (List UInt8)} (hl : l = []) {H : Heap} {K : V → Heap → Prop} (h : ACalls P f [v, u, .d (.sl 1 (l.map strRow))] H K) : ACalls P f [v, u, .d (.c (.slice none 0 0))] H K := fun w σ args hw hln hr => h w σ args hw hln fun j c z hc hz => by
  match j, hc with
  | 0, hc => exact hr 0 c z hc hz
  | 1, hc => exact hr 1 c z hc hz
  | 2, hc =>
    simp at hc
    subst hc hl
    exact Sees.nil _ _ _ _ _ _ (hr 2 _ z rfl hz)
def eZ : Ex := .mk xh0 []
def lowQ (r : Ex × Int) : Ex × Int := if r.2 = 0 then (if coreQ r.1 = 0 then (r.1, 0) else (eZ, coreQ r.1)) else (eZ, r.2)
theorem lowQ_agree (p : Ph) (n : Nat) : lowQ (lowP n p [] 0) = lowQ (lowR n p []) := by
  obtain ⟨h1, h2⟩ := (low_agree n).ok p []
  unfold lowQ
  rw [h1]
  by_cases hz : (lowR n p []).2 = 0
  · rw [if_pos hz, if_pos hz, h2 hz]
  · rw [if_neg hz, if_neg hz]
theorem plow_top {p : Ph} (ok : PhOk p) (hn : phN p ≤ 1048576) : PLow (phN p) p [] := ⟨Nat.le_refl _, ok, by simp only [List.length_nil]; omega⟩
namespace FN6
def tks : Nat → List Nat | 0 => [1, 2] | 1 => [1, 2, 4] | 2 => [2, 4, 5] | 3 => [2, 4, 5, 15] | 4 => [2, 4, 5] | 5 => [2, 4, 5, 25] | 6 => [2, 3] | 7 => [2, 3] | _ => []
def tmu : List Nat := [7]
def tin : List Nat := [0]
def txt : Nat → Nat × List Cd | 6 => (6, [.q 0 0, .q 0 0, .q 0 1, .q 0 1, .q 0 1, .t]) | _ => (0, [])
abbrev tfn := @Tryd.func6
end FN6
attribute [go_sem] FN6.tks FN6.tmu FN6.tin FN6.txt Tryd.ntmps6 Tryd.results6
open FN6 in
theorem coreLower_A (p : Ph) (ok : PhOk p) (hn : phN p ≤ 1048576) (H : Heap) (K : V → Heap → Prop) (hk : K (loV (lowQ (lowP (phN p) p [] 0))) H) : ACalls Tryd.prog 6 [phW p.h p.args p.cls] H K := by
  have hex := ok_low (phN p) p [] 0 ok
  have hht := ht_low (phN p) p [] 0
  have hL : ∀ (C : Ob) (K : V → Heap → Prop), K (exW (lowP (phN p) p [] 0).1) (H ++ [C, lwC (lowP (phN p) p [] 0).2]) → ACalls Tryd.prog 15 [.pt (H.length + 1) 0 0 0, phW p.h p.args p.cls, .d (.c (.slice none 0 0))] (H ++ [C, lwC 0]) K := fun C K hK => by
    refine sees_nil3 (l := []) rfl (low_A (phN p) (H.length + 1) p [] 0 (H ++ [C, lwC 0]) K (plow_top ok hn) ((get_appk _ _ 1).trans rfl) ?_)
    rw [set_appk]
    exact hK
  generalize lowP (phN p) p [] 0 = r at hex hht hL hk
  obtain ⟨x, f⟩ := r
  rw [phW] at hL ⊢
  have hc := coreCheck_A x hex (by simp only at hht; omega)
  rw [lowQ] at hk
  by_cases hz : f = 0
  · subst hz
    have i0 : ((0 : Int) = 0) = True := eq_true rfl
    rw [if_pos rfl] at hk
    by_cases hq : coreQ x = 0
    · have i1 : (coreQ x = 0) = True := eq_true hq
      rw [if_pos hq] at hk
      rw [hq] at hc
      refine We ?_
      have c21 := hL; have c22 := hc; have us := i0
      exact W114
    · have i1 : (coreQ x = 0) = False := eq_false hq
      rw [if_neg hq] at hk
      refine We ?_
      have c21 := hL; have c22 := hc; have us := an i0 i1
      exact W115
  · have i1 : (f = 0) = False := eq_false hz
    rw [if_neg hz] at hk
    refine We ?_
    have c21 := hL; have c22 := hc; have us := i1
    exact W115
namespace FN7
def tks : Nat → List Nat | 0 => [1, 2] | 1 => [2, 4, 5] | 2 => [2, 4, 5, 12] | 3 => [2, 4, 5] | 4 => [2, 4, 5, 16] | 5 => [2, 3] | 6 => [2, 3] | _ => []
def tmu : List Nat := []
def tin : List Nat := [0]
abbrev tfn := @Tryd.func7
end FN7
attribute [go_sem] FN7.tks FN7.tmu FN7.tin Tryd.ntmps7 Tryd.results7
open FN7 in
theorem loweredOf_A (p : Ph) (ok : PhOk p) (hn : phN p ≤ 1048576) (H : Heap) (K : V → Heap → Prop) (hk : K (loV (lowQ (lowR (phN p) p []))) H) : ACalls Tryd.prog 7 [phW p.h p.args p.cls] H K := by
  have hex : (lowR (phN p) p []).2 = 0 → ExOk (lowR (phN p) p []).1 := fun hz => by
    rw [← ((low_agree (phN p)).ok p []).2 hz]
    exact ok_low (phN p) p [] 0 ok
  have hht : (lowR (phN p) p []).2 = 0 → exH (lowR (phN p) p []).1 ≤ 10000000 := fun hz => by
    rw [← ((low_agree (phN p)).ok p []).2 hz]
    have := ht_low (phN p) p [] 0
    omega
  have hL : ∀ (H : Heap) (K : V → Heap → Prop), K (loV (lowR (phN p) p [])) H → ACalls Tryd.prog 17 [phW p.h p.args p.cls, .d (.c (.slice none 0 0))] H K := fun H K hK =>
    sees_nil1 (l := []) rfl (lowered_A (phN p) p [] H K (plow_top ok hn) hK)
  generalize lowR (phN p) p [] = r at hex hht hL hk
  obtain ⟨x, f⟩ := r
  simp only [loV] at hL
  rw [phW] at hL ⊢
  rw [lowQ] at hk
  by_cases hz : f = 0
  · subst hz
    have hc := coreFault_A x (hex rfl) (hht rfl)
    have i0 : ((0 : Int) = 0) = True := eq_true rfl
    rw [if_pos rfl] at hk
    by_cases hq : coreQ x = 0
    · have i1 : (coreQ x = 0) = True := eq_true hq
      rw [if_pos hq] at hk
      rw [hq] at hc
      refine We ?_
      have c21 := hL; have c22 := hc; have us := i0
      exact W116
    · have i1 : (coreQ x = 0) = False := eq_false hq
      rw [if_neg hq] at hk
      refine We ?_
      have c21 := hL; have c22 := hc; have us := an i0 i1
      exact W117
  · have i1 : (f = 0) = False := eq_false hz
    rw [if_neg hz] at hk
    refine We ?_
    have c21 := hL; have us := i1
    exact W117
namespace FN8
def tks : Nat → List Nat | 0 => [2, 3] | 1 => [2, 3, 61] | 2 => [4] | 3 => [2, 3, 5] | 4 => [2, 3, 5, 66] | 5 => [2, 3, 5] | 6 => [2, 3, 5, 80] | 7 => [4] | 8 => [4] | _ => []
def tmu : List Nat := []
def tin : List Nat := [0, 1]
def tnd : Nat → Nat | 6 => 11 | _ => 0
abbrev tfn := @Tryd.func8
end FN8
attribute [go_sem] FN8.tks FN8.tmu FN8.tin FN8.tnd Tryd.ntmps8 Tryd.results8
open FN8 in
theorem sameExpr_A : ∀ (n : Nat) (x : Ex), exH x ≤ n → ExOk x → ∀ (H : Heap) (K : V → Heap → Prop), K (.d (.b true)) H → ACalls Tryd.prog 8 [exV x.h x.args, exV x.h x.args] H K
  | 0, x, hn, _, _, _, _ => by rw [exH_eq] at hn; omega
  | n + 1, .mk h l, hn, ok, H, K, hk => by
    have hl := ok.len
    have oh := ok.h
    have o1 := oh.it
    have o2 := oh.nm
    have o3 := oh.at_
    have o4 := oh.tn
    have ih : ∀ y, y ∈ l → ∀ H K, K (.d (.b true)) H → ACalls Tryd.prog 8 [exV y.h y.args, exV y.h y.args] H K := fun y hy H K hk => by
      have := exH_lt (x := .mk h l) hy
      exact sameExpr_A n y (by omega) (ok.mem y hy) H K hk
    show ACalls Tryd.prog 8 [exV h l, exV h l] H K
    rw [exV]
    refine We ?_
    have us := eq_self (0 : Nat)
    refine W118 ?_
    all_goals first
      | omega
      | skip
    refine AWp_while0 (fun i : Nat => i ≤ l.length) (fun i => [(2, .rp [.i .i64 h.k, .i .i64 h.it.k, .i .i64 h.it.n, .s h.it.s, .s h.nm, .s h.at_, .i .i64 h.n, .i .i64 h.ax, .i .i64 h.tk, .s h.tn, .sl 11 (l.map exD)]), (3, .rp [.i .i64 h.k, .i .i64 h.it.k, .i .i64 h.it.n, .s h.it.s, .s h.nm, .s h.at_, .i .i64 h.n, .i .i64 h.ax, .i .i64 h.tk, .s h.tn, .sl 11 (l.map exD)]), (5, .d (.i .i64 i))]) (fun i => l.length - i) 0 (Nat.zero_le _) ?_ ?_
    · simp (dsimp := false) only [go_sem, Nat.reduceAdd, Nat.reduceBEq, Nat.reduceEqDiff, Nat.reduceLT, Nat.reduceLeDiff, Nat.reduceMul, Int.reduceToNat, reduceCtorEq, ↓reduceIte, not_true_eq_false, not_false_eq_true, Bool.true_and, Bool.false_and, Int.reduceEq, Int.reduceLT, Int.reduceLE, Int.reduceNeg, List.map_cons, List.map_nil, List.length_set, itV, tsV, eq_self]
      first | done | (simp; done) | (simp; omega)
    rintro i hi
    have t2 : ((0 : Int) ≤ (i : Int)) = True := eq_true (by omega)
    by_cases hil : i < l.length
    case neg =>
      have t1 : ((i : Int) < (l.length : Int)) = False := eq_false (by omega)
      have us := an t1 t2
      exact W119
    have t1 : ((i : Int) < (l.length : Int)) = True := eq_true (by omega)
    obtain ⟨y, hy⟩ : ∃ y, l[i]? = some y := ⟨l[i], List.getElem?_eq_getElem hil⟩
    have hc := ih y (List.mem_of_getElem? hy)
    rw [exV] at hc
    have c21 := hc; have us := an hy (an t1 t2)
    refine W120 ?_ ?_ ?_ ?_ <;> try exact trivial
    all_goals first
      | omega
      | exact ⟨i + 1, by omega, by omega, by simp⟩
      | exact ⟨rfl, i + 1, by omega, by omega, rfl, by omega, by omega⟩
      | (refine ⟨rfl, i + 1, by omega, by omega, ?_⟩; simp; done)
end Go.Proofs.YtdmkfkjdielmiaaDoor
