/- Lowering: scopes, variables, steps: walked. No condition but that the tables of package unicode/utf8 are there. -/
import Derived.Test.YtdmkfkjdielmiaaDoorP19
import Derived.Test.YtdmkfkjdielmiaaDoorP34
set_option linter.all false
set_option linter.unusedSimpArgs false
set_option linter.unusedVariables false
namespace Go.Proofs.YtdmkfkjdielmiaaDoor
open Go Go.Proofs.YtdmkfkjdielmiaaDoor.Ab
variable [Glo] [U8]
set_option maxHeartbeats 4000000
set_option maxRecDepth 20000
namespace FN97
def tks : Nat → List Nat | 0 => [0, 1] | 1 => [4] | _ => []
def tmu : List Nat := []
def tin : List Nat := [0, 1]
abbrev tfn := @Tryd.func97
end FN97
attribute [go_sem] FN97.tks FN97.tmu FN97.tin Tryd.ntmps97 Tryd.results97
theorem strs_cells (sc l : Sc) : dsRows ((sc.map strRow).map (fun r => r.map V.d) ++ (l.map strRow).map (fun r => r.map V.d)) = some ((sc ++ l).map strRow) := by
  have := data_rows ((sc ++ l).map strRow)
  rw [List.map_append, List.map_append] at this
  rw [List.map_append]
  exact this
theorem strs_bel (m v e sz : Nat) (sc l : Sc) : ObBel m (.row v e sz ((sc.map strRow).map (fun r => r.map V.d) ++ (l.map strRow).map (fun r => r.map V.d))) := by
  intro row hr v hv
  rcases List.mem_append.1 hr with hr | hr
  · obtain ⟨r, _, rfl⟩ := List.mem_map.1 hr
    obtain ⟨d, _, rfl⟩ := List.mem_map.1 hv
    exact .d _
  · obtain ⟨r, _, rfl⟩ := List.mem_map.1 hr
    obtain ⟨d, _, rfl⟩ := List.mem_map.1 hv
    exact .d _
open FN97 in
theorem withO_A (sc l : Sc) (hs : sc.length ≤ 100000000) (hl : l.length ≤ 100) (H : Heap) (K : V → Heap → Prop)
    (hk : K (.os (H.length + 1) 2) (H ++ [.row 0 9 1 [], .row 2 9 1 ((sc.map strRow).map (fun r => r.map V.d) ++ (l.map strRow).map (fun r => r.map V.d))])) :
    ACalls Tryd.prog 97 [.d (.sl 1 (sc.map strRow)), .d (.sl 1 (l.map strRow))] H K := by
  have hcn := fun H K hk => RkO.cloneStrsO_A (sc.map strRow) (by simp; omega) H K hk
  refine We ?_
  have c21 := hcn; have us := eq_self (0 : Nat)
  refine W55 ?_ ?_ ?_ ?_ <;> try exact trivial
  all_goals first
    | omega
    | (refine keepS hk (by simp) (closed_app fun ob hob => ?_) (.os _ _ (by simp))
       simp only [List.mem_cons, List.not_mem_nil, or_false] at hob
       rcases hob with rfl | rfl
       · exact RkO.cellsD_bel _ _ _ _ []
       · exact strs_bel _ _ _ _ _ _)
open FN97 in
theorem with_A (sc l : Sc) (hs : sc.length ≤ 100000000) (hl : l.length ≤ 100) (H : Heap) (K : V → Heap → Prop) (hk : K (.d (.sl 1 ((sc ++ l).map strRow))) H) :
    ACalls Tryd.prog 97 [.d (.sl 1 (sc.map strRow)), .d (.sl 1 (l.map strRow))] H K := by
  have hcn := fun H K hk => RkO.cloneStrsO_A (sc.map strRow) (by simp; omega) H K hk
  refine We ?_
  have c21 := hcn; have us := eq_self (0 : Nat)
  exact W56
namespace FN37
def tks : Nat → List Nat | 0 => [0, 1, 2, 6] | 1 => [0, 1, 6, 10] | 2 => [6] | 3 => [6] | _ => []
def tmu : List Nat := []
def tin : List Nat := [0, 1, 2]
abbrev tfn := @Tryd.func37
end FN37
attribute [go_sem] FN37.tks FN37.tmu FN37.tin Tryd.ntmps37 Tryd.results37
open FN37 in
theorem seen_A (id : Nat) (s : List UInt8) (sc : Sc) (f : Int) (hsc : sc.length ≤ 9223372036854775807) (H : Heap) (K : V → Heap → Prop) (hr : H[id]? = some (lwC f)) (hk : K (exW (seenP s sc f).1) (H.set id (lwC (seenP s sc f).2))) :
    ACalls Tryd.prog 37 [.pt id 0 0 0, .d (.s s), .d (.sl 1 (sc.map strRow))] H K := by
  have hid := lt_of_get hr
  obtain ⟨ga, sa, gs, ss, gsa, ssa, gl0, glk, sl0, slk⟩ := atH hr
  have hc := contains_A sc s hsc
  have hw := fun G K hk => wrong_A id 6 f (H ++ G) K (ga G) hk
  by_cases h : s ∈ sc
  · rw [decide_eq_true h] at hc
    rw [seenP, if_pos h, lw_keep hr] at hk
    refine We ?_
    have c21 := hc; have us := eq_self (0 : Nat)
    exact W57
  · rw [decide_eq_false h] at hc
    rw [seenP, if_neg h] at hk
    refine We ?_
    have c21 := hc; have c22 := hw; have us := eq_self (0 : Nat)
    exact W58
namespace FN48
def tks : Nat → List Nat | 0 => [0, 1, 4] | 1 => [0, 4, 9] | 2 => [4, 5] | 3 => [4, 5] | _ => []
def tmu : List Nat := []
def tin : List Nat := [0, 1]
abbrev tfn := @Tryd.func48
end FN48
attribute [go_sem] FN48.tks FN48.tmu FN48.tin Tryd.ntmps48 Tryd.results48
open FN48 in
theorem visible_A (s : List UInt8) (sc : Sc) (hsc : sc.length ≤ 9223372036854775807) (H : Heap) (K : V → Heap → Prop) (hk : K (.tu [exW (visR s sc).1, .d (.i .i64 (visR s sc).2)]) H) :
    ACalls Tryd.prog 48 [.d (.s s), .d (.sl 1 (sc.map strRow))] H K := by
  have hc := hasText_A sc s hsc
  by_cases h : s ∈ sc
  · rw [decide_eq_true h] at hc
    rw [visR, if_pos h] at hk
    refine We ?_
    have c21 := hc; have us := eq_self (0 : Nat)
    exact W59
  · rw [decide_eq_false h] at hc
    rw [visR, if_neg h] at hk
    refine We ?_
    have c21 := hc; have us := eq_self (0 : Nat)
    exact W60
theorem dropSe {H H1 G : Heap} {v v' : V} {K : V → Heap → Prop} (hk : K v' H1) (hl : H.length ≤ H1.length) (hc : Closed H H1) (hb : Bel H1.length v') (e : v = v') : RetK H K v (H1 ++ G) := by
  subst e; exact dropS hk hl hc hb
def phW (h : Phh) (l : List Ph) (c : List Cl) : V := .ag [.d (.i .i64 h.k), .d (.i .i64 h.it.k), .d (.i .i64 h.it.n), .d (.s h.it.s), .d (.s h.nm), .d (.i .i64 h.n), .d (.i .i64 h.ax), .d (.i .i64 h.tk), .d (.s h.tn), .d (.sl 11 (l.map phD)), .d (.sl 15 (c.map clD))]
theorem phD_1 (p : Ph) : phD p = [.i .i64 p.h.k, .i .i64 p.h.it.k, .i .i64 p.h.it.n, .s p.h.it.s, .s p.h.nm, .i .i64 p.h.n, .i .i64 p.h.ax, .i .i64 p.h.tk, .s p.h.tn, .sl 11 (p.args.map phD), .sl 15 (p.cls.map clD)] := by
  cases p with | mk h l c => rw [phD_eq]; rfl
theorem clD_1 (c : Cl) : clD c = [.i .i64 c.c.k, .s c.c.nm, .s c.c.at_, .b c.c.down, .i .i64 c.x.h.k, .i .i64 c.x.h.it.k, .i .i64 c.x.h.it.n, .s c.x.h.it.s, .s c.x.h.nm, .i .i64 c.x.h.n, .i .i64 c.x.h.ax, .i .i64 c.x.h.tk, .s c.x.h.tn, .sl 11 (c.x.args.map phD), .sl 15 (c.x.cls.map clD)] := by
  cases c with | mk c x => rw [clD_eq, phD_1]; rfl
namespace FN41
def tks : Nat → List Nat | 0 => [0, 2, 4, 6] | 1 => [0, 2, 4, 6, 7] | 2 => [0, 2, 4, 6, 7, 14] | 3 => [6] | 4 => [6] | _ => []
def tmu : List Nat := []
def tin : List Nat := [0, 1, 2]
def txt : Nat → Nat × List Cd | 4 => (8, [.q 0 1, .q 0 1, .q 0 1, .q 0 1, .q 0 0, .q 0 0, .t, .q 0 0]) | _ => (0, [])
abbrev tfn := @Tryd.func41
end FN41
attribute [go_sem] FN41.tks FN41.tmu FN41.tin FN41.txt Tryd.ntmps41 Tryd.results41
open FN41 in
theorem stepW_A (id : Nat) (h : Phh) (l : List Ph) (c : List Cl) (sc : Sc) (f : Int) (hsc : sc.length ≤ 9223372036854775807) (H : Heap) (K : V → Heap → Prop) (hr : H[id]? = some (lwC f)) (hk : K (exW (stepP h sc f).1) (H.set id (lwC (stepP h sc f).2))) :
    ACalls Tryd.prog 41 [.pt id 0 0 0, phW h l c, .d (.sl 1 (sc.map strRow))] H K := by
  have hid := lt_of_get hr
  obtain ⟨ga, sa, gs, ss, gsa, ssa, gl0, glk, sl0, slk⟩ := atH hr
  have hst := step_A h.ax h.tk h.tn
  have hw := fun e G K hk => wrong_A id e f (H ++ G) K (ga G) hk
  have hs := fun G K hk => seen_A id sDot sc f hsc (H ++ G) K (ga G) hk
  cases hb : stepB h.ax h.tk with
  | false =>
    rw [hb] at hst
    rw [stepP, hb, if_neg (by decide)] at hk
    refine We ?_
    have c21 := hst; have c31 := hw; have us := eq_self (0 : Nat)
    exact W61
  | true =>
    rw [hb] at hst
    rw [stepP, hb, if_pos rfl] at hk
    refine We ?_
    have c21 := hst; have c22 := hs; have us := eq_self (0 : Nat)
    exact W62
end Go.Proofs.YtdmkfkjdielmiaaDoor
