/- The parser of queries: loops of clauses. No condition but that the tables of package unicode/utf8 are there. -/
import Derived.Test.YtmhabdopcbokoaaDoorR18
import Derived.Test.YtmhabdopcbokoaaDoorR28
set_option linter.all false
set_option linter.unusedSimpArgs false
set_option linter.unusedVariables false
namespace Go.Proofs.YtmhabdopcbokoaaDoor.Gq
open Go Go.Proofs.YtmhabdopcbokoaaDoor.Ab
variable [Glo] [Gx]
set_option maxHeartbeats 4000000
set_option maxRecDepth 20000
def clC (x : Cl) : List V := (clD x).map .d
theorem clC_1 (c : Cl) : clC c = [.d (.i .i64 c.c.k), .d (.s c.c.nm), .d (.s c.c.at_), .d (.b c.c.down), .d (.i .i64 c.x.h.k), .d (.i .i64 c.x.h.it.k), .d (.i .i64 c.x.h.it.n), .d (.s c.x.h.it.s), .d (.s c.x.h.nm), .d (.i .i64 c.x.h.n), .d (.i .i64 c.x.h.ax), .d (.i .i64 c.x.h.tk), .d (.s c.x.h.tn), .d (aD c.x.args), .d (cD c.x.cls)] := by rw [clC, clD_1]; rfl
theorem cls_data (l : List Cl) : dsRows (l.map clC) = some (l.map clD) := by
  induction l with
  | nil => rfl
  | cons x l ih => simp [dsRows, clC_1, dsOf, asD, ih, clD_1]
theorem oBc {m ver sz : Nat} {e : TypeId} (l : List Cl) : ObBel m (.row ver e sz (l.map clC)) := fun r hr v hv => by
  obtain ⟨x, _, rfl⟩ := List.mem_map.1 hr
  obtain ⟨d, _, rfl⟩ := List.mem_map.1 hv
  exact .d d
structure Gc where
  l : List Cl
  p : Nat
  e : Int
  v : Nat
structure GcOk (L : List Tk) (f : Ps → PR) (q : List Cl × Ps) (y : Gc) : Prop where
  k : ∃ k, L.length < k + y.p ∧ clsP L f k y.l ⟨y.p, y.e⟩ = q
  p : y.p ≤ L.length
  l : y.l.length ≤ y.p
theorem GcOk.stop {L : List Tk} {f : Ps → PR} {q : List Cl × Ps} {y : Gc} (h : GcOk L f q y) (h1 : opensP L sFor ⟨y.p, y.e⟩ = false) (h2 : opensP L sLet ⟨y.p, y.e⟩ = false) : q = (y.l, ⟨y.p, y.e⟩) := by
  obtain ⟨⟨k, k1, k2⟩, hp, _⟩ := h
  cases k with
  | zero => omega
  | succ k =>
    rw [clsP, h1, if_neg (by decide), h2, if_neg (by decide)] at k2
    exact k2.symm
theorem GcOk.for_ {L : List Tk} {f : Ps → PR} {q : List Cl × Ps} {y : Gc} (h : GcOk L f q y) (hf : Mo L f) (h1 : opensP L sFor ⟨y.p, y.e⟩ = true) {t : Bs × Bs × Ps} (ht : forT L ⟨y.p + 1, y.e⟩ = t) {x : Ph} {p : Nat} {e : Int} (hx : f t.2.2 = (x, ⟨p, e⟩)) (v : Nat) : GcOk L f q ⟨y.l ++ [clF x 1 t.1 t.2.1 false], p, e, v⟩ ∧ y.p < p := by
  obtain ⟨⟨k, k1, k2⟩, hp, hl⟩ := h
  have hlt := isN_lt (opens_N h1)
  have h3 := Le_for (L := L) (st := ⟨y.p + 1, y.e⟩) hlt
  rw [ht] at h3
  have hm := h3.trans (hf _ h3.hi)
  rw [hx] at hm
  have hlo : y.p + 1 ≤ p := hm.lo
  refine ⟨⟨?_, hm.hi, by simp only [List.length_append, List.length_cons, List.length_nil]; omega⟩, hlo⟩
  cases k with
  | zero => simp only [] at hlt; omega
  | succ k =>
    rw [clsP, h1, if_pos rfl] at k2
    simp only [nxt, ht] at k2
    rw [hx] at k2
    exact ⟨k, by simp only []; omega, k2⟩
theorem GcOk.let_ {L : List Tk} {f : Ps → PR} {q : List Cl × Ps} {y : Gc} (h : GcOk L f q y) (hf : Mo L f) (h1 : opensP L sFor ⟨y.p, y.e⟩ = false) (h2 : opensP L sLet ⟨y.p, y.e⟩ = true) {t : Bs × Ps} (ht : letT L ⟨y.p + 1, y.e⟩ = t) {x : Ph} {p : Nat} {e : Int} (hx : f t.2 = (x, ⟨p, e⟩)) (v : Nat) : GcOk L f q ⟨y.l ++ [clF x 2 t.1 [] false], p, e, v⟩ ∧ y.p < p := by
  obtain ⟨⟨k, k1, k2⟩, hp, hl⟩ := h
  have hlt := isN_lt (opens_N h2)
  have h3 := Le_let (L := L) (st := ⟨y.p + 1, y.e⟩) hlt
  rw [ht] at h3
  have hm := h3.trans (hf _ h3.hi)
  rw [hx] at hm
  have hlo : y.p + 1 ≤ p := hm.lo
  refine ⟨⟨?_, hm.hi, by simp only [List.length_append, List.length_cons, List.length_nil]; omega⟩, hlo⟩
  cases k with
  | zero => simp only [] at hlt; omega
  | succ k =>
    rw [clsP, h1, if_neg (by decide), h2, if_pos rfl] at k2
    simp only [nxt, ht] at k2
    rw [hx] at k2
    exact ⟨k, by simp only []; omega, k2⟩
theorem cls_len {L : List Tk} {f : Ps → PR} : ∀ (k : Nat) (l : List Cl) (st : Ps), (clsP L f k l st).1.length ≤ l.length + k
  | 0, l, st => Nat.le_refl _
  | k + 1, l, st => by
    unfold clsP
    split
    · refine Nat.le_trans (cls_len k _ _) ?_
      simp only [List.length_append, List.length_cons, List.length_nil]; omega
    · split
      · refine Nat.le_trans (cls_len k _ _) ?_
        simp only [List.length_append, List.length_cons, List.length_nil]; omega
      · simp only []; omega
theorem cls_ne {L : List Tk} {f : Ps → PR} : ∀ (k : Nat) (l : List Cl) (st : Ps), l ≠ [] → (clsP L f k l st).1 ≠ []
  | 0, l, st, h => h
  | k + 1, l, st, h => by
    unfold clsP
    split
    · exact cls_ne k _ _ (by simp)
    · split
      · exact cls_ne k _ _ (by simp)
      · exact h
theorem cls_ne1 {L : List Tk} {f : Ps → PR} {st : Ps} (h : opensP L sFor st = true ∨ opensP L sLet st = true) : (clsP L f (L.length + 1) [] st).1 ≠ [] := by
  unfold clsP
  split
  · exact cls_ne _ _ _ (by simp)
  · rename_i h1
    rw [if_pos (h.resolve_left h1)]
    exact cls_ne _ _ _ (by simp)
namespace FN36
def tks : Nat → List Nat | 0 => [0, 2] | 1 => [0, 2, 3] | 2 => [0, 2, 3, 12] | 3 => [0, 2, 3, 13] | 4 => [0, 2, 3] | 5 => [0, 2, 3, 4] | 6 => [0, 2, 3, 4, 27] | 7 => [0, 2, 3, 4] | 8 => [0, 2, 3, 4] | 9 => [0, 2, 3, 4] | 10 => [0, 2, 3] | 11 => [0, 2, 3, 42] | 12 => [0, 2, 3] | 13 => [0, 2, 3, 5] | 14 => [0, 2, 3, 5] | 15 => [0, 2, 3, 5] | 16 => [0, 2, 3] | 17 => [0, 2, 3, 67] | 18 => [0, 2, 3] | 19 => [0, 2, 3, 77] | 20 => [0, 2, 3] | 21 => [0, 2, 3] | 22 => [0, 2, 3, 6] | 23 => [0, 2, 3, 6] | 24 => [0, 2, 3] | 25 => [0, 2, 3] | 26 => [2, 3] | 27 => [2] | _ => []
def tmu : List Nat := [40, 64, 74, 97]
def tin : List Nat := [0]
def txt : Nat → Nat × List Cd | 18 => (6, [.q 0 1, .q 0 1, .q 0 0, .t, .q 0 0, .q 1 0]) | _ => (0, [])
abbrev tfn := @Tryd.func36
end FN36
attribute [go_sem] FN36.tks FN36.tmu FN36.tin FN36.txt Tryd.ntmps36 Tryd.results36
open FN36 in
theorem gFlwor_A (L : List Tk) (hL : L.length ≤ 200) {al : Ps → PR} (hm : Mo L al) (n id : Nat) (p : Nat) (e : Int) (H : Heap) (K : V → Heap → Prop) (hp : p ≤ L.length) (hr : H[id]? = some (gpO L (n : Int) ⟨p, e⟩)) (hn30 : n ≤ 30) (hs : GAt L 17 al n id) (hop : opensP L sFor ⟨p, e⟩ = true ∨ opensP L sLet ⟨p, e⟩ = true) (hk : K (phV (flworF L al ⟨p, e⟩).1) (H.set id (gpO L (n : Int) (flworF L al ⟨p, e⟩).2))) :
    ACalls Tryd.prog 36 [.pt id 0 0 0] H K := by
  have hid := lt_of_get hr
  obtain ⟨ga, sa, gs, ss, gsa, ssa, gl0, glk, sl0, slk⟩ := atH hr
  have hne1 := cls_ne1 (f := al) hop
  have hlc := Le_cls hm (L.length + 1) [] ⟨p, e⟩ hp
  have hlq := cls_len (L := L) (f := al) (L.length + 1) [] ⟨p, e⟩
  rw [flworF] at hk
  simp only [] at hk
  have hq0 : GcOk L al (clsP L al (L.length + 1) [] ⟨p, e⟩) ⟨[], p, e, 0⟩ := ⟨⟨L.length + 1, by simp only []; omega, rfl⟩, hp, by simp⟩
  generalize clsP L al (L.length + 1) [] ⟨p, e⟩ = q at hq0 hk hne1 hlc hlq
  obtain ⟨lq, pq, eq⟩ := q
  have hpq := hlc.hi
  simp only [List.length_nil] at hk hne1 hpq hlq
  have ho1 := fun G K hk => gOpens_A L hL id (n : Int) p hp e [102, 111, 114] (H ++ G) K (ga G) hk
  have hr0 := hr
  simp only [gpO] at hr ga gs
  refine We ?_
  repeat' (first | (refine halt_block 0 ?_) | with_reducible (first | refine And.intro ?_ ?_ | intro _ | refine AWp_seq ?_ | refine AWp_block ?_ | (refine hKv _ _ (AWp_nop ?_); clear hKv Kv) | (refine hKA ?_; clear hKA hKB KA KB) | (refine hKB ?_; clear hKA hKB KA KB) | refine AWp_skipN ?_ | refine AWp_exitO (by repeat (first | exact Out.hit | apply Out.thenA | apply Out.out rfl)) ?_) | (with_reducible (first | (refine hKv _ _ ?_; clear hKv Kv) | ((first | refine AWp_regC tmu tks ?_ | refine AWp_drawT txt tmu tks (by decide) ti_mixed (by kernel_rfl) ?_ | refine AWp_regE tmu tks ?_); intro Kv hKv) | refine AWp_retR ?_); try simp (dsimp := false) only [go_sem, Nat.reduceAdd, Nat.reduceBEq, Nat.reduceEqDiff, Nat.reduceLT, Nat.reduceLeDiff, Nat.reduceMul, Int.reduceToNat, reduceCtorEq, ↓reduceIte, not_true_eq_false, not_false_eq_true, Bool.true_and, Bool.false_and, Int.reduceEq, Int.reduceLT, Int.reduceLE, Int.reduceNeg, List.map_cons, List.map_nil, List.length_set, hid, ga, sa, gs, ss, gsa, ssa, gl0, glk, sl0, slk, phV, phW, phD_1, tkV, gpO]) | (refine AWp_condC rfl ?_; intro KA KB hKA hKB; try simp only [onB_true, onB_false, onB_dec, onB_ndec, onB_not, onB_and, onB_or]) | (refine AWp_condA rfl ?_ ?_) | with_reducible (first | refine onB_of ?_ ?_ | rfl) | omega)
  refine AWp_cutG (ι := Nat) (fun _ => True) (fun _ => [(0, .pt id 0 0 0), (2, .pt H.length 0 0 0), (3, .pt (H.length + 1) 0 0 0)]) (fun v => H.set id (gpO L (n : Int) ⟨pq, eq⟩) ++ [.row 0 30 11 [[.d (.i .i64 0), .d (.i .i64 0), .d (.i .i64 0), .d (.s []), .d (.s []), .d (.i .i64 0), .d (.i .i64 0), .d (.i .i64 0), .d (.s []), .d (.c (.slice none 0 0)), .d (.c (.slice none 0 0))]], .row 0 30 11 [[.d (.i .i64 28), .d (.i .i64 0), .d (.i .i64 0), .d (.s []), .d (.s []), .d (.i .i64 0), .d (.i .i64 0), .d (.i .i64 0), .d (.s []), .d (.c (.slice none 0 0)), .os (H.length + 2) v]], .row v 49 15 (lq.map clC)]) (fun _ _ => by simp) (fun _ _ => closed_sa hid (gp_bel _ _ _ _ _) (by
    simp only [List.forall_mem_cons, List.length_cons, List.length_nil]
    exact ⟨oB1 (by simp [Bel_d]), oB1 (by simp [Bel_d, Bel_os]), oBc _, by simp⟩)) ?_ ?_
  · intro v _
    have hll : lq.length ≤ 202 := by omega
    rw [whereF] at hk
    simp only [] at hk
    cases hwh : isN L sWhere ⟨pq, eq⟩ with
    | true =>
      have hltq := isN_lt hwh
      simp only [] at hltq
      rw [hwh] at hk
      simp only [if_true, nxt] at hk
      rw [sWhere] at hwh
      have h1 := fun G K hk => gHasT_A L hL id (n : Int) pq eq [119, 104, 101, 114, 101] hwh (H.set id (gpO L (n : Int) ⟨pq, eq⟩) ++ G) K (gsa _ _) hk
      obtain ⟨x2, p2, e2, hk2, hp2⟩ := fR_N hm hltq (e := eq)
      rw [hk2] at hk
      have h2 := fun G K hk => hs (pq + 1) eq (H.set id (gpO L (n : Int) ⟨(pq + 1), eq⟩) ++ G) K hltq (fun _ => by omega) (gsa _ _) hk
      rw [hk2] at h2
      rw [orderF] at hk
      simp only [] at hk
      cases hor : isN L sOrder ⟨p2, e2⟩ with
      | false =>
        rw [hor] at hk
        simp only [Bool.false_eq_true, if_false] at hk
        rw [sOrder] at hor
        have h3 := fun G K hk => gIs_A L hL id (n : Int) ⟨p2, e2⟩ hp2 [111, 114, 100, 101, 114] (H.set id (gpO L (n : Int) ⟨p2, e2⟩) ++ G) K (gsa _ _) hk
        rw [hor] at h3
        obtain ⟨p6, e6, hk6, hp6⟩ := mP_N (L := L) (p := p2) (e := e2) (s := sReturn) hp2
        obtain ⟨x7, p7, e7, hk7, hp7⟩ := fR_N hm hp6 (e := e6)
        rw [hk6, hk7] at hk
        have h8 := fun G K hk => gMust_A L hL id (n : Int) p2 hp2 e2 [114, 101, 116, 117, 114, 110] (H.set id (gpO L (n : Int) ⟨p2, e2⟩) ++ G) K (gsa _ _) hk
        rw [sReturn] at hk6
        rw [hk6] at h8
        have h9 := fun G K hk => hs p6 e6 (H.set id (gpO L (n : Int) ⟨p6, e6⟩) ++ G) K hp6 (fun _ => by omega) (gsa _ _) hk
        rw [hk7] at h9
        have hne2 : (lq ++ [clF x2 3 [] [] false]) ≠ [] := by simp [hne1]
        have hdt := cls_data ((lq ++ [clF x2 3 [] [] false]))
        simp only [phV, phW, ph0, mkh, mka, mkc, aD_cons, List.map_nil, cD_ne hne2, phD_1] at hk
        try simp only [List.map_append, List.map_cons, List.map_nil, clF, List.append_assoc, List.cons_append, List.nil_append] at hk
        try simp only [clC_1, clF, mkcc, mkcx, List.map_append, List.map_cons, List.map_nil, List.append_assoc, List.cons_append, List.nil_append] at hdt
        simp only [gpO] at *
        have c21 := h1; have c22 := h2; have c23 := h3; have c24 := h8; have c25 := h9; have us := eq_self (0 : Nat)
        exact W55
      | true =>
        have hlto := isN_lt hor
        simp only [] at hlto
        rw [hor] at hk
        simp only [if_true, nxt] at hk
        rw [sOrder] at hor
        have h3 := fun G K hk => gIs_A L hL id (n : Int) ⟨p2, e2⟩ hp2 [111, 114, 100, 101, 114] (H.set id (gpO L (n : Int) ⟨p2, e2⟩) ++ G) K (gsa _ _) hk
        rw [hor] at h3
        obtain ⟨p4, e4, hk4, hp4⟩ := mP_N (L := L) (p := p2 + 1) (e := e2) (s := sBy) hlto
        obtain ⟨x5, p5, e5, hk5, hp5⟩ := fR_N hm hp4 (e := e4)
        rw [hk4, hk5] at hk
        simp only [hasP] at hk
        have h4 := fun G K hk => gMust_A L hL id (n : Int) (p2 + 1) hlto e2 [98, 121] (H.set id (gpO L (n : Int) ⟨(p2 + 1), e2⟩) ++ G) K (gsa _ _) hk
        rw [sBy] at hk4
        rw [hk4] at h4
        have h5 := fun G K hk => hs p4 e4 (H.set id (gpO L (n : Int) ⟨p4, e4⟩) ++ G) K hp4 (fun _ => by omega) (gsa _ _) hk
        rw [hk5] at h5
        cases hde : isN L sDescending ⟨p5, e5⟩ with
        | true =>
          have hltd := isN_lt hde
          simp only [] at hltd
          rw [hde] at hk
          simp only [if_true, nxt] at hk
          rw [sDescending] at hde
          have h6 := fun G K hk => gHasT_A L hL id (n : Int) p5 e5 [100, 101, 115, 99, 101, 110, 100, 105, 110, 103] hde (H.set id (gpO L (n : Int) ⟨p5, e5⟩) ++ G) K (gsa _ _) hk
          obtain ⟨p6, e6, hk6, hp6⟩ := mP_N (L := L) (p := (p5 + 1)) (e := e5) (s := sReturn) hltd
          obtain ⟨x7, p7, e7, hk7, hp7⟩ := fR_N hm hp6 (e := e6)
          rw [hk6, hk7] at hk
          have h8 := fun G K hk => gMust_A L hL id (n : Int) (p5 + 1) hltd e5 [114, 101, 116, 117, 114, 110] (H.set id (gpO L (n : Int) ⟨(p5 + 1), e5⟩) ++ G) K (gsa _ _) hk
          rw [sReturn] at hk6
          rw [hk6] at h8
          have h9 := fun G K hk => hs p6 e6 (H.set id (gpO L (n : Int) ⟨p6, e6⟩) ++ G) K hp6 (fun _ => by omega) (gsa _ _) hk
          rw [hk7] at h9
          have hne2 : ((lq ++ [clF x2 3 [] [] false]) ++ [clF x5 4 [] [] true]) ≠ [] := by simp [hne1]
          have hdt := cls_data (((lq ++ [clF x2 3 [] [] false]) ++ [clF x5 4 [] [] true]))
          simp only [phV, phW, ph0, mkh, mka, mkc, aD_cons, List.map_nil, cD_ne hne2, phD_1] at hk
          try simp only [List.map_append, List.map_cons, List.map_nil, clF, List.append_assoc, List.cons_append, List.nil_append] at hk
          try simp only [clC_1, clF, mkcc, mkcx, List.map_append, List.map_cons, List.map_nil, List.append_assoc, List.cons_append, List.nil_append] at hdt
          simp only [gpO] at *
          have c21 := h1; have c22 := h2; have c23 := h3; have c24 := h4; have c25 := h5; have c26 := h6; have c27 := h8; have c28 := h9; have us := eq_self (0 : Nat)
          exact W55
        | false =>
          rw [hde] at hk
          simp only [Bool.false_eq_true, if_false] at hk
          rw [sDescending] at hde
          have h6 := fun G K hk => gHasF_A L hL id (n : Int) p5 hp5 e5 [100, 101, 115, 99, 101, 110, 100, 105, 110, 103] hde (H.set id (gpO L (n : Int) ⟨p5, e5⟩) ++ G) K (gsa _ _) hk
          obtain ⟨p6, e6, hk6, hp6⟩ := mP_N (L := L) (p := p5) (e := e5) (s := sReturn) hp5
          obtain ⟨x7, p7, e7, hk7, hp7⟩ := fR_N hm hp6 (e := e6)
          rw [hk6, hk7] at hk
          have h8 := fun G K hk => gMust_A L hL id (n : Int) p5 hp5 e5 [114, 101, 116, 117, 114, 110] (H.set id (gpO L (n : Int) ⟨p5, e5⟩) ++ G) K (gsa _ _) hk
          rw [sReturn] at hk6
          rw [hk6] at h8
          have h9 := fun G K hk => hs p6 e6 (H.set id (gpO L (n : Int) ⟨p6, e6⟩) ++ G) K hp6 (fun _ => by omega) (gsa _ _) hk
          rw [hk7] at h9
          have hne2 : ((lq ++ [clF x2 3 [] [] false]) ++ [clF x5 4 [] [] false]) ≠ [] := by simp [hne1]
          have hdt := cls_data (((lq ++ [clF x2 3 [] [] false]) ++ [clF x5 4 [] [] false]))
          simp only [phV, phW, ph0, mkh, mka, mkc, aD_cons, List.map_nil, cD_ne hne2, phD_1] at hk
          try simp only [List.map_append, List.map_cons, List.map_nil, clF, List.append_assoc, List.cons_append, List.nil_append] at hk
          try simp only [clC_1, clF, mkcc, mkcx, List.map_append, List.map_cons, List.map_nil, List.append_assoc, List.cons_append, List.nil_append] at hdt
          simp only [gpO] at *
          have c21 := h1; have c22 := h2; have c23 := h3; have c24 := h4; have c25 := h5; have c26 := h6; have c27 := h8; have c28 := h9; have us := eq_self (0 : Nat)
          exact W55
    | false =>
      rw [hwh] at hk
      simp only [Bool.false_eq_true, if_false] at hk
      rw [sWhere] at hwh
      have h1 := fun G K hk => gHasF_A L hL id (n : Int) pq hpq eq [119, 104, 101, 114, 101] hwh (H.set id (gpO L (n : Int) ⟨pq, eq⟩) ++ G) K (gsa _ _) hk
      rw [orderF] at hk
      simp only [] at hk
      cases hor : isN L sOrder ⟨pq, eq⟩ with
      | false =>
        rw [hor] at hk
        simp only [Bool.false_eq_true, if_false] at hk
        rw [sOrder] at hor
        have h3 := fun G K hk => gIs_A L hL id (n : Int) ⟨pq, eq⟩ hpq [111, 114, 100, 101, 114] (H.set id (gpO L (n : Int) ⟨pq, eq⟩) ++ G) K (gsa _ _) hk
        rw [hor] at h3
        obtain ⟨p6, e6, hk6, hp6⟩ := mP_N (L := L) (p := pq) (e := eq) (s := sReturn) hpq
        obtain ⟨x7, p7, e7, hk7, hp7⟩ := fR_N hm hp6 (e := e6)
        rw [hk6, hk7] at hk
        have h8 := fun G K hk => gMust_A L hL id (n : Int) pq hpq eq [114, 101, 116, 117, 114, 110] (H.set id (gpO L (n : Int) ⟨pq, eq⟩) ++ G) K (gsa _ _) hk
        rw [sReturn] at hk6
        rw [hk6] at h8
        have h9 := fun G K hk => hs p6 e6 (H.set id (gpO L (n : Int) ⟨p6, e6⟩) ++ G) K hp6 (fun _ => by omega) (gsa _ _) hk
        rw [hk7] at h9
        have hne2 : lq ≠ [] := by simp [hne1]
        have hdt := cls_data (lq)
        simp only [phV, phW, ph0, mkh, mka, mkc, aD_cons, List.map_nil, cD_ne hne2, phD_1] at hk
        try simp only [List.map_append, List.map_cons, List.map_nil, clF, List.append_assoc, List.cons_append, List.nil_append] at hk
        try simp only [clC_1, clF, mkcc, mkcx, List.map_append, List.map_cons, List.map_nil, List.append_assoc, List.cons_append, List.nil_append] at hdt
        simp only [gpO] at *
        have c21 := h1; have c22 := h3; have c23 := h8; have c24 := h9; have us := eq_self (0 : Nat)
        exact W55
      | true =>
        have hlto := isN_lt hor
        simp only [] at hlto
        rw [hor] at hk
        simp only [if_true, nxt] at hk
        rw [sOrder] at hor
        have h3 := fun G K hk => gIs_A L hL id (n : Int) ⟨pq, eq⟩ hpq [111, 114, 100, 101, 114] (H.set id (gpO L (n : Int) ⟨pq, eq⟩) ++ G) K (gsa _ _) hk
        rw [hor] at h3
        obtain ⟨p4, e4, hk4, hp4⟩ := mP_N (L := L) (p := pq + 1) (e := eq) (s := sBy) hlto
        obtain ⟨x5, p5, e5, hk5, hp5⟩ := fR_N hm hp4 (e := e4)
        rw [hk4, hk5] at hk
        simp only [hasP] at hk
        have h4 := fun G K hk => gMust_A L hL id (n : Int) (pq + 1) hlto eq [98, 121] (H.set id (gpO L (n : Int) ⟨(pq + 1), eq⟩) ++ G) K (gsa _ _) hk
        rw [sBy] at hk4
        rw [hk4] at h4
        have h5 := fun G K hk => hs p4 e4 (H.set id (gpO L (n : Int) ⟨p4, e4⟩) ++ G) K hp4 (fun _ => by omega) (gsa _ _) hk
        rw [hk5] at h5
        cases hde : isN L sDescending ⟨p5, e5⟩ with
        | true =>
          have hltd := isN_lt hde
          simp only [] at hltd
          rw [hde] at hk
          simp only [if_true, nxt] at hk
          rw [sDescending] at hde
          have h6 := fun G K hk => gHasT_A L hL id (n : Int) p5 e5 [100, 101, 115, 99, 101, 110, 100, 105, 110, 103] hde (H.set id (gpO L (n : Int) ⟨p5, e5⟩) ++ G) K (gsa _ _) hk
          obtain ⟨p6, e6, hk6, hp6⟩ := mP_N (L := L) (p := (p5 + 1)) (e := e5) (s := sReturn) hltd
          obtain ⟨x7, p7, e7, hk7, hp7⟩ := fR_N hm hp6 (e := e6)
          rw [hk6, hk7] at hk
          have h8 := fun G K hk => gMust_A L hL id (n : Int) (p5 + 1) hltd e5 [114, 101, 116, 117, 114, 110] (H.set id (gpO L (n : Int) ⟨(p5 + 1), e5⟩) ++ G) K (gsa _ _) hk
          rw [sReturn] at hk6
          rw [hk6] at h8
          have h9 := fun G K hk => hs p6 e6 (H.set id (gpO L (n : Int) ⟨p6, e6⟩) ++ G) K hp6 (fun _ => by omega) (gsa _ _) hk
          rw [hk7] at h9
          have hne2 : (lq ++ [clF x5 4 [] [] true]) ≠ [] := by simp [hne1]
          have hdt := cls_data ((lq ++ [clF x5 4 [] [] true]))
          simp only [phV, phW, ph0, mkh, mka, mkc, aD_cons, List.map_nil, cD_ne hne2, phD_1] at hk
          try simp only [List.map_append, List.map_cons, List.map_nil, clF, List.append_assoc, List.cons_append, List.nil_append] at hk
          try simp only [clC_1, clF, mkcc, mkcx, List.map_append, List.map_cons, List.map_nil, List.append_assoc, List.cons_append, List.nil_append] at hdt
          simp only [gpO] at *
          have c21 := h1; have c22 := h3; have c23 := h4; have c24 := h5; have c25 := h6; have c26 := h8; have c27 := h9; have us := eq_self (0 : Nat)
          exact W55
        | false =>
          rw [hde] at hk
          simp only [Bool.false_eq_true, if_false] at hk
          rw [sDescending] at hde
          have h6 := fun G K hk => gHasF_A L hL id (n : Int) p5 hp5 e5 [100, 101, 115, 99, 101, 110, 100, 105, 110, 103] hde (H.set id (gpO L (n : Int) ⟨p5, e5⟩) ++ G) K (gsa _ _) hk
          obtain ⟨p6, e6, hk6, hp6⟩ := mP_N (L := L) (p := p5) (e := e5) (s := sReturn) hp5
          obtain ⟨x7, p7, e7, hk7, hp7⟩ := fR_N hm hp6 (e := e6)
          rw [hk6, hk7] at hk
          have h8 := fun G K hk => gMust_A L hL id (n : Int) p5 hp5 e5 [114, 101, 116, 117, 114, 110] (H.set id (gpO L (n : Int) ⟨p5, e5⟩) ++ G) K (gsa _ _) hk
          rw [sReturn] at hk6
          rw [hk6] at h8
          have h9 := fun G K hk => hs p6 e6 (H.set id (gpO L (n : Int) ⟨p6, e6⟩) ++ G) K hp6 (fun _ => by omega) (gsa _ _) hk
          rw [hk7] at h9
          have hne2 : (lq ++ [clF x5 4 [] [] false]) ≠ [] := by simp [hne1]
          have hdt := cls_data ((lq ++ [clF x5 4 [] [] false]))
          simp only [phV, phW, ph0, mkh, mka, mkc, aD_cons, List.map_nil, cD_ne hne2, phD_1] at hk
          try simp only [List.map_append, List.map_cons, List.map_nil, clF, List.append_assoc, List.cons_append, List.nil_append] at hk
          try simp only [clC_1, clF, mkcc, mkcx, List.map_append, List.map_cons, List.map_nil, List.append_assoc, List.cons_append, List.nil_append] at hdt
          simp only [gpO] at *
          have c21 := h1; have c22 := h3; have c23 := h4; have c24 := h5; have c25 := h6; have c26 := h8; have c27 := h9; have us := eq_self (0 : Nat)
          exact W55
  · refine AWp_prm (H.length + 1) 0 10 49 15 ((get_appk _ _ 1).trans rfl) rfl rfl (h := ?_)
    refine AWp_block ?_
    refine AWp_whileG (GcOk L al (lq, ⟨pq, eq⟩)) (fun y => [(0, .pt id 0 0 0), (2, .pt H.length 0 0 0), (3, .pt (H.length + 1) 0 0 0)])
      (fun y => H.set id (gpO L (n : Int) ⟨y.p, y.e⟩) ++ [.row 0 30 11 [[.d (.i .i64 0), .d (.i .i64 0), .d (.i .i64 0), .d (.s []), .d (.s []), .d (.i .i64 0), .d (.i .i64 0), .d (.i .i64 0), .d (.s []), .d (.c (.slice none 0 0)), .d (.c (.slice none 0 0))]], .row 0 30 11 [[.d (.i .i64 28), .d (.i .i64 0), .d (.i .i64 0), .d (.s []), .d (.s []), .d (.i .i64 0), .d (.i .i64 0), .d (.i .i64 0), .d (.s []), .d (.c (.slice none 0 0)), .os (H.length + 2) y.v]], .row y.v 49 15 (y.l.map clC)])
      (fun y => L.length - y.p) ⟨[], p, e, 0⟩ hq0 ⟨[], ?_⟩ ?_ ?_ ?_ ?_
    · simp only [set_same hr0]
      simp
    · simp (dsimp := false) only [go_sem, Nat.reduceAdd, Nat.reduceBEq, Nat.reduceEqDiff, Nat.reduceLT, Nat.reduceLeDiff, Nat.reduceMul, Int.reduceToNat, reduceCtorEq, ↓reduceIte, not_true_eq_false, not_false_eq_true, Bool.true_and, Bool.false_and, Int.reduceEq, Int.reduceLT, Int.reduceLE, Int.reduceNeg, List.map_cons, List.map_nil, List.length_set, hid, ga, sa, gs, ss, gsa, ssa, gl0, glk, sl0, slk, phV, phW, phD_1, tkV, gpO, pC1]
      simp
      try omega
    · intro y hy; simp
    · intro y hy
      refine closed_sa hid (gp_bel _ _ _ _ _) ?_
      simp only [List.forall_mem_cons, List.length_cons, List.length_nil]
      exact ⟨oB1 (by simp [Bel_d]), oB1 (by simp [Bel_d, Bel_os]), oBc _, by simp⟩
    rintro ⟨l, p8, e8, v⟩ hy
    have hp8 := hy.p
    have hl8 := hy.l
    simp only [] at hp8 hl8 ⊢
    by_cases he8 : e8 = 0
    · have q8 : (e8 = 0) = True := eq_true he8
      cases hf : opensP L sFor ⟨p8, e8⟩ with
      | true =>
        have hlt := isN_lt (opens_N hf)
        simp only [] at hlt
        obtain ⟨p1, e1, hk1, hp1⟩ := kP_N (L := L) (p := p8 + 1) (e := e8) (k := 4) hlt (by decide)
        have h1 := fun G K hk => gOpens_A L hL id (n : Int) p8 hp8 e8 [102, 111, 114] (H.set id (gpO L (n : Int) ⟨p8, e8⟩) ++ G) K (gsa _ _) hk
        have h2 := fun G K hk => gVar_A L hL id (n : Int) (p8 + 1) hlt e8 (H.set id (gpO L (n : Int) ⟨(p8 + 1), e8⟩) ++ G) K (gsa _ _) hk
        rw [hk1] at h2
        cases hat : isN L sAt ⟨p1, e1⟩ with
        | true =>
          have hlt1 := isN_lt hat
          simp only [] at hlt1
          obtain ⟨p2, e2, hk2, hp2⟩ := kP_N (L := L) (p := p1 + 1) (e := e1) (k := 4) hlt1 (by decide)
          obtain ⟨p3, e3, hk3, hp3⟩ := mP_N (L := L) (p := p2) (e := e2) (s := sIn) hp2
          obtain ⟨x4, p4, e4, hk4, hp4⟩ := fR_N hm hp3 (e := e3)
          have ht : forT L ⟨p8 + 1, e8⟩ = (kindT L 4 ⟨p8 + 1, e8⟩, kindT L 4 ⟨p1 + 1, e1⟩, ⟨p3, e3⟩) := by
            unfold forT
            simp only [hk1, hat, if_true, nxt, hk2, hk3]
          have hst := fun v => hy.for_ hm hf ht hk4 v
          simp only [] at hst
          rw [sAt] at hat
          have h3 := fun G K hk => gHasT_A L hL id (n : Int) p1 e1 [97, 116] hat (H.set id (gpO L (n : Int) ⟨p1, e1⟩) ++ G) K (gsa _ _) hk
          have h4 := fun G K hk => gVar_A L hL id (n : Int) (p1 + 1) hlt1 e1 (H.set id (gpO L (n : Int) ⟨(p1 + 1), e1⟩) ++ G) K (gsa _ _) hk
          rw [hk2] at h4
          have h5 := fun G K hk => gMust_A L hL id (n : Int) p2 hp2 e2 [105, 110] (H.set id (gpO L (n : Int) ⟨p2, e2⟩) ++ G) K (gsa _ _) hk
          rw [sIn] at hk3
          rw [hk3] at h5
          have h6 := fun G K hk => hs p3 e3 (H.set id (gpO L (n : Int) ⟨p3, e3⟩) ++ G) K hp3 (fun _ => by omega) (gsa _ _) hk
          rw [hk4] at h6
          generalize kindT L 4 ⟨p8 + 1, e8⟩ = nm at *
          generalize kindT L 4 ⟨p1 + 1, e1⟩ = at_ at *
          rw [sFor] at hf
          have hll : l.length ≤ 200 := by omega
          simp only [gpO] at *
          have c21 := h1; have c22 := h2; have c23 := h3; have c24 := h4; have c25 := h5; have c26 := h6; have us := an q8 hf
          (repeat' (first | with_reducible (first | refine And.intro ?_ ?_ | intro _ | (refine hKv _ _ (AWp_nop ?_); clear hKv Kv) | (refine hKA ?_; clear hKA hKB KA KB) | (refine hKB ?_; clear hKA hKB KA KB) | refine Wp ?_ | fail) | ((first | with_reducible (first | (refine hKv _ _ ?_; clear hKv Kv) | (refine Wr ?_; intro Kv hKv) | refine AWp_retR ?_ | fail) | refine Wc ?_ | fail); try simp (dsimp := false) only [go_sem, Nat.reduceAdd, Nat.reduceBEq, Nat.reduceEqDiff, Nat.reduceLT, Nat.reduceLeDiff, Nat.reduceMul, Int.reduceToNat, reduceCtorEq, ↓reduceIte, us, Bool.false_and, Bool.true_and, Int.reduceEq, Int.reduceLE, Int.reduceLT, Int.reduceNeg, List.length_set, List.map_cons, List.map_nil, ga, gl0, glk, gpO, gs, gsa, hid, not_false_eq_true, not_true_eq_false, pC1, phD_1, phV, phW, sa, sl0, slk, ss, ssa, tkV]) | (refine AWp_condC rfl ?_; intro KA KB hKA hKB; try simp only [onB_true, onB_false, onB_dec, onB_ndec, onB_not, onB_and, onB_or]) | (refine AWp_condA rfl ?_ ?_) | with_reducible (first | refine onB_of ?_ ?_ | rfl) | omega))
          all_goals first
            | omega
            | skip
          refine ⟨⟨l ++ [clF x4 1 nm at_ false], p4, e4, v + 1⟩, _, (hst (v + 1)).1, by have := (hst (v + 1)).2; simp only [] at this ⊢; omega, by simp [clC_1, clF, mkcc, mkcx]; rfl, ?_⟩
          try (simp (dsimp := false) only [go_sem, Nat.reduceAdd, Nat.reduceBEq, Nat.reduceEqDiff, Nat.reduceLT, Nat.reduceLeDiff, Nat.reduceMul, Int.reduceToNat, reduceCtorEq, ↓reduceIte, not_true_eq_false, not_false_eq_true, Bool.true_and, Bool.false_and, Int.reduceEq, Int.reduceLT, Int.reduceLE, Int.reduceNeg, List.map_cons, List.map_nil, List.length_set, hid, ga, sa, gs, ss, gsa, ssa, gl0, glk, sl0, slk, phV, phW, phD_1, tkV, gpO, q8, hf, pC1])
          all_goals try simp
          all_goals try omega
        | false =>
          obtain ⟨p3, e3, hk3, hp3⟩ := mP_N (L := L) (p := p1) (e := e1) (s := sIn) hp1
          obtain ⟨x4, p4, e4, hk4, hp4⟩ := fR_N hm hp3 (e := e3)
          have ht : forT L ⟨p8 + 1, e8⟩ = (kindT L 4 ⟨p8 + 1, e8⟩, [], ⟨p3, e3⟩) := by
            unfold forT
            simp only [hk1, hat, Bool.false_eq_true, if_false, nxt, hk3]
          have hst := fun v => hy.for_ hm hf ht hk4 v
          simp only [] at hst
          rw [sAt] at hat
          have h3 := fun G K hk => gHasF_A L hL id (n : Int) p1 hp1 e1 [97, 116] hat (H.set id (gpO L (n : Int) ⟨p1, e1⟩) ++ G) K (gsa _ _) hk
          have h5 := fun G K hk => gMust_A L hL id (n : Int) p1 hp1 e1 [105, 110] (H.set id (gpO L (n : Int) ⟨p1, e1⟩) ++ G) K (gsa _ _) hk
          rw [sIn] at hk3
          rw [hk3] at h5
          have h6 := fun G K hk => hs p3 e3 (H.set id (gpO L (n : Int) ⟨p3, e3⟩) ++ G) K hp3 (fun _ => by omega) (gsa _ _) hk
          rw [hk4] at h6
          generalize kindT L 4 ⟨p8 + 1, e8⟩ = nm at *
          rw [sFor] at hf
          have hll : l.length ≤ 200 := by omega
          simp only [gpO] at *
          have c21 := h1; have c22 := h2; have c23 := h3; have c24 := h5; have c25 := h6; have us := an q8 hf
          (repeat' (first | with_reducible (first | refine And.intro ?_ ?_ | intro _ | (refine hKv _ _ (AWp_nop ?_); clear hKv Kv) | (refine hKA ?_; clear hKA hKB KA KB) | (refine hKB ?_; clear hKA hKB KA KB) | refine Wp ?_ | fail) | ((first | with_reducible (first | (refine hKv _ _ ?_; clear hKv Kv) | (refine Wr ?_; intro Kv hKv) | refine AWp_retR ?_ | fail) | refine Wc ?_ | fail); try simp (dsimp := false) only [go_sem, Nat.reduceAdd, Nat.reduceBEq, Nat.reduceEqDiff, Nat.reduceLT, Nat.reduceLeDiff, Nat.reduceMul, Int.reduceToNat, reduceCtorEq, ↓reduceIte, us, Bool.false_and, Bool.true_and, Int.reduceEq, Int.reduceLE, Int.reduceLT, Int.reduceNeg, List.length_set, List.map_cons, List.map_nil, ga, gl0, glk, gpO, gs, gsa, hid, not_false_eq_true, not_true_eq_false, pC1, phD_1, phV, phW, sa, sl0, slk, ss, ssa, tkV]) | (refine AWp_condC rfl ?_; intro KA KB hKA hKB; try simp only [onB_true, onB_false, onB_dec, onB_ndec, onB_not, onB_and, onB_or]) | (refine AWp_condA rfl ?_ ?_) | with_reducible (first | refine onB_of ?_ ?_ | rfl) | omega))
          all_goals first
            | omega
            | skip
          refine ⟨⟨l ++ [clF x4 1 nm [] false], p4, e4, v + 1⟩, _, (hst (v + 1)).1, by have := (hst (v + 1)).2; simp only [] at this ⊢; omega, by simp [clC_1, clF, mkcc, mkcx]; rfl, ?_⟩
          try (simp (dsimp := false) only [go_sem, Nat.reduceAdd, Nat.reduceBEq, Nat.reduceEqDiff, Nat.reduceLT, Nat.reduceLeDiff, Nat.reduceMul, Int.reduceToNat, reduceCtorEq, ↓reduceIte, not_true_eq_false, not_false_eq_true, Bool.true_and, Bool.false_and, Int.reduceEq, Int.reduceLT, Int.reduceLE, Int.reduceNeg, List.map_cons, List.map_nil, List.length_set, hid, ga, sa, gs, ss, gsa, ssa, gl0, glk, sl0, slk, phV, phW, phD_1, tkV, gpO, q8, hf, pC1])
          all_goals try simp
          all_goals try omega
      | false =>
        cases hle : opensP L sLet ⟨p8, e8⟩ with
        | true =>
          have hlt := isN_lt (opens_N hle)
          simp only [] at hlt
          obtain ⟨p1, e1, hk1, hp1⟩ := kP_N (L := L) (p := p8 + 1) (e := e8) (k := 4) hlt (by decide)
          obtain ⟨p3, e3, hk3, hp3⟩ := mP_N (L := L) (p := p1) (e := e1) (s := sBe) hp1
          obtain ⟨x4, p4, e4, hk4, hp4⟩ := fR_N hm hp3 (e := e3)
          have ht : letT L ⟨p8 + 1, e8⟩ = (kindT L 4 ⟨p8 + 1, e8⟩, ⟨p3, e3⟩) := by
            unfold letT
            rw [hk1, hk3]
          have hst := fun v => hy.let_ hm hf hle ht hk4 v
          simp only [] at hst
          have h1 := fun G K hk => gOpens_A L hL id (n : Int) p8 hp8 e8 [102, 111, 114] (H.set id (gpO L (n : Int) ⟨p8, e8⟩) ++ G) K (gsa _ _) hk
          have h0 := fun G K hk => gOpens_A L hL id (n : Int) p8 hp8 e8 [108, 101, 116] (H.set id (gpO L (n : Int) ⟨p8, e8⟩) ++ G) K (gsa _ _) hk
          have h2 := fun G K hk => gVar_A L hL id (n : Int) (p8 + 1) hlt e8 (H.set id (gpO L (n : Int) ⟨(p8 + 1), e8⟩) ++ G) K (gsa _ _) hk
          rw [hk1] at h2
          have h5 := fun G K hk => gMust_A L hL id (n : Int) p1 hp1 e1 [58, 61] (H.set id (gpO L (n : Int) ⟨p1, e1⟩) ++ G) K (gsa _ _) hk
          rw [sBe] at hk3
          rw [hk3] at h5
          have h6 := fun G K hk => hs p3 e3 (H.set id (gpO L (n : Int) ⟨p3, e3⟩) ++ G) K hp3 (fun _ => by omega) (gsa _ _) hk
          rw [hk4] at h6
          generalize kindT L 4 ⟨p8 + 1, e8⟩ = nm at *
          rw [sFor] at hf
          rw [sLet] at hle
          have hll : l.length ≤ 200 := by omega
          simp only [gpO] at *
          have c21 := h1; have c22 := h0; have c23 := h2; have c24 := h5; have c25 := h6; have us := an q8 (an hf hle)
          (repeat' (first | with_reducible (first | refine And.intro ?_ ?_ | intro _ | (refine hKv _ _ (AWp_nop ?_); clear hKv Kv) | (refine hKA ?_; clear hKA hKB KA KB) | (refine hKB ?_; clear hKA hKB KA KB) | refine Wp ?_ | fail) | ((first | with_reducible (first | (refine hKv _ _ ?_; clear hKv Kv) | (refine Wr ?_; intro Kv hKv) | refine AWp_retR ?_ | fail) | refine Wc ?_ | fail); try simp (dsimp := false) only [go_sem, Nat.reduceAdd, Nat.reduceBEq, Nat.reduceEqDiff, Nat.reduceLT, Nat.reduceLeDiff, Nat.reduceMul, Int.reduceToNat, reduceCtorEq, ↓reduceIte, us, Bool.false_and, Bool.true_and, Int.reduceEq, Int.reduceLE, Int.reduceLT, Int.reduceNeg, List.length_set, List.map_cons, List.map_nil, ga, gl0, glk, gpO, gs, gsa, hid, not_false_eq_true, not_true_eq_false, pC1, phD_1, phV, phW, sa, sl0, slk, ss, ssa, tkV]) | (refine AWp_condC rfl ?_; intro KA KB hKA hKB; try simp only [onB_true, onB_false, onB_dec, onB_ndec, onB_not, onB_and, onB_or]) | (refine AWp_condA rfl ?_ ?_) | with_reducible (first | refine onB_of ?_ ?_ | rfl) | omega))
          all_goals first
            | omega
            | skip
          refine ⟨⟨l ++ [clF x4 2 nm [] false], p4, e4, v + 1⟩, _, (hst (v + 1)).1, by have := (hst (v + 1)).2; simp only [] at this ⊢; omega, by simp [clC_1, clF, mkcc, mkcx]; rfl, ?_⟩
          try (simp (dsimp := false) only [go_sem, Nat.reduceAdd, Nat.reduceBEq, Nat.reduceEqDiff, Nat.reduceLT, Nat.reduceLeDiff, Nat.reduceMul, Int.reduceToNat, reduceCtorEq, ↓reduceIte, not_true_eq_false, not_false_eq_true, Bool.true_and, Bool.false_and, Int.reduceEq, Int.reduceLT, Int.reduceLE, Int.reduceNeg, List.map_cons, List.map_nil, List.length_set, hid, ga, sa, gs, ss, gsa, ssa, gl0, glk, sl0, slk, phV, phW, phD_1, tkV, gpO, q8, hf, hle, pC1])
          all_goals try simp
          all_goals try omega
        | false =>
          have hst := hy.stop hf hle
          simp only [Prod.mk.injEq, Ps.mk.injEq] at hst
          obtain ⟨rfl, rfl, rfl⟩ := hst
          rw [sFor] at hf
          rw [sLet] at hle
          have h1 := fun G K hk => gOpens_A L hL id (n : Int) pq hpq eq [102, 111, 114] (H.set id (gpO L (n : Int) ⟨pq, eq⟩) ++ G) K (gsa _ _) hk
          have h2 := fun G K hk => gOpens_A L hL id (n : Int) pq hpq eq [108, 101, 116] (H.set id (gpO L (n : Int) ⟨pq, eq⟩) ++ G) K (gsa _ _) hk
          simp only [gpO] at *
          have c21 := h1; have c22 := h2; have us := an q8 (an hf hle)
          (repeat' (first | with_reducible (first | refine And.intro ?_ ?_ | intro _ | (refine hKv _ _ (AWp_nop ?_); clear hKv Kv) | (refine hKA ?_; clear hKA hKB KA KB) | (refine hKB ?_; clear hKA hKB KA KB) | refine Wp ?_ | fail) | ((first | with_reducible (first | (refine hKv _ _ ?_; clear hKv Kv) | (refine Wr ?_; intro Kv hKv) | refine AWp_retR ?_ | fail) | refine Wc ?_ | fail); try simp (dsimp := false) only [go_sem, Nat.reduceAdd, Nat.reduceBEq, Nat.reduceEqDiff, Nat.reduceLT, Nat.reduceLeDiff, Nat.reduceMul, Int.reduceToNat, reduceCtorEq, ↓reduceIte, us, Bool.false_and, Bool.true_and, Int.reduceEq, Int.reduceLE, Int.reduceLT, Int.reduceNeg, List.length_set, List.map_cons, List.map_nil, ga, gl0, glk, gpO, gs, gsa, hid, not_false_eq_true, not_true_eq_false, phD_1, phV, phW, sa, sl0, slk, ss, ssa, tkV]) | (refine AWp_condC rfl ?_; intro KA KB hKA hKB; try simp only [onB_true, onB_false, onB_dec, onB_ndec, onB_not, onB_and, onB_or]) | (refine AWp_condA rfl ?_ ?_) | with_reducible (first | refine onB_of ?_ ?_ | rfl) | omega))
          all_goals first
            | omega
            | skip
          refine ⟨v, [], by simp, ?_⟩
          try (simp (dsimp := false) only [go_sem, Nat.reduceAdd, Nat.reduceBEq, Nat.reduceEqDiff, Nat.reduceLT, Nat.reduceLeDiff, Nat.reduceMul, Int.reduceToNat, reduceCtorEq, ↓reduceIte, not_true_eq_false, not_false_eq_true, Bool.true_and, Bool.false_and, Int.reduceEq, Int.reduceLT, Int.reduceLE, Int.reduceNeg, List.map_cons, List.map_nil, List.length_set, hid, ga, sa, gs, ss, gsa, ssa, gl0, glk, sl0, slk, phV, phW, phD_1, tkV, gpO, q8, hf, hle])
          all_goals try simp
          all_goals try omega
    · have q8 : (e8 = 0) = False := eq_false he8
      have hx : ∀ s, opensP L s ⟨p8, e8⟩ = false := fun s => by unfold opensP; rw [isN_F he8, Bool.false_and]
      have hst := hy.stop (hx _) (hx _)
      simp only [Prod.mk.injEq, Ps.mk.injEq] at hst
      obtain ⟨rfl, rfl, rfl⟩ := hst
      simp only [gpO] at *
      have us := q8
      (repeat' (first | with_reducible (first | refine And.intro ?_ ?_ | intro _ | (refine hKv _ _ (AWp_nop ?_); clear hKv Kv) | (refine hKA ?_; clear hKA hKB KA KB) | (refine hKB ?_; clear hKA hKB KA KB) | refine Wp ?_ | fail) | ((first | with_reducible (first | (refine hKv _ _ ?_; clear hKv Kv) | (refine Wr ?_; intro Kv hKv) | refine AWp_retR ?_ | fail) | refine Wc ?_ | fail); try simp (dsimp := false) only [go_sem, Nat.reduceAdd, Nat.reduceBEq, Nat.reduceEqDiff, Nat.reduceLT, Nat.reduceLeDiff, Nat.reduceMul, Int.reduceToNat, reduceCtorEq, ↓reduceIte, us, Bool.false_and, Bool.true_and, Int.reduceEq, Int.reduceLE, Int.reduceLT, Int.reduceNeg, List.length_set, List.map_cons, List.map_nil, ga, gl0, glk, gpO, gs, gsa, hid, not_false_eq_true, not_true_eq_false, phD_1, phV, phW, sa, sl0, slk, ss, ssa, tkV]) | (refine AWp_condC rfl ?_; intro KA KB hKA hKB; try simp only [onB_true, onB_false, onB_dec, onB_ndec, onB_not, onB_and, onB_or]) | (refine AWp_condA rfl ?_ ?_) | with_reducible (first | refine onB_of ?_ ?_ | rfl) | omega))
      all_goals first
        | omega
        | skip
      refine ⟨v, [], by simp, ?_⟩
      try (simp (dsimp := false) only [go_sem, Nat.reduceAdd, Nat.reduceBEq, Nat.reduceEqDiff, Nat.reduceLT, Nat.reduceLeDiff, Nat.reduceMul, Int.reduceToNat, reduceCtorEq, ↓reduceIte, not_true_eq_false, not_false_eq_true, Bool.true_and, Bool.false_and, Int.reduceEq, Int.reduceLT, Int.reduceLE, Int.reduceNeg, List.map_cons, List.map_nil, List.length_set, hid, ga, sa, gs, ss, gsa, ssa, gl0, glk, sl0, slk, phV, phW, phD_1, tkV, gpO, q8])
      all_goals try simp
      all_goals try omega
end Go.Proofs.YtmhabdopcbokoaaDoor.Gq
