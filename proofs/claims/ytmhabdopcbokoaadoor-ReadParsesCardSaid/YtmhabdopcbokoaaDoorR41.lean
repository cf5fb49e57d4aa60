/- The grammar of queries: the reference: loops of clauses. No condition but that the tables of package unicode/utf8 are there. -/
import Derived.Test.YtmhabdopcbokoaaDoorR18
import Derived.Test.YtmhabdopcbokoaaDoorR33
import Derived.Test.YtmhabdopcbokoaaDoorR40
set_option linter.all false
set_option linter.unusedSimpArgs false
set_option linter.unusedVariables false
namespace Go.Proofs.YtmhabdopcbokoaaDoor.Gq
open Go Go.Proofs.YtmhabdopcbokoaaDoor.Ab
variable [Glo] [U8] [Mk] [Gx]
set_option maxHeartbeats 4000000
set_option maxRecDepth 20000
namespace FN44
def tks : Nat → List Nat | 0 => [0, 1, 4] | 1 => [0, 1, 4, 5] | 2 => [0, 1, 4, 5, 17] | 3 => [0, 1, 4, 5, 6] | 4 => [0, 1, 4, 5, 6, 20] | 5 => [0, 1, 4, 5, 6] | 6 => [0, 1, 4, 5, 6] | 7 => [0, 1, 4, 5, 6] | 8 => [0, 1, 4, 5, 6, 34] | 9 => [0, 1, 4, 5, 6, 36] | 10 => [0, 1, 4, 5, 6] | 11 => [0, 1, 4, 5, 6] | 12 => [0, 1, 4, 5, 6] | 13 => [0, 1, 4, 5, 6] | 14 => [0, 1, 4, 5] | 15 => [0, 1, 4, 5, 56] | 16 => [0, 1, 4, 5, 7] | 17 => [0, 1, 4, 5] | 18 => [0, 1, 4, 5, 69] | 19 => [0, 1, 4, 5] | 20 => [0, 1, 4, 5, 8] | 21 => [0, 1, 4, 5, 8, 9] | 22 => [0, 1, 4, 5] | 23 => [0, 1, 4, 5] | 24 => [4, 5, 10] | 25 => [4, 5] | 26 => [4] | _ => []
def tmu : List Nat := [53, 66, 84]
def tin : List Nat := [0, 1]
abbrev tfn := @Tryd.func44
end FN44
attribute [go_sem] FN44.tks FN44.tmu FN44.tin Tryd.ntmps44 Tryd.results44
open FN44 in
theorem rFlwor_A (L : List Tk) (hL : L.length ≤ 200) {al : Ps → PR} (hm : Mo L al) (n : Nat) (hn : n ≤ 100) (id : Nat) (p : Nat) (e : Int) (H : Heap) (K : V → Heap → Prop) (hp : p ≤ L.length) (hr : H[id]? = some (grO L ⟨p, e⟩)) (hs : GRt L 26 al (n + 1) id True) (hop : opensP L sFor ⟨p, e⟩ = true ∨ opensP L sLet ⟨p, e⟩ = true) (hk : K (phV (flworF L al ⟨p, e⟩).1) (H.set id (grO L (flworF L al ⟨p, e⟩).2))) :
    ACalls Tryd.prog 44 [.pt id 0 0 0, .d (.i .i64 (n : Int))] H K := by
  have hid := lt_of_get hr
  obtain ⟨ga, sa, gs, ss, gsa, ssa, gl0, glk, sl0, slk⟩ := atH hr
  have hne1 := cls_ne1 (f := al) hop
  have hlc := Le_cls hm (L.length + 1) [] ⟨p, e⟩ hp
  have hlq := cls_len (L := L) (f := al) (L.length + 1) [] ⟨p, e⟩
  rw [flworF] at hk
  simp only [] at hk
  have hq0 : GcOk L al (clsP L al (L.length + 1) [] ⟨p, e⟩) ⟨[], p, e, 0⟩ := ⟨⟨L.length + 1, by simp only []; omega, rfl⟩, hp, by simp⟩
  generalize clsP L al (L.length + 1) [] ⟨p, e⟩ = q at hq0 hk hne1 hlc hlq
  obtain ⟨lq, pq, eq⟩ := q
  have hpq := hlc.hi
  simp only [List.length_nil] at hk hne1 hpq hlq
  have hr0 := hr
  simp only [grO] at hr ga gs
  refine We ?_
  repeat' (first | (refine halt_block 0 ?_) | with_reducible (first | refine And.intro ?_ ?_ | intro _ | refine AWp_seq ?_ | refine AWp_block ?_ | (refine hKv _ _ (AWp_nop ?_); clear hKv Kv) | (refine hKA ?_; clear hKA hKB KA KB) | (refine hKB ?_; clear hKA hKB KA KB) | refine AWp_skipN ?_ | refine AWp_exitO (by repeat (first | exact Out.hit | apply Out.thenA | apply Out.out rfl)) ?_) | (with_reducible (first | (refine hKv _ _ ?_; clear hKv Kv) | ((first | refine AWp_regC tmu tks ?_ | refine AWp_regE tmu tks ?_); intro Kv hKv) | refine AWp_retR ?_); try simp (dsimp := false) only [go_sem, Nat.reduceAdd, Nat.reduceBEq, Nat.reduceEqDiff, Nat.reduceLT, Nat.reduceLeDiff, Nat.reduceMul, Int.reduceToNat, reduceCtorEq, ↓reduceIte, not_true_eq_false, not_false_eq_true, Bool.true_and, Bool.false_and, Int.reduceEq, Int.reduceLT, Int.reduceLE, Int.reduceNeg, List.map_cons, List.map_nil, List.length_set, hid, ga, sa, gs, ss, gsa, ssa, gl0, glk, sl0, slk, phV, phW, phD_1, tkV, grO, pC1]) | (refine AWp_condC rfl ?_; intro KA KB hKA hKB; try simp only [onB_true, onB_false, onB_dec, onB_ndec, onB_not, onB_and, onB_or]) | (refine AWp_condA rfl ?_ ?_) | with_reducible (first | refine onB_of ?_ ?_ | rfl) | omega)
  refine AWp_cutG (ι := Nat) (fun _ => True) (fun _ => [(0, .pt id 0 0 0), (1, .d (.i .i64 (n : Int))), (4, .pt H.length 0 0 0), (5, .pt (H.length + 1) 0 0 0)]) (fun v => H.set id (grO L ⟨pq, eq⟩) ++ [.row 0 30 11 [[.d (.i .i64 0), .d (.i .i64 0), .d (.i .i64 0), .d (.s []), .d (.s []), .d (.i .i64 0), .d (.i .i64 0), .d (.i .i64 0), .d (.s []), .d (.c (.slice none 0 0)), .d (.c (.slice none 0 0))]], .row 0 30 11 [[.d (.i .i64 28), .d (.i .i64 0), .d (.i .i64 0), .d (.s []), .d (.s []), .d (.i .i64 0), .d (.i .i64 0), .d (.i .i64 0), .d (.s []), .d (.c (.slice none 0 0)), .os (H.length + 2) v]], .row v 49 15 (lq.map clC)]) (fun _ _ => by simp) (fun _ _ => closed_sa hid (gr_bel _ _ _ _) (by
    simp only [List.forall_mem_cons, List.length_cons, List.length_nil]
    exact ⟨oB1 (by simp [Bel_d]), oB1 (by simp [Bel_d, Bel_os]), oBc _, by simp⟩)) ?_ ?_
  · intro v _
    have hll : lq.length ≤ 202 := by omega
    rw [whereF] at hk
    simp only [] at hk
    cases hwh : isN L sWhere ⟨pq, eq⟩ with
    | true =>
      have hltq := isN_lt hwh
      simp only [] at hltq
      rw [hwh] at hk
      simp only [if_true, nxt] at hk
      rw [sWhere] at hwh
      have h1 := fun G K hk => rPassT_A L hL id pq eq [119, 104, 101, 114, 101] (by decide) hwh (H.set id (grO L ⟨pq, eq⟩) ++ G) K (gsa _ _) hk
      obtain ⟨x2, p2, e2, hk2, hp2⟩ := fR_N hm hltq (e := eq)
      rw [hk2] at hk
      have h2 := fun G K hk => hs (pq + 1) eq (H.set id (grO L ⟨(pq + 1), eq⟩) ++ G) K hltq (fun _ => trivial) (gsa _ _) hk
      rw [hk2] at h2
      rw [orderF] at hk
      simp only [] at hk
      cases hor : isN L sOrder ⟨p2, e2⟩ with
      | false =>
        rw [hor] at hk
        simp only [Bool.false_eq_true, if_false] at hk
        rw [sOrder] at hor
        have h3 := fun G K hk => rPassF_A L hL id p2 hp2 e2 [111, 114, 100, 101, 114] (by decide) hor (H.set id (grO L ⟨p2, e2⟩) ++ G) K (gsa _ _) hk
        obtain ⟨p6, e6, hk6, hp6⟩ := mP_N (L := L) (p := p2) (e := e2) (s := sReturn) hp2
        obtain ⟨x7, p7, e7, hk7, hp7⟩ := fR_N hm hp6 (e := e6)
        rw [hk6, hk7] at hk
        have h8 := fun G K hk => rNeed_A L hL id p2 hp2 e2 [114, 101, 116, 117, 114, 110] (by decide) (H.set id (grO L ⟨p2, e2⟩) ++ G) K (gsa _ _) hk
        rw [sReturn] at hk6
        rw [hk6] at h8
        have h9 := fun G K hk => hs p6 e6 (H.set id (grO L ⟨p6, e6⟩) ++ G) K hp6 (fun _ => trivial) (gsa _ _) hk
        rw [hk7] at h9
        have hne2 : (lq ++ [clF x2 3 [] [] false]) ≠ [] := by simp [hne1]
        have hdt := cls_data ((lq ++ [clF x2 3 [] [] false]))
        simp only [phV, phW, ph0, mkh, mka, mkc, aD_cons, List.map_nil, cD_ne hne2, phD_1] at hk
        try simp only [List.map_append, List.map_cons, List.map_nil, clF, List.append_assoc, List.cons_append, List.nil_append] at hk
        try simp only [clC_1, clF, mkcc, mkcx, List.map_append, List.map_cons, List.map_nil, List.append_assoc, List.cons_append, List.nil_append] at hdt
        simp only [grO] at *
        have c21 := h1; have c22 := h2; have c23 := h3; have c24 := h8; have c25 := h9; have us := eq_self (0 : Nat)
        exact W58
      | true =>
        have hlto := isN_lt hor
        simp only [] at hlto
        rw [hor] at hk
        simp only [if_true, nxt] at hk
        rw [sOrder] at hor
        have h3 := fun G K hk => rPassT_A L hL id p2 e2 [111, 114, 100, 101, 114] (by decide) hor (H.set id (grO L ⟨p2, e2⟩) ++ G) K (gsa _ _) hk
        obtain ⟨p4, e4, hk4, hp4⟩ := mP_N (L := L) (p := p2 + 1) (e := e2) (s := sBy) hlto
        obtain ⟨x5, p5, e5, hk5, hp5⟩ := fR_N hm hp4 (e := e4)
        rw [hk4, hk5] at hk
        simp only [hasP] at hk
        have h4 := fun G K hk => rNeed_A L hL id (p2 + 1) hlto e2 [98, 121] (by decide) (H.set id (grO L ⟨(p2 + 1), e2⟩) ++ G) K (gsa _ _) hk
        rw [sBy] at hk4
        rw [hk4] at h4
        have h5 := fun G K hk => hs p4 e4 (H.set id (grO L ⟨p4, e4⟩) ++ G) K hp4 (fun _ => trivial) (gsa _ _) hk
        rw [hk5] at h5
        cases hde : isN L sDescending ⟨p5, e5⟩ with
        | true =>
          have hltd := isN_lt hde
          simp only [] at hltd
          rw [hde] at hk
          simp only [if_true, nxt] at hk
          rw [sDescending] at hde
          have h6 := fun G K hk => rPassT_A L hL id p5 e5 [100, 101, 115, 99, 101, 110, 100, 105, 110, 103] (by decide) hde (H.set id (grO L ⟨p5, e5⟩) ++ G) K (gsa _ _) hk
          obtain ⟨p6, e6, hk6, hp6⟩ := mP_N (L := L) (p := (p5 + 1)) (e := e5) (s := sReturn) hltd
          obtain ⟨x7, p7, e7, hk7, hp7⟩ := fR_N hm hp6 (e := e6)
          rw [hk6, hk7] at hk
          have h8 := fun G K hk => rNeed_A L hL id (p5 + 1) hltd e5 [114, 101, 116, 117, 114, 110] (by decide) (H.set id (grO L ⟨(p5 + 1), e5⟩) ++ G) K (gsa _ _) hk
          rw [sReturn] at hk6
          rw [hk6] at h8
          have h9 := fun G K hk => hs p6 e6 (H.set id (grO L ⟨p6, e6⟩) ++ G) K hp6 (fun _ => trivial) (gsa _ _) hk
          rw [hk7] at h9
          have hne2 : ((lq ++ [clF x2 3 [] [] false]) ++ [clF x5 4 [] [] true]) ≠ [] := by simp [hne1]
          have hdt := cls_data (((lq ++ [clF x2 3 [] [] false]) ++ [clF x5 4 [] [] true]))
          simp only [phV, phW, ph0, mkh, mka, mkc, aD_cons, List.map_nil, cD_ne hne2, phD_1] at hk
          try simp only [List.map_append, List.map_cons, List.map_nil, clF, List.append_assoc, List.cons_append, List.nil_append] at hk
          try simp only [clC_1, clF, mkcc, mkcx, List.map_append, List.map_cons, List.map_nil, List.append_assoc, List.cons_append, List.nil_append] at hdt
          simp only [grO] at *
          have c21 := h1; have c22 := h2; have c23 := h3; have c24 := h4; have c25 := h5; have c26 := h6; have c27 := h8; have c28 := h9; have us := eq_self (0 : Nat)
          exact W58
        | false =>
          rw [hde] at hk
          simp only [Bool.false_eq_true, if_false] at hk
          rw [sDescending] at hde
          have h6 := fun G K hk => rPassF_A L hL id p5 hp5 e5 [100, 101, 115, 99, 101, 110, 100, 105, 110, 103] (by decide) hde (H.set id (grO L ⟨p5, e5⟩) ++ G) K (gsa _ _) hk
          obtain ⟨p6, e6, hk6, hp6⟩ := mP_N (L := L) (p := p5) (e := e5) (s := sReturn) hp5
          obtain ⟨x7, p7, e7, hk7, hp7⟩ := fR_N hm hp6 (e := e6)
          rw [hk6, hk7] at hk
          have h8 := fun G K hk => rNeed_A L hL id p5 hp5 e5 [114, 101, 116, 117, 114, 110] (by decide) (H.set id (grO L ⟨p5, e5⟩) ++ G) K (gsa _ _) hk
          rw [sReturn] at hk6
          rw [hk6] at h8
          have h9 := fun G K hk => hs p6 e6 (H.set id (grO L ⟨p6, e6⟩) ++ G) K hp6 (fun _ => trivial) (gsa _ _) hk
          rw [hk7] at h9
          have hne2 : ((lq ++ [clF x2 3 [] [] false]) ++ [clF x5 4 [] [] false]) ≠ [] := by simp [hne1]
          have hdt := cls_data (((lq ++ [clF x2 3 [] [] false]) ++ [clF x5 4 [] [] false]))
          simp only [phV, phW, ph0, mkh, mka, mkc, aD_cons, List.map_nil, cD_ne hne2, phD_1] at hk
          try simp only [List.map_append, List.map_cons, List.map_nil, clF, List.append_assoc, List.cons_append, List.nil_append] at hk
          try simp only [clC_1, clF, mkcc, mkcx, List.map_append, List.map_cons, List.map_nil, List.append_assoc, List.cons_append, List.nil_append] at hdt
          simp only [grO] at *
          have c21 := h1; have c22 := h2; have c23 := h3; have c24 := h4; have c25 := h5; have c26 := h6; have c27 := h8; have c28 := h9; have us := eq_self (0 : Nat)
          exact W58
    | false =>
      rw [hwh] at hk
      simp only [Bool.false_eq_true, if_false] at hk
      rw [sWhere] at hwh
      have h1 := fun G K hk => rPassF_A L hL id pq hpq eq [119, 104, 101, 114, 101] (by decide) hwh (H.set id (grO L ⟨pq, eq⟩) ++ G) K (gsa _ _) hk
      rw [orderF] at hk
      simp only [] at hk
      cases hor : isN L sOrder ⟨pq, eq⟩ with
      | false =>
        rw [hor] at hk
        simp only [Bool.false_eq_true, if_false] at hk
        rw [sOrder] at hor
        have h3 := fun G K hk => rPassF_A L hL id pq hpq eq [111, 114, 100, 101, 114] (by decide) hor (H.set id (grO L ⟨pq, eq⟩) ++ G) K (gsa _ _) hk
        obtain ⟨p6, e6, hk6, hp6⟩ := mP_N (L := L) (p := pq) (e := eq) (s := sReturn) hpq
        obtain ⟨x7, p7, e7, hk7, hp7⟩ := fR_N hm hp6 (e := e6)
        rw [hk6, hk7] at hk
        have h8 := fun G K hk => rNeed_A L hL id pq hpq eq [114, 101, 116, 117, 114, 110] (by decide) (H.set id (grO L ⟨pq, eq⟩) ++ G) K (gsa _ _) hk
        rw [sReturn] at hk6
        rw [hk6] at h8
        have h9 := fun G K hk => hs p6 e6 (H.set id (grO L ⟨p6, e6⟩) ++ G) K hp6 (fun _ => trivial) (gsa _ _) hk
        rw [hk7] at h9
        have hne2 : lq ≠ [] := by simp [hne1]
        have hdt := cls_data (lq)
        simp only [phV, phW, ph0, mkh, mka, mkc, aD_cons, List.map_nil, cD_ne hne2, phD_1] at hk
        try simp only [List.map_append, List.map_cons, List.map_nil, clF, List.append_assoc, List.cons_append, List.nil_append] at hk
        try simp only [clC_1, clF, mkcc, mkcx, List.map_append, List.map_cons, List.map_nil, List.append_assoc, List.cons_append, List.nil_append] at hdt
        simp only [grO] at *
        have c21 := h1; have c22 := h3; have c23 := h8; have c24 := h9; have us := eq_self (0 : Nat)
        exact W58
      | true =>
        have hlto := isN_lt hor
        simp only [] at hlto
        rw [hor] at hk
        simp only [if_true, nxt] at hk
        rw [sOrder] at hor
        have h3 := fun G K hk => rPassT_A L hL id pq eq [111, 114, 100, 101, 114] (by decide) hor (H.set id (grO L ⟨pq, eq⟩) ++ G) K (gsa _ _) hk
        obtain ⟨p4, e4, hk4, hp4⟩ := mP_N (L := L) (p := pq + 1) (e := eq) (s := sBy) hlto
        obtain ⟨x5, p5, e5, hk5, hp5⟩ := fR_N hm hp4 (e := e4)
        rw [hk4, hk5] at hk
        simp only [hasP] at hk
        have h4 := fun G K hk => rNeed_A L hL id (pq + 1) hlto eq [98, 121] (by decide) (H.set id (grO L ⟨(pq + 1), eq⟩) ++ G) K (gsa _ _) hk
        rw [sBy] at hk4
        rw [hk4] at h4
        have h5 := fun G K hk => hs p4 e4 (H.set id (grO L ⟨p4, e4⟩) ++ G) K hp4 (fun _ => trivial) (gsa _ _) hk
        rw [hk5] at h5
        cases hde : isN L sDescending ⟨p5, e5⟩ with
        | true =>
          have hltd := isN_lt hde
          simp only [] at hltd
          rw [hde] at hk
          simp only [if_true, nxt] at hk
          rw [sDescending] at hde
          have h6 := fun G K hk => rPassT_A L hL id p5 e5 [100, 101, 115, 99, 101, 110, 100, 105, 110, 103] (by decide) hde (H.set id (grO L ⟨p5, e5⟩) ++ G) K (gsa _ _) hk
          obtain ⟨p6, e6, hk6, hp6⟩ := mP_N (L := L) (p := (p5 + 1)) (e := e5) (s := sReturn) hltd
          obtain ⟨x7, p7, e7, hk7, hp7⟩ := fR_N hm hp6 (e := e6)
          rw [hk6, hk7] at hk
          have h8 := fun G K hk => rNeed_A L hL id (p5 + 1) hltd e5 [114, 101, 116, 117, 114, 110] (by decide) (H.set id (grO L ⟨(p5 + 1), e5⟩) ++ G) K (gsa _ _) hk
          rw [sReturn] at hk6
          rw [hk6] at h8
          have h9 := fun G K hk => hs p6 e6 (H.set id (grO L ⟨p6, e6⟩) ++ G) K hp6 (fun _ => trivial) (gsa _ _) hk
          rw [hk7] at h9
          have hne2 : (lq ++ [clF x5 4 [] [] true]) ≠ [] := by simp [hne1]
          have hdt := cls_data ((lq ++ [clF x5 4 [] [] true]))
          simp only [phV, phW, ph0, mkh, mka, mkc, aD_cons, List.map_nil, cD_ne hne2, phD_1] at hk
          try simp only [List.map_append, List.map_cons, List.map_nil, clF, List.append_assoc, List.cons_append, List.nil_append] at hk
          try simp only [clC_1, clF, mkcc, mkcx, List.map_append, List.map_cons, List.map_nil, List.append_assoc, List.cons_append, List.nil_append] at hdt
          simp only [grO] at *
          have c21 := h1; have c22 := h3; have c23 := h4; have c24 := h5; have c25 := h6; have c26 := h8; have c27 := h9; have us := eq_self (0 : Nat)
          exact W58
        | false =>
          rw [hde] at hk
          simp only [Bool.false_eq_true, if_false] at hk
          rw [sDescending] at hde
          have h6 := fun G K hk => rPassF_A L hL id p5 hp5 e5 [100, 101, 115, 99, 101, 110, 100, 105, 110, 103] (by decide) hde (H.set id (grO L ⟨p5, e5⟩) ++ G) K (gsa _ _) hk
          obtain ⟨p6, e6, hk6, hp6⟩ := mP_N (L := L) (p := p5) (e := e5) (s := sReturn) hp5
          obtain ⟨x7, p7, e7, hk7, hp7⟩ := fR_N hm hp6 (e := e6)
          rw [hk6, hk7] at hk
          have h8 := fun G K hk => rNeed_A L hL id p5 hp5 e5 [114, 101, 116, 117, 114, 110] (by decide) (H.set id (grO L ⟨p5, e5⟩) ++ G) K (gsa _ _) hk
          rw [sReturn] at hk6
          rw [hk6] at h8
          have h9 := fun G K hk => hs p6 e6 (H.set id (grO L ⟨p6, e6⟩) ++ G) K hp6 (fun _ => trivial) (gsa _ _) hk
          rw [hk7] at h9
          have hne2 : (lq ++ [clF x5 4 [] [] false]) ≠ [] := by simp [hne1]
          have hdt := cls_data ((lq ++ [clF x5 4 [] [] false]))
          simp only [phV, phW, ph0, mkh, mka, mkc, aD_cons, List.map_nil, cD_ne hne2, phD_1] at hk
          try simp only [List.map_append, List.map_cons, List.map_nil, clF, List.append_assoc, List.cons_append, List.nil_append] at hk
          try simp only [clC_1, clF, mkcc, mkcx, List.map_append, List.map_cons, List.map_nil, List.append_assoc, List.cons_append, List.nil_append] at hdt
          simp only [grO] at *
          have c21 := h1; have c22 := h3; have c23 := h4; have c24 := h5; have c25 := h6; have c26 := h8; have c27 := h9; have us := eq_self (0 : Nat)
          exact W58
  · refine AWp_prm (H.length + 1) 0 10 49 15 ((get_appk _ _ 1).trans rfl) rfl rfl (h := ?_)
    refine AWp_block ?_
    refine AWp_whileG (GcOk L al (lq, ⟨pq, eq⟩)) (fun y => [(0, .pt id 0 0 0), (1, .d (.i .i64 (n : Int))), (4, .pt H.length 0 0 0), (5, .pt (H.length + 1) 0 0 0)])
      (fun y => H.set id (grO L ⟨y.p, y.e⟩) ++ [.row 0 30 11 [[.d (.i .i64 0), .d (.i .i64 0), .d (.i .i64 0), .d (.s []), .d (.s []), .d (.i .i64 0), .d (.i .i64 0), .d (.i .i64 0), .d (.s []), .d (.c (.slice none 0 0)), .d (.c (.slice none 0 0))]], .row 0 30 11 [[.d (.i .i64 28), .d (.i .i64 0), .d (.i .i64 0), .d (.s []), .d (.s []), .d (.i .i64 0), .d (.i .i64 0), .d (.i .i64 0), .d (.s []), .d (.c (.slice none 0 0)), .os (H.length + 2) y.v]], .row y.v 49 15 (y.l.map clC)])
      (fun y => L.length - y.p) ⟨[], p, e, 0⟩ hq0 ⟨[], ?_⟩ ?_ ?_ ?_ ?_
    · simp only [set_same hr0]
      simp
    · simp (dsimp := false) only [go_sem, Nat.reduceAdd, Nat.reduceBEq, Nat.reduceEqDiff, Nat.reduceLT, Nat.reduceLeDiff, Nat.reduceMul, Int.reduceToNat, reduceCtorEq, ↓reduceIte, not_true_eq_false, not_false_eq_true, Bool.true_and, Bool.false_and, Int.reduceEq, Int.reduceLT, Int.reduceLE, Int.reduceNeg, List.map_cons, List.map_nil, List.length_set, hid, ga, sa, gs, ss, gsa, ssa, gl0, glk, sl0, slk, phV, phW, phD_1, tkV, grO, pC1]
      simp
      try omega
    · intro y hy; simp
    · intro y hy
      refine closed_sa hid (gr_bel _ _ _ _) ?_
      simp only [List.forall_mem_cons, List.length_cons, List.length_nil]
      exact ⟨oB1 (by simp [Bel_d]), oB1 (by simp [Bel_d, Bel_os]), oBc _, by simp⟩
    rintro ⟨l, p8, e8, v⟩ hy
    have hp8 := hy.p
    have hl8 := hy.l
    simp only [] at hp8 hl8 ⊢
    have h1 := fun G K hk => rBound_A L hL id p8 hp8 e8 [102, 111, 114] (by decide) (H.set id (grO L ⟨p8, e8⟩) ++ G) K (gsa _ _) hk
    have h0 := fun G K hk => rBound_A L hL id p8 hp8 e8 [108, 101, 116] (by decide) (H.set id (grO L ⟨p8, e8⟩) ++ G) K (gsa _ _) hk
    have hn := fun G K hk => rNext_A L hL id p8 e8 hp8 [102, 111, 114] (by decide) (H.set id (grO L ⟨p8, e8⟩) ++ G) K (gsa _ _) hk
    cases hf : opensP L sFor ⟨p8, e8⟩ with
    | true =>
      have hlt := isN_lt (opens_N hf)
      simp only [] at hlt
      have hnf := opens_N hf
      rw [sFor] at hnf
      rw [hnf] at hn
      rw [sFor] at hf
      rw [hf] at h1
      obtain ⟨p1, e1, hk1, hp1⟩ := kP_N (L := L) (p := p8 + 1) (e := e8) (k := 4) hlt (by decide)
      have h2 := fun G K hk => rKind_A L hL id (p8 + 1) hlt e8 4 (by decide) (H.set id (grO L ⟨(p8 + 1), e8⟩) ++ G) K (gsa _ _) hk
      rw [hk1] at h2
      cases hat : isN L sAt ⟨p1, e1⟩ with
      | true =>
        have hlt1 := isN_lt hat
        simp only [] at hlt1
        obtain ⟨p2, e2, hk2, hp2⟩ := kP_N (L := L) (p := p1 + 1) (e := e1) (k := 4) hlt1 (by decide)
        obtain ⟨p3, e3, hk3, hp3⟩ := mP_N (L := L) (p := p2) (e := e2) (s := sIn) hp2
        obtain ⟨x4, p4, e4, hk4, hp4⟩ := fR_N hm hp3 (e := e3)
        have ht : forT L ⟨p8 + 1, e8⟩ = (kindT L 4 ⟨p8 + 1, e8⟩, kindT L 4 ⟨p1 + 1, e1⟩, ⟨p3, e3⟩) := by
          unfold forT
          simp only [hk1, hat, if_true, nxt, hk2, hk3]
        have hst := fun v => hy.for_ hm hf ht hk4 v
        simp only [] at hst
        rw [sAt] at hat
        have h3 := fun G K hk => rPassT_A L hL id p1 e1 [97, 116] (by decide) hat (H.set id (grO L ⟨p1, e1⟩) ++ G) K (gsa _ _) hk
        have h4 := fun G K hk => rKind_A L hL id (p1 + 1) hlt1 e1 4 (by decide) (H.set id (grO L ⟨(p1 + 1), e1⟩) ++ G) K (gsa _ _) hk
        rw [hk2] at h4
        have h5 := fun G K hk => rNeed_A L hL id p2 hp2 e2 [105, 110] (by decide) (H.set id (grO L ⟨p2, e2⟩) ++ G) K (gsa _ _) hk
        rw [sIn] at hk3
        rw [hk3] at h5
        have h6 := fun G K hk => hs p3 e3 (H.set id (grO L ⟨p3, e3⟩) ++ G) K hp3 (fun _ => trivial) (gsa _ _) hk
        rw [hk4] at h6
        generalize kindT L 4 ⟨p8 + 1, e8⟩ = nm at *
        generalize kindT L 4 ⟨p1 + 1, e1⟩ = at_ at *
        have hll : l.length ≤ 200 := by omega
        simp only [grO] at *
        have c21 := h1; have c22 := h2; have c23 := h3; have c24 := h4; have c25 := h5; have c26 := h6; have c27 := hn; have us := eq_self (0 : Nat)
        (repeat' (first | with_reducible (first | refine And.intro ?_ ?_ | intro _ | (refine hKv _ _ (AWp_nop ?_); clear hKv Kv) | (refine hKA ?_; clear hKA hKB KA KB) | (refine hKB ?_; clear hKA hKB KA KB) | refine Wp ?_ | fail) | ((first | with_reducible (first | (refine hKv _ _ ?_; clear hKv Kv) | (refine Wr ?_; intro Kv hKv) | refine AWp_retR ?_ | fail) | refine Wc ?_ | fail); try simp (dsimp := false) only [go_sem, Nat.reduceAdd, Nat.reduceBEq, Nat.reduceEqDiff, Nat.reduceLT, Nat.reduceLeDiff, Nat.reduceMul, Int.reduceToNat, reduceCtorEq, ↓reduceIte, us, Bool.false_and, Bool.true_and, Int.reduceEq, Int.reduceLE, Int.reduceLT, Int.reduceNeg, List.length_set, List.map_cons, List.map_nil, ga, gl0, glk, grO, gs, gsa, hid, not_false_eq_true, not_true_eq_false, pC1, phD_1, phV, phW, sa, sl0, slk, ss, ssa, tkV]) | (refine AWp_condC rfl ?_; intro KA KB hKA hKB; try simp only [onB_true, onB_false, onB_dec, onB_ndec, onB_not, onB_and, onB_or]) | (refine AWp_condA rfl ?_ ?_) | with_reducible (first | refine onB_of ?_ ?_ | rfl) | omega))
        all_goals first
          | omega
          | skip
        refine ⟨⟨l ++ [clF x4 1 nm at_ false], p4, e4, v + 1⟩, _, (hst (v + 1)).1, by have := (hst (v + 1)).2; simp only [] at this ⊢; omega, by simp [clC_1, clF, mkcc, mkcx]; rfl, ?_⟩
        try (simp (dsimp := false) only [go_sem, Nat.reduceAdd, Nat.reduceBEq, Nat.reduceEqDiff, Nat.reduceLT, Nat.reduceLeDiff, Nat.reduceMul, Int.reduceToNat, reduceCtorEq, ↓reduceIte, not_true_eq_false, not_false_eq_true, Bool.true_and, Bool.false_and, Int.reduceEq, Int.reduceLT, Int.reduceLE, Int.reduceNeg, List.map_cons, List.map_nil, List.length_set, hid, ga, sa, gs, ss, gsa, ssa, gl0, glk, sl0, slk, phV, phW, phD_1, tkV, grO, pC1])
        all_goals try simp
        all_goals try omega
      | false =>
        obtain ⟨p3, e3, hk3, hp3⟩ := mP_N (L := L) (p := p1) (e := e1) (s := sIn) hp1
        obtain ⟨x4, p4, e4, hk4, hp4⟩ := fR_N hm hp3 (e := e3)
        have ht : forT L ⟨p8 + 1, e8⟩ = (kindT L 4 ⟨p8 + 1, e8⟩, [], ⟨p3, e3⟩) := by
          unfold forT
          simp only [hk1, hat, Bool.false_eq_true, if_false, nxt, hk3]
        have hst := fun v => hy.for_ hm hf ht hk4 v
        simp only [] at hst
        rw [sAt] at hat
        have h3 := fun G K hk => rPassF_A L hL id p1 hp1 e1 [97, 116] (by decide) hat (H.set id (grO L ⟨p1, e1⟩) ++ G) K (gsa _ _) hk
        have h5 := fun G K hk => rNeed_A L hL id p1 hp1 e1 [105, 110] (by decide) (H.set id (grO L ⟨p1, e1⟩) ++ G) K (gsa _ _) hk
        rw [sIn] at hk3
        rw [hk3] at h5
        have h6 := fun G K hk => hs p3 e3 (H.set id (grO L ⟨p3, e3⟩) ++ G) K hp3 (fun _ => trivial) (gsa _ _) hk
        rw [hk4] at h6
        generalize kindT L 4 ⟨p8 + 1, e8⟩ = nm at *
        have hll : l.length ≤ 200 := by omega
        simp only [grO] at *
        have c21 := h1; have c22 := h2; have c23 := h3; have c24 := h5; have c25 := h6; have c26 := hn; have us := eq_self (0 : Nat)
        (repeat' (first | with_reducible (first | refine And.intro ?_ ?_ | intro _ | (refine hKv _ _ (AWp_nop ?_); clear hKv Kv) | (refine hKA ?_; clear hKA hKB KA KB) | (refine hKB ?_; clear hKA hKB KA KB) | refine Wp ?_ | fail) | ((first | with_reducible (first | (refine hKv _ _ ?_; clear hKv Kv) | (refine Wr ?_; intro Kv hKv) | refine AWp_retR ?_ | fail) | refine Wc ?_ | fail); try simp (dsimp := false) only [go_sem, Nat.reduceAdd, Nat.reduceBEq, Nat.reduceEqDiff, Nat.reduceLT, Nat.reduceLeDiff, Nat.reduceMul, Int.reduceToNat, reduceCtorEq, ↓reduceIte, us, Bool.false_and, Bool.true_and, Int.reduceEq, Int.reduceLE, Int.reduceLT, Int.reduceNeg, List.length_set, List.map_cons, List.map_nil, ga, gl0, glk, grO, gs, gsa, hid, not_false_eq_true, not_true_eq_false, pC1, phD_1, phV, phW, sa, sl0, slk, ss, ssa, tkV]) | (refine AWp_condC rfl ?_; intro KA KB hKA hKB; try simp only [onB_true, onB_false, onB_dec, onB_ndec, onB_not, onB_and, onB_or]) | (refine AWp_condA rfl ?_ ?_) | with_reducible (first | refine onB_of ?_ ?_ | rfl) | omega))
        all_goals first
          | omega
          | skip
        refine ⟨⟨l ++ [clF x4 1 nm [] false], p4, e4, v + 1⟩, _, (hst (v + 1)).1, by have := (hst (v + 1)).2; simp only [] at this ⊢; omega, by simp [clC_1, clF, mkcc, mkcx]; rfl, ?_⟩
        try (simp (dsimp := false) only [go_sem, Nat.reduceAdd, Nat.reduceBEq, Nat.reduceEqDiff, Nat.reduceLT, Nat.reduceLeDiff, Nat.reduceMul, Int.reduceToNat, reduceCtorEq, ↓reduceIte, not_true_eq_false, not_false_eq_true, Bool.true_and, Bool.false_and, Int.reduceEq, Int.reduceLT, Int.reduceLE, Int.reduceNeg, List.map_cons, List.map_nil, List.length_set, hid, ga, sa, gs, ss, gsa, ssa, gl0, glk, sl0, slk, phV, phW, phD_1, tkV, grO, pC1])
        all_goals try simp
        all_goals try omega
    | false =>
      cases hle : opensP L sLet ⟨p8, e8⟩ with
      | true =>
        have hlt := isN_lt (opens_N hle)
        simp only [] at hlt
        have hnf := isN_uni (s' := [102, 111, 114]) (opens_N hle) (by decide)
        rw [hnf] at hn
        obtain ⟨p1, e1, hk1, hp1⟩ := kP_N (L := L) (p := p8 + 1) (e := e8) (k := 4) hlt (by decide)
        obtain ⟨p3, e3, hk3, hp3⟩ := mP_N (L := L) (p := p1) (e := e1) (s := sBe) hp1
        obtain ⟨x4, p4, e4, hk4, hp4⟩ := fR_N hm hp3 (e := e3)
        have ht : letT L ⟨p8 + 1, e8⟩ = (kindT L 4 ⟨p8 + 1, e8⟩, ⟨p3, e3⟩) := by
          unfold letT
          rw [hk1, hk3]
        have hst := fun v => hy.let_ hm hf hle ht hk4 v
        simp only [] at hst
        rw [sFor] at hf
        rw [sLet] at hle
        rw [hf] at h1
        rw [hle] at h0
        have h2 := fun G K hk => rKind_A L hL id (p8 + 1) hlt e8 4 (by decide) (H.set id (grO L ⟨(p8 + 1), e8⟩) ++ G) K (gsa _ _) hk
        rw [hk1] at h2
        have h5 := fun G K hk => rNeed_A L hL id p1 hp1 e1 [58, 61] (by decide) (H.set id (grO L ⟨p1, e1⟩) ++ G) K (gsa _ _) hk
        rw [sBe] at hk3
        rw [hk3] at h5
        have h6 := fun G K hk => hs p3 e3 (H.set id (grO L ⟨p3, e3⟩) ++ G) K hp3 (fun _ => trivial) (gsa _ _) hk
        rw [hk4] at h6
        generalize kindT L 4 ⟨p8 + 1, e8⟩ = nm at *
        have hll : l.length ≤ 200 := by omega
        simp only [grO] at *
        have c21 := h1; have c22 := h0; have c23 := h2; have c24 := h5; have c25 := h6; have c26 := hn; have us := eq_self (0 : Nat)
        (repeat' (first | with_reducible (first | refine And.intro ?_ ?_ | intro _ | (refine hKv _ _ (AWp_nop ?_); clear hKv Kv) | (refine hKA ?_; clear hKA hKB KA KB) | (refine hKB ?_; clear hKA hKB KA KB) | refine Wp ?_ | fail) | ((first | with_reducible (first | (refine hKv _ _ ?_; clear hKv Kv) | (refine Wr ?_; intro Kv hKv) | refine AWp_retR ?_ | fail) | refine Wc ?_ | fail); try simp (dsimp := false) only [go_sem, Nat.reduceAdd, Nat.reduceBEq, Nat.reduceEqDiff, Nat.reduceLT, Nat.reduceLeDiff, Nat.reduceMul, Int.reduceToNat, reduceCtorEq, ↓reduceIte, us, Bool.false_and, Bool.true_and, Int.reduceEq, Int.reduceLE, Int.reduceLT, Int.reduceNeg, List.length_set, List.map_cons, List.map_nil, ga, gl0, glk, grO, gs, gsa, hid, not_false_eq_true, not_true_eq_false, pC1, phD_1, phV, phW, sa, sl0, slk, ss, ssa, tkV]) | (refine AWp_condC rfl ?_; intro KA KB hKA hKB; try simp only [onB_true, onB_false, onB_dec, onB_ndec, onB_not, onB_and, onB_or]) | (refine AWp_condA rfl ?_ ?_) | with_reducible (first | refine onB_of ?_ ?_ | rfl) | omega))
        all_goals first
          | omega
          | skip
        refine ⟨⟨l ++ [clF x4 2 nm [] false], p4, e4, v + 1⟩, _, (hst (v + 1)).1, by have := (hst (v + 1)).2; simp only [] at this ⊢; omega, by simp [clC_1, clF, mkcc, mkcx]; rfl, ?_⟩
        try (simp (dsimp := false) only [go_sem, Nat.reduceAdd, Nat.reduceBEq, Nat.reduceEqDiff, Nat.reduceLT, Nat.reduceLeDiff, Nat.reduceMul, Int.reduceToNat, reduceCtorEq, ↓reduceIte, not_true_eq_false, not_false_eq_true, Bool.true_and, Bool.false_and, Int.reduceEq, Int.reduceLT, Int.reduceLE, Int.reduceNeg, List.map_cons, List.map_nil, List.length_set, hid, ga, sa, gs, ss, gsa, ssa, gl0, glk, sl0, slk, phV, phW, phD_1, tkV, grO, pC1])
        all_goals try simp
        all_goals try omega
      | false =>
        have hst := hy.stop hf hle
        simp only [Prod.mk.injEq, Ps.mk.injEq] at hst
        obtain ⟨rfl, rfl, rfl⟩ := hst
        rw [sFor] at hf
        rw [sLet] at hle
        rw [hf] at h1
        rw [hle] at h0
        simp only [grO] at *
        have c21 := h1; have c22 := h0; have us := eq_self (0 : Nat)
        (repeat' (first | with_reducible (first | refine And.intro ?_ ?_ | intro _ | (refine hKv _ _ (AWp_nop ?_); clear hKv Kv) | (refine hKA ?_; clear hKA hKB KA KB) | (refine hKB ?_; clear hKA hKB KA KB) | refine Wp ?_ | fail) | ((first | with_reducible (first | (refine hKv _ _ ?_; clear hKv Kv) | (refine Wr ?_; intro Kv hKv) | refine AWp_retR ?_ | fail) | refine Wc ?_ | fail); try simp (dsimp := false) only [go_sem, Nat.reduceAdd, Nat.reduceBEq, Nat.reduceEqDiff, Nat.reduceLT, Nat.reduceLeDiff, Nat.reduceMul, Int.reduceToNat, reduceCtorEq, ↓reduceIte, us, Bool.false_and, Bool.true_and, Int.reduceEq, Int.reduceLE, Int.reduceLT, Int.reduceNeg, List.length_set, List.map_cons, List.map_nil, ga, gl0, glk, grO, gs, gsa, hid, not_false_eq_true, not_true_eq_false, pC1, phD_1, phV, phW, sa, sl0, slk, ss, ssa, tkV]) | (refine AWp_condC rfl ?_; intro KA KB hKA hKB; try simp only [onB_true, onB_false, onB_dec, onB_ndec, onB_not, onB_and, onB_or]) | (refine AWp_condA rfl ?_ ?_) | with_reducible (first | refine onB_of ?_ ?_ | rfl) | omega))
        all_goals first
          | omega
          | skip
        refine ⟨v, [], by simp, ?_⟩
        try (simp (dsimp := false) only [go_sem, Nat.reduceAdd, Nat.reduceBEq, Nat.reduceEqDiff, Nat.reduceLT, Nat.reduceLeDiff, Nat.reduceMul, Int.reduceToNat, reduceCtorEq, ↓reduceIte, not_true_eq_false, not_false_eq_true, Bool.true_and, Bool.false_and, Int.reduceEq, Int.reduceLT, Int.reduceLE, Int.reduceNeg, List.map_cons, List.map_nil, List.length_set, hid, ga, sa, gs, ss, gsa, ssa, gl0, glk, sl0, slk, phV, phW, phD_1, tkV, grO, pC1])
        all_goals try simp
        all_goals try omega
end Go.Proofs.YtmhabdopcbokoaaDoor.Gq
