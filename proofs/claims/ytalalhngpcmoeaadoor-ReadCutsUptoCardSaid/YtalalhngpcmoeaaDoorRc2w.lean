/- One token, in parts: what the program's lexer finds. No condition but that the tables of package unicode/utf8, and the table of marks, are there. -/
import Derived.Test.YtalalhngpcmoeaaDoorRc2
set_option linter.all false
set_option linter.unusedSimpArgs false
set_option linter.unusedVariables false
namespace Go.Proofs.YtalalhngpcmoeaaDoor.Rc2w
open Go Go.Proofs.YtalalhngpcmoeaaDoor Go.Proofs.YtalalhngpcmoeaaDoor.Ab
variable [Glo] [U8] [Mk]
set_option maxHeartbeats 8000000
set_option maxRecDepth 20000

/- the live slots of (*pleacher/read.lexer).one -/
def ks_46 : Nat → List Nat
  | 0 => [0, 2]
  | 1 => [0, 2, 4]
  | 2 => [0, 2, 4, 23]
  | 3 => [0, 2, 5]
  | 4 => [0, 2, 5, 6]
  | 5 => [2, 6]
  | 6 => [2, 6, 48]
  | 7 => [2, 3]
  | 8 => [2, 3]
  | 9 => [0, 2, 4, 52]
  | 10 => [0, 2, 7]
  | 11 => [0, 2, 7, 92]
  | 12 => [0, 2, 7]
  | 13 => [0, 2, 7, 108]
  | 14 => [2, 3]
  | 15 => [0, 2, 7]
  | 16 => [2, 3]
  | 17 => [0, 2, 4, 119]
  | 18 => [0, 2, 8]
  | 19 => [0, 2, 8, 134]
  | 20 => [2, 3]
  | 21 => [0, 2, 8, 9]
  | 22 => [2, 9]
  | 23 => [2, 3]
  | 24 => [0, 2, 166]
  | 25 => [0, 2, 10]
  | 26 => [0, 2, 10, 11]
  | 27 => [0, 2, 10, 11, 193]
  | 28 => [2, 3]
  | 29 => [2, 11]
  | 30 => [2, 3]
  | 31 => [0, 2, 201, 202]
  | 32 => [0, 2, 201, 202, 203]
  | 33 => [0, 2, 13, 201, 202]
  | 34 => [0, 2, 13, 201, 202, 215]
  | 35 => [2, 13]
  | 36 => [2, 3]
  | 37 => [0, 2, 201, 202]
  | 38 => [2, 3]
  | _ => []
def mu_46 : List Nat := []
def in_46 : List Nat := [0]
def nd_46 : Nat → Nat
  | 1 => 9
  | 4 => 10
  | 11 => 33
  | 12 => 14
  | 18 => 11
  | 21 => 17
  | 26 => 11
  | 34 => 10
  | _ => 0
theorem one_word (id : Nat) (s : List UInt8) (p : Nat) (c : UInt8) (o : V) (hs : s.length ≤ 1000) (hc : s[p]? = some c) (H : Heap) (K : V → Heap → Prop) (hob : Bel H.length o) (hr : H[id]? = some (lexC s p o)) (hl : letterB c.toNat = true)
    (hk : Hold (if 20 < ((s.take (wEnd s p p)).drop p).length then K (.tu [tkV tk0, .d (.i .i64 10)]) (H.set id (lexC s (wEnd s p p) o)) else K (.tu [tkV ⟨1, (s.take (wEnd s p p)).drop p, 0⟩, .d (.i .i64 0)]) (H.set id (lexC s (wEnd s p p) o)))) :
    ACalls Tryd.prog 46 [.pt id 0 0 0] H K := by
  have hid := (List.getElem?_eq_some_iff.1 hr).1
  have hpl := lt_of_get hc
  have hr' : H[id]? = some (.row 0 77 3 [[.d (.s s), .d (.i .i64 p), o]]) := hr
  have hr1 : ∀ x, (H ++ x)[id]? = some (.row 0 77 3 [[.d (.s s), .d (.i .i64 p), o]]) := fun x => by rw [List.getElem?_append_left hid]; exact hr'
  have hr2 : ∀ Y x, (H.set id Y ++ x)[id]? = some Y := fun Y x => by rw [List.getElem?_append_left (by simpa using hid)]; exact get_self hr' Y
  have hset : ∀ x Y, (H ++ x).set id Y = H.set id Y ++ x := fun x Y => List.set_append_left _ _ hid
  have hset2 : ∀ Y x Z, (H.set id Y ++ x).set id Z = H.set id Z ++ x := fun Y x Z => by rw [List.set_append_left _ _ (by simpa using hid), List.set_set]
  have hg3 : ∀ Y (G : Heap), (H.set id Y ++ G)[H.length]? = G[0]? := fun Y G => by
    have := get_app0 (H.set id Y) G
    rwa [List.length_set] at this
  have hs3 : ∀ Y (G : Heap) z, (H.set id Y ++ G).set H.length z = H.set id Y ++ G.set 0 z := fun Y G z => by
    have := set_app0 (H.set id Y) G z
    rwa [List.length_set] at this
  have e1 : (p : Int) + 1 = ((p + 1 : Nat) : Int) := by omega
  obtain ⟨w1, w2⟩ := wEnd_le s p _ p (Nat.le_refl _) (by omega)
  
  refine ACalls_of Tryd.func46 rfl in_46 (Nat.le_of_ble_eq_true rfl) ?_
  intro F hF
  simp (dsimp := false) only [go_sem, Nat.reduceAdd, Nat.reduceBEq, Nat.reduceEqDiff, Nat.reduceLT, Nat.reduceLeDiff, Nat.reduceMul, Int.reduceToNat, reduceCtorEq, ↓reduceIte, Tryd.ntmps46, Tryd.results46, ks_46, mu_46, nd_46, ti_ag3, ti_ag9, ti_ag79, ti_ag176, ti_ar176, ti_fl77_0, ti_fl77_1, ti_hb103, ti_hb104, ti_hb105, ti_hb106, ti_hb107, ti_in3, ti_pl79, ti_st9, ti_sz3, ti_sz79, ti_sz176, ti_us5, ti_zr79, tkD, tkV, hid, hr1, hr2, hset, hset2, hg3, hs3, e1, hc, List.length_set, List.take_length, hl, in_46] at hF
  subst hF
  repeat' (first
    | with_reducible refine And.intro ?_ ?_
    | with_reducible intro _
    | with_reducible refine AWp_seq ?_
    | with_reducible refine AWp_block ?_
    | (with_reducible refine hKv _ _ (AWp_nop ?_); clear hKv Kv)
    | (with_reducible refine hKv _ _ ?_; clear hKv Kv; simp (dsimp := false) only [go_sem, Nat.reduceAdd, Nat.reduceBEq, Nat.reduceEqDiff, Nat.reduceLT, Nat.reduceLeDiff, Nat.reduceMul, Int.reduceToNat, reduceCtorEq, ↓reduceIte, Tryd.ntmps46, Tryd.results46, ks_46, mu_46, nd_46, ti_ag3, ti_ag9, ti_ag79, ti_ag176, ti_ar176, ti_fl77_0, ti_fl77_1, ti_hb103, ti_hb104, ti_hb105, ti_hb106, ti_hb107, ti_in3, ti_pl79, ti_st9, ti_sz3, ti_sz79, ti_sz176, ti_us5, ti_zr79, tkD, tkV, hid, hr1, hr2, hset, hset2, hg3, hs3, e1, hc, List.length_set, List.take_length, hl])
    | (with_reducible refine hKA ?_; clear hKA hKB KA KB)
    | (with_reducible refine hKB ?_; clear hKA hKB KA KB)
    | (with_reducible refine AWp_regC mu_46 ks_46 ?_; intro Kv hKv; simp (dsimp := false) only [go_sem, Nat.reduceAdd, Nat.reduceBEq, Nat.reduceEqDiff, Nat.reduceLT, Nat.reduceLeDiff, Nat.reduceMul, Int.reduceToNat, reduceCtorEq, ↓reduceIte, Tryd.ntmps46, Tryd.results46, ks_46, mu_46, nd_46, ti_ag3, ti_ag9, ti_ag79, ti_ag176, ti_ar176, ti_fl77_0, ti_fl77_1, ti_hb103, ti_hb104, ti_hb105, ti_hb106, ti_hb107, ti_in3, ti_pl79, ti_st9, ti_sz3, ti_sz79, ti_sz176, ti_us5, ti_zr79, tkD, tkV, hid, hr1, hr2, hset, hset2, hg3, hs3, e1, hc, List.length_set, List.take_length, hl])
    | (with_reducible refine AWp_draw nd_46 mu_46 ks_46 ti_mixed (by kernel_rfl) ?_; intro Kv hKv; simp (dsimp := false) only [go_sem, Nat.reduceAdd, Nat.reduceBEq, Nat.reduceEqDiff, Nat.reduceLT, Nat.reduceLeDiff, Nat.reduceMul, Int.reduceToNat, reduceCtorEq, ↓reduceIte, Tryd.ntmps46, Tryd.results46, ks_46, mu_46, nd_46, ti_ag3, ti_ag9, ti_ag79, ti_ag176, ti_ar176, ti_fl77_0, ti_fl77_1, ti_hb103, ti_hb104, ti_hb105, ti_hb106, ti_hb107, ti_in3, ti_pl79, ti_st9, ti_sz3, ti_sz79, ti_sz176, ti_us5, ti_zr79, tkD, tkV, hid, hr1, hr2, hset, hset2, hg3, hs3, e1, hc, List.length_set, List.take_length, hl])
    | with_reducible refine AWp_skipN ?_
    | with_reducible refine AWp_exitO (by repeat (first | with_reducible exact Out.hit | with_reducible apply Out.thenA | with_reducible apply Out.out rfl)) ?_
    | (with_reducible refine AWp_retR ?_; simp (dsimp := false) only [go_sem, Nat.reduceAdd, Nat.reduceBEq, Nat.reduceEqDiff, Nat.reduceLT, Nat.reduceLeDiff, Nat.reduceMul, Int.reduceToNat, reduceCtorEq, ↓reduceIte, Tryd.ntmps46, Tryd.results46, ks_46, mu_46, nd_46, ti_ag3, ti_ag9, ti_ag79, ti_ag176, ti_ar176, ti_fl77_0, ti_fl77_1, ti_hb103, ti_hb104, ti_hb105, ti_hb106, ti_hb107, ti_in3, ti_pl79, ti_st9, ti_sz3, ti_sz79, ti_sz176, ti_us5, ti_zr79, tkD, tkV, hid, hr1, hr2, hset, hset2, hg3, hs3, e1, hc, List.length_set, List.take_length, hl])
    | (with_reducible refine AWp_regE mu_46 ks_46 ?_; intro Kv hKv; simp (dsimp := false) only [go_sem, Nat.reduceAdd, Nat.reduceBEq, Nat.reduceEqDiff, Nat.reduceLT, Nat.reduceLeDiff, Nat.reduceMul, Int.reduceToNat, reduceCtorEq, ↓reduceIte, Tryd.ntmps46, Tryd.results46, ks_46, mu_46, nd_46, ti_ag3, ti_ag9, ti_ag79, ti_ag176, ti_ar176, ti_fl77_0, ti_fl77_1, ti_hb103, ti_hb104, ti_hb105, ti_hb106, ti_hb107, ti_in3, ti_pl79, ti_st9, ti_sz3, ti_sz79, ti_sz176, ti_us5, ti_zr79, tkD, tkV, hid, hr1, hr2, hset, hset2, hg3, hs3, e1, hc, List.length_set, List.take_length, hl])
    | (with_reducible refine AWp_drawE nd_46 mu_46 ks_46 ti_mixed (by kernel_rfl) ?_; intro Kv hKv; simp (dsimp := false) only [go_sem, Nat.reduceAdd, Nat.reduceBEq, Nat.reduceEqDiff, Nat.reduceLT, Nat.reduceLeDiff, Nat.reduceMul, Int.reduceToNat, reduceCtorEq, ↓reduceIte, Tryd.ntmps46, Tryd.results46, ks_46, mu_46, nd_46, ti_ag3, ti_ag9, ti_ag79, ti_ag176, ti_ar176, ti_fl77_0, ti_fl77_1, ti_hb103, ti_hb104, ti_hb105, ti_hb106, ti_hb107, ti_in3, ti_pl79, ti_st9, ti_sz3, ti_sz79, ti_sz176, ti_us5, ti_zr79, tkD, tkV, hid, hr1, hr2, hset, hset2, hg3, hs3, e1, hc, List.length_set, List.take_length, hl])
    | (refine AWp_condC rfl ?_; intro KA KB hKA hKB; try simp only [onB_true, onB_false, onB_dec, onB_ndec, onB_not, onB_and, onB_or])
    | (refine AWp_condA rfl ?_ ?_)
    | (refine start_A _ _ _ ?_; try simp (dsimp := false) only [go_sem, Nat.reduceAdd, Nat.reduceBEq, Nat.reduceEqDiff, Nat.reduceLT, Nat.reduceLeDiff, Nat.reduceMul, Int.reduceToNat, reduceCtorEq, ↓reduceIte, Tryd.ntmps46, Tryd.results46, ks_46, mu_46, nd_46, ti_ag3, ti_ag9, ti_ag79, ti_ag176, ti_ar176, ti_fl77_0, ti_fl77_1, ti_hb103, ti_hb104, ti_hb105, ti_hb106, ti_hb107, ti_in3, ti_pl79, ti_st9, ti_sz3, ti_sz79, ti_sz176, ti_us5, ti_zr79, tkD, tkV, hid, hr1, hr2, hset, hset2, hg3, hs3, e1, hc, List.length_set, List.take_length, hl])
    | (refine QCall_of (start_A _ _ _ (Two_intro _ _)) ?_; try simp (dsimp := false) only [go_sem, Nat.reduceAdd, Nat.reduceBEq, Nat.reduceEqDiff, Nat.reduceLT, Nat.reduceLeDiff, Nat.reduceMul, Int.reduceToNat, reduceCtorEq, ↓reduceIte, Tryd.ntmps46, Tryd.results46, ks_46, mu_46, nd_46, ti_ag3, ti_ag9, ti_ag79, ti_ag176, ti_ar176, ti_fl77_0, ti_fl77_1, ti_hb103, ti_hb104, ti_hb105, ti_hb106, ti_hb107, ti_in3, ti_pl79, ti_st9, ti_sz3, ti_sz79, ti_sz176, ti_us5, ti_zr79, tkD, tkV, hid, hr1, hr2, hset, hset2, hg3, hs3, e1, hc, List.length_set, List.take_length, hl])
    | (refine word_A id s p _ o (by omega) (by omega) _ _ (hr1 _) ?_; try simp (dsimp := false) only [go_sem, Nat.reduceAdd, Nat.reduceBEq, Nat.reduceEqDiff, Nat.reduceLT, Nat.reduceLeDiff, Nat.reduceMul, Int.reduceToNat, reduceCtorEq, ↓reduceIte, Tryd.ntmps46, Tryd.results46, ks_46, mu_46, nd_46, ti_ag3, ti_ag9, ti_ag79, ti_ag176, ti_ar176, ti_fl77_0, ti_fl77_1, ti_hb103, ti_hb104, ti_hb105, ti_hb106, ti_hb107, ti_in3, ti_pl79, ti_st9, ti_sz3, ti_sz79, ti_sz176, ti_us5, ti_zr79, tkD, tkV, hid, hr1, hr2, hset, hset2, hg3, hs3, e1, hc, List.length_set, List.take_length, hl])
    | (refine QCall_of (word_A id s p _ o (by omega) (by omega) _ _ (hr1 _) (Two_intro _ _)) ?_; try simp (dsimp := false) only [go_sem, Nat.reduceAdd, Nat.reduceBEq, Nat.reduceEqDiff, Nat.reduceLT, Nat.reduceLeDiff, Nat.reduceMul, Int.reduceToNat, reduceCtorEq, ↓reduceIte, Tryd.ntmps46, Tryd.results46, ks_46, mu_46, nd_46, ti_ag3, ti_ag9, ti_ag79, ti_ag176, ti_ar176, ti_fl77_0, ti_fl77_1, ti_hb103, ti_hb104, ti_hb105, ti_hb106, ti_hb107, ti_in3, ti_pl79, ti_st9, ti_sz3, ti_sz79, ti_sz176, ti_us5, ti_zr79, tkD, tkV, hid, hr1, hr2, hset, hset2, hg3, hs3, e1, hc, List.length_set, List.take_length, hl])
    | with_reducible refine onB_of ?_ ?_
    | with_reducible rfl
    | omega)
  · unfold Hold at hk
    rw [if_pos (by omega)] at hk
    exact lex_ret hob hk (by simp [tkV, tk0, Bel_tu, Bel_ag, Bel_d])
  · unfold Hold at hk
    rw [if_neg (by omega)] at hk
    exact lex_ret hob hk (by simp [tkV, tk0, Bel_tu, Bel_ag, Bel_d])
end Go.Proofs.YtalalhngpcmoeaaDoor.Rc2w
