/- A query cut into tokens: what the reference makes. No condition but that the tables of package unicode/utf8 are there. -/
import Derived.Test.YtalalhngpcmoeaaDoorRc3
set_option linter.all false
set_option linter.unusedSimpArgs false
set_option linter.unusedVariables false
namespace Go.Proofs.YtalalhngpcmoeaaDoor
open Go Go.Proofs.YtalalhngpcmoeaaDoor.Ab
variable [Glo] [U8] [Mk]
set_option maxHeartbeats 8000000
set_option maxRecDepth 20000

/- the live slots of pleacher/pleacherref.TokensOf -/
def ks_16 : Nat → List Nat
  | 0 => [0]
  | 1 => [0, 18]
  | 2 => [2, 3, 4]
  | 3 => [0, 5]
  | 4 => [0, 5, 6]
  | 5 => [0, 5, 6, 22]
  | 6 => [0, 5, 6, 7]
  | 7 => [0, 5, 6, 7, 35]
  | 8 => [0, 5, 6]
  | 9 => [0, 5, 6, 7, 40]
  | 10 => [2, 3, 4]
  | 11 => [0, 5, 6, 7, 43]
  | 12 => [0, 5, 6, 8]
  | 13 => [0, 5, 6, 8, 50]
  | 14 => [2, 3, 4]
  | 15 => [0, 5, 8]
  | 16 => [0, 5, 6]
  | 17 => [0, 5, 6, 7, 63]
  | 18 => [0, 5, 6, 9]
  | 19 => [0, 5, 6, 9, 10]
  | 20 => [0, 5, 6, 9, 10, 75]
  | 21 => [0, 5, 6, 9, 10]
  | 22 => [0, 5, 6, 9, 10, 85]
  | 23 => [2, 3, 4]
  | 24 => [0, 5, 6, 9, 10]
  | 25 => [0, 5, 10]
  | 26 => [0, 5, 6]
  | 27 => [0, 5, 6, 7, 96]
  | 28 => [0, 5, 6, 11]
  | 29 => [0, 5, 6, 11, 108]
  | 30 => [0, 5, 6, 11]
  | 31 => [0, 5, 6, 11, 114]
  | 32 => [2, 3, 4]
  | 33 => [0, 5, 6, 11, 12]
  | 34 => [0, 5, 6, 11, 12, 123]
  | 35 => [2, 3, 4]
  | 36 => [0, 5, 11]
  | 37 => [0, 5, 6]
  | 38 => [0, 5, 6, 138]
  | 39 => [0, 5, 6, 13]
  | 40 => [0, 5, 6, 13, 148]
  | 41 => [2, 3, 4]
  | 42 => [0, 5, 13]
  | 43 => [0, 5, 6]
  | 44 => [0, 5, 6, 14]
  | 45 => [0, 5, 6, 14, 15]
  | 46 => [0, 5, 6, 14, 15, 167]
  | 47 => [0, 5, 6, 14, 15]
  | 48 => [0, 5, 6, 14, 15, 176]
  | 49 => [0, 5, 6, 14, 15]
  | 50 => [0, 5, 6, 14, 182]
  | 51 => [2, 3, 4]
  | 52 => [0, 5, 6, 14]
  | 53 => [0, 5, 6]
  | 54 => [2, 3, 4]
  | _ => []
def mu_16 : List Nat := [5]
def in_16 : List Nat := [0]
theorem tokensOf_A (s : List UInt8) (hs : s.length ≤ 1048576) (H : Heap) (K : V → Heap → Prop) (hk : K (cutV (cut s)) H) : ACalls Tryd.prog 16 [.d (.s s)] H K := by
  by_cases h1000 : s.length ≤ 1000
  · rw [cut, if_pos h1000] at hk
    
    refine ACalls_of Tryd.func16 rfl in_16 (Nat.le_of_ble_eq_true rfl) ?_
    intro F hF
    simp (dsimp := false) only [go_sem, Nat.reduceAdd, Nat.reduceBEq, Nat.reduceEqDiff, Nat.reduceLT, Nat.reduceLeDiff, Nat.reduceMul, Int.reduceToNat, reduceCtorEq, ↓reduceIte, Tryd.ntmps16, Tryd.results16, ks_16, mu_16, ti_ag9, ti_hb47, ti_hb48, ti_hb49, ti_hb50, ti_hb51, ti_hb52, ti_in3, ti_pl79, ti_sb22, ti_sb28, ti_sl22, ti_sl28, ti_st9, ti_us5, ti_zr79, tkD, tkV, in_16] at hF
    subst hF
    repeat' (first
      | with_reducible refine And.intro ?_ ?_
      | with_reducible intro _
      | with_reducible refine AWp_seq ?_
      | with_reducible refine AWp_block ?_
      | (with_reducible refine hKv _ _ (AWp_nop ?_); clear hKv Kv)
      | (with_reducible refine hKv _ _ ?_; clear hKv Kv; simp (dsimp := false) only [go_sem, Nat.reduceAdd, Nat.reduceBEq, Nat.reduceEqDiff, Nat.reduceLT, Nat.reduceLeDiff, Nat.reduceMul, Int.reduceToNat, reduceCtorEq, ↓reduceIte, Tryd.ntmps16, Tryd.results16, ks_16, mu_16, ti_ag9, ti_hb47, ti_hb48, ti_hb49, ti_hb50, ti_hb51, ti_hb52, ti_in3, ti_pl79, ti_sb22, ti_sb28, ti_sl22, ti_sl28, ti_st9, ti_us5, ti_zr79, tkD, tkV])
      | (with_reducible refine hKA ?_; clear hKA hKB KA KB)
      | (with_reducible refine hKB ?_; clear hKA hKB KA KB)
      | (with_reducible refine AWp_regC mu_16 ks_16 ?_; intro Kv hKv; simp (dsimp := false) only [go_sem, Nat.reduceAdd, Nat.reduceBEq, Nat.reduceEqDiff, Nat.reduceLT, Nat.reduceLeDiff, Nat.reduceMul, Int.reduceToNat, reduceCtorEq, ↓reduceIte, Tryd.ntmps16, Tryd.results16, ks_16, mu_16, ti_ag9, ti_hb47, ti_hb48, ti_hb49, ti_hb50, ti_hb51, ti_hb52, ti_in3, ti_pl79, ti_sb22, ti_sb28, ti_sl22, ti_sl28, ti_st9, ti_us5, ti_zr79, tkD, tkV])
      | with_reducible refine AWp_skipN ?_
      | with_reducible refine AWp_exitO (by repeat (first | with_reducible exact Out.hit | with_reducible apply Out.thenA | with_reducible apply Out.out rfl)) ?_
      | (with_reducible refine AWp_retR ?_; simp (dsimp := false) only [go_sem, Nat.reduceAdd, Nat.reduceBEq, Nat.reduceEqDiff, Nat.reduceLT, Nat.reduceLeDiff, Nat.reduceMul, Int.reduceToNat, reduceCtorEq, ↓reduceIte, Tryd.ntmps16, Tryd.results16, ks_16, mu_16, ti_ag9, ti_hb47, ti_hb48, ti_hb49, ti_hb50, ti_hb51, ti_hb52, ti_in3, ti_pl79, ti_sb22, ti_sb28, ti_sl22, ti_sl28, ti_st9, ti_us5, ti_zr79, tkD, tkV])
      | (with_reducible refine AWp_regE mu_16 ks_16 ?_; intro Kv hKv; simp (dsimp := false) only [go_sem, Nat.reduceAdd, Nat.reduceBEq, Nat.reduceEqDiff, Nat.reduceLT, Nat.reduceLeDiff, Nat.reduceMul, Int.reduceToNat, reduceCtorEq, ↓reduceIte, Tryd.ntmps16, Tryd.results16, ks_16, mu_16, ti_ag9, ti_hb47, ti_hb48, ti_hb49, ti_hb50, ti_hb51, ti_hb52, ti_in3, ti_pl79, ti_sb22, ti_sb28, ti_sl22, ti_sl28, ti_st9, ti_us5, ti_zr79, tkD, tkV])
      | (refine AWp_condC rfl ?_; intro KA KB hKA hKB; try simp only [onB_true, onB_false, onB_dec, onB_ndec, onB_not, onB_and, onB_or])
      | (refine AWp_condA rfl ?_ ?_)
      | with_reducible refine onB_of ?_ ?_
      | with_reducible rfl
      | omega)
    refine AWp_whileH (fun y : Nat × Nat × List Tk => y.1 ≤ s.length ∧ y.2.2.length ≤ 200 ∧ cutGo s y.1 y.2.2 = cutGo s 0 []) (fun y => [(0, .d (.s s)), (5, .os H.length y.2.1), (6, .d (.i .i64 y.1))])
      (fun y => [.row y.2.1 79 3 (y.2.2.map tkC)]) (fun y => s.length - y.1) (0, 0, []) ⟨Nat.zero_le _, by simp, rfl⟩ rfl ?_ ?_ ?_
    · simp (dsimp := false) only [go_sem, Nat.reduceAdd, Nat.reduceBEq, Nat.reduceEqDiff, Nat.reduceLT, Nat.reduceLeDiff, Nat.reduceMul, Int.reduceToNat, reduceCtorEq, ↓reduceIte, Tryd.ntmps16, Tryd.results16, ks_16, mu_16, ti_ag9, ti_hb47, ti_hb48, ti_hb49, ti_hb50, ti_hb51, ti_hb52, ti_in3, ti_pl79, ti_sb22, ti_sb28, ti_sl22, ti_sl28, ti_st9, ti_us5, ti_zr79, tkD, tkV]
      first | done | simp
    · rintro ⟨p, v, out⟩ _ ob hob
      rw [List.mem_singleton] at hob
      subst hob
      exact obBel_tk _ _ _ _
    rintro ⟨p, v, out⟩ ⟨h1, h2, h3⟩
    simp only [] at h1 h2 h3 ⊢
    by_cases hp : p < s.length
    · obtain ⟨c, hc⟩ : ∃ c, s[p]? = some c := ⟨s[p], List.getElem?_eq_getElem hp⟩
      rw [cutGo_next hc] at h3
      have hu8 : c.toNat < 256 := c.toNat_lt
      have hwrc : IntKind.i64.wrap (c.toNat : Int) = (c.toNat : Int) := wrap_inR (by simp [inR, IntKind.min, IntKind.max, IntKind.bits, IntKind.signed]; omega)
      have e1 : (p : Int) + 1 = ((p + 1 : Nat) : Int) := by omega
      by_cases hcs : c = 32 ∨ c = 10 ∨ c = 9
      · rw [if_pos hcs] at h3
        
        repeat' (first
          | with_reducible refine And.intro ?_ ?_
          | with_reducible intro _
          | with_reducible refine AWp_seq ?_
          | with_reducible refine AWp_block ?_
          | (with_reducible refine hKv _ _ (AWp_nop ?_); clear hKv Kv)
          | (with_reducible refine hKv _ _ ?_; clear hKv Kv; simp (dsimp := false) only [go_sem, Nat.reduceAdd, Nat.reduceBEq, Nat.reduceEqDiff, Nat.reduceLT, Nat.reduceLeDiff, Nat.reduceMul, Int.reduceToNat, reduceCtorEq, ↓reduceIte, Tryd.ntmps16, Tryd.results16, ks_16, mu_16, ti_ag9, ti_hb47, ti_hb48, ti_hb49, ti_hb50, ti_hb51, ti_hb52, ti_in3, ti_pl79, ti_sb22, ti_sb28, ti_sl22, ti_sl28, ti_st9, ti_us5, ti_zr79, tkD, tkV, hc])
          | (with_reducible refine hKA ?_; clear hKA hKB KA KB)
          | (with_reducible refine hKB ?_; clear hKA hKB KA KB)
          | (with_reducible refine AWp_regC mu_16 ks_16 ?_; intro Kv hKv; simp (dsimp := false) only [go_sem, Nat.reduceAdd, Nat.reduceBEq, Nat.reduceEqDiff, Nat.reduceLT, Nat.reduceLeDiff, Nat.reduceMul, Int.reduceToNat, reduceCtorEq, ↓reduceIte, Tryd.ntmps16, Tryd.results16, ks_16, mu_16, ti_ag9, ti_hb47, ti_hb48, ti_hb49, ti_hb50, ti_hb51, ti_hb52, ti_in3, ti_pl79, ti_sb22, ti_sb28, ti_sl22, ti_sl28, ti_st9, ti_us5, ti_zr79, tkD, tkV, hc])
          | with_reducible refine AWp_skipN ?_
          | with_reducible refine AWp_exitO (by repeat (first | with_reducible exact Out.hit | with_reducible apply Out.thenA | with_reducible apply Out.out rfl)) ?_
          | (with_reducible refine AWp_retR ?_; simp (dsimp := false) only [go_sem, Nat.reduceAdd, Nat.reduceBEq, Nat.reduceEqDiff, Nat.reduceLT, Nat.reduceLeDiff, Nat.reduceMul, Int.reduceToNat, reduceCtorEq, ↓reduceIte, Tryd.ntmps16, Tryd.results16, ks_16, mu_16, ti_ag9, ti_hb47, ti_hb48, ti_hb49, ti_hb50, ti_hb51, ti_hb52, ti_in3, ti_pl79, ti_sb22, ti_sb28, ti_sl22, ti_sl28, ti_st9, ti_us5, ti_zr79, tkD, tkV, hc])
          | (with_reducible refine AWp_regE mu_16 ks_16 ?_; intro Kv hKv; simp (dsimp := false) only [go_sem, Nat.reduceAdd, Nat.reduceBEq, Nat.reduceEqDiff, Nat.reduceLT, Nat.reduceLeDiff, Nat.reduceMul, Int.reduceToNat, reduceCtorEq, ↓reduceIte, Tryd.ntmps16, Tryd.results16, ks_16, mu_16, ti_ag9, ti_hb47, ti_hb48, ti_hb49, ti_hb50, ti_hb51, ti_hb52, ti_in3, ti_pl79, ti_sb22, ti_sb28, ti_sl22, ti_sl28, ti_st9, ti_us5, ti_zr79, tkD, tkV, hc])
          | (refine AWp_condC rfl ?_; intro KA KB hKA hKB; try simp only [onB_true, onB_false, onB_dec, onB_ndec, onB_not, onB_and, onB_or])
          | (refine AWp_condA rfl ?_ ?_)
          | with_reducible refine onB_of ?_ ?_
          | with_reducible rfl
          | omega)
        all_goals first
          | exact ⟨(p + 1, v, out), ⟨by show p + 1 ≤ s.length; omega, h2, h3⟩, by show s.length - (p + 1) < s.length - p; omega, rfl, by first | (simp (dsimp := false) only [go_sem, Nat.reduceAdd, Nat.reduceBEq, Nat.reduceEqDiff, Nat.reduceLT, Nat.reduceLeDiff, Nat.reduceMul, Int.reduceToNat, reduceCtorEq, ↓reduceIte, Tryd.ntmps16, Tryd.results16, ks_16, mu_16, ti_ag9, ti_hb47, ti_hb48, ti_hb49, ti_hb50, ti_hb51, ti_hb52, ti_in3, ti_pl79, ti_sb22, ti_sb28, ti_sl22, ti_sl28, ti_st9, ti_us5, ti_zr79, tkD, tkV, hc]; done) | (simp (dsimp := false) only [go_sem, Nat.reduceAdd, Nat.reduceBEq, Nat.reduceEqDiff, Nat.reduceLT, Nat.reduceLeDiff, Nat.reduceMul, Int.reduceToNat, reduceCtorEq, ↓reduceIte, Tryd.ntmps16, Tryd.results16, ks_16, mu_16, ti_ag9, ti_hb47, ti_hb48, ti_hb49, ti_hb50, ti_hb51, ti_hb52, ti_in3, ti_pl79, ti_sb22, ti_sb28, ti_sl22, ti_sl28, ti_st9, ti_us5, ti_zr79, tkD, tkV, hc]; omega)⟩
          | (exfalso; rcases hcs with rfl | rfl | rfl <;> simp_all)
      rw [if_neg hcs] at h3
      have hcs : ¬ ((c.toNat : Int) = 32 ∨ (c.toNat : Int) = 10 ∨ (c.toNat : Int) = 9) := fun h => hcs (by simp only [← UInt8.toNat_inj]; simp; omega)
      have n1 : ((c.toNat : Int) = 32) = False := eq_false fun h => hcs (.inl h)
      have n2 : ((c.toNat : Int) = 10) = False := eq_false fun h => hcs (.inr (.inl h))
      have n3 : ((c.toNat : Int) = 9) = False := eq_false fun h => hcs (.inr (.inr h))
      by_cases h200 : 200 ≤ out.length
      · rw [if_pos h200] at h3
        rw [← h3] at hk
        
        repeat' (first
          | with_reducible refine And.intro ?_ ?_
          | with_reducible intro _
          | with_reducible refine AWp_seq ?_
          | with_reducible refine AWp_block ?_
          | (with_reducible refine hKv _ _ (AWp_nop ?_); clear hKv Kv)
          | (with_reducible refine hKv _ _ ?_; clear hKv Kv; simp (dsimp := false) only [go_sem, Nat.reduceAdd, Nat.reduceBEq, Nat.reduceEqDiff, Nat.reduceLT, Nat.reduceLeDiff, Nat.reduceMul, Int.reduceToNat, reduceCtorEq, ↓reduceIte, Tryd.ntmps16, Tryd.results16, ks_16, mu_16, ti_ag9, ti_hb47, ti_hb48, ti_hb49, ti_hb50, ti_hb51, ti_hb52, ti_in3, ti_pl79, ti_sb22, ti_sb28, ti_sl22, ti_sl28, ti_st9, ti_us5, ti_zr79, tkD, tkV, hc])
          | (with_reducible refine hKA ?_; clear hKA hKB KA KB)
          | (with_reducible refine hKB ?_; clear hKA hKB KA KB)
          | (with_reducible refine AWp_regC mu_16 ks_16 ?_; intro Kv hKv; simp (dsimp := false) only [go_sem, Nat.reduceAdd, Nat.reduceBEq, Nat.reduceEqDiff, Nat.reduceLT, Nat.reduceLeDiff, Nat.reduceMul, Int.reduceToNat, reduceCtorEq, ↓reduceIte, Tryd.ntmps16, Tryd.results16, ks_16, mu_16, ti_ag9, ti_hb47, ti_hb48, ti_hb49, ti_hb50, ti_hb51, ti_hb52, ti_in3, ti_pl79, ti_sb22, ti_sb28, ti_sl22, ti_sl28, ti_st9, ti_us5, ti_zr79, tkD, tkV, hc])
          | with_reducible refine AWp_skipN ?_
          | with_reducible refine AWp_exitO (by repeat (first | with_reducible exact Out.hit | with_reducible apply Out.thenA | with_reducible apply Out.out rfl)) ?_
          | (with_reducible refine AWp_retR ?_; simp (dsimp := false) only [go_sem, Nat.reduceAdd, Nat.reduceBEq, Nat.reduceEqDiff, Nat.reduceLT, Nat.reduceLeDiff, Nat.reduceMul, Int.reduceToNat, reduceCtorEq, ↓reduceIte, Tryd.ntmps16, Tryd.results16, ks_16, mu_16, ti_ag9, ti_hb47, ti_hb48, ti_hb49, ti_hb50, ti_hb51, ti_hb52, ti_in3, ti_pl79, ti_sb22, ti_sb28, ti_sl22, ti_sl28, ti_st9, ti_us5, ti_zr79, tkD, tkV, hc])
          | (with_reducible refine AWp_regE mu_16 ks_16 ?_; intro Kv hKv; simp (dsimp := false) only [go_sem, Nat.reduceAdd, Nat.reduceBEq, Nat.reduceEqDiff, Nat.reduceLT, Nat.reduceLeDiff, Nat.reduceMul, Int.reduceToNat, reduceCtorEq, ↓reduceIte, Tryd.ntmps16, Tryd.results16, ks_16, mu_16, ti_ag9, ti_hb47, ti_hb48, ti_hb49, ti_hb50, ti_hb51, ti_hb52, ti_in3, ti_pl79, ti_sb22, ti_sb28, ti_sl22, ti_sl28, ti_st9, ti_us5, ti_zr79, tkD, tkV, hc])
          | (refine AWp_condC rfl ?_; intro KA KB hKA hKB; try simp only [onB_true, onB_false, onB_dec, onB_ndec, onB_not, onB_and, onB_or])
          | (refine AWp_condA rfl ?_ ?_)
          | with_reducible refine onB_of ?_ ?_
          | with_reducible rfl
          | omega)
        all_goals first
          | exact dropF hk (Fz_tu3 (.nil 3) (.same _) (.same _)) (bel_cutV _ _)
          | omega
      rw [if_neg h200] at h3
      have n4 : ((200 : Int) ≤ (out.length : Int)) = False := eq_false (by omega)
      have hdone : ∀ (t : Tk) (j : Nat), oneT s p c.toNat = (t, j, 0) → ∃ i' : Nat × Nat × List Tk, (i'.1 ≤ s.length ∧ i'.2.2.length ≤ 200 ∧ cutGo s i'.1 i'.2.2 = cutGo s 0 []) ∧ s.length - i'.1 < s.length - p ∧ (j, v + 1, out ++ [t]) = i' := fun t j ho => by
        have h0 : (oneT s p c.toNat).2.2 = 0 := by rw [ho]
        obtain ⟨a1, a2, a3⟩ := oneT_adv hc h0
        rw [if_neg (by simpa using h0), ho] at h3
        have a1 : p < j := by rw [ho] at a1; exact a1
        have a2 : j ≤ s.length := by rw [ho] at a2; exact a2
        exact ⟨_, ⟨a2, by simp; omega, h3⟩, by show s.length - j < s.length - p; omega, rfl⟩
      have hbad : ∀ (t : Tk) (j : Nat) (e : Int), oneT s p c.toNat = (t, j, e) → e ≠ 0 → K (cutV ([], p, e)) H := fun t j e ho he => by
        rw [ho, if_pos he] at h3
        rw [← h3] at hk
        exact hk
      clear h3 hk
      have hwl : wordB c.toNat true = letterB c.toNat := wordB_first _
      cases hw : wordB c.toNat true with
      | true =>
        have ho : oneT s p c.toNat = if 20 < ((s.take (wEnd s p p)).drop p).length then (tk0, p, 10) else (⟨1, (s.take (wEnd s p p)).drop p, 0⟩, wEnd s p p, 0) := by rw [oneT, if_pos hw]
        obtain ⟨w1, w2⟩ := wEnd_le s p _ p (Nat.le_refl _) (by omega)
        have hlen : ((s.take (wEnd s p p)).drop p).length = wEnd s p p - p := by simp only [List.length_drop, List.length_take]; omega
        rw [hlen] at ho
        
        repeat' (first
          | with_reducible refine And.intro ?_ ?_
          | with_reducible intro _
          | with_reducible refine AWp_seq ?_
          | with_reducible refine AWp_block ?_
          | (with_reducible refine hKv _ _ (AWp_nop ?_); clear hKv Kv)
          | (with_reducible refine hKv _ _ ?_; clear hKv Kv; simp (dsimp := false) only [go_sem, Nat.reduceAdd, Nat.reduceBEq, Nat.reduceEqDiff, Nat.reduceLT, Nat.reduceLeDiff, Nat.reduceMul, Int.reduceToNat, reduceCtorEq, ↓reduceIte, Tryd.ntmps16, Tryd.results16, ks_16, mu_16, ti_ag9, ti_hb47, ti_hb48, ti_hb49, ti_hb50, ti_hb51, ti_hb52, ti_in3, ti_pl79, ti_sb22, ti_sb28, ti_sl22, ti_sl28, ti_st9, ti_us5, ti_zr79, tkD, tkV, hc, n1, n2, n3, n4, hw])
          | (with_reducible refine hKA ?_; clear hKA hKB KA KB)
          | (with_reducible refine hKB ?_; clear hKA hKB KA KB)
          | (with_reducible refine AWp_regC mu_16 ks_16 ?_; intro Kv hKv; simp (dsimp := false) only [go_sem, Nat.reduceAdd, Nat.reduceBEq, Nat.reduceEqDiff, Nat.reduceLT, Nat.reduceLeDiff, Nat.reduceMul, Int.reduceToNat, reduceCtorEq, ↓reduceIte, Tryd.ntmps16, Tryd.results16, ks_16, mu_16, ti_ag9, ti_hb47, ti_hb48, ti_hb49, ti_hb50, ti_hb51, ti_hb52, ti_in3, ti_pl79, ti_sb22, ti_sb28, ti_sl22, ti_sl28, ti_st9, ti_us5, ti_zr79, tkD, tkV, hc, n1, n2, n3, n4, hw])
          | with_reducible refine AWp_skipN ?_
          | with_reducible refine AWp_exitO (by repeat (first | with_reducible exact Out.hit | with_reducible apply Out.thenA | with_reducible apply Out.out rfl)) ?_
          | (with_reducible refine AWp_retR ?_; simp (dsimp := false) only [go_sem, Nat.reduceAdd, Nat.reduceBEq, Nat.reduceEqDiff, Nat.reduceLT, Nat.reduceLeDiff, Nat.reduceMul, Int.reduceToNat, reduceCtorEq, ↓reduceIte, Tryd.ntmps16, Tryd.results16, ks_16, mu_16, ti_ag9, ti_hb47, ti_hb48, ti_hb49, ti_hb50, ti_hb51, ti_hb52, ti_in3, ti_pl79, ti_sb22, ti_sb28, ti_sl22, ti_sl28, ti_st9, ti_us5, ti_zr79, tkD, tkV, hc, n1, n2, n3, n4, hw])
          | (with_reducible refine AWp_regE mu_16 ks_16 ?_; intro Kv hKv; simp (dsimp := false) only [go_sem, Nat.reduceAdd, Nat.reduceBEq, Nat.reduceEqDiff, Nat.reduceLT, Nat.reduceLeDiff, Nat.reduceMul, Int.reduceToNat, reduceCtorEq, ↓reduceIte, Tryd.ntmps16, Tryd.results16, ks_16, mu_16, ti_ag9, ti_hb47, ti_hb48, ti_hb49, ti_hb50, ti_hb51, ti_hb52, ti_in3, ti_pl79, ti_sb22, ti_sb28, ti_sl22, ti_sl28, ti_st9, ti_us5, ti_zr79, tkD, tkV, hc, n1, n2, n3, n4, hw])
          | (refine AWp_condC rfl ?_; intro KA KB hKA hKB; try simp only [onB_true, onB_false, onB_dec, onB_ndec, onB_not, onB_and, onB_or])
          | (refine AWp_condA rfl ?_ ?_)
          | (refine wordByte_A _ _ _ _ ?_; try simp (dsimp := false) only [go_sem, Nat.reduceAdd, Nat.reduceBEq, Nat.reduceEqDiff, Nat.reduceLT, Nat.reduceLeDiff, Nat.reduceMul, Int.reduceToNat, reduceCtorEq, ↓reduceIte, Tryd.ntmps16, Tryd.results16, ks_16, mu_16, ti_ag9, ti_hb47, ti_hb48, ti_hb49, ti_hb50, ti_hb51, ti_hb52, ti_in3, ti_pl79, ti_sb22, ti_sb28, ti_sl22, ti_sl28, ti_st9, ti_us5, ti_zr79, tkD, tkV, hc, n1, n2, n3, n4, hw])
          | (refine wordTo_A s p hs (by omega) _ _ ?_; try simp (dsimp := false) only [go_sem, Nat.reduceAdd, Nat.reduceBEq, Nat.reduceEqDiff, Nat.reduceLT, Nat.reduceLeDiff, Nat.reduceMul, Int.reduceToNat, reduceCtorEq, ↓reduceIte, Tryd.ntmps16, Tryd.results16, ks_16, mu_16, ti_ag9, ti_hb47, ti_hb48, ti_hb49, ti_hb50, ti_hb51, ti_hb52, ti_in3, ti_pl79, ti_sb22, ti_sb28, ti_sl22, ti_sl28, ti_st9, ti_us5, ti_zr79, tkD, tkV, hc, n1, n2, n3, n4, hw])
          | with_reducible refine onB_of ?_ ?_
          | with_reducible rfl
          | omega)
        all_goals first
          | omega
          | (rw [if_pos (by omega)] at ho
             exact dropF (hbad _ _ _ ho (by decide)) (Fz_tu3 (.nil 3) (.same _) (.same _)) (bel_cutV _ _))
          | (rw [if_neg (by omega)] at ho
             obtain ⟨i', g1, g2, rfl⟩ := hdone _ _ ho
             exact ⟨_, g1, g2, by simp [tkC], by (repeat' (refine And.intro ?_ ?_)) <;> first | rfl | omega | (simp; done) | (simp (dsimp := false) only [go_sem, Nat.reduceAdd, Nat.reduceBEq, Nat.reduceEqDiff, Nat.reduceLT, Nat.reduceLeDiff, Nat.reduceMul, Int.reduceToNat, reduceCtorEq, ↓reduceIte, Tryd.ntmps16, Tryd.results16, ks_16, mu_16, ti_ag9, ti_hb47, ti_hb48, ti_hb49, ti_hb50, ti_hb51, ti_hb52, ti_in3, ti_pl79, ti_sb22, ti_sb28, ti_sl22, ti_sl28, ti_st9, ti_us5, ti_zr79, tkD, tkV, hc, n1, n2, n3, n4, hw]; done) | (simp (dsimp := false) only [go_sem, Nat.reduceAdd, Nat.reduceBEq, Nat.reduceEqDiff, Nat.reduceLT, Nat.reduceLeDiff, Nat.reduceMul, Int.reduceToNat, reduceCtorEq, ↓reduceIte, Tryd.ntmps16, Tryd.results16, ks_16, mu_16, ti_ag9, ti_hb47, ti_hb48, ti_hb49, ti_hb50, ti_hb51, ti_hb52, ti_in3, ti_pl79, ti_sb22, ti_sb28, ti_sl22, ti_sl28, ti_st9, ti_us5, ti_zr79, tkD, tkV, hc, n1, n2, n3, n4, hw]; omega)⟩)
      | false =>
        cases hd : digB c.toNat with
        | true =>
          have ho : oneT s p c.toNat = (match numGo s p 0 with | none => (tk0, p, 2) | some (n, e) => (⟨2, [], n⟩, e, 0)) := by rw [oneT, if_neg (by rw [hw]; decide), if_pos hd]; rfl
          have hd0 : decide (48 ≤ (c.toNat : Int) ∧ (c.toNat : Int) ≤ 57) = true := hd
          have hd1 : (48 ≤ (c.toNat : Int) ∧ (c.toNat : Int) ≤ 57) := by simpa using hd0
          have hin : decide ((c.toNat : Int) ≤ 57) = true := by simp; omega
          
          repeat' (first
            | with_reducible refine And.intro ?_ ?_
            | with_reducible intro _
            | with_reducible refine AWp_seq ?_
            | with_reducible refine AWp_block ?_
            | (with_reducible refine hKv _ _ (AWp_nop ?_); clear hKv Kv)
            | (with_reducible refine hKv _ _ ?_; clear hKv Kv; simp (dsimp := false) only [go_sem, Nat.reduceAdd, Nat.reduceBEq, Nat.reduceEqDiff, Nat.reduceLT, Nat.reduceLeDiff, Nat.reduceMul, Int.reduceToNat, reduceCtorEq, ↓reduceIte, Tryd.ntmps16, Tryd.results16, ks_16, mu_16, ti_ag9, ti_hb47, ti_hb48, ti_hb49, ti_hb50, ti_hb51, ti_hb52, ti_in3, ti_pl79, ti_sb22, ti_sb28, ti_sl22, ti_sl28, ti_st9, ti_us5, ti_zr79, tkD, tkV, hc, n1, n2, n3, n4, hw, hwrc, hd0])
            | (with_reducible refine hKA ?_; clear hKA hKB KA KB)
            | (with_reducible refine hKB ?_; clear hKA hKB KA KB)
            | (with_reducible refine AWp_regC mu_16 ks_16 ?_; intro Kv hKv; simp (dsimp := false) only [go_sem, Nat.reduceAdd, Nat.reduceBEq, Nat.reduceEqDiff, Nat.reduceLT, Nat.reduceLeDiff, Nat.reduceMul, Int.reduceToNat, reduceCtorEq, ↓reduceIte, Tryd.ntmps16, Tryd.results16, ks_16, mu_16, ti_ag9, ti_hb47, ti_hb48, ti_hb49, ti_hb50, ti_hb51, ti_hb52, ti_in3, ti_pl79, ti_sb22, ti_sb28, ti_sl22, ti_sl28, ti_st9, ti_us5, ti_zr79, tkD, tkV, hc, n1, n2, n3, n4, hw, hwrc, hd0])
            | with_reducible refine AWp_skipN ?_
            | with_reducible refine AWp_exitO (by repeat (first | with_reducible exact Out.hit | with_reducible apply Out.thenA | with_reducible apply Out.out rfl)) ?_
            | (with_reducible refine AWp_retR ?_; simp (dsimp := false) only [go_sem, Nat.reduceAdd, Nat.reduceBEq, Nat.reduceEqDiff, Nat.reduceLT, Nat.reduceLeDiff, Nat.reduceMul, Int.reduceToNat, reduceCtorEq, ↓reduceIte, Tryd.ntmps16, Tryd.results16, ks_16, mu_16, ti_ag9, ti_hb47, ti_hb48, ti_hb49, ti_hb50, ti_hb51, ti_hb52, ti_in3, ti_pl79, ti_sb22, ti_sb28, ti_sl22, ti_sl28, ti_st9, ti_us5, ti_zr79, tkD, tkV, hc, n1, n2, n3, n4, hw, hwrc, hd0])
            | (with_reducible refine AWp_regE mu_16 ks_16 ?_; intro Kv hKv; simp (dsimp := false) only [go_sem, Nat.reduceAdd, Nat.reduceBEq, Nat.reduceEqDiff, Nat.reduceLT, Nat.reduceLeDiff, Nat.reduceMul, Int.reduceToNat, reduceCtorEq, ↓reduceIte, Tryd.ntmps16, Tryd.results16, ks_16, mu_16, ti_ag9, ti_hb47, ti_hb48, ti_hb49, ti_hb50, ti_hb51, ti_hb52, ti_in3, ti_pl79, ti_sb22, ti_sb28, ti_sl22, ti_sl28, ti_st9, ti_us5, ti_zr79, tkD, tkV, hc, n1, n2, n3, n4, hw, hwrc, hd0])
            | (refine AWp_condC rfl ?_; intro KA KB hKA hKB; try simp only [onB_true, onB_false, onB_dec, onB_ndec, onB_not, onB_and, onB_or])
            | (refine AWp_condA rfl ?_ ?_)
            | (refine wordByte_A _ _ _ _ ?_; try simp (dsimp := false) only [go_sem, Nat.reduceAdd, Nat.reduceBEq, Nat.reduceEqDiff, Nat.reduceLT, Nat.reduceLeDiff, Nat.reduceMul, Int.reduceToNat, reduceCtorEq, ↓reduceIte, Tryd.ntmps16, Tryd.results16, ks_16, mu_16, ti_ag9, ti_hb47, ti_hb48, ti_hb49, ti_hb50, ti_hb51, ti_hb52, ti_in3, ti_pl79, ti_sb22, ti_sb28, ti_sl22, ti_sl28, ti_st9, ti_us5, ti_zr79, tkD, tkV, hc, n1, n2, n3, n4, hw, hwrc, hd0])
            | (refine in_A _ _ _ _ _ ?_; try simp (dsimp := false) only [go_sem, Nat.reduceAdd, Nat.reduceBEq, Nat.reduceEqDiff, Nat.reduceLT, Nat.reduceLeDiff, Nat.reduceMul, Int.reduceToNat, reduceCtorEq, ↓reduceIte, Tryd.ntmps16, Tryd.results16, ks_16, mu_16, ti_ag9, ti_hb47, ti_hb48, ti_hb49, ti_hb50, ti_hb51, ti_hb52, ti_in3, ti_pl79, ti_sb22, ti_sb28, ti_sl22, ti_sl28, ti_st9, ti_us5, ti_zr79, tkD, tkV, hc, n1, n2, n3, n4, hw, hwrc, hd0])
            | with_reducible refine onB_of ?_ ?_
            | with_reducible rfl
            | omega)
          refine AWp_whileH (fun y : Nat × Int => p ≤ y.1 ∧ y.1 ≤ s.length ∧ 0 ≤ y.2 ∧ y.2 ≤ 1099511627776 ∧ numGo s y.1 y.2 = numGo s p 0)
            (fun y => [(0, .d (.s s)), (5, .os H.length v), (6, .d (.i .i64 p)), (9, .d (.i .i64 y.2)), (10, .d (.i .i64 y.1))]) (fun _ => [.row v 79 3 (out.map tkC)]) (fun y => s.length - y.1) (p, 0) ⟨Nat.le_refl _, by show p ≤ s.length; omega, Int.le_refl _, by show (0 : Int) ≤ 1099511627776; decide, rfl⟩ rfl ?_ ?_ ?_
          · simp (dsimp := false) only [go_sem, Nat.reduceAdd, Nat.reduceBEq, Nat.reduceEqDiff, Nat.reduceLT, Nat.reduceLeDiff, Nat.reduceMul, Int.reduceToNat, reduceCtorEq, ↓reduceIte, Tryd.ntmps16, Tryd.results16, ks_16, mu_16, ti_ag9, ti_hb47, ti_hb48, ti_hb49, ti_hb50, ti_hb51, ti_hb52, ti_in3, ti_pl79, ti_sb22, ti_sb28, ti_sl22, ti_sl28, ti_st9, ti_us5, ti_zr79, tkD, tkV, hc, n1, n2, n3, n4, hw, hwrc, hd0]
            first | done | simp | (simp; omega)
          · rintro _ _ ob hob
            rw [List.mem_singleton] at hob
            subst hob
            exact obBel_tk _ _ _ _
          rintro ⟨j, n⟩ ⟨i1, i2, i3, i4, i5⟩
          simp only [] at i1 i2 i3 i4 i5 ⊢
          by_cases hj : j < s.length
          · obtain ⟨d, hdj⟩ : ∃ d, s[j]? = some d := ⟨s[j], List.getElem?_eq_getElem hj⟩
            have hd8 : d.toNat < 256 := d.toNat_lt
            have hwrd : IntKind.i64.wrap (d.toNat : Int) = (d.toNat : Int) := wrap_inR (by simp [inR, IntKind.min, IntKind.max, IntKind.bits, IntKind.signed]; omega)
            have hg := numGo_get (n := n) hdj
            rw [i5] at hg
            by_cases hdd : 48 ≤ (d.toNat : Int) ∧ (d.toNat : Int) ≤ 57
            · have hwr : IntKind.i64.wrap ((d.toNat : Int) - 48) = (d.toNat : Int) - 48 := wrap_inR (by simp [inR, IntKind.min, IntKind.max, IntKind.bits, IntKind.signed]; omega)
              rw [if_pos (by simpa [digB] using hdd)] at hg
              have hdd0 : decide (48 ≤ (d.toNat : Int) ∧ (d.toNat : Int) ≤ 57) = true := by simpa using hdd
              
              repeat' (first
                | with_reducible refine And.intro ?_ ?_
                | with_reducible intro _
                | with_reducible refine AWp_seq ?_
                | with_reducible refine AWp_block ?_
                | (with_reducible refine hKv _ _ (AWp_nop ?_); clear hKv Kv)
                | (with_reducible refine hKv _ _ ?_; clear hKv Kv; simp (dsimp := false) only [go_sem, Nat.reduceAdd, Nat.reduceBEq, Nat.reduceEqDiff, Nat.reduceLT, Nat.reduceLeDiff, Nat.reduceMul, Int.reduceToNat, reduceCtorEq, ↓reduceIte, Tryd.ntmps16, Tryd.results16, ks_16, mu_16, ti_ag9, ti_hb47, ti_hb48, ti_hb49, ti_hb50, ti_hb51, ti_hb52, ti_in3, ti_pl79, ti_sb22, ti_sb28, ti_sl22, ti_sl28, ti_st9, ti_us5, ti_zr79, tkD, tkV, hdj, hwr, hwrd, hdd0])
                | (with_reducible refine hKA ?_; clear hKA hKB KA KB)
                | (with_reducible refine hKB ?_; clear hKA hKB KA KB)
                | (with_reducible refine AWp_regC mu_16 ks_16 ?_; intro Kv hKv; simp (dsimp := false) only [go_sem, Nat.reduceAdd, Nat.reduceBEq, Nat.reduceEqDiff, Nat.reduceLT, Nat.reduceLeDiff, Nat.reduceMul, Int.reduceToNat, reduceCtorEq, ↓reduceIte, Tryd.ntmps16, Tryd.results16, ks_16, mu_16, ti_ag9, ti_hb47, ti_hb48, ti_hb49, ti_hb50, ti_hb51, ti_hb52, ti_in3, ti_pl79, ti_sb22, ti_sb28, ti_sl22, ti_sl28, ti_st9, ti_us5, ti_zr79, tkD, tkV, hdj, hwr, hwrd, hdd0])
                | with_reducible refine AWp_skipN ?_
                | with_reducible refine AWp_exitO (by repeat (first | with_reducible exact Out.hit | with_reducible apply Out.thenA | with_reducible apply Out.out rfl)) ?_
                | (with_reducible refine AWp_retR ?_; simp (dsimp := false) only [go_sem, Nat.reduceAdd, Nat.reduceBEq, Nat.reduceEqDiff, Nat.reduceLT, Nat.reduceLeDiff, Nat.reduceMul, Int.reduceToNat, reduceCtorEq, ↓reduceIte, Tryd.ntmps16, Tryd.results16, ks_16, mu_16, ti_ag9, ti_hb47, ti_hb48, ti_hb49, ti_hb50, ti_hb51, ti_hb52, ti_in3, ti_pl79, ti_sb22, ti_sb28, ti_sl22, ti_sl28, ti_st9, ti_us5, ti_zr79, tkD, tkV, hdj, hwr, hwrd, hdd0])
                | (with_reducible refine AWp_regE mu_16 ks_16 ?_; intro Kv hKv; simp (dsimp := false) only [go_sem, Nat.reduceAdd, Nat.reduceBEq, Nat.reduceEqDiff, Nat.reduceLT, Nat.reduceLeDiff, Nat.reduceMul, Int.reduceToNat, reduceCtorEq, ↓reduceIte, Tryd.ntmps16, Tryd.results16, ks_16, mu_16, ti_ag9, ti_hb47, ti_hb48, ti_hb49, ti_hb50, ti_hb51, ti_hb52, ti_in3, ti_pl79, ti_sb22, ti_sb28, ti_sl22, ti_sl28, ti_st9, ti_us5, ti_zr79, tkD, tkV, hdj, hwr, hwrd, hdd0])
                | (refine AWp_condC rfl ?_; intro KA KB hKA hKB; try simp only [onB_true, onB_false, onB_dec, onB_ndec, onB_not, onB_and, onB_or])
                | (refine AWp_condA rfl ?_ ?_)
                | (refine in_A _ _ _ _ _ ?_; try simp (dsimp := false) only [go_sem, Nat.reduceAdd, Nat.reduceBEq, Nat.reduceEqDiff, Nat.reduceLT, Nat.reduceLeDiff, Nat.reduceMul, Int.reduceToNat, reduceCtorEq, ↓reduceIte, Tryd.ntmps16, Tryd.results16, ks_16, mu_16, ti_ag9, ti_hb47, ti_hb48, ti_hb49, ti_hb50, ti_hb51, ti_hb52, ti_in3, ti_pl79, ti_sb22, ti_sb28, ti_sl22, ti_sl28, ti_st9, ti_us5, ti_zr79, tkD, tkV, hdj, hwr, hwrd, hdd0])
                | with_reducible refine onB_of ?_ ?_
                | with_reducible rfl
                | omega)
              all_goals first
                | omega
                | (rw [if_pos (by omega)] at hg
                   rw [hg] at ho
                   exact dropF (hbad _ _ _ ho (by decide)) (Fz_tu3 (.nil 3) (.same _) (.same _)) (bel_cutV _ _))
                | (rw [if_neg (by omega)] at hg
                   exact ⟨(j + 1, 10 * n + ((d.toNat : Int) - 48)), ⟨by show p ≤ j + 1; omega, by show j + 1 ≤ s.length; omega, by show 0 ≤ 10 * n + ((d.toNat : Int) - 48); omega, by show 10 * n + ((d.toNat : Int) - 48) ≤ 1099511627776; omega, hg.symm⟩, by show s.length - (j + 1) < s.length - j; omega, by (repeat' (refine And.intro ?_ ?_)) <;> first | rfl | omega | (simp; done) | (simp (dsimp := false) only [go_sem, Nat.reduceAdd, Nat.reduceBEq, Nat.reduceEqDiff, Nat.reduceLT, Nat.reduceLeDiff, Nat.reduceMul, Int.reduceToNat, reduceCtorEq, ↓reduceIte, Tryd.ntmps16, Tryd.results16, ks_16, mu_16, ti_ag9, ti_hb47, ti_hb48, ti_hb49, ti_hb50, ti_hb51, ti_hb52, ti_in3, ti_pl79, ti_sb22, ti_sb28, ti_sl22, ti_sl28, ti_st9, ti_us5, ti_zr79, tkD, tkV, hdj, hwr, hwrd, hdd0]; done) | (simp (dsimp := false) only [go_sem, Nat.reduceAdd, Nat.reduceBEq, Nat.reduceEqDiff, Nat.reduceLT, Nat.reduceLeDiff, Nat.reduceMul, Int.reduceToNat, reduceCtorEq, ↓reduceIte, Tryd.ntmps16, Tryd.results16, ks_16, mu_16, ti_ag9, ti_hb47, ti_hb48, ti_hb49, ti_hb50, ti_hb51, ti_hb52, ti_in3, ti_pl79, ti_sb22, ti_sb28, ti_sl22, ti_sl28, ti_st9, ti_us5, ti_zr79, tkD, tkV, hdj, hwr, hwrd, hdd0]; omega)⟩)
            · rw [if_neg (by simpa [digB] using hdd)] at hg
              rw [hg] at ho
              have hdd0 : decide (48 ≤ (d.toNat : Int) ∧ (d.toNat : Int) ≤ 57) = false := by simpa using hdd
              obtain ⟨i', g1, g2, rfl⟩ := hdone _ _ ho
              
              repeat' (first
                | with_reducible refine And.intro ?_ ?_
                | with_reducible intro _
                | with_reducible refine AWp_seq ?_
                | with_reducible refine AWp_block ?_
                | (with_reducible refine hKv _ _ (AWp_nop ?_); clear hKv Kv)
                | (with_reducible refine hKv _ _ ?_; clear hKv Kv; simp (dsimp := false) only [go_sem, Nat.reduceAdd, Nat.reduceBEq, Nat.reduceEqDiff, Nat.reduceLT, Nat.reduceLeDiff, Nat.reduceMul, Int.reduceToNat, reduceCtorEq, ↓reduceIte, Tryd.ntmps16, Tryd.results16, ks_16, mu_16, ti_ag9, ti_hb47, ti_hb48, ti_hb49, ti_hb50, ti_hb51, ti_hb52, ti_in3, ti_pl79, ti_sb22, ti_sb28, ti_sl22, ti_sl28, ti_st9, ti_us5, ti_zr79, tkD, tkV, hdj, hwrd, hdd0])
                | (with_reducible refine hKA ?_; clear hKA hKB KA KB)
                | (with_reducible refine hKB ?_; clear hKA hKB KA KB)
                | (with_reducible refine AWp_regC mu_16 ks_16 ?_; intro Kv hKv; simp (dsimp := false) only [go_sem, Nat.reduceAdd, Nat.reduceBEq, Nat.reduceEqDiff, Nat.reduceLT, Nat.reduceLeDiff, Nat.reduceMul, Int.reduceToNat, reduceCtorEq, ↓reduceIte, Tryd.ntmps16, Tryd.results16, ks_16, mu_16, ti_ag9, ti_hb47, ti_hb48, ti_hb49, ti_hb50, ti_hb51, ti_hb52, ti_in3, ti_pl79, ti_sb22, ti_sb28, ti_sl22, ti_sl28, ti_st9, ti_us5, ti_zr79, tkD, tkV, hdj, hwrd, hdd0])
                | with_reducible refine AWp_skipN ?_
                | with_reducible refine AWp_exitO (by repeat (first | with_reducible exact Out.hit | with_reducible apply Out.thenA | with_reducible apply Out.out rfl)) ?_
                | (with_reducible refine AWp_retR ?_; simp (dsimp := false) only [go_sem, Nat.reduceAdd, Nat.reduceBEq, Nat.reduceEqDiff, Nat.reduceLT, Nat.reduceLeDiff, Nat.reduceMul, Int.reduceToNat, reduceCtorEq, ↓reduceIte, Tryd.ntmps16, Tryd.results16, ks_16, mu_16, ti_ag9, ti_hb47, ti_hb48, ti_hb49, ti_hb50, ti_hb51, ti_hb52, ti_in3, ti_pl79, ti_sb22, ti_sb28, ti_sl22, ti_sl28, ti_st9, ti_us5, ti_zr79, tkD, tkV, hdj, hwrd, hdd0])
                | (with_reducible refine AWp_regE mu_16 ks_16 ?_; intro Kv hKv; simp (dsimp := false) only [go_sem, Nat.reduceAdd, Nat.reduceBEq, Nat.reduceEqDiff, Nat.reduceLT, Nat.reduceLeDiff, Nat.reduceMul, Int.reduceToNat, reduceCtorEq, ↓reduceIte, Tryd.ntmps16, Tryd.results16, ks_16, mu_16, ti_ag9, ti_hb47, ti_hb48, ti_hb49, ti_hb50, ti_hb51, ti_hb52, ti_in3, ti_pl79, ti_sb22, ti_sb28, ti_sl22, ti_sl28, ti_st9, ti_us5, ti_zr79, tkD, tkV, hdj, hwrd, hdd0])
                | (refine AWp_condC rfl ?_; intro KA KB hKA hKB; try simp only [onB_true, onB_false, onB_dec, onB_ndec, onB_not, onB_and, onB_or])
                | (refine AWp_condA rfl ?_ ?_)
                | (refine in_A _ _ _ _ _ ?_; try simp (dsimp := false) only [go_sem, Nat.reduceAdd, Nat.reduceBEq, Nat.reduceEqDiff, Nat.reduceLT, Nat.reduceLeDiff, Nat.reduceMul, Int.reduceToNat, reduceCtorEq, ↓reduceIte, Tryd.ntmps16, Tryd.results16, ks_16, mu_16, ti_ag9, ti_hb47, ti_hb48, ti_hb49, ti_hb50, ti_hb51, ti_hb52, ti_in3, ti_pl79, ti_sb22, ti_sb28, ti_sl22, ti_sl28, ti_st9, ti_us5, ti_zr79, tkD, tkV, hdj, hwrd, hdd0])
                | with_reducible refine onB_of ?_ ?_
                | with_reducible rfl
                | omega)
              all_goals first
                | omega
                | exact ⟨_, g1, g2, by simp [tkC], by (repeat' (refine And.intro ?_ ?_)) <;> first | rfl | omega | (simp; done) | (simp (dsimp := false) only [go_sem, Nat.reduceAdd, Nat.reduceBEq, Nat.reduceEqDiff, Nat.reduceLT, Nat.reduceLeDiff, Nat.reduceMul, Int.reduceToNat, reduceCtorEq, ↓reduceIte, Tryd.ntmps16, Tryd.results16, ks_16, mu_16, ti_ag9, ti_hb47, ti_hb48, ti_hb49, ti_hb50, ti_hb51, ti_hb52, ti_in3, ti_pl79, ti_sb22, ti_sb28, ti_sl22, ti_sl28, ti_st9, ti_us5, ti_zr79, tkD, tkV, hdj, hwrd, hdd0]; done) | (simp (dsimp := false) only [go_sem, Nat.reduceAdd, Nat.reduceBEq, Nat.reduceEqDiff, Nat.reduceLT, Nat.reduceLeDiff, Nat.reduceMul, Int.reduceToNat, reduceCtorEq, ↓reduceIte, Tryd.ntmps16, Tryd.results16, ks_16, mu_16, ti_ag9, ti_hb47, ti_hb48, ti_hb49, ti_hb50, ti_hb51, ti_hb52, ti_in3, ti_pl79, ti_sb22, ti_sb28, ti_sl22, ti_sl28, ti_st9, ti_us5, ti_zr79, tkD, tkV, hdj, hwrd, hdd0]; omega)⟩
          · have hg := numGo_end (n := n) (s := s) (j := j) (by omega)
            rw [i5] at hg
            rw [hg] at ho
            obtain ⟨i', g1, g2, rfl⟩ := hdone _ _ ho
            
            repeat' (first
              | with_reducible refine And.intro ?_ ?_
              | with_reducible intro _
              | with_reducible refine AWp_seq ?_
              | with_reducible refine AWp_block ?_
              | (with_reducible refine hKv _ _ (AWp_nop ?_); clear hKv Kv)
              | (with_reducible refine hKv _ _ ?_; clear hKv Kv; simp (dsimp := false) only [go_sem, Nat.reduceAdd, Nat.reduceBEq, Nat.reduceEqDiff, Nat.reduceLT, Nat.reduceLeDiff, Nat.reduceMul, Int.reduceToNat, reduceCtorEq, ↓reduceIte, Tryd.ntmps16, Tryd.results16, ks_16, mu_16, ti_ag9, ti_hb47, ti_hb48, ti_hb49, ti_hb50, ti_hb51, ti_hb52, ti_in3, ti_pl79, ti_sb22, ti_sb28, ti_sl22, ti_sl28, ti_st9, ti_us5, ti_zr79, tkD, tkV])
              | (with_reducible refine hKA ?_; clear hKA hKB KA KB)
              | (with_reducible refine hKB ?_; clear hKA hKB KA KB)
              | (with_reducible refine AWp_regC mu_16 ks_16 ?_; intro Kv hKv; simp (dsimp := false) only [go_sem, Nat.reduceAdd, Nat.reduceBEq, Nat.reduceEqDiff, Nat.reduceLT, Nat.reduceLeDiff, Nat.reduceMul, Int.reduceToNat, reduceCtorEq, ↓reduceIte, Tryd.ntmps16, Tryd.results16, ks_16, mu_16, ti_ag9, ti_hb47, ti_hb48, ti_hb49, ti_hb50, ti_hb51, ti_hb52, ti_in3, ti_pl79, ti_sb22, ti_sb28, ti_sl22, ti_sl28, ti_st9, ti_us5, ti_zr79, tkD, tkV])
              | with_reducible refine AWp_skipN ?_
              | with_reducible refine AWp_exitO (by repeat (first | with_reducible exact Out.hit | with_reducible apply Out.thenA | with_reducible apply Out.out rfl)) ?_
              | (with_reducible refine AWp_retR ?_; simp (dsimp := false) only [go_sem, Nat.reduceAdd, Nat.reduceBEq, Nat.reduceEqDiff, Nat.reduceLT, Nat.reduceLeDiff, Nat.reduceMul, Int.reduceToNat, reduceCtorEq, ↓reduceIte, Tryd.ntmps16, Tryd.results16, ks_16, mu_16, ti_ag9, ti_hb47, ti_hb48, ti_hb49, ti_hb50, ti_hb51, ti_hb52, ti_in3, ti_pl79, ti_sb22, ti_sb28, ti_sl22, ti_sl28, ti_st9, ti_us5, ti_zr79, tkD, tkV])
              | (with_reducible refine AWp_regE mu_16 ks_16 ?_; intro Kv hKv; simp (dsimp := false) only [go_sem, Nat.reduceAdd, Nat.reduceBEq, Nat.reduceEqDiff, Nat.reduceLT, Nat.reduceLeDiff, Nat.reduceMul, Int.reduceToNat, reduceCtorEq, ↓reduceIte, Tryd.ntmps16, Tryd.results16, ks_16, mu_16, ti_ag9, ti_hb47, ti_hb48, ti_hb49, ti_hb50, ti_hb51, ti_hb52, ti_in3, ti_pl79, ti_sb22, ti_sb28, ti_sl22, ti_sl28, ti_st9, ti_us5, ti_zr79, tkD, tkV])
              | (refine AWp_condC rfl ?_; intro KA KB hKA hKB; try simp only [onB_true, onB_false, onB_dec, onB_ndec, onB_not, onB_and, onB_or])
              | (refine AWp_condA rfl ?_ ?_)
              | (refine in_A _ _ _ _ _ ?_; try simp (dsimp := false) only [go_sem, Nat.reduceAdd, Nat.reduceBEq, Nat.reduceEqDiff, Nat.reduceLT, Nat.reduceLeDiff, Nat.reduceMul, Int.reduceToNat, reduceCtorEq, ↓reduceIte, Tryd.ntmps16, Tryd.results16, ks_16, mu_16, ti_ag9, ti_hb47, ti_hb48, ti_hb49, ti_hb50, ti_hb51, ti_hb52, ti_in3, ti_pl79, ti_sb22, ti_sb28, ti_sl22, ti_sl28, ti_st9, ti_us5, ti_zr79, tkD, tkV])
              | with_reducible refine onB_of ?_ ?_
              | with_reducible rfl
              | omega)
            all_goals first
              | omega
              | exact ⟨_, g1, g2, by simp [tkC], by (repeat' (refine And.intro ?_ ?_)) <;> first | rfl | omega | (simp; done) | (simp (dsimp := false) only [go_sem, Nat.reduceAdd, Nat.reduceBEq, Nat.reduceEqDiff, Nat.reduceLT, Nat.reduceLeDiff, Nat.reduceMul, Int.reduceToNat, reduceCtorEq, ↓reduceIte, Tryd.ntmps16, Tryd.results16, ks_16, mu_16, ti_ag9, ti_hb47, ti_hb48, ti_hb49, ti_hb50, ti_hb51, ti_hb52, ti_in3, ti_pl79, ti_sb22, ti_sb28, ti_sl22, ti_sl28, ti_st9, ti_us5, ti_zr79, tkD, tkV]; done) | (simp (dsimp := false) only [go_sem, Nat.reduceAdd, Nat.reduceBEq, Nat.reduceEqDiff, Nat.reduceLT, Nat.reduceLeDiff, Nat.reduceMul, Int.reduceToNat, reduceCtorEq, ↓reduceIte, Tryd.ntmps16, Tryd.results16, ks_16, mu_16, ti_ag9, ti_hb47, ti_hb48, ti_hb49, ti_hb50, ti_hb51, ti_hb52, ti_in3, ti_pl79, ti_sb22, ti_sb28, ti_sl22, ti_sl28, ti_st9, ti_us5, ti_zr79, tkD, tkV]; omega)⟩
        | false =>
          have hdd0 : decide (48 ≤ (c.toNat : Int) ∧ (c.toNat : Int) ≤ 57) = false := hd
          by_cases h34 : (c.toNat : Int) = 34
          · have ho : oneT s p c.toNat = if qAt s (p + 1) = s.length then (tk0, p, 5) else (⟨3, (s.take (qAt s (p + 1))).drop (p + 1), 0⟩, qAt s (p + 1) + 1, textFault ((s.take (qAt s (p + 1))).drop (p + 1))) := by rw [oneT, if_neg (by rw [hw]; decide), if_neg (by rw [hd]; decide), if_pos h34]
            
            repeat' (first
              | with_reducible refine And.intro ?_ ?_
              | with_reducible intro _
              | with_reducible refine AWp_seq ?_
              | with_reducible refine AWp_block ?_
              | (with_reducible refine hKv _ _ (AWp_nop ?_); clear hKv Kv)
              | (with_reducible refine hKv _ _ ?_; clear hKv Kv; simp (dsimp := false) only [go_sem, Nat.reduceAdd, Nat.reduceBEq, Nat.reduceEqDiff, Nat.reduceLT, Nat.reduceLeDiff, Nat.reduceMul, Int.reduceToNat, reduceCtorEq, ↓reduceIte, Tryd.ntmps16, Tryd.results16, ks_16, mu_16, ti_ag9, ti_hb47, ti_hb48, ti_hb49, ti_hb50, ti_hb51, ti_hb52, ti_in3, ti_pl79, ti_sb22, ti_sb28, ti_sl22, ti_sl28, ti_st9, ti_us5, ti_zr79, tkD, tkV, hc, n1, n2, n3, n4, hw, hwrc, hdd0, eq_true h34])
              | (with_reducible refine hKA ?_; clear hKA hKB KA KB)
              | (with_reducible refine hKB ?_; clear hKA hKB KA KB)
              | (with_reducible refine AWp_regC mu_16 ks_16 ?_; intro Kv hKv; simp (dsimp := false) only [go_sem, Nat.reduceAdd, Nat.reduceBEq, Nat.reduceEqDiff, Nat.reduceLT, Nat.reduceLeDiff, Nat.reduceMul, Int.reduceToNat, reduceCtorEq, ↓reduceIte, Tryd.ntmps16, Tryd.results16, ks_16, mu_16, ti_ag9, ti_hb47, ti_hb48, ti_hb49, ti_hb50, ti_hb51, ti_hb52, ti_in3, ti_pl79, ti_sb22, ti_sb28, ti_sl22, ti_sl28, ti_st9, ti_us5, ti_zr79, tkD, tkV, hc, n1, n2, n3, n4, hw, hwrc, hdd0, eq_true h34])
              | with_reducible refine AWp_skipN ?_
              | with_reducible refine AWp_exitO (by repeat (first | with_reducible exact Out.hit | with_reducible apply Out.thenA | with_reducible apply Out.out rfl)) ?_
              | (with_reducible refine AWp_retR ?_; simp (dsimp := false) only [go_sem, Nat.reduceAdd, Nat.reduceBEq, Nat.reduceEqDiff, Nat.reduceLT, Nat.reduceLeDiff, Nat.reduceMul, Int.reduceToNat, reduceCtorEq, ↓reduceIte, Tryd.ntmps16, Tryd.results16, ks_16, mu_16, ti_ag9, ti_hb47, ti_hb48, ti_hb49, ti_hb50, ti_hb51, ti_hb52, ti_in3, ti_pl79, ti_sb22, ti_sb28, ti_sl22, ti_sl28, ti_st9, ti_us5, ti_zr79, tkD, tkV, hc, n1, n2, n3, n4, hw, hwrc, hdd0, eq_true h34])
              | (with_reducible refine AWp_regE mu_16 ks_16 ?_; intro Kv hKv; simp (dsimp := false) only [go_sem, Nat.reduceAdd, Nat.reduceBEq, Nat.reduceEqDiff, Nat.reduceLT, Nat.reduceLeDiff, Nat.reduceMul, Int.reduceToNat, reduceCtorEq, ↓reduceIte, Tryd.ntmps16, Tryd.results16, ks_16, mu_16, ti_ag9, ti_hb47, ti_hb48, ti_hb49, ti_hb50, ti_hb51, ti_hb52, ti_in3, ti_pl79, ti_sb22, ti_sb28, ti_sl22, ti_sl28, ti_st9, ti_us5, ti_zr79, tkD, tkV, hc, n1, n2, n3, n4, hw, hwrc, hdd0, eq_true h34])
              | (refine AWp_condC rfl ?_; intro KA KB hKA hKB; try simp only [onB_true, onB_false, onB_dec, onB_ndec, onB_not, onB_and, onB_or])
              | (refine AWp_condA rfl ?_ ?_)
              | (refine wordByte_A _ _ _ _ ?_; try simp (dsimp := false) only [go_sem, Nat.reduceAdd, Nat.reduceBEq, Nat.reduceEqDiff, Nat.reduceLT, Nat.reduceLeDiff, Nat.reduceMul, Int.reduceToNat, reduceCtorEq, ↓reduceIte, Tryd.ntmps16, Tryd.results16, ks_16, mu_16, ti_ag9, ti_hb47, ti_hb48, ti_hb49, ti_hb50, ti_hb51, ti_hb52, ti_in3, ti_pl79, ti_sb22, ti_sb28, ti_sl22, ti_sl28, ti_st9, ti_us5, ti_zr79, tkD, tkV, hc, n1, n2, n3, n4, hw, hwrc, hdd0, eq_true h34])
              | (refine in_A _ _ _ _ _ ?_; try simp (dsimp := false) only [go_sem, Nat.reduceAdd, Nat.reduceBEq, Nat.reduceEqDiff, Nat.reduceLT, Nat.reduceLeDiff, Nat.reduceMul, Int.reduceToNat, reduceCtorEq, ↓reduceIte, Tryd.ntmps16, Tryd.results16, ks_16, mu_16, ti_ag9, ti_hb47, ti_hb48, ti_hb49, ti_hb50, ti_hb51, ti_hb52, ti_in3, ti_pl79, ti_sb22, ti_sb28, ti_sl22, ti_sl28, ti_st9, ti_us5, ti_zr79, tkD, tkV, hc, n1, n2, n3, n4, hw, hwrc, hdd0, eq_true h34])
              | with_reducible refine onB_of ?_ ?_
              | with_reducible rfl
              | omega)
            refine AWp_whileH (fun j : Nat => p + 1 ≤ j ∧ j ≤ s.length ∧ qAt s j = qAt s (p + 1))
              (fun j => [(0, .d (.s s)), (5, .os H.length v), (6, .d (.i .i64 p)), (11, .d (.i .i64 j))]) (fun _ => [.row v 79 3 (out.map tkC)]) (fun j => s.length - j) (p + 1) ⟨Nat.le_refl _, by omega, rfl⟩ rfl ?_ ?_ ?_
            · simp (dsimp := false) only [go_sem, Nat.reduceAdd, Nat.reduceBEq, Nat.reduceEqDiff, Nat.reduceLT, Nat.reduceLeDiff, Nat.reduceMul, Int.reduceToNat, reduceCtorEq, ↓reduceIte, Tryd.ntmps16, Tryd.results16, ks_16, mu_16, ti_ag9, ti_hb47, ti_hb48, ti_hb49, ti_hb50, ti_hb51, ti_hb52, ti_in3, ti_pl79, ti_sb22, ti_sb28, ti_sl22, ti_sl28, ti_st9, ti_us5, ti_zr79, tkD, tkV, hc, n1, n2, n3, n4, hw, hwrc, hdd0, eq_true h34]
              first | done | simp | (simp; omega)
            · rintro _ _ ob hob
              rw [List.mem_singleton] at hob
              subst hob
              exact obBel_tk _ _ _ _
            rintro j ⟨i1, i2, i3⟩
            by_cases hj : j < s.length
            · obtain ⟨d, hdj⟩ : ∃ d, s[j]? = some d := ⟨s[j], List.getElem?_eq_getElem hj⟩
              by_cases hd34 : d = 34
              · rw [qAt_hit hdj hd34] at i3
                rw [← i3, if_neg (by omega)] at ho
                have m1 : ((d.toNat : Int) = 34) = True := eq_true (by rw [hd34]; rfl)
                have m2 : ((j : Int) = (s.length : Int)) = False := eq_false (by omega)
                by_cases hf : textFault ((s.take j).drop (p + 1)) = 0
                · rw [hf] at ho
                  obtain ⟨i', g1, g2, rfl⟩ := hdone _ _ ho
                  
                  repeat' (first
                    | with_reducible refine And.intro ?_ ?_
                    | with_reducible intro _
                    | with_reducible refine AWp_seq ?_
                    | with_reducible refine AWp_block ?_
                    | (with_reducible refine hKv _ _ (AWp_nop ?_); clear hKv Kv)
                    | (with_reducible refine hKv _ _ ?_; clear hKv Kv; simp (dsimp := false) only [go_sem, Nat.reduceAdd, Nat.reduceBEq, Nat.reduceEqDiff, Nat.reduceLT, Nat.reduceLeDiff, Nat.reduceMul, Int.reduceToNat, reduceCtorEq, ↓reduceIte, Tryd.ntmps16, Tryd.results16, ks_16, mu_16, ti_ag9, ti_hb47, ti_hb48, ti_hb49, ti_hb50, ti_hb51, ti_hb52, ti_in3, ti_pl79, ti_sb22, ti_sb28, ti_sl22, ti_sl28, ti_st9, ti_us5, ti_zr79, tkD, tkV, hdj, m1, m2, e1, hf])
                    | (with_reducible refine hKA ?_; clear hKA hKB KA KB)
                    | (with_reducible refine hKB ?_; clear hKA hKB KA KB)
                    | (with_reducible refine AWp_regC mu_16 ks_16 ?_; intro Kv hKv; simp (dsimp := false) only [go_sem, Nat.reduceAdd, Nat.reduceBEq, Nat.reduceEqDiff, Nat.reduceLT, Nat.reduceLeDiff, Nat.reduceMul, Int.reduceToNat, reduceCtorEq, ↓reduceIte, Tryd.ntmps16, Tryd.results16, ks_16, mu_16, ti_ag9, ti_hb47, ti_hb48, ti_hb49, ti_hb50, ti_hb51, ti_hb52, ti_in3, ti_pl79, ti_sb22, ti_sb28, ti_sl22, ti_sl28, ti_st9, ti_us5, ti_zr79, tkD, tkV, hdj, m1, m2, e1, hf])
                    | with_reducible refine AWp_skipN ?_
                    | with_reducible refine AWp_exitO (by repeat (first | with_reducible exact Out.hit | with_reducible apply Out.thenA | with_reducible apply Out.out rfl)) ?_
                    | (with_reducible refine AWp_retR ?_; simp (dsimp := false) only [go_sem, Nat.reduceAdd, Nat.reduceBEq, Nat.reduceEqDiff, Nat.reduceLT, Nat.reduceLeDiff, Nat.reduceMul, Int.reduceToNat, reduceCtorEq, ↓reduceIte, Tryd.ntmps16, Tryd.results16, ks_16, mu_16, ti_ag9, ti_hb47, ti_hb48, ti_hb49, ti_hb50, ti_hb51, ti_hb52, ti_in3, ti_pl79, ti_sb22, ti_sb28, ti_sl22, ti_sl28, ti_st9, ti_us5, ti_zr79, tkD, tkV, hdj, m1, m2, e1, hf])
                    | (with_reducible refine AWp_regE mu_16 ks_16 ?_; intro Kv hKv; simp (dsimp := false) only [go_sem, Nat.reduceAdd, Nat.reduceBEq, Nat.reduceEqDiff, Nat.reduceLT, Nat.reduceLeDiff, Nat.reduceMul, Int.reduceToNat, reduceCtorEq, ↓reduceIte, Tryd.ntmps16, Tryd.results16, ks_16, mu_16, ti_ag9, ti_hb47, ti_hb48, ti_hb49, ti_hb50, ti_hb51, ti_hb52, ti_in3, ti_pl79, ti_sb22, ti_sb28, ti_sl22, ti_sl28, ti_st9, ti_us5, ti_zr79, tkD, tkV, hdj, m1, m2, e1, hf])
                    | (refine AWp_condC rfl ?_; intro KA KB hKA hKB; try simp only [onB_true, onB_false, onB_dec, onB_ndec, onB_not, onB_and, onB_or])
                    | (refine AWp_condA rfl ?_ ?_)
                    | (refine valueFault_A _ (by simp; omega) _ _ ?_; try simp (dsimp := false) only [go_sem, Nat.reduceAdd, Nat.reduceBEq, Nat.reduceEqDiff, Nat.reduceLT, Nat.reduceLeDiff, Nat.reduceMul, Int.reduceToNat, reduceCtorEq, ↓reduceIte, Tryd.ntmps16, Tryd.results16, ks_16, mu_16, ti_ag9, ti_hb47, ti_hb48, ti_hb49, ti_hb50, ti_hb51, ti_hb52, ti_in3, ti_pl79, ti_sb22, ti_sb28, ti_sl22, ti_sl28, ti_st9, ti_us5, ti_zr79, tkD, tkV, hdj, m1, m2, e1, hf])
                    | with_reducible refine onB_of ?_ ?_
                    | with_reducible rfl
                    | omega)
                  all_goals first
                    | omega
                    | exact ⟨_, g1, g2, by simp [tkC], by (repeat' (refine And.intro ?_ ?_)) <;> first | rfl | omega | (simp; done) | (simp (dsimp := false) only [go_sem, Nat.reduceAdd, Nat.reduceBEq, Nat.reduceEqDiff, Nat.reduceLT, Nat.reduceLeDiff, Nat.reduceMul, Int.reduceToNat, reduceCtorEq, ↓reduceIte, Tryd.ntmps16, Tryd.results16, ks_16, mu_16, ti_ag9, ti_hb47, ti_hb48, ti_hb49, ti_hb50, ti_hb51, ti_hb52, ti_in3, ti_pl79, ti_sb22, ti_sb28, ti_sl22, ti_sl28, ti_st9, ti_us5, ti_zr79, tkD, tkV, hdj, m1, m2, e1, hf]; done) | (simp (dsimp := false) only [go_sem, Nat.reduceAdd, Nat.reduceBEq, Nat.reduceEqDiff, Nat.reduceLT, Nat.reduceLeDiff, Nat.reduceMul, Int.reduceToNat, reduceCtorEq, ↓reduceIte, Tryd.ntmps16, Tryd.results16, ks_16, mu_16, ti_ag9, ti_hb47, ti_hb48, ti_hb49, ti_hb50, ti_hb51, ti_hb52, ti_in3, ti_pl79, ti_sb22, ti_sb28, ti_sl22, ti_sl28, ti_st9, ti_us5, ti_zr79, tkD, tkV, hdj, m1, m2, e1, hf]; omega)⟩
                · have m3 : (textFault ((s.take j).drop (p + 1)) = 0) = False := eq_false hf
                  
                  repeat' (first
                    | with_reducible refine And.intro ?_ ?_
                    | with_reducible intro _
                    | with_reducible refine AWp_seq ?_
                    | with_reducible refine AWp_block ?_
                    | (with_reducible refine hKv _ _ (AWp_nop ?_); clear hKv Kv)
                    | (with_reducible refine hKv _ _ ?_; clear hKv Kv; simp (dsimp := false) only [go_sem, Nat.reduceAdd, Nat.reduceBEq, Nat.reduceEqDiff, Nat.reduceLT, Nat.reduceLeDiff, Nat.reduceMul, Int.reduceToNat, reduceCtorEq, ↓reduceIte, Tryd.ntmps16, Tryd.results16, ks_16, mu_16, ti_ag9, ti_hb47, ti_hb48, ti_hb49, ti_hb50, ti_hb51, ti_hb52, ti_in3, ti_pl79, ti_sb22, ti_sb28, ti_sl22, ti_sl28, ti_st9, ti_us5, ti_zr79, tkD, tkV, hdj, m1, m2, m3, e1])
                    | (with_reducible refine hKA ?_; clear hKA hKB KA KB)
                    | (with_reducible refine hKB ?_; clear hKA hKB KA KB)
                    | (with_reducible refine AWp_regC mu_16 ks_16 ?_; intro Kv hKv; simp (dsimp := false) only [go_sem, Nat.reduceAdd, Nat.reduceBEq, Nat.reduceEqDiff, Nat.reduceLT, Nat.reduceLeDiff, Nat.reduceMul, Int.reduceToNat, reduceCtorEq, ↓reduceIte, Tryd.ntmps16, Tryd.results16, ks_16, mu_16, ti_ag9, ti_hb47, ti_hb48, ti_hb49, ti_hb50, ti_hb51, ti_hb52, ti_in3, ti_pl79, ti_sb22, ti_sb28, ti_sl22, ti_sl28, ti_st9, ti_us5, ti_zr79, tkD, tkV, hdj, m1, m2, m3, e1])
                    | with_reducible refine AWp_skipN ?_
                    | with_reducible refine AWp_exitO (by repeat (first | with_reducible exact Out.hit | with_reducible apply Out.thenA | with_reducible apply Out.out rfl)) ?_
                    | (with_reducible refine AWp_retR ?_; simp (dsimp := false) only [go_sem, Nat.reduceAdd, Nat.reduceBEq, Nat.reduceEqDiff, Nat.reduceLT, Nat.reduceLeDiff, Nat.reduceMul, Int.reduceToNat, reduceCtorEq, ↓reduceIte, Tryd.ntmps16, Tryd.results16, ks_16, mu_16, ti_ag9, ti_hb47, ti_hb48, ti_hb49, ti_hb50, ti_hb51, ti_hb52, ti_in3, ti_pl79, ti_sb22, ti_sb28, ti_sl22, ti_sl28, ti_st9, ti_us5, ti_zr79, tkD, tkV, hdj, m1, m2, m3, e1])
                    | (with_reducible refine AWp_regE mu_16 ks_16 ?_; intro Kv hKv; simp (dsimp := false) only [go_sem, Nat.reduceAdd, Nat.reduceBEq, Nat.reduceEqDiff, Nat.reduceLT, Nat.reduceLeDiff, Nat.reduceMul, Int.reduceToNat, reduceCtorEq, ↓reduceIte, Tryd.ntmps16, Tryd.results16, ks_16, mu_16, ti_ag9, ti_hb47, ti_hb48, ti_hb49, ti_hb50, ti_hb51, ti_hb52, ti_in3, ti_pl79, ti_sb22, ti_sb28, ti_sl22, ti_sl28, ti_st9, ti_us5, ti_zr79, tkD, tkV, hdj, m1, m2, m3, e1])
                    | (refine AWp_condC rfl ?_; intro KA KB hKA hKB; try simp only [onB_true, onB_false, onB_dec, onB_ndec, onB_not, onB_and, onB_or])
                    | (refine AWp_condA rfl ?_ ?_)
                    | (refine valueFault_A _ (by simp; omega) _ _ ?_; try simp (dsimp := false) only [go_sem, Nat.reduceAdd, Nat.reduceBEq, Nat.reduceEqDiff, Nat.reduceLT, Nat.reduceLeDiff, Nat.reduceMul, Int.reduceToNat, reduceCtorEq, ↓reduceIte, Tryd.ntmps16, Tryd.results16, ks_16, mu_16, ti_ag9, ti_hb47, ti_hb48, ti_hb49, ti_hb50, ti_hb51, ti_hb52, ti_in3, ti_pl79, ti_sb22, ti_sb28, ti_sl22, ti_sl28, ti_st9, ti_us5, ti_zr79, tkD, tkV, hdj, m1, m2, m3, e1])
                    | with_reducible refine onB_of ?_ ?_
                    | with_reducible rfl
                    | omega)
                  all_goals first
                    | omega
                    | exact dropF (hbad _ _ _ ho hf) (Fz_tu3 (.nil 3) (.same _) (.same _)) (bel_cutV _ _)
              · rw [qAt_next hdj hd34] at i3
                have m1 : ((d.toNat : Int) = 34) = False := eq_false fun h => hd34 (by rw [← UInt8.toNat_inj]; simp; omega)
                
                repeat' (first
                  | with_reducible refine And.intro ?_ ?_
                  | with_reducible intro _
                  | with_reducible refine AWp_seq ?_
                  | with_reducible refine AWp_block ?_
                  | (with_reducible refine hKv _ _ (AWp_nop ?_); clear hKv Kv)
                  | (with_reducible refine hKv _ _ ?_; clear hKv Kv; simp (dsimp := false) only [go_sem, Nat.reduceAdd, Nat.reduceBEq, Nat.reduceEqDiff, Nat.reduceLT, Nat.reduceLeDiff, Nat.reduceMul, Int.reduceToNat, reduceCtorEq, ↓reduceIte, Tryd.ntmps16, Tryd.results16, ks_16, mu_16, ti_ag9, ti_hb47, ti_hb48, ti_hb49, ti_hb50, ti_hb51, ti_hb52, ti_in3, ti_pl79, ti_sb22, ti_sb28, ti_sl22, ti_sl28, ti_st9, ti_us5, ti_zr79, tkD, tkV, hdj, m1])
                  | (with_reducible refine hKA ?_; clear hKA hKB KA KB)
                  | (with_reducible refine hKB ?_; clear hKA hKB KA KB)
                  | (with_reducible refine AWp_regC mu_16 ks_16 ?_; intro Kv hKv; simp (dsimp := false) only [go_sem, Nat.reduceAdd, Nat.reduceBEq, Nat.reduceEqDiff, Nat.reduceLT, Nat.reduceLeDiff, Nat.reduceMul, Int.reduceToNat, reduceCtorEq, ↓reduceIte, Tryd.ntmps16, Tryd.results16, ks_16, mu_16, ti_ag9, ti_hb47, ti_hb48, ti_hb49, ti_hb50, ti_hb51, ti_hb52, ti_in3, ti_pl79, ti_sb22, ti_sb28, ti_sl22, ti_sl28, ti_st9, ti_us5, ti_zr79, tkD, tkV, hdj, m1])
                  | with_reducible refine AWp_skipN ?_
                  | with_reducible refine AWp_exitO (by repeat (first | with_reducible exact Out.hit | with_reducible apply Out.thenA | with_reducible apply Out.out rfl)) ?_
                  | (with_reducible refine AWp_retR ?_; simp (dsimp := false) only [go_sem, Nat.reduceAdd, Nat.reduceBEq, Nat.reduceEqDiff, Nat.reduceLT, Nat.reduceLeDiff, Nat.reduceMul, Int.reduceToNat, reduceCtorEq, ↓reduceIte, Tryd.ntmps16, Tryd.results16, ks_16, mu_16, ti_ag9, ti_hb47, ti_hb48, ti_hb49, ti_hb50, ti_hb51, ti_hb52, ti_in3, ti_pl79, ti_sb22, ti_sb28, ti_sl22, ti_sl28, ti_st9, ti_us5, ti_zr79, tkD, tkV, hdj, m1])
                  | (with_reducible refine AWp_regE mu_16 ks_16 ?_; intro Kv hKv; simp (dsimp := false) only [go_sem, Nat.reduceAdd, Nat.reduceBEq, Nat.reduceEqDiff, Nat.reduceLT, Nat.reduceLeDiff, Nat.reduceMul, Int.reduceToNat, reduceCtorEq, ↓reduceIte, Tryd.ntmps16, Tryd.results16, ks_16, mu_16, ti_ag9, ti_hb47, ti_hb48, ti_hb49, ti_hb50, ti_hb51, ti_hb52, ti_in3, ti_pl79, ti_sb22, ti_sb28, ti_sl22, ti_sl28, ti_st9, ti_us5, ti_zr79, tkD, tkV, hdj, m1])
                  | (refine AWp_condC rfl ?_; intro KA KB hKA hKB; try simp only [onB_true, onB_false, onB_dec, onB_ndec, onB_not, onB_and, onB_or])
                  | (refine AWp_condA rfl ?_ ?_)
                  | with_reducible refine onB_of ?_ ?_
                  | with_reducible rfl
                  | omega)
                all_goals first
                  | omega
                  | exact ⟨j + 1, ⟨by omega, by omega, i3⟩, by omega, by (repeat' (refine And.intro ?_ ?_)) <;> first | rfl | omega | (simp; done) | (simp (dsimp := false) only [go_sem, Nat.reduceAdd, Nat.reduceBEq, Nat.reduceEqDiff, Nat.reduceLT, Nat.reduceLeDiff, Nat.reduceMul, Int.reduceToNat, reduceCtorEq, ↓reduceIte, Tryd.ntmps16, Tryd.results16, ks_16, mu_16, ti_ag9, ti_hb47, ti_hb48, ti_hb49, ti_hb50, ti_hb51, ti_hb52, ti_in3, ti_pl79, ti_sb22, ti_sb28, ti_sl22, ti_sl28, ti_st9, ti_us5, ti_zr79, tkD, tkV, hdj, m1]; done) | (simp (dsimp := false) only [go_sem, Nat.reduceAdd, Nat.reduceBEq, Nat.reduceEqDiff, Nat.reduceLT, Nat.reduceLeDiff, Nat.reduceMul, Int.reduceToNat, reduceCtorEq, ↓reduceIte, Tryd.ntmps16, Tryd.results16, ks_16, mu_16, ti_ag9, ti_hb47, ti_hb48, ti_hb49, ti_hb50, ti_hb51, ti_hb52, ti_in3, ti_pl79, ti_sb22, ti_sb28, ti_sl22, ti_sl28, ti_st9, ti_us5, ti_zr79, tkD, tkV, hdj, m1]; omega)⟩
            · have e : j = s.length := by omega
              subst e
              rw [qAt_end (Nat.le_refl _)] at i3
              rw [← i3, if_pos rfl] at ho
              
              repeat' (first
                | with_reducible refine And.intro ?_ ?_
                | with_reducible intro _
                | with_reducible refine AWp_seq ?_
                | with_reducible refine AWp_block ?_
                | (with_reducible refine hKv _ _ (AWp_nop ?_); clear hKv Kv)
                | (with_reducible refine hKv _ _ ?_; clear hKv Kv; simp (dsimp := false) only [go_sem, Nat.reduceAdd, Nat.reduceBEq, Nat.reduceEqDiff, Nat.reduceLT, Nat.reduceLeDiff, Nat.reduceMul, Int.reduceToNat, reduceCtorEq, ↓reduceIte, Tryd.ntmps16, Tryd.results16, ks_16, mu_16, ti_ag9, ti_hb47, ti_hb48, ti_hb49, ti_hb50, ti_hb51, ti_hb52, ti_in3, ti_pl79, ti_sb22, ti_sb28, ti_sl22, ti_sl28, ti_st9, ti_us5, ti_zr79, tkD, tkV])
                | (with_reducible refine hKA ?_; clear hKA hKB KA KB)
                | (with_reducible refine hKB ?_; clear hKA hKB KA KB)
                | (with_reducible refine AWp_regC mu_16 ks_16 ?_; intro Kv hKv; simp (dsimp := false) only [go_sem, Nat.reduceAdd, Nat.reduceBEq, Nat.reduceEqDiff, Nat.reduceLT, Nat.reduceLeDiff, Nat.reduceMul, Int.reduceToNat, reduceCtorEq, ↓reduceIte, Tryd.ntmps16, Tryd.results16, ks_16, mu_16, ti_ag9, ti_hb47, ti_hb48, ti_hb49, ti_hb50, ti_hb51, ti_hb52, ti_in3, ti_pl79, ti_sb22, ti_sb28, ti_sl22, ti_sl28, ti_st9, ti_us5, ti_zr79, tkD, tkV])
                | with_reducible refine AWp_skipN ?_
                | with_reducible refine AWp_exitO (by repeat (first | with_reducible exact Out.hit | with_reducible apply Out.thenA | with_reducible apply Out.out rfl)) ?_
                | (with_reducible refine AWp_retR ?_; simp (dsimp := false) only [go_sem, Nat.reduceAdd, Nat.reduceBEq, Nat.reduceEqDiff, Nat.reduceLT, Nat.reduceLeDiff, Nat.reduceMul, Int.reduceToNat, reduceCtorEq, ↓reduceIte, Tryd.ntmps16, Tryd.results16, ks_16, mu_16, ti_ag9, ti_hb47, ti_hb48, ti_hb49, ti_hb50, ti_hb51, ti_hb52, ti_in3, ti_pl79, ti_sb22, ti_sb28, ti_sl22, ti_sl28, ti_st9, ti_us5, ti_zr79, tkD, tkV])
                | (with_reducible refine AWp_regE mu_16 ks_16 ?_; intro Kv hKv; simp (dsimp := false) only [go_sem, Nat.reduceAdd, Nat.reduceBEq, Nat.reduceEqDiff, Nat.reduceLT, Nat.reduceLeDiff, Nat.reduceMul, Int.reduceToNat, reduceCtorEq, ↓reduceIte, Tryd.ntmps16, Tryd.results16, ks_16, mu_16, ti_ag9, ti_hb47, ti_hb48, ti_hb49, ti_hb50, ti_hb51, ti_hb52, ti_in3, ti_pl79, ti_sb22, ti_sb28, ti_sl22, ti_sl28, ti_st9, ti_us5, ti_zr79, tkD, tkV])
                | (refine AWp_condC rfl ?_; intro KA KB hKA hKB; try simp only [onB_true, onB_false, onB_dec, onB_ndec, onB_not, onB_and, onB_or])
                | (refine AWp_condA rfl ?_ ?_)
                | with_reducible refine onB_of ?_ ?_
                | with_reducible rfl
                | omega)
              all_goals first
                | omega
                | exact dropF (hbad _ _ _ ho (by decide)) (Fz_tu3 (.nil 3) (.same _) (.same _)) (bel_cutV _ _)
          have n5 : ((c.toNat : Int) = 34) = False := eq_false h34
          by_cases h36 : (c.toNat : Int) = 36
          · have ho : oneT s p c.toNat = if (s.take (wEnd s (p + 1) (p + 1))).drop (p + 1) = [] ∨ 20 < ((s.take (wEnd s (p + 1) (p + 1))).drop (p + 1)).length then (tk0, p, 10) else (⟨4, (s.take (wEnd s (p + 1) (p + 1))).drop (p + 1), 0⟩, wEnd s (p + 1) (p + 1), 0) := by rw [oneT, if_neg (by rw [hw]; decide), if_neg (by rw [hd]; decide), if_neg h34, if_pos h36]
            obtain ⟨w1, w2⟩ := wEnd_le s (p + 1) _ (p + 1) (Nat.le_refl _) (by omega)
            have hlen : ((s.take (wEnd s (p + 1) (p + 1))).drop (p + 1)).length = wEnd s (p + 1) (p + 1) - (p + 1) := by simp only [List.length_drop, List.length_take]; omega
            have hcnd : ((s.take (wEnd s (p + 1) (p + 1))).drop (p + 1) = [] ∨ 20 < ((s.take (wEnd s (p + 1) (p + 1))).drop (p + 1)).length) ↔ (wEnd s (p + 1) (p + 1) - (p + 1) = 0 ∨ 20 < wEnd s (p + 1) (p + 1) - (p + 1)) := by rw [← List.length_eq_zero_iff, hlen]
            simp only [hcnd] at ho
            
            repeat' (first
              | with_reducible refine And.intro ?_ ?_
              | with_reducible intro _
              | with_reducible refine AWp_seq ?_
              | with_reducible refine AWp_block ?_
              | (with_reducible refine hKv _ _ (AWp_nop ?_); clear hKv Kv)
              | (with_reducible refine hKv _ _ ?_; clear hKv Kv; simp (dsimp := false) only [go_sem, Nat.reduceAdd, Nat.reduceBEq, Nat.reduceEqDiff, Nat.reduceLT, Nat.reduceLeDiff, Nat.reduceMul, Int.reduceToNat, reduceCtorEq, ↓reduceIte, Tryd.ntmps16, Tryd.results16, ks_16, mu_16, ti_ag9, ti_hb47, ti_hb48, ti_hb49, ti_hb50, ti_hb51, ti_hb52, ti_in3, ti_pl79, ti_sb22, ti_sb28, ti_sl22, ti_sl28, ti_st9, ti_us5, ti_zr79, tkD, tkV, hc, n1, n2, n3, n4, hw, hwrc, hdd0, n5, eq_true h36, e1])
              | (with_reducible refine hKA ?_; clear hKA hKB KA KB)
              | (with_reducible refine hKB ?_; clear hKA hKB KA KB)
              | (with_reducible refine AWp_regC mu_16 ks_16 ?_; intro Kv hKv; simp (dsimp := false) only [go_sem, Nat.reduceAdd, Nat.reduceBEq, Nat.reduceEqDiff, Nat.reduceLT, Nat.reduceLeDiff, Nat.reduceMul, Int.reduceToNat, reduceCtorEq, ↓reduceIte, Tryd.ntmps16, Tryd.results16, ks_16, mu_16, ti_ag9, ti_hb47, ti_hb48, ti_hb49, ti_hb50, ti_hb51, ti_hb52, ti_in3, ti_pl79, ti_sb22, ti_sb28, ti_sl22, ti_sl28, ti_st9, ti_us5, ti_zr79, tkD, tkV, hc, n1, n2, n3, n4, hw, hwrc, hdd0, n5, eq_true h36, e1])
              | with_reducible refine AWp_skipN ?_
              | with_reducible refine AWp_exitO (by repeat (first | with_reducible exact Out.hit | with_reducible apply Out.thenA | with_reducible apply Out.out rfl)) ?_
              | (with_reducible refine AWp_retR ?_; simp (dsimp := false) only [go_sem, Nat.reduceAdd, Nat.reduceBEq, Nat.reduceEqDiff, Nat.reduceLT, Nat.reduceLeDiff, Nat.reduceMul, Int.reduceToNat, reduceCtorEq, ↓reduceIte, Tryd.ntmps16, Tryd.results16, ks_16, mu_16, ti_ag9, ti_hb47, ti_hb48, ti_hb49, ti_hb50, ti_hb51, ti_hb52, ti_in3, ti_pl79, ti_sb22, ti_sb28, ti_sl22, ti_sl28, ti_st9, ti_us5, ti_zr79, tkD, tkV, hc, n1, n2, n3, n4, hw, hwrc, hdd0, n5, eq_true h36, e1])
              | (with_reducible refine AWp_regE mu_16 ks_16 ?_; intro Kv hKv; simp (dsimp := false) only [go_sem, Nat.reduceAdd, Nat.reduceBEq, Nat.reduceEqDiff, Nat.reduceLT, Nat.reduceLeDiff, Nat.reduceMul, Int.reduceToNat, reduceCtorEq, ↓reduceIte, Tryd.ntmps16, Tryd.results16, ks_16, mu_16, ti_ag9, ti_hb47, ti_hb48, ti_hb49, ti_hb50, ti_hb51, ti_hb52, ti_in3, ti_pl79, ti_sb22, ti_sb28, ti_sl22, ti_sl28, ti_st9, ti_us5, ti_zr79, tkD, tkV, hc, n1, n2, n3, n4, hw, hwrc, hdd0, n5, eq_true h36, e1])
              | (refine AWp_condC rfl ?_; intro KA KB hKA hKB; try simp only [onB_true, onB_false, onB_dec, onB_ndec, onB_not, onB_and, onB_or])
              | (refine AWp_condA rfl ?_ ?_)
              | (refine wordByte_A _ _ _ _ ?_; try simp (dsimp := false) only [go_sem, Nat.reduceAdd, Nat.reduceBEq, Nat.reduceEqDiff, Nat.reduceLT, Nat.reduceLeDiff, Nat.reduceMul, Int.reduceToNat, reduceCtorEq, ↓reduceIte, Tryd.ntmps16, Tryd.results16, ks_16, mu_16, ti_ag9, ti_hb47, ti_hb48, ti_hb49, ti_hb50, ti_hb51, ti_hb52, ti_in3, ti_pl79, ti_sb22, ti_sb28, ti_sl22, ti_sl28, ti_st9, ti_us5, ti_zr79, tkD, tkV, hc, n1, n2, n3, n4, hw, hwrc, hdd0, n5, eq_true h36, e1])
              | (refine in_A _ _ _ _ _ ?_; try simp (dsimp := false) only [go_sem, Nat.reduceAdd, Nat.reduceBEq, Nat.reduceEqDiff, Nat.reduceLT, Nat.reduceLeDiff, Nat.reduceMul, Int.reduceToNat, reduceCtorEq, ↓reduceIte, Tryd.ntmps16, Tryd.results16, ks_16, mu_16, ti_ag9, ti_hb47, ti_hb48, ti_hb49, ti_hb50, ti_hb51, ti_hb52, ti_in3, ti_pl79, ti_sb22, ti_sb28, ti_sl22, ti_sl28, ti_st9, ti_us5, ti_zr79, tkD, tkV, hc, n1, n2, n3, n4, hw, hwrc, hdd0, n5, eq_true h36, e1])
              | (refine wordTo_A s (p + 1) hs (by omega) _ _ ?_; try simp (dsimp := false) only [go_sem, Nat.reduceAdd, Nat.reduceBEq, Nat.reduceEqDiff, Nat.reduceLT, Nat.reduceLeDiff, Nat.reduceMul, Int.reduceToNat, reduceCtorEq, ↓reduceIte, Tryd.ntmps16, Tryd.results16, ks_16, mu_16, ti_ag9, ti_hb47, ti_hb48, ti_hb49, ti_hb50, ti_hb51, ti_hb52, ti_in3, ti_pl79, ti_sb22, ti_sb28, ti_sl22, ti_sl28, ti_st9, ti_us5, ti_zr79, tkD, tkV, hc, n1, n2, n3, n4, hw, hwrc, hdd0, n5, eq_true h36, e1])
              | with_reducible refine onB_of ?_ ?_
              | with_reducible rfl
              | omega)
            all_goals first
              | omega
              | (rw [if_pos (by omega)] at ho
                 exact dropF (hbad _ _ _ ho (by decide)) (Fz_tu3 (.nil 3) (.same _) (.same _)) (bel_cutV _ _))
              | (rw [if_neg (by omega)] at ho
                 obtain ⟨i', g1, g2, rfl⟩ := hdone _ _ ho
                 exact ⟨_, g1, g2, by simp [tkC], by (repeat' (refine And.intro ?_ ?_)) <;> first | rfl | omega | (simp; done) | (simp (dsimp := false) only [go_sem, Nat.reduceAdd, Nat.reduceBEq, Nat.reduceEqDiff, Nat.reduceLT, Nat.reduceLeDiff, Nat.reduceMul, Int.reduceToNat, reduceCtorEq, ↓reduceIte, Tryd.ntmps16, Tryd.results16, ks_16, mu_16, ti_ag9, ti_hb47, ti_hb48, ti_hb49, ti_hb50, ti_hb51, ti_hb52, ti_in3, ti_pl79, ti_sb22, ti_sb28, ti_sl22, ti_sl28, ti_st9, ti_us5, ti_zr79, tkD, tkV, hc, n1, n2, n3, n4, hw, hwrc, hdd0, n5, eq_true h36, e1]; done) | (simp (dsimp := false) only [go_sem, Nat.reduceAdd, Nat.reduceBEq, Nat.reduceEqDiff, Nat.reduceLT, Nat.reduceLeDiff, Nat.reduceMul, Int.reduceToNat, reduceCtorEq, ↓reduceIte, Tryd.ntmps16, Tryd.results16, ks_16, mu_16, ti_ag9, ti_hb47, ti_hb48, ti_hb49, ti_hb50, ti_hb51, ti_hb52, ti_in3, ti_pl79, ti_sb22, ti_sb28, ti_sl22, ti_sl28, ti_st9, ti_us5, ti_zr79, tkD, tkV, hc, n1, n2, n3, n4, hw, hwrc, hdd0, n5, eq_true h36, e1]; omega)⟩)
          have n6 : ((c.toNat : Int) = 36) = False := eq_false h36
          have ho : oneT s p c.toNat = (match markAt s p with | some m => (⟨5, m, 0⟩, p + m.length, 0) | none => (tk0, p, 4)) := by rw [oneT, if_neg (by rw [hw]; decide), if_neg (by rw [hd]; decide), if_neg h34, if_neg h36]; rfl
          
          repeat' (first
            | with_reducible refine And.intro ?_ ?_
            | with_reducible intro _
            | with_reducible refine AWp_seq ?_
            | with_reducible refine AWp_block ?_
            | (with_reducible refine hKv _ _ (AWp_nop ?_); clear hKv Kv)
            | (with_reducible refine hKv _ _ ?_; clear hKv Kv; simp (dsimp := false) only [go_sem, Nat.reduceAdd, Nat.reduceBEq, Nat.reduceEqDiff, Nat.reduceLT, Nat.reduceLeDiff, Nat.reduceMul, Int.reduceToNat, reduceCtorEq, ↓reduceIte, Tryd.ntmps16, Tryd.results16, ks_16, mu_16, ti_ag9, ti_hb47, ti_hb48, ti_hb49, ti_hb50, ti_hb51, ti_hb52, ti_in3, ti_pl79, ti_sb22, ti_sb28, ti_sl22, ti_sl28, ti_st9, ti_us5, ti_zr79, tkD, tkV, hc, n1, n2, n3, n4, hw, hwrc, hdd0, n5, n6])
            | (with_reducible refine hKA ?_; clear hKA hKB KA KB)
            | (with_reducible refine hKB ?_; clear hKA hKB KA KB)
            | (with_reducible refine AWp_regC mu_16 ks_16 ?_; intro Kv hKv; simp (dsimp := false) only [go_sem, Nat.reduceAdd, Nat.reduceBEq, Nat.reduceEqDiff, Nat.reduceLT, Nat.reduceLeDiff, Nat.reduceMul, Int.reduceToNat, reduceCtorEq, ↓reduceIte, Tryd.ntmps16, Tryd.results16, ks_16, mu_16, ti_ag9, ti_hb47, ti_hb48, ti_hb49, ti_hb50, ti_hb51, ti_hb52, ti_in3, ti_pl79, ti_sb22, ti_sb28, ti_sl22, ti_sl28, ti_st9, ti_us5, ti_zr79, tkD, tkV, hc, n1, n2, n3, n4, hw, hwrc, hdd0, n5, n6])
            | with_reducible refine AWp_skipN ?_
            | with_reducible refine AWp_exitO (by repeat (first | with_reducible exact Out.hit | with_reducible apply Out.thenA | with_reducible apply Out.out rfl)) ?_
            | (with_reducible refine AWp_retR ?_; simp (dsimp := false) only [go_sem, Nat.reduceAdd, Nat.reduceBEq, Nat.reduceEqDiff, Nat.reduceLT, Nat.reduceLeDiff, Nat.reduceMul, Int.reduceToNat, reduceCtorEq, ↓reduceIte, Tryd.ntmps16, Tryd.results16, ks_16, mu_16, ti_ag9, ti_hb47, ti_hb48, ti_hb49, ti_hb50, ti_hb51, ti_hb52, ti_in3, ti_pl79, ti_sb22, ti_sb28, ti_sl22, ti_sl28, ti_st9, ti_us5, ti_zr79, tkD, tkV, hc, n1, n2, n3, n4, hw, hwrc, hdd0, n5, n6])
            | (with_reducible refine AWp_regE mu_16 ks_16 ?_; intro Kv hKv; simp (dsimp := false) only [go_sem, Nat.reduceAdd, Nat.reduceBEq, Nat.reduceEqDiff, Nat.reduceLT, Nat.reduceLeDiff, Nat.reduceMul, Int.reduceToNat, reduceCtorEq, ↓reduceIte, Tryd.ntmps16, Tryd.results16, ks_16, mu_16, ti_ag9, ti_hb47, ti_hb48, ti_hb49, ti_hb50, ti_hb51, ti_hb52, ti_in3, ti_pl79, ti_sb22, ti_sb28, ti_sl22, ti_sl28, ti_st9, ti_us5, ti_zr79, tkD, tkV, hc, n1, n2, n3, n4, hw, hwrc, hdd0, n5, n6])
            | (refine AWp_condC rfl ?_; intro KA KB hKA hKB; try simp only [onB_true, onB_false, onB_dec, onB_ndec, onB_not, onB_and, onB_or])
            | (refine AWp_condA rfl ?_ ?_)
            | (refine wordByte_A _ _ _ _ ?_; try simp (dsimp := false) only [go_sem, Nat.reduceAdd, Nat.reduceBEq, Nat.reduceEqDiff, Nat.reduceLT, Nat.reduceLeDiff, Nat.reduceMul, Int.reduceToNat, reduceCtorEq, ↓reduceIte, Tryd.ntmps16, Tryd.results16, ks_16, mu_16, ti_ag9, ti_hb47, ti_hb48, ti_hb49, ti_hb50, ti_hb51, ti_hb52, ti_in3, ti_pl79, ti_sb22, ti_sb28, ti_sl22, ti_sl28, ti_st9, ti_us5, ti_zr79, tkD, tkV, hc, n1, n2, n3, n4, hw, hwrc, hdd0, n5, n6])
            | (refine in_A _ _ _ _ _ ?_; try simp (dsimp := false) only [go_sem, Nat.reduceAdd, Nat.reduceBEq, Nat.reduceEqDiff, Nat.reduceLT, Nat.reduceLeDiff, Nat.reduceMul, Int.reduceToNat, reduceCtorEq, ↓reduceIte, Tryd.ntmps16, Tryd.results16, ks_16, mu_16, ti_ag9, ti_hb47, ti_hb48, ti_hb49, ti_hb50, ti_hb51, ti_hb52, ti_in3, ti_pl79, ti_sb22, ti_sb28, ti_sl22, ti_sl28, ti_st9, ti_us5, ti_zr79, tkD, tkV, hc, n1, n2, n3, n4, hw, hwrc, hdd0, n5, n6])
            | with_reducible refine onB_of ?_ ?_
            | with_reducible rfl
            | omega)
          refine AWp_whileH (fun y : Nat × List UInt8 => y.1 ≤ 26 ∧ y.2.length ≤ 2 ∧ ((y.2 = [] ∧ (marksL.drop y.1).find? (fun m => isPre m (s.drop p)) = markAt s p) ∨ (y.2 ≠ [] ∧ markAt s p = some y.2)))
            (fun y => [(0, .d (.s s)), (5, .os H.length v), (6, .d (.i .i64 p)), (14, .d (.s y.2)), (15, .d (.i .i64 y.1))]) (fun _ => [.row v 79 3 (out.map tkC)]) (fun y => 26 - y.1) (0, []) ⟨Nat.zero_le _, by simp, .inl ⟨rfl, rfl⟩⟩ rfl ?_ ?_ ?_
          · simp (dsimp := false) only [go_sem, Nat.reduceAdd, Nat.reduceBEq, Nat.reduceEqDiff, Nat.reduceLT, Nat.reduceLeDiff, Nat.reduceMul, Int.reduceToNat, reduceCtorEq, ↓reduceIte, Tryd.ntmps16, Tryd.results16, ks_16, mu_16, ti_ag9, ti_hb47, ti_hb48, ti_hb49, ti_hb50, ti_hb51, ti_hb52, ti_in3, ti_pl79, ti_sb22, ti_sb28, ti_sl22, ti_sl28, ti_st9, ti_us5, ti_zr79, tkD, tkV, hc, n1, n2, n3, n4, hw, hwrc, hdd0, n5, n6]
            first | done | simp | (simp; omega)
          · rintro _ _ ob hob
            rw [List.mem_singleton] at hob
            subst hob
            exact obBel_tk _ _ _ _
          have hml : marksL.length = 26 := rfl
          rintro ⟨k, m⟩ ⟨i1, i2, i3⟩
          simp only [] at i1 i2 i3 ⊢
          rcases i3 with ⟨rfl, i3⟩ | ⟨hne, i3⟩
          · by_cases hk : k < 26
            · obtain ⟨m, hm⟩ : ∃ m, marksL[k]? = some m := ⟨marksL[k]'(by omega), List.getElem?_eq_getElem (by omega)⟩
              have hm2 : m.length ≤ 2 ∧ m ≠ [] := by
                have hmem := List.mem_of_getElem? hm
                clear hm
                revert m
                decide
              have hml2 : (List.map strRow marksL)[k]? = some [D.s m] := by rw [List.getElem?_map, hm]; rfl
              rw [drop_of_get hm, List.find?_cons] at i3
              cases hp : isPre m (s.drop p) with
              | true =>
                rw [hp] at i3
                
                repeat' (first
                  | with_reducible refine And.intro ?_ ?_
                  | with_reducible intro _
                  | with_reducible refine AWp_seq ?_
                  | with_reducible refine AWp_block ?_
                  | (with_reducible refine hKv _ _ (AWp_nop ?_); clear hKv Kv)
                  | (with_reducible refine hKv _ _ ?_; clear hKv Kv; simp (dsimp := false) only [go_sem, Nat.reduceAdd, Nat.reduceBEq, Nat.reduceEqDiff, Nat.reduceLT, Nat.reduceLeDiff, Nat.reduceMul, Int.reduceToNat, reduceCtorEq, ↓reduceIte, Tryd.ntmps16, Tryd.results16, ks_16, mu_16, ti_ag9, ti_hb47, ti_hb48, ti_hb49, ti_hb50, ti_hb51, ti_hb52, ti_in3, ti_pl79, ti_sb22, ti_sb28, ti_sl22, ti_sl28, ti_st9, ti_us5, ti_zr79, tkD, tkV, hml, hm, hp, List.length_map])
                  | (with_reducible refine hKA ?_; clear hKA hKB KA KB)
                  | (with_reducible refine hKB ?_; clear hKA hKB KA KB)
                  | (with_reducible refine AWp_regC mu_16 ks_16 ?_; intro Kv hKv; simp (dsimp := false) only [go_sem, Nat.reduceAdd, Nat.reduceBEq, Nat.reduceEqDiff, Nat.reduceLT, Nat.reduceLeDiff, Nat.reduceMul, Int.reduceToNat, reduceCtorEq, ↓reduceIte, Tryd.ntmps16, Tryd.results16, ks_16, mu_16, ti_ag9, ti_hb47, ti_hb48, ti_hb49, ti_hb50, ti_hb51, ti_hb52, ti_in3, ti_pl79, ti_sb22, ti_sb28, ti_sl22, ti_sl28, ti_st9, ti_us5, ti_zr79, tkD, tkV, hml, hm, hp, List.length_map])
                  | with_reducible refine AWp_skipN ?_
                  | with_reducible refine AWp_exitO (by repeat (first | with_reducible exact Out.hit | with_reducible apply Out.thenA | with_reducible apply Out.out rfl)) ?_
                  | (with_reducible refine AWp_retR ?_; simp (dsimp := false) only [go_sem, Nat.reduceAdd, Nat.reduceBEq, Nat.reduceEqDiff, Nat.reduceLT, Nat.reduceLeDiff, Nat.reduceMul, Int.reduceToNat, reduceCtorEq, ↓reduceIte, Tryd.ntmps16, Tryd.results16, ks_16, mu_16, ti_ag9, ti_hb47, ti_hb48, ti_hb49, ti_hb50, ti_hb51, ti_hb52, ti_in3, ti_pl79, ti_sb22, ti_sb28, ti_sl22, ti_sl28, ti_st9, ti_us5, ti_zr79, tkD, tkV, hml, hm, hp, List.length_map])
                  | (with_reducible refine AWp_regE mu_16 ks_16 ?_; intro Kv hKv; simp (dsimp := false) only [go_sem, Nat.reduceAdd, Nat.reduceBEq, Nat.reduceEqDiff, Nat.reduceLT, Nat.reduceLeDiff, Nat.reduceMul, Int.reduceToNat, reduceCtorEq, ↓reduceIte, Tryd.ntmps16, Tryd.results16, ks_16, mu_16, ti_ag9, ti_hb47, ti_hb48, ti_hb49, ti_hb50, ti_hb51, ti_hb52, ti_in3, ti_pl79, ti_sb22, ti_sb28, ti_sl22, ti_sl28, ti_st9, ti_us5, ti_zr79, tkD, tkV, hml, hm, hp, List.length_map])
                  | (refine AWp_condC rfl ?_; intro KA KB hKA hKB; try simp only [onB_true, onB_false, onB_dec, onB_ndec, onB_not, onB_and, onB_or])
                  | (refine AWp_condA rfl ?_ ?_)
                  | (refine allMarks_A _ _ ?_; try simp (dsimp := false) only [go_sem, Nat.reduceAdd, Nat.reduceBEq, Nat.reduceEqDiff, Nat.reduceLT, Nat.reduceLeDiff, Nat.reduceMul, Int.reduceToNat, reduceCtorEq, ↓reduceIte, Tryd.ntmps16, Tryd.results16, ks_16, mu_16, ti_ag9, ti_hb47, ti_hb48, ti_hb49, ti_hb50, ti_hb51, ti_hb52, ti_in3, ti_pl79, ti_sb22, ti_sb28, ti_sl22, ti_sl28, ti_st9, ti_us5, ti_zr79, tkD, tkV, hml, hm, hp, List.length_map])
                  | (refine begins_A s m p hs (by omega) (by omega) _ _ ?_; try simp (dsimp := false) only [go_sem, Nat.reduceAdd, Nat.reduceBEq, Nat.reduceEqDiff, Nat.reduceLT, Nat.reduceLeDiff, Nat.reduceMul, Int.reduceToNat, reduceCtorEq, ↓reduceIte, Tryd.ntmps16, Tryd.results16, ks_16, mu_16, ti_ag9, ti_hb47, ti_hb48, ti_hb49, ti_hb50, ti_hb51, ti_hb52, ti_in3, ti_pl79, ti_sb22, ti_sb28, ti_sl22, ti_sl28, ti_st9, ti_us5, ti_zr79, tkD, tkV, hml, hm, hp, List.length_map])
                  | with_reducible refine onB_of ?_ ?_
                  | with_reducible rfl
                  | omega)
                all_goals first
                  | omega
                  | exact ⟨(k + 1, m), ⟨by show k + 1 ≤ 26; omega, by show m.length ≤ 2; omega, .inr ⟨hm2.2, i3.symm⟩⟩, by show 26 - (k + 1) < 26 - k; omega, by (repeat' (refine And.intro ?_ ?_)) <;> first | rfl | omega | (simp; done) | (simp (dsimp := false) only [go_sem, Nat.reduceAdd, Nat.reduceBEq, Nat.reduceEqDiff, Nat.reduceLT, Nat.reduceLeDiff, Nat.reduceMul, Int.reduceToNat, reduceCtorEq, ↓reduceIte, Tryd.ntmps16, Tryd.results16, ks_16, mu_16, ti_ag9, ti_hb47, ti_hb48, ti_hb49, ti_hb50, ti_hb51, ti_hb52, ti_in3, ti_pl79, ti_sb22, ti_sb28, ti_sl22, ti_sl28, ti_st9, ti_us5, ti_zr79, tkD, tkV, hml, hm, hp, List.length_map]; done) | (simp (dsimp := false) only [go_sem, Nat.reduceAdd, Nat.reduceBEq, Nat.reduceEqDiff, Nat.reduceLT, Nat.reduceLeDiff, Nat.reduceMul, Int.reduceToNat, reduceCtorEq, ↓reduceIte, Tryd.ntmps16, Tryd.results16, ks_16, mu_16, ti_ag9, ti_hb47, ti_hb48, ti_hb49, ti_hb50, ti_hb51, ti_hb52, ti_in3, ti_pl79, ti_sb22, ti_sb28, ti_sl22, ti_sl28, ti_st9, ti_us5, ti_zr79, tkD, tkV, hml, hm, hp, List.length_map]; omega)⟩
              | false =>
                rw [hp] at i3
                
                repeat' (first
                  | with_reducible refine And.intro ?_ ?_
                  | with_reducible intro _
                  | with_reducible refine AWp_seq ?_
                  | with_reducible refine AWp_block ?_
                  | (with_reducible refine hKv _ _ (AWp_nop ?_); clear hKv Kv)
                  | (with_reducible refine hKv _ _ ?_; clear hKv Kv; simp (dsimp := false) only [go_sem, Nat.reduceAdd, Nat.reduceBEq, Nat.reduceEqDiff, Nat.reduceLT, Nat.reduceLeDiff, Nat.reduceMul, Int.reduceToNat, reduceCtorEq, ↓reduceIte, Tryd.ntmps16, Tryd.results16, ks_16, mu_16, ti_ag9, ti_hb47, ti_hb48, ti_hb49, ti_hb50, ti_hb51, ti_hb52, ti_in3, ti_pl79, ti_sb22, ti_sb28, ti_sl22, ti_sl28, ti_st9, ti_us5, ti_zr79, tkD, tkV, hml, hm, hp, List.length_map])
                  | (with_reducible refine hKA ?_; clear hKA hKB KA KB)
                  | (with_reducible refine hKB ?_; clear hKA hKB KA KB)
                  | (with_reducible refine AWp_regC mu_16 ks_16 ?_; intro Kv hKv; simp (dsimp := false) only [go_sem, Nat.reduceAdd, Nat.reduceBEq, Nat.reduceEqDiff, Nat.reduceLT, Nat.reduceLeDiff, Nat.reduceMul, Int.reduceToNat, reduceCtorEq, ↓reduceIte, Tryd.ntmps16, Tryd.results16, ks_16, mu_16, ti_ag9, ti_hb47, ti_hb48, ti_hb49, ti_hb50, ti_hb51, ti_hb52, ti_in3, ti_pl79, ti_sb22, ti_sb28, ti_sl22, ti_sl28, ti_st9, ti_us5, ti_zr79, tkD, tkV, hml, hm, hp, List.length_map])
                  | with_reducible refine AWp_skipN ?_
                  | with_reducible refine AWp_exitO (by repeat (first | with_reducible exact Out.hit | with_reducible apply Out.thenA | with_reducible apply Out.out rfl)) ?_
                  | (with_reducible refine AWp_retR ?_; simp (dsimp := false) only [go_sem, Nat.reduceAdd, Nat.reduceBEq, Nat.reduceEqDiff, Nat.reduceLT, Nat.reduceLeDiff, Nat.reduceMul, Int.reduceToNat, reduceCtorEq, ↓reduceIte, Tryd.ntmps16, Tryd.results16, ks_16, mu_16, ti_ag9, ti_hb47, ti_hb48, ti_hb49, ti_hb50, ti_hb51, ti_hb52, ti_in3, ti_pl79, ti_sb22, ti_sb28, ti_sl22, ti_sl28, ti_st9, ti_us5, ti_zr79, tkD, tkV, hml, hm, hp, List.length_map])
                  | (with_reducible refine AWp_regE mu_16 ks_16 ?_; intro Kv hKv; simp (dsimp := false) only [go_sem, Nat.reduceAdd, Nat.reduceBEq, Nat.reduceEqDiff, Nat.reduceLT, Nat.reduceLeDiff, Nat.reduceMul, Int.reduceToNat, reduceCtorEq, ↓reduceIte, Tryd.ntmps16, Tryd.results16, ks_16, mu_16, ti_ag9, ti_hb47, ti_hb48, ti_hb49, ti_hb50, ti_hb51, ti_hb52, ti_in3, ti_pl79, ti_sb22, ti_sb28, ti_sl22, ti_sl28, ti_st9, ti_us5, ti_zr79, tkD, tkV, hml, hm, hp, List.length_map])
                  | (refine AWp_condC rfl ?_; intro KA KB hKA hKB; try simp only [onB_true, onB_false, onB_dec, onB_ndec, onB_not, onB_and, onB_or])
                  | (refine AWp_condA rfl ?_ ?_)
                  | (refine allMarks_A _ _ ?_; try simp (dsimp := false) only [go_sem, Nat.reduceAdd, Nat.reduceBEq, Nat.reduceEqDiff, Nat.reduceLT, Nat.reduceLeDiff, Nat.reduceMul, Int.reduceToNat, reduceCtorEq, ↓reduceIte, Tryd.ntmps16, Tryd.results16, ks_16, mu_16, ti_ag9, ti_hb47, ti_hb48, ti_hb49, ti_hb50, ti_hb51, ti_hb52, ti_in3, ti_pl79, ti_sb22, ti_sb28, ti_sl22, ti_sl28, ti_st9, ti_us5, ti_zr79, tkD, tkV, hml, hm, hp, List.length_map])
                  | (refine begins_A s m p hs (by omega) (by omega) _ _ ?_; try simp (dsimp := false) only [go_sem, Nat.reduceAdd, Nat.reduceBEq, Nat.reduceEqDiff, Nat.reduceLT, Nat.reduceLeDiff, Nat.reduceMul, Int.reduceToNat, reduceCtorEq, ↓reduceIte, Tryd.ntmps16, Tryd.results16, ks_16, mu_16, ti_ag9, ti_hb47, ti_hb48, ti_hb49, ti_hb50, ti_hb51, ti_hb52, ti_in3, ti_pl79, ti_sb22, ti_sb28, ti_sl22, ti_sl28, ti_st9, ti_us5, ti_zr79, tkD, tkV, hml, hm, hp, List.length_map])
                  | with_reducible refine onB_of ?_ ?_
                  | with_reducible rfl
                  | omega)
                all_goals first
                  | omega
                  | exact ⟨(k + 1, []), ⟨by show k + 1 ≤ 26; omega, by simp, .inl ⟨rfl, i3⟩⟩, by show 26 - (k + 1) < 26 - k; omega, by (repeat' (refine And.intro ?_ ?_)) <;> first | rfl | omega | (simp; done) | (simp (dsimp := false) only [go_sem, Nat.reduceAdd, Nat.reduceBEq, Nat.reduceEqDiff, Nat.reduceLT, Nat.reduceLeDiff, Nat.reduceMul, Int.reduceToNat, reduceCtorEq, ↓reduceIte, Tryd.ntmps16, Tryd.results16, ks_16, mu_16, ti_ag9, ti_hb47, ti_hb48, ti_hb49, ti_hb50, ti_hb51, ti_hb52, ti_in3, ti_pl79, ti_sb22, ti_sb28, ti_sl22, ti_sl28, ti_st9, ti_us5, ti_zr79, tkD, tkV, hml, hm, hp, List.length_map]; done) | (simp (dsimp := false) only [go_sem, Nat.reduceAdd, Nat.reduceBEq, Nat.reduceEqDiff, Nat.reduceLT, Nat.reduceLeDiff, Nat.reduceMul, Int.reduceToNat, reduceCtorEq, ↓reduceIte, Tryd.ntmps16, Tryd.results16, ks_16, mu_16, ti_ag9, ti_hb47, ti_hb48, ti_hb49, ti_hb50, ti_hb51, ti_hb52, ti_in3, ti_pl79, ti_sb22, ti_sb28, ti_sl22, ti_sl28, ti_st9, ti_us5, ti_zr79, tkD, tkV, hml, hm, hp, List.length_map]; omega)⟩
            · have e : k = 26 := by omega
              subst e
              rw [← i3] at ho
              
              repeat' (first
                | with_reducible refine And.intro ?_ ?_
                | with_reducible intro _
                | with_reducible refine AWp_seq ?_
                | with_reducible refine AWp_block ?_
                | (with_reducible refine hKv _ _ (AWp_nop ?_); clear hKv Kv)
                | (with_reducible refine hKv _ _ ?_; clear hKv Kv; simp (dsimp := false) only [go_sem, Nat.reduceAdd, Nat.reduceBEq, Nat.reduceEqDiff, Nat.reduceLT, Nat.reduceLeDiff, Nat.reduceMul, Int.reduceToNat, reduceCtorEq, ↓reduceIte, Tryd.ntmps16, Tryd.results16, ks_16, mu_16, ti_ag9, ti_hb47, ti_hb48, ti_hb49, ti_hb50, ti_hb51, ti_hb52, ti_in3, ti_pl79, ti_sb22, ti_sb28, ti_sl22, ti_sl28, ti_st9, ti_us5, ti_zr79, tkD, tkV, hml, List.length_map])
                | (with_reducible refine hKA ?_; clear hKA hKB KA KB)
                | (with_reducible refine hKB ?_; clear hKA hKB KA KB)
                | (with_reducible refine AWp_regC mu_16 ks_16 ?_; intro Kv hKv; simp (dsimp := false) only [go_sem, Nat.reduceAdd, Nat.reduceBEq, Nat.reduceEqDiff, Nat.reduceLT, Nat.reduceLeDiff, Nat.reduceMul, Int.reduceToNat, reduceCtorEq, ↓reduceIte, Tryd.ntmps16, Tryd.results16, ks_16, mu_16, ti_ag9, ti_hb47, ti_hb48, ti_hb49, ti_hb50, ti_hb51, ti_hb52, ti_in3, ti_pl79, ti_sb22, ti_sb28, ti_sl22, ti_sl28, ti_st9, ti_us5, ti_zr79, tkD, tkV, hml, List.length_map])
                | with_reducible refine AWp_skipN ?_
                | with_reducible refine AWp_exitO (by repeat (first | with_reducible exact Out.hit | with_reducible apply Out.thenA | with_reducible apply Out.out rfl)) ?_
                | (with_reducible refine AWp_retR ?_; simp (dsimp := false) only [go_sem, Nat.reduceAdd, Nat.reduceBEq, Nat.reduceEqDiff, Nat.reduceLT, Nat.reduceLeDiff, Nat.reduceMul, Int.reduceToNat, reduceCtorEq, ↓reduceIte, Tryd.ntmps16, Tryd.results16, ks_16, mu_16, ti_ag9, ti_hb47, ti_hb48, ti_hb49, ti_hb50, ti_hb51, ti_hb52, ti_in3, ti_pl79, ti_sb22, ti_sb28, ti_sl22, ti_sl28, ti_st9, ti_us5, ti_zr79, tkD, tkV, hml, List.length_map])
                | (with_reducible refine AWp_regE mu_16 ks_16 ?_; intro Kv hKv; simp (dsimp := false) only [go_sem, Nat.reduceAdd, Nat.reduceBEq, Nat.reduceEqDiff, Nat.reduceLT, Nat.reduceLeDiff, Nat.reduceMul, Int.reduceToNat, reduceCtorEq, ↓reduceIte, Tryd.ntmps16, Tryd.results16, ks_16, mu_16, ti_ag9, ti_hb47, ti_hb48, ti_hb49, ti_hb50, ti_hb51, ti_hb52, ti_in3, ti_pl79, ti_sb22, ti_sb28, ti_sl22, ti_sl28, ti_st9, ti_us5, ti_zr79, tkD, tkV, hml, List.length_map])
                | (refine AWp_condC rfl ?_; intro KA KB hKA hKB; try simp only [onB_true, onB_false, onB_dec, onB_ndec, onB_not, onB_and, onB_or])
                | (refine AWp_condA rfl ?_ ?_)
                | (refine allMarks_A _ _ ?_; try simp (dsimp := false) only [go_sem, Nat.reduceAdd, Nat.reduceBEq, Nat.reduceEqDiff, Nat.reduceLT, Nat.reduceLeDiff, Nat.reduceMul, Int.reduceToNat, reduceCtorEq, ↓reduceIte, Tryd.ntmps16, Tryd.results16, ks_16, mu_16, ti_ag9, ti_hb47, ti_hb48, ti_hb49, ti_hb50, ti_hb51, ti_hb52, ti_in3, ti_pl79, ti_sb22, ti_sb28, ti_sl22, ti_sl28, ti_st9, ti_us5, ti_zr79, tkD, tkV, hml, List.length_map])
                | with_reducible refine onB_of ?_ ?_
                | with_reducible rfl
                | omega)
              all_goals first
                | omega
                | exact dropF (hbad _ _ _ ho (by decide)) (Fz_tu3 (.nil 3) (.same _) (.same _)) (bel_cutV _ _)
          · rw [i3] at ho
            obtain ⟨i', g1, g2, rfl⟩ := hdone _ _ ho
            have hmf : (m = []) = False := eq_false hne
            
            repeat' (first
              | with_reducible refine And.intro ?_ ?_
              | with_reducible intro _
              | with_reducible refine AWp_seq ?_
              | with_reducible refine AWp_block ?_
              | (with_reducible refine hKv _ _ (AWp_nop ?_); clear hKv Kv)
              | (with_reducible refine hKv _ _ ?_; clear hKv Kv; simp (dsimp := false) only [go_sem, Nat.reduceAdd, Nat.reduceBEq, Nat.reduceEqDiff, Nat.reduceLT, Nat.reduceLeDiff, Nat.reduceMul, Int.reduceToNat, reduceCtorEq, ↓reduceIte, Tryd.ntmps16, Tryd.results16, ks_16, mu_16, ti_ag9, ti_hb47, ti_hb48, ti_hb49, ti_hb50, ti_hb51, ti_hb52, ti_in3, ti_pl79, ti_sb22, ti_sb28, ti_sl22, ti_sl28, ti_st9, ti_us5, ti_zr79, tkD, tkV, hml, hmf, List.length_map])
              | (with_reducible refine hKA ?_; clear hKA hKB KA KB)
              | (with_reducible refine hKB ?_; clear hKA hKB KA KB)
              | (with_reducible refine AWp_regC mu_16 ks_16 ?_; intro Kv hKv; simp (dsimp := false) only [go_sem, Nat.reduceAdd, Nat.reduceBEq, Nat.reduceEqDiff, Nat.reduceLT, Nat.reduceLeDiff, Nat.reduceMul, Int.reduceToNat, reduceCtorEq, ↓reduceIte, Tryd.ntmps16, Tryd.results16, ks_16, mu_16, ti_ag9, ti_hb47, ti_hb48, ti_hb49, ti_hb50, ti_hb51, ti_hb52, ti_in3, ti_pl79, ti_sb22, ti_sb28, ti_sl22, ti_sl28, ti_st9, ti_us5, ti_zr79, tkD, tkV, hml, hmf, List.length_map])
              | with_reducible refine AWp_skipN ?_
              | with_reducible refine AWp_exitO (by repeat (first | with_reducible exact Out.hit | with_reducible apply Out.thenA | with_reducible apply Out.out rfl)) ?_
              | (with_reducible refine AWp_retR ?_; simp (dsimp := false) only [go_sem, Nat.reduceAdd, Nat.reduceBEq, Nat.reduceEqDiff, Nat.reduceLT, Nat.reduceLeDiff, Nat.reduceMul, Int.reduceToNat, reduceCtorEq, ↓reduceIte, Tryd.ntmps16, Tryd.results16, ks_16, mu_16, ti_ag9, ti_hb47, ti_hb48, ti_hb49, ti_hb50, ti_hb51, ti_hb52, ti_in3, ti_pl79, ti_sb22, ti_sb28, ti_sl22, ti_sl28, ti_st9, ti_us5, ti_zr79, tkD, tkV, hml, hmf, List.length_map])
              | (with_reducible refine AWp_regE mu_16 ks_16 ?_; intro Kv hKv; simp (dsimp := false) only [go_sem, Nat.reduceAdd, Nat.reduceBEq, Nat.reduceEqDiff, Nat.reduceLT, Nat.reduceLeDiff, Nat.reduceMul, Int.reduceToNat, reduceCtorEq, ↓reduceIte, Tryd.ntmps16, Tryd.results16, ks_16, mu_16, ti_ag9, ti_hb47, ti_hb48, ti_hb49, ti_hb50, ti_hb51, ti_hb52, ti_in3, ti_pl79, ti_sb22, ti_sb28, ti_sl22, ti_sl28, ti_st9, ti_us5, ti_zr79, tkD, tkV, hml, hmf, List.length_map])
              | (refine AWp_condC rfl ?_; intro KA KB hKA hKB; try simp only [onB_true, onB_false, onB_dec, onB_ndec, onB_not, onB_and, onB_or])
              | (refine AWp_condA rfl ?_ ?_)
              | (refine allMarks_A _ _ ?_; try simp (dsimp := false) only [go_sem, Nat.reduceAdd, Nat.reduceBEq, Nat.reduceEqDiff, Nat.reduceLT, Nat.reduceLeDiff, Nat.reduceMul, Int.reduceToNat, reduceCtorEq, ↓reduceIte, Tryd.ntmps16, Tryd.results16, ks_16, mu_16, ti_ag9, ti_hb47, ti_hb48, ti_hb49, ti_hb50, ti_hb51, ti_hb52, ti_in3, ti_pl79, ti_sb22, ti_sb28, ti_sl22, ti_sl28, ti_st9, ti_us5, ti_zr79, tkD, tkV, hml, hmf, List.length_map])
              | with_reducible refine onB_of ?_ ?_
              | with_reducible rfl
              | omega)
            all_goals first
              | omega
              | exact ⟨_, g1, g2, by simp [tkC], by (repeat' (refine And.intro ?_ ?_)) <;> first | rfl | omega | (simp; done) | (simp (dsimp := false) only [go_sem, Nat.reduceAdd, Nat.reduceBEq, Nat.reduceEqDiff, Nat.reduceLT, Nat.reduceLeDiff, Nat.reduceMul, Int.reduceToNat, reduceCtorEq, ↓reduceIte, Tryd.ntmps16, Tryd.results16, ks_16, mu_16, ti_ag9, ti_hb47, ti_hb48, ti_hb49, ti_hb50, ti_hb51, ti_hb52, ti_in3, ti_pl79, ti_sb22, ti_sb28, ti_sl22, ti_sl28, ti_st9, ti_us5, ti_zr79, tkD, tkV, hml, hmf, List.length_map]; done) | (simp (dsimp := false) only [go_sem, Nat.reduceAdd, Nat.reduceBEq, Nat.reduceEqDiff, Nat.reduceLT, Nat.reduceLeDiff, Nat.reduceMul, Int.reduceToNat, reduceCtorEq, ↓reduceIte, Tryd.ntmps16, Tryd.results16, ks_16, mu_16, ti_ag9, ti_hb47, ti_hb48, ti_hb49, ti_hb50, ti_hb51, ti_hb52, ti_in3, ti_pl79, ti_sb22, ti_sb28, ti_sl22, ti_sl28, ti_st9, ti_us5, ti_zr79, tkD, tkV, hml, hmf, List.length_map]; omega)⟩
    · 
      repeat' (first
        | with_reducible refine And.intro ?_ ?_
        | with_reducible intro _
        | with_reducible refine AWp_seq ?_
        | with_reducible refine AWp_block ?_
        | (with_reducible refine hKv _ _ (AWp_nop ?_); clear hKv Kv)
        | (with_reducible refine hKv _ _ ?_; clear hKv Kv; simp (dsimp := false) only [go_sem, Nat.reduceAdd, Nat.reduceBEq, Nat.reduceEqDiff, Nat.reduceLT, Nat.reduceLeDiff, Nat.reduceMul, Int.reduceToNat, reduceCtorEq, ↓reduceIte, Tryd.ntmps16, Tryd.results16, ks_16, mu_16, ti_ag9, ti_hb47, ti_hb48, ti_hb49, ti_hb50, ti_hb51, ti_hb52, ti_in3, ti_pl79, ti_sb22, ti_sb28, ti_sl22, ti_sl28, ti_st9, ti_us5, ti_zr79, tkD, tkV])
        | (with_reducible refine hKA ?_; clear hKA hKB KA KB)
        | (with_reducible refine hKB ?_; clear hKA hKB KA KB)
        | (with_reducible refine AWp_regC mu_16 ks_16 ?_; intro Kv hKv; simp (dsimp := false) only [go_sem, Nat.reduceAdd, Nat.reduceBEq, Nat.reduceEqDiff, Nat.reduceLT, Nat.reduceLeDiff, Nat.reduceMul, Int.reduceToNat, reduceCtorEq, ↓reduceIte, Tryd.ntmps16, Tryd.results16, ks_16, mu_16, ti_ag9, ti_hb47, ti_hb48, ti_hb49, ti_hb50, ti_hb51, ti_hb52, ti_in3, ti_pl79, ti_sb22, ti_sb28, ti_sl22, ti_sl28, ti_st9, ti_us5, ti_zr79, tkD, tkV])
        | with_reducible refine AWp_skipN ?_
        | with_reducible refine AWp_exitO (by repeat (first | with_reducible exact Out.hit | with_reducible apply Out.thenA | with_reducible apply Out.out rfl)) ?_
        | (with_reducible refine AWp_retR ?_; simp (dsimp := false) only [go_sem, Nat.reduceAdd, Nat.reduceBEq, Nat.reduceEqDiff, Nat.reduceLT, Nat.reduceLeDiff, Nat.reduceMul, Int.reduceToNat, reduceCtorEq, ↓reduceIte, Tryd.ntmps16, Tryd.results16, ks_16, mu_16, ti_ag9, ti_hb47, ti_hb48, ti_hb49, ti_hb50, ti_hb51, ti_hb52, ti_in3, ti_pl79, ti_sb22, ti_sb28, ti_sl22, ti_sl28, ti_st9, ti_us5, ti_zr79, tkD, tkV])
        | (with_reducible refine AWp_regE mu_16 ks_16 ?_; intro Kv hKv; simp (dsimp := false) only [go_sem, Nat.reduceAdd, Nat.reduceBEq, Nat.reduceEqDiff, Nat.reduceLT, Nat.reduceLeDiff, Nat.reduceMul, Int.reduceToNat, reduceCtorEq, ↓reduceIte, Tryd.ntmps16, Tryd.results16, ks_16, mu_16, ti_ag9, ti_hb47, ti_hb48, ti_hb49, ti_hb50, ti_hb51, ti_hb52, ti_in3, ti_pl79, ti_sb22, ti_sb28, ti_sl22, ti_sl28, ti_st9, ti_us5, ti_zr79, tkD, tkV])
        | (refine AWp_condC rfl ?_; intro KA KB hKA hKB; try simp only [onB_true, onB_false, onB_dec, onB_ndec, onB_not, onB_and, onB_or])
        | (refine AWp_condA rfl ?_ ?_)
        | with_reducible refine onB_of ?_ ?_
        | with_reducible rfl
        | omega)
      rw [cutGo_end (by omega)] at h3
      rw [← h3] at hk
      exact dropF hk (Fz_tu3 (.os _ _ 79 3 _ _ (by omega) (get_app0 _ _) (tks_data _)) (.same _) (.same _)) (bel_cutV _ _)
  · rw [cut, if_neg h1000] at hk
    
    refine ACalls_of Tryd.func16 rfl in_16 (Nat.le_of_ble_eq_true rfl) ?_
    intro F hF
    simp (dsimp := false) only [go_sem, Nat.reduceAdd, Nat.reduceBEq, Nat.reduceEqDiff, Nat.reduceLT, Nat.reduceLeDiff, Nat.reduceMul, Int.reduceToNat, reduceCtorEq, ↓reduceIte, Tryd.ntmps16, Tryd.results16, ks_16, mu_16, ti_ag9, ti_hb47, ti_hb48, ti_hb49, ti_hb50, ti_hb51, ti_hb52, ti_in3, ti_pl79, ti_sb22, ti_sb28, ti_sl22, ti_sl28, ti_st9, ti_us5, ti_zr79, tkD, tkV, in_16] at hF
    subst hF
    repeat' (first
      | with_reducible refine And.intro ?_ ?_
      | with_reducible intro _
      | with_reducible refine AWp_seq ?_
      | with_reducible refine AWp_block ?_
      | (with_reducible refine hKv _ _ (AWp_nop ?_); clear hKv Kv)
      | (with_reducible refine hKv _ _ ?_; clear hKv Kv; simp (dsimp := false) only [go_sem, Nat.reduceAdd, Nat.reduceBEq, Nat.reduceEqDiff, Nat.reduceLT, Nat.reduceLeDiff, Nat.reduceMul, Int.reduceToNat, reduceCtorEq, ↓reduceIte, Tryd.ntmps16, Tryd.results16, ks_16, mu_16, ti_ag9, ti_hb47, ti_hb48, ti_hb49, ti_hb50, ti_hb51, ti_hb52, ti_in3, ti_pl79, ti_sb22, ti_sb28, ti_sl22, ti_sl28, ti_st9, ti_us5, ti_zr79, tkD, tkV])
      | (with_reducible refine hKA ?_; clear hKA hKB KA KB)
      | (with_reducible refine hKB ?_; clear hKA hKB KA KB)
      | (with_reducible refine AWp_regC mu_16 ks_16 ?_; intro Kv hKv; simp (dsimp := false) only [go_sem, Nat.reduceAdd, Nat.reduceBEq, Nat.reduceEqDiff, Nat.reduceLT, Nat.reduceLeDiff, Nat.reduceMul, Int.reduceToNat, reduceCtorEq, ↓reduceIte, Tryd.ntmps16, Tryd.results16, ks_16, mu_16, ti_ag9, ti_hb47, ti_hb48, ti_hb49, ti_hb50, ti_hb51, ti_hb52, ti_in3, ti_pl79, ti_sb22, ti_sb28, ti_sl22, ti_sl28, ti_st9, ti_us5, ti_zr79, tkD, tkV])
      | with_reducible refine AWp_skipN ?_
      | with_reducible refine AWp_exitO (by repeat (first | with_reducible exact Out.hit | with_reducible apply Out.thenA | with_reducible apply Out.out rfl)) ?_
      | (with_reducible refine AWp_retR ?_; simp (dsimp := false) only [go_sem, Nat.reduceAdd, Nat.reduceBEq, Nat.reduceEqDiff, Nat.reduceLT, Nat.reduceLeDiff, Nat.reduceMul, Int.reduceToNat, reduceCtorEq, ↓reduceIte, Tryd.ntmps16, Tryd.results16, ks_16, mu_16, ti_ag9, ti_hb47, ti_hb48, ti_hb49, ti_hb50, ti_hb51, ti_hb52, ti_in3, ti_pl79, ti_sb22, ti_sb28, ti_sl22, ti_sl28, ti_st9, ti_us5, ti_zr79, tkD, tkV])
      | (with_reducible refine AWp_regE mu_16 ks_16 ?_; intro Kv hKv; simp (dsimp := false) only [go_sem, Nat.reduceAdd, Nat.reduceBEq, Nat.reduceEqDiff, Nat.reduceLT, Nat.reduceLeDiff, Nat.reduceMul, Int.reduceToNat, reduceCtorEq, ↓reduceIte, Tryd.ntmps16, Tryd.results16, ks_16, mu_16, ti_ag9, ti_hb47, ti_hb48, ti_hb49, ti_hb50, ti_hb51, ti_hb52, ti_in3, ti_pl79, ti_sb22, ti_sb28, ti_sl22, ti_sl28, ti_st9, ti_us5, ti_zr79, tkD, tkV])
      | (refine AWp_condC rfl ?_; intro KA KB hKA hKB; try simp only [onB_true, onB_false, onB_dec, onB_ndec, onB_not, onB_and, onB_or])
      | (refine AWp_condA rfl ?_ ?_)
      | with_reducible refine onB_of ?_ ?_
      | with_reducible rfl
      | omega)
    all_goals first
      | exact keepFz hk (Fz_tu3 (.nil 3) (.same _) (.same _)) (bel_cutV _ _)
end Go.Proofs.YtalalhngpcmoeaaDoor
