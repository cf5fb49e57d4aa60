/- Plans: are columns there, and may columns have these names: walked. No condition but that the tables of package unicode/utf8 are there. -/
import Derived.Test.YtppalmoicjogaaaDoorC21
import Derived.Test.YtppalmoicjogaaaDoorC22
set_option linter.all false
set_option linter.unusedSimpArgs false
set_option linter.unusedVariables false
namespace Go.Proofs.YtppalmoicjogaaaDoor
open Go Go.Proofs.YtppalmoicjogaaaDoor.Ab
variable [Glo] [U8]
set_option maxHeartbeats 4000000
set_option maxRecDepth 20000
def notIn (cols : List (List UInt8)) (s : List UInt8) : Bool := !decide (s ∈ cols)
theorem hasQ_any (cols l : List (List UInt8)) : (!l.any (notIn cols)) = hasQ cols l := by
  unfold hasQ notIn
  induction l with
  | nil => rfl
  | cons x l ih => simp [List.any_cons, List.all_cons, ← ih]
def ks_38 : Nat → List Nat
  | 0 => [0, 1]
  | 1 => [3]
  | _ => []
def mu_38 : List Nat := []
def in_38 : List Nat := [0, 1]
theorem has1_A (cols : List (List UInt8)) (hl : cols.length ≤ 9223372036854775807) (s : List UInt8) (H : Heap) (K : V → Heap → Prop) (hk : K (.d (.b (notIn cols s))) H) : ACalls Tryd.prog 38 [.d (.s s), .rp [.sl 1 (cols.map strRow)]] H K := by
  unfold notIn at hk
  refine ACalls_of Tryd.func38 rfl in_38 (Nat.le_of_ble_eq_true rfl) ?_
  intro F hF
  simp (dsimp := false) only [go_sem, Nat.reduceAdd, Nat.reduceBEq, Nat.reduceEqDiff, Nat.reduceLT, Nat.reduceLeDiff, Nat.reduceMul, Int.reduceToNat, reduceCtorEq, ↓reduceIte, Tryd.ntmps38, Tryd.results38, ks_38, mu_38, ti_ag48, ti_hb39, in_38] at hF
  subst hF
  repeat' (first | with_reducible (first | refine And.intro ?_ ?_ | intro _ | refine AWp_seq ?_ | refine AWp_block ?_ | (refine hKv _ _ (AWp_nop ?_); clear hKv Kv) | (refine hKA ?_; clear hKA hKB KA KB) | (refine hKB ?_; clear hKA hKB KA KB) | refine AWp_skipN ?_ | refine AWp_exitO (by repeat (first | exact Out.hit | apply Out.thenA | apply Out.out rfl)) ?_) | ((first | with_reducible (first | (refine hKv _ _ ?_; clear hKv Kv) | ((first | refine AWp_regC mu_38 ks_38 ?_ | refine AWp_regE mu_38 ks_38 ?_); intro Kv hKv) | refine AWp_retR ?_) | refine contains_A cols s hl _ _ ?_); try simp (dsimp := false) only [go_sem, Nat.reduceAdd, Nat.reduceBEq, Nat.reduceEqDiff, Nat.reduceLT, Nat.reduceLeDiff, Nat.reduceMul, Int.reduceToNat, reduceCtorEq, ↓reduceIte, Tryd.ntmps38, Tryd.results38, ks_38, mu_38, ti_ag48, ti_hb39]) | (refine AWp_condC rfl ?_; intro KA KB hKA hKB; try simp only [onB_true, onB_false, onB_dec, onB_ndec, onB_not, onB_and, onB_or]) | (refine AWp_condA rfl ?_ ?_) | with_reducible (first | refine onB_of ?_ ?_ | rfl) | omega)
  all_goals first
    | exact keepD hk rfl
    | exact keepD hk (by simp)
def ks_82 : Nat → List Nat
  | 0 => [0, 1]
  | 1 => [0, 1, 7, 8]
  | 2 => [0, 1, 7, 8, 9]
  | 3 => [0, 1, 5, 7, 8]
  | 4 => [0, 1, 5, 7, 8, 16]
  | 5 => [4]
  | 6 => [0, 1, 7, 8]
  | 7 => [4]
  | _ => []
def mu_82 : List Nat := []
def in_82 : List Nat := [0, 1]
theorem idxHas_A (cols : List (List UInt8)) (hl : cols.length ≤ 9223372036854775807) (l : List (List UInt8)) (hlen : l.length ≤ 9223372036854775807) (H : Heap) (K : V → Heap → Prop) (hk : K (.d (.i .i64 (fidx (notIn cols) l))) H) :
    ACalls Tryd.prog 82 [.d (.sl 1 (l.map strRow)), .fn 38 [.rp [.sl 1 (cols.map strRow)]]] H K := by
  refine ACalls_of Tryd.func82 rfl in_82 (Nat.le_of_ble_eq_true rfl) ?_
  intro F hF
  simp (dsimp := false) only [go_sem, Nat.reduceAdd, Nat.reduceBEq, Nat.reduceEqDiff, Nat.reduceLT, Nat.reduceLeDiff, Nat.reduceMul, Int.reduceToNat, reduceCtorEq, ↓reduceIte, Tryd.ntmps82, Tryd.results82, ks_82, mu_82, ti_ag9, ti_sb48, ti_sl48, strRow, ti_hb38, Bel_fn, in_82] at hF
  subst hF
  repeat' (first | with_reducible (first | refine And.intro ?_ ?_ | intro _ | refine AWp_seq ?_ | refine AWp_block ?_ | (refine hKv _ _ (AWp_nop ?_); clear hKv Kv) | (refine hKA ?_; clear hKA hKB KA KB) | (refine hKB ?_; clear hKA hKB KA KB) | refine AWp_skipN ?_ | refine AWp_exitO (by repeat (first | exact Out.hit | apply Out.thenA | apply Out.out rfl)) ?_) | (with_reducible (first | (refine hKv _ _ ?_; clear hKv Kv) | ((first | refine AWp_regC mu_82 ks_82 ?_ | refine AWp_regE mu_82 ks_82 ?_); intro Kv hKv) | refine AWp_retR ?_); try simp (dsimp := false) only [go_sem, Nat.reduceAdd, Nat.reduceBEq, Nat.reduceEqDiff, Nat.reduceLT, Nat.reduceLeDiff, Nat.reduceMul, Int.reduceToNat, reduceCtorEq, ↓reduceIte, Tryd.ntmps82, Tryd.results82, ks_82, mu_82, ti_ag9, ti_sb48, ti_sl48, strRow, ti_hb38, Bel_fn]) | (refine AWp_condC rfl ?_; intro KA KB hKA hKB; try simp only [onB_true, onB_false, onB_dec, onB_ndec, onB_not, onB_and, onB_or]) | (refine AWp_condA rfl ?_ ?_) | with_reducible (first | refine onB_of ?_ ?_ | rfl) | omega)
  refine AWp_while0 (fun i : Nat => i ≤ l.length ∧ fidxGo (notIn cols) (l.drop i) i = fidx (notIn cols) l) (fun i => [(0, .d (.sl 1 (l.map strRow))), (1, .fn 38 [.rp [.sl 1 (cols.map strRow)]]), (7, .d (.i .i64 l.length)), (8, .d (.i .i64 i))]) (fun i => l.length - i) 0 ⟨Nat.zero_le _, rfl⟩ ?_ ?_
  · simp (dsimp := false) only [go_sem, Nat.reduceAdd, Nat.reduceBEq, Nat.reduceEqDiff, Nat.reduceLT, Nat.reduceLeDiff, Nat.reduceMul, Int.reduceToNat, reduceCtorEq, ↓reduceIte, Tryd.ntmps82, Tryd.results82, ks_82, mu_82, ti_ag9, ti_sb48, ti_sl48, strRow, ti_hb38, Bel_fn]
    first | done | (simp; done) | (simp [Bel]; done) | (intro v hv; rw [List.mem_singleton.1 hv]; exact .rp _)
  rintro i ⟨hi, hv⟩
  repeat' (first | with_reducible (first | refine And.intro ?_ ?_ | intro _ | refine AWp_seq ?_ | refine AWp_block ?_ | (refine hKv _ _ (AWp_nop ?_); clear hKv Kv) | (refine hKA ?_; clear hKA hKB KA KB) | (refine hKB ?_; clear hKA hKB KA KB) | refine AWp_skipN ?_ | refine AWp_exitO (by repeat (first | exact Out.hit | apply Out.thenA | apply Out.out rfl)) ?_) | ((first | with_reducible (first | (refine hKv _ _ ?_; clear hKv Kv) | ((first | refine AWp_regC mu_82 ks_82 ?_ | refine AWp_regE mu_82 ks_82 ?_); intro Kv hKv) | refine AWp_retR ?_) | refine has1_A cols hl _ _ _ ?_); try simp (dsimp := false) only [go_sem, Nat.reduceAdd, Nat.reduceBEq, Nat.reduceEqDiff, Nat.reduceLT, Nat.reduceLeDiff, Nat.reduceMul, Int.reduceToNat, reduceCtorEq, ↓reduceIte, Tryd.ntmps82, Tryd.results82, ks_82, mu_82, ti_ag9, ti_sb48, ti_sl48, strRow, ti_hb38, Bel_fn]) | (refine AWp_condC rfl ?_; intro KA KB hKA hKB; try simp only [onB_true, onB_false, onB_dec, onB_ndec, onB_not, onB_and, onB_or]) | (refine AWp_condA rfl ?_ ?_) | with_reducible (first | refine onB_of ?_ ?_ | rfl) | omega)
  all_goals first
    | (rename_i h1 x hx h; rw [fidxGo_next hx, if_neg (by simpa using h)] at hv; exact ⟨i + 1, ⟨by omega, hv⟩, by omega, by (repeat' (refine And.intro ?_ ?_)) <;> first | rfl | omega | (simp; done) | (simp [Bel]; done) | (intro v hv; rw [List.mem_singleton.1 hv]; exact .rp _)⟩)
    | (rename_i h1 x hx h; rw [fidxGo_next hx, if_pos (by simpa using h)] at hv; exact keepD hk (by rw [hv]))
    | (have e : i = l.length := by omega
       subst e
       rw [fidxGo_end] at hv
       exact keepD hk (by rw [hv]))
def ks_37 : Nat → List Nat
  | 0 => [0, 1]
  | 1 => [4]
  | _ => []
def mu_37 : List Nat := []
def in_37 : List Nat := [0, 1]
theorem anyNot_A (cols : List (List UInt8)) (hl : cols.length ≤ 9223372036854775807) (l : List (List UInt8)) (hlen : l.length ≤ 9223372036854775807) (H : Heap) (K : V → Heap → Prop) (hk : K (.d (.b (l.any (notIn cols)))) H) :
    ACalls Tryd.prog 37 [.d (.sl 1 (l.map strRow)), .fn 38 [.rp [.sl 1 (cols.map strRow)]]] H K := by
  refine ACalls_of Tryd.func37 rfl in_37 (Nat.le_of_ble_eq_true rfl) ?_
  intro F hF
  simp (dsimp := false) only [go_sem, Nat.reduceAdd, Nat.reduceBEq, Nat.reduceEqDiff, Nat.reduceLT, Nat.reduceLeDiff, Nat.reduceMul, Int.reduceToNat, reduceCtorEq, ↓reduceIte, Tryd.ntmps37, Tryd.results37, ks_37, mu_37, ti_hb82, strRow, in_37] at hF
  subst hF
  repeat' (first | with_reducible (first | refine And.intro ?_ ?_ | intro _ | refine AWp_seq ?_ | refine AWp_block ?_ | (refine hKv _ _ (AWp_nop ?_); clear hKv Kv) | (refine hKA ?_; clear hKA hKB KA KB) | (refine hKB ?_; clear hKA hKB KA KB) | refine AWp_skipN ?_ | refine AWp_exitO (by repeat (first | exact Out.hit | apply Out.thenA | apply Out.out rfl)) ?_) | ((first | with_reducible (first | (refine hKv _ _ ?_; clear hKv Kv) | ((first | refine AWp_regC mu_37 ks_37 ?_ | refine AWp_regE mu_37 ks_37 ?_); intro Kv hKv) | refine AWp_retR ?_) | refine idxHas_A cols hl l hlen _ _ ?_); try simp (dsimp := false) only [go_sem, Nat.reduceAdd, Nat.reduceBEq, Nat.reduceEqDiff, Nat.reduceLT, Nat.reduceLeDiff, Nat.reduceMul, Int.reduceToNat, reduceCtorEq, ↓reduceIte, Tryd.ntmps37, Tryd.results37, ks_37, mu_37, ti_hb82, strRow]) | (refine AWp_condC rfl ?_; intro KA KB hKA hKB; try simp only [onB_true, onB_false, onB_dec, onB_ndec, onB_not, onB_and, onB_or]) | (refine AWp_condA rfl ?_ ?_) | with_reducible (first | refine onB_of ?_ ?_ | rfl) | omega)
  all_goals first
    | exact keepD hk (by rw [fidx_ge])
def ks_16 : Nat → List Nat
  | 0 => [1, 2]
  | 1 => [4]
  | _ => []
def mu_16 : List Nat := []
def in_16 : List Nat := [0, 1]
theorem has_A (cols : List (List UInt8)) (hl : cols.length ≤ 9223372036854775807) (l : List (List UInt8)) (hlen : l.length ≤ 9223372036854775807) (H : Heap) (K : V → Heap → Prop) (hk : K (.d (.b (hasQ cols l))) H) :
    ACalls Tryd.prog 16 [.d (.sl 1 (cols.map strRow)), .d (.sl 1 (l.map strRow))] H K := by
  rw [← hasQ_any] at hk
  refine ACalls_of Tryd.func16 rfl in_16 (Nat.le_of_ble_eq_true rfl) ?_
  intro F hF
  simp (dsimp := false) only [go_sem, Nat.reduceAdd, Nat.reduceBEq, Nat.reduceEqDiff, Nat.reduceLT, Nat.reduceLeDiff, Nat.reduceMul, Int.reduceToNat, reduceCtorEq, ↓reduceIte, Tryd.ntmps16, Tryd.results16, ks_16, mu_16, ti_hb37, ti_hb38, strRow, in_16] at hF
  subst hF
  repeat' (first | with_reducible (first | refine And.intro ?_ ?_ | intro _ | refine AWp_seq ?_ | refine AWp_block ?_ | (refine hKv _ _ (AWp_nop ?_); clear hKv Kv) | (refine hKA ?_; clear hKA hKB KA KB) | (refine hKB ?_; clear hKA hKB KA KB) | refine AWp_skipN ?_ | refine AWp_exitO (by repeat (first | exact Out.hit | apply Out.thenA | apply Out.out rfl)) ?_) | ((first | with_reducible (first | (refine hKv _ _ ?_; clear hKv Kv) | ((first | refine AWp_regC mu_16 ks_16 ?_ | refine AWp_regE mu_16 ks_16 ?_); intro Kv hKv) | refine AWp_retR ?_) | refine anyNot_A cols hl l hlen _ _ ?_); try simp (dsimp := false) only [go_sem, Nat.reduceAdd, Nat.reduceBEq, Nat.reduceEqDiff, Nat.reduceLT, Nat.reduceLeDiff, Nat.reduceMul, Int.reduceToNat, reduceCtorEq, ↓reduceIte, Tryd.ntmps16, Tryd.results16, ks_16, mu_16, ti_hb37, ti_hb38, strRow]) | (refine AWp_condC rfl ?_; intro KA KB hKA hKB; try simp only [onB_true, onB_false, onB_dec, onB_ndec, onB_not, onB_and, onB_or]) | (refine AWp_condA rfl ?_ ?_) | with_reducible (first | refine onB_of ?_ ?_ | rfl) | omega)
  all_goals first
    | exact keepD hk rfl
    | exact keepD hk (by simp)
def namedV (c : List (List UInt8)) : V := .tu [.d (.sl 1 ((if colsFault c = 0 then c else []).map strRow)), .d (.i .i64 (colsFault c))]
theorem shR_cols {c : List (List UInt8)} (hc : c.length ≤ 1048576) (hs : ∀ s, s ∈ c → s.length ≤ 1048576) : ShR ⟨c, []⟩ := by
  constructor <;> first | exact hc | exact hs | simp | (intro r hr; cases hr)
def Sees (v v' : V) : Prop := ∀ (w : World) (o : Nat → Prop) (H : Heap) (σ : Conc) (u : Value), VRel w o H σ v u → VRel w o H σ v' u
theorem Sees.refl (v : V) : Sees v v := fun _ _ _ _ _ h => h
theorem Sees.nil (sz : Nat) : Sees (.d (.c (.slice none 0 0))) (.d (.sl sz [])) := fun w o H σ u h => by
  cases h with
  | d x v h =>
    obtain rfl := h.inv_c
    exact .d _ _ (.nil _ _ _)
theorem Sees.ag {cs cs' : List V} (hl : cs.length = cs'.length) (h : ∀ (j : Nat) (c c' : V), cs[j]? = some c → cs'[j]? = some c' → Sees c c') : Sees (.ag cs) (.ag cs') := fun w o H σ u hu => by
  obtain ⟨vs, rfl, h1, h2⟩ := hu.inv_ag
  refine .ag _ _ (by omega) fun j c v hc hv => ?_
  have hj : j < cs.length := by have := lt_of_get hc; omega
  exact h j _ _ (List.getElem?_eq_getElem hj) hc _ _ _ _ _ (h2 j _ v (List.getElem?_eq_getElem hj) hv)
theorem ACalls_sees1 {P : Program} {f : Nat} {v v' : V} {H : Heap} {K : V → Heap → Prop} (hs : Sees v v') (h : ACalls P f [v'] H K) : ACalls P f [v] H K := fun w σ args hw hl hr => h w σ args hw hl fun j c u hc hu => by
  cases j with
  | zero =>
    obtain rfl : v' = c := by simpa using hc
    exact hs _ _ _ _ _ (hr 0 v u rfl hu)
  | succ j => simp at hc
theorem Sees_nilRows (c : List (List UInt8)) : Sees (.ag [.d (.sl 1 (c.map strRow)), .d (.c (.slice none 0 0))]) (.ag [.d (.sl 1 (c.map strRow)), .d (.sl 1 [])]) :=
  Sees.ag rfl fun j a b h1 h2 => by
    match j, h1, h2 with
    | 0, h1, h2 => simp at h1 h2; subst h1 h2; exact .refl _
    | 1, h1, h2 => simp at h1 h2; subst h1 h2; exact .nil _
def ks_36 : Nat → List Nat
  | 0 => [0]
  | 1 => [0, 4]
  | 2 => [0, 4, 9]
  | 3 => [2, 3]
  | 4 => [2, 3]
  | _ => []
def mu_36 : List Nat := []
def in_36 : List Nat := [0]
theorem named_A (c : List (List UInt8)) (hc : c.length ≤ 1048576) (hs : ∀ s, s ∈ c → s.length ≤ 1048576) (H : Heap) (K : V → Heap → Prop) (hk : K (namedV c) H) :
    ACalls Tryd.prog 36 [.d (.sl 1 (c.map strRow))] H K := by
  have hr := fun H K hk => relCheck_A ⟨c, []⟩ (shR_cols hc hs) H K hk
  simp only [relCols, rlV, List.map_nil] at hr
  replace hr := fun H K hk => ACalls_sees1 (Sees_nilRows c) (hr H K hk)
  unfold namedV at hk
  refine ACalls_of Tryd.func36 rfl in_36 (Nat.le_of_ble_eq_true rfl) ?_
  intro F hF
  simp (dsimp := false) only [go_sem, Nat.reduceAdd, Nat.reduceBEq, Nat.reduceEqDiff, Nat.reduceLT, Nat.reduceLeDiff, Nat.reduceMul, Int.reduceToNat, reduceCtorEq, ↓reduceIte, Tryd.ntmps36, Tryd.results36, ks_36, mu_36, ti_hb30, ti_pl51, ti_zr51, strRow, rlV, in_36] at hF
  subst hF
  repeat' (first | with_reducible (first | refine And.intro ?_ ?_ | intro _ | refine AWp_seq ?_ | refine AWp_block ?_ | (refine hKv _ _ (AWp_nop ?_); clear hKv Kv) | (refine hKA ?_; clear hKA hKB KA KB) | (refine hKB ?_; clear hKA hKB KA KB) | refine AWp_skipN ?_ | refine AWp_exitO (by repeat (first | exact Out.hit | apply Out.thenA | apply Out.out rfl)) ?_) | ((first | with_reducible (first | (refine hKv _ _ ?_; clear hKv Kv) | ((first | refine AWp_regC mu_36 ks_36 ?_ | refine AWp_regE mu_36 ks_36 ?_); intro Kv hKv) | refine AWp_retR ?_) | refine hr _ _ ?_); try simp (dsimp := false) only [go_sem, Nat.reduceAdd, Nat.reduceBEq, Nat.reduceEqDiff, Nat.reduceLT, Nat.reduceLeDiff, Nat.reduceMul, Int.reduceToNat, reduceCtorEq, ↓reduceIte, Tryd.ntmps36, Tryd.results36, ks_36, mu_36, ti_hb30, ti_pl51, ti_zr51, strRow, rlV]) | (refine AWp_condC rfl ?_; intro KA KB hKA hKB; try simp only [onB_true, onB_false, onB_dec, onB_ndec, onB_not, onB_and, onB_or]) | (refine AWp_condA rfl ?_ ?_) | with_reducible (first | refine onB_of ?_ ?_ | rfl) | omega)
  · rename_i h
    rw [if_pos h, h] at hk
    exact keepK hk (by simp [Bel_tu, Bel_d]) rfl
  · rename_i h
    rw [if_neg h, List.map_nil] at hk
    exact keepFz hk (Fz_tu2 (.nil _) (.same _)) (by simp [Bel_tu, Bel_d])
def ks_41 : Nat → List Nat
  | 0 => [0, 1]
  | 1 => [0, 1, 5]
  | 2 => [0, 1, 5, 9]
  | 3 => [0, 1, 5]
  | 4 => [0, 1, 5, 17]
  | 5 => [4]
  | 6 => [4]
  | _ => []
def mu_41 : List Nat := []
def in_41 : List Nat := [0, 1]
theorem hasText_A (l : List (List UInt8)) (s : List UInt8) (hlen : l.length ≤ 9223372036854775807) (H : Heap) (K : V → Heap → Prop) (hk : K (.d (.b (decide (s ∈ l)))) H) :
    ACalls Tryd.prog 41 [.d (.sl 1 (l.map strRow)), .d (.s s)] H K := by
  refine ACalls_of Tryd.func41 rfl in_41 (Nat.le_of_ble_eq_true rfl) ?_
  intro F hF
  simp (dsimp := false) only [go_sem, Nat.reduceAdd, Nat.reduceBEq, Nat.reduceEqDiff, Nat.reduceLT, Nat.reduceLeDiff, Nat.reduceMul, Int.reduceToNat, reduceCtorEq, ↓reduceIte, Tryd.ntmps41, Tryd.results41, ks_41, mu_41, ti_ag9, ti_sb48, ti_sl48, in_41] at hF
  subst hF
  repeat' (first | with_reducible (first | refine And.intro ?_ ?_ | intro _ | refine AWp_seq ?_ | refine AWp_block ?_ | (refine hKv _ _ (AWp_nop ?_); clear hKv Kv) | (refine hKA ?_; clear hKA hKB KA KB) | (refine hKB ?_; clear hKA hKB KA KB) | refine AWp_skipN ?_ | refine AWp_exitO (by repeat (first | exact Out.hit | apply Out.thenA | apply Out.out rfl)) ?_) | (with_reducible (first | (refine hKv _ _ ?_; clear hKv Kv) | ((first | refine AWp_regC mu_41 ks_41 ?_ | refine AWp_regE mu_41 ks_41 ?_); intro Kv hKv) | refine AWp_retR ?_); try simp (dsimp := false) only [go_sem, Nat.reduceAdd, Nat.reduceBEq, Nat.reduceEqDiff, Nat.reduceLT, Nat.reduceLeDiff, Nat.reduceMul, Int.reduceToNat, reduceCtorEq, ↓reduceIte, Tryd.ntmps41, Tryd.results41, ks_41, mu_41, ti_ag9, ti_sb48, ti_sl48]) | (refine AWp_condC rfl ?_; intro KA KB hKA hKB; try simp only [onB_true, onB_false, onB_dec, onB_ndec, onB_not, onB_and, onB_or]) | (refine AWp_condA rfl ?_ ?_) | with_reducible (first | refine onB_of ?_ ?_ | rfl) | omega)
  refine AWp_while0 (fun i : Nat => i ≤ l.length ∧ (s ∈ l ↔ s ∈ l.drop i)) (fun i => [(0, .d (.sl 1 (l.map strRow))), (1, .d (.s s)), (5, .d (.i .i64 i))]) (fun i => l.length - i) 0 ⟨Nat.zero_le _, by simp⟩ ?_ ?_
  · simp (dsimp := false) only [go_sem, Nat.reduceAdd, Nat.reduceBEq, Nat.reduceEqDiff, Nat.reduceLT, Nat.reduceLeDiff, Nat.reduceMul, Int.reduceToNat, reduceCtorEq, ↓reduceIte, Tryd.ntmps41, Tryd.results41, ks_41, mu_41, ti_ag9, ti_sb48, ti_sl48]
    first | done | simp
  rintro i ⟨hi, hm⟩
  by_cases hil : i < l.length
  · obtain ⟨x, hx⟩ : ∃ x, l[i]? = some x := ⟨l[i], List.getElem?_eq_getElem hil⟩
    rw [drop_of_get hx, List.mem_cons] at hm
    repeat' (first | with_reducible (first | refine And.intro ?_ ?_ | intro _ | refine AWp_seq ?_ | refine AWp_block ?_ | (refine hKv _ _ (AWp_nop ?_); clear hKv Kv) | (refine hKA ?_; clear hKA hKB KA KB) | (refine hKB ?_; clear hKA hKB KA KB) | refine AWp_skipN ?_ | refine AWp_exitO (by repeat (first | exact Out.hit | apply Out.thenA | apply Out.out rfl)) ?_) | (with_reducible (first | (refine hKv _ _ ?_; clear hKv Kv) | ((first | refine AWp_regC mu_41 ks_41 ?_ | refine AWp_regE mu_41 ks_41 ?_); intro Kv hKv) | refine AWp_retR ?_); try simp (dsimp := false) only [go_sem, Nat.reduceAdd, Nat.reduceBEq, Nat.reduceEqDiff, Nat.reduceLT, Nat.reduceLeDiff, Nat.reduceMul, Int.reduceToNat, reduceCtorEq, ↓reduceIte, Tryd.ntmps41, Tryd.results41, ks_41, mu_41, ti_ag9, ti_sb48, ti_sl48, hx]) | (refine AWp_condC rfl ?_; intro KA KB hKA hKB; try simp only [onB_true, onB_false, onB_dec, onB_ndec, onB_not, onB_and, onB_or]) | (refine AWp_condA rfl ?_ ?_) | with_reducible (first | refine onB_of ?_ ?_ | rfl) | omega)
    all_goals first
      | exact keepD hk (by rw [decide_eq_true (hm.2 (.inl (by first | assumption | (symm; assumption))))])
      | exact ⟨i + 1, ⟨by omega, hm.trans ⟨fun h => h.elim (fun e => absurd e.symm (by assumption)) id, .inr⟩⟩, by omega, by omega⟩
      | exact ⟨i + 1, ⟨by omega, hm.trans ⟨fun h => h.elim (fun e => absurd e (by assumption)) id, .inr⟩⟩, by omega, by omega⟩
  ·
    repeat' (first | with_reducible (first | refine And.intro ?_ ?_ | intro _ | refine AWp_seq ?_ | refine AWp_block ?_ | (refine hKv _ _ (AWp_nop ?_); clear hKv Kv) | (refine hKA ?_; clear hKA hKB KA KB) | (refine hKB ?_; clear hKA hKB KA KB) | refine AWp_skipN ?_ | refine AWp_exitO (by repeat (first | exact Out.hit | apply Out.thenA | apply Out.out rfl)) ?_) | (with_reducible (first | (refine hKv _ _ ?_; clear hKv Kv) | ((first | refine AWp_regC mu_41 ks_41 ?_ | refine AWp_regE mu_41 ks_41 ?_); intro Kv hKv) | refine AWp_retR ?_); try simp (dsimp := false) only [go_sem, Nat.reduceAdd, Nat.reduceBEq, Nat.reduceEqDiff, Nat.reduceLT, Nat.reduceLeDiff, Nat.reduceMul, Int.reduceToNat, reduceCtorEq, ↓reduceIte, Tryd.ntmps41, Tryd.results41, ks_41, mu_41, ti_ag9, ti_sb48, ti_sl48]) | (refine AWp_condC rfl ?_; intro KA KB hKA hKB; try simp only [onB_true, onB_false, onB_dec, onB_ndec, onB_not, onB_and, onB_or]) | (refine AWp_condA rfl ?_ ?_) | with_reducible (first | refine onB_of ?_ ?_ | rfl) | omega)
    rw [List.drop_eq_nil_of_le (by omega)] at hm
    all_goals exact keepD hk (by rw [decide_eq_false (fun h => by simpa using hm.1 h)])
end Go.Proofs.YtppalmoicjogaaaDoor
