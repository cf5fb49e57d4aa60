/- Steps from nodes: the nodes of each tree. No condition. -/
import Derived.Test.YtpgdflhcmijaiaaDoorZ40
import Derived.Test.YtpgdflhcmijaiaaDoorZ41
set_option linter.all false
set_option linter.unusedSimpArgs false
set_option linter.unusedVariables false
namespace Go.Proofs.YtpgdflhcmijaiaaDoor
open Go Go.Proofs.YtpgdflhcmijaiaaDoor.Ab
variable [Glo]
set_option maxHeartbeats 4000000
set_option maxRecDepth 20000
def grD (g : List Nat) : List D := [.sl 1 (g.map natR)]
def grC (g : List Nat) : List V := [.d (.sl 1 (g.map natR))]
theorem grC_data : ∀ G : List (List Nat), dsRows (G.map grC) = some (G.map grD)
  | [] => rfl
  | x :: G => by
    have := grC_data G
    simp only [List.map_cons, dsRows, this]
    rfl
theorem grp_snoc {l : List Nd} {C DL : List (List Nat)} {g : List Nat} {C' : List Nat} (h : Grp l C' (DL ++ [g])) (hne : g ≠ []) {n : Nat} (e : rt l n = rt l (g.headD 0)) : Grp l (C' ++ [n]) (DL ++ [g ++ [n]]) := by
  have hgm : g ∈ DL ++ [g] := by simp
  have hx : ∀ a, a ∈ g → rt l a = rt l n := fun a ha => by rw [e]; exact h.same g hgm a ha _ (head_mem hne)
  refine ⟨?_, fun g' hg' => ?_, fun g' hg' => ?_, ?_⟩
  · have := h.fl
    simp only [List.flatten_append, List.flatten_cons, List.flatten_nil, List.append_nil] at this ⊢
    rw [← this, List.append_assoc]
  · rcases List.mem_append.1 hg' with h1 | h1
    · exact h.ne g' (by simp [h1])
    · rw [List.mem_singleton.1 h1]; simp
  · rcases List.mem_append.1 hg' with h1 | h1
    · exact h.same g' (by simp [h1])
    · rw [List.mem_singleton.1 h1]
      intro a ha b hb
      have key : ∀ a, a ∈ g ++ [n] → rt l a = rt l n := fun a ha => by
        rcases List.mem_append.1 ha with h2 | h2
        · exact hx a h2
        · rw [List.mem_singleton.1 h2]
      rw [key a ha, key b hb]
  · have hp := h.lt
    rw [List.pairwise_append] at hp ⊢
    refine ⟨hp.1, by simp, fun g1 h1 g2 h2 a ha b hb => ?_⟩
    rw [List.mem_singleton.1 h2] at hb
    have h3 := hp.2.2 g1 h1 g (by simp)
    rcases List.mem_append.1 hb with h4 | h4
    · exact h3 a ha b h4
    · rw [List.mem_singleton.1 h4, e]
      exact h3 a ha _ (head_mem hne)
theorem grp_new {l : List Nd} (hg : Good l l.length) {DL : List (List Nat)} {g : List Nat} {C' : List Nat} (h : Grp l C' (DL ++ [g])) (hne : g ≠ []) {n : Nat} (hn : n < l.length) (hlt : ∀ c, c ∈ C' → c < n) (e : rt l n ≠ rt l (g.headD 0)) : Grp l (C' ++ [n]) (DL ++ [g] ++ [[n]]) := by
  refine ⟨?_, fun g' hg' => ?_, fun g' hg' => ?_, ?_⟩
  · rw [List.flatten_append, h.fl]; simp
  · rcases List.mem_append.1 hg' with h1 | h1
    · exact h.ne g' h1
    · rw [List.mem_singleton.1 h1]; simp
  · rcases List.mem_append.1 hg' with h1 | h1
    · exact h.same g' h1
    · rw [List.mem_singleton.1 h1]
      intro a ha b hb
      rw [List.mem_singleton.1 ha, List.mem_singleton.1 hb]
  · rw [List.pairwise_append]
    refine ⟨h.lt, by simp, fun g1 h1 g2 h2 a ha b hb => ?_⟩
    rw [List.mem_singleton.1 h2] at hb
    rw [List.mem_singleton.1 hb]
    have hgm : g ∈ DL ++ [g] := by simp
    have hh := head_mem hne
    have h0 := rt_mono hg hn (Nat.le_of_lt (hlt _ (h.mem hgm hh)))
    have hle : rt l a ≤ rt l (g.headD 0) := by
      have hp := h.lt
      rw [List.pairwise_append] at hp
      rcases List.mem_append.1 h1 with h3 | h3
      · exact Nat.le_of_lt (hp.2.2 g1 h3 g (by simp) a ha _ hh)
      · rw [List.mem_singleton.1 h3] at ha
        rw [h.same g hgm a ha _ hh]
        exact Nat.le_refl _
    omega
theorem grp_one (l : List Nd) (n : Nat) : Grp l [n] [[n]] := ⟨rfl, fun g hg => by rw [List.mem_singleton.1 hg]; simp, fun g hg a ha b hb => by
  rw [List.mem_singleton.1 hg] at ha hb
  rw [List.mem_singleton.1 ha, List.mem_singleton.1 hb], by simp⟩
theorem grp_len {l : List Nd} {C : List Nat} {G : List (List Nat)} (h : Grp l C G) : G.length ≤ C.length := by
  rw [← h.fl]
  have hne := h.ne
  clear h
  induction G with
  | nil => exact Nat.le_refl _
  | cons g G ih =>
    have h1 := ih fun g' hg' => hne g' (by simp [hg'])
    have h2 : g.length ≠ 0 := fun e => hne g (by simp) (List.eq_nil_of_length_eq_zero e)
    simp only [List.length_cons, List.flatten_cons, List.length_append]
    omega
def trH (H : Heap) : Option (List (List Nat) × List Nat) → Heap
  | none => H ++ [.row 0 35 1 []]
  | some (DL, g) => H ++ (.row (DL.length + 1) 35 1 (DL.map grC ++ [[.os (H.length + (DL.length + 1)) (g.length - 1)]]) :: (List.replicate DL.length .dead ++ [.row (g.length - 1) 3 1 (g.map natC)]))
def trL (l : List Nd) : Option (List (List Nat) × List Nat) → Int
  | none => -1
  | some (_, g) => rt l (g.headD 0)
def trV : Option (List (List Nat) × List Nat) → Nat
  | none => 0
  | some (DL, _) => DL.length + 1
theorem tr_get (H : Heap) (A B : Ob) (d : Nat) : (H ++ (A :: (List.replicate d .dead ++ [B])))[H.length + (d + 1)]? = some B := by
  rw [List.getElem?_append_right (by omega), show H.length + (d + 1) - H.length = d + 1 by omega, List.getElem?_cons_succ, List.getElem?_append_right (by simp), List.length_replicate, Nat.sub_self]
  first | done | rfl
theorem tr_set (H : Heap) (A B X : Ob) (d : Nat) : (H ++ (A :: (List.replicate d .dead ++ [B]))).set (H.length + (d + 1)) X = H ++ (A :: (List.replicate d .dead ++ [X])) := by
  rw [List.set_append_right _ _ (by omega), show H.length + (d + 1) - H.length = d + 1 by omega, List.set_cons_succ, List.set_append_right _ _ (by simp), List.length_replicate, Nat.sub_self]
  first | done | rfl
theorem tr_bel {H : Heap} {s : Option (List (List Nat) × List Nat)} : Closed H (trH H s) := by
  cases s with
  | none =>
    exact closed_app fun ob hob => by
      rw [List.mem_singleton.1 hob]
      intro row hr
      cases hr
  | some s =>
    obtain ⟨DL, g⟩ := s
    refine closed_app fun ob hob => ?_
    rcases List.mem_cons.1 hob with rfl | hob
    · intro row hr v hv
      rcases List.mem_append.1 hr with hr | hr
      · obtain ⟨g', _, rfl⟩ := List.mem_map.1 hr
        rw [List.mem_singleton.1 hv]
        exact .d _
      · rw [List.mem_singleton.1 hr] at hv
        rw [List.mem_singleton.1 hv]
        exact .os _ _ (by simp)
    · rcases List.mem_append.1 hob with hob | hob
      · rw [(List.mem_replicate.1 hob).2]; exact trivial
      · rw [List.mem_singleton.1 hob]
        intro row hr v hv
        obtain ⟨i, _, rfl⟩ := List.mem_map.1 hr
        rw [List.mem_singleton.1 hv]
        exact .d _
def ks_50 : Nat → List Nat
  | 0 => [0, 1]
  | 1 => [0, 1, 5]
  | 2 => [0, 1, 5, 6]
  | 3 => [0, 5, 6, 10, 11, 12]
  | 4 => [0, 5, 6, 10, 11, 12, 13]
  | 5 => [0, 5, 6, 8, 10, 11, 12]
  | 6 => [0, 5, 6, 8, 9, 10, 11, 12]
  | 7 => [0, 5, 6, 8, 9, 10, 11, 12, 21]
  | 8 => [0, 5, 8, 9, 10, 11, 12]
  | 9 => [0, 5, 6, 8, 10, 11, 12]
  | 10 => [0, 5, 6, 10, 11, 12]
  | 11 => [0, 5, 6, 10, 11, 12]
  | 12 => [4]
  | _ => []
def mu_50 : List Nat := [5, 38]
def in_50 : List Nat := [0, 1]
theorem trees_A (l : List Nd) (hg : Good l l.length) (hN : l.length ≤ 100000) (axis : Int) (t : Ts) (idw ido : Nat) (L C : List Nat) (hr : Rise C) (hC : ∀ c, c ∈ C → c < l.length) (hCl : C.length ≤ 100000) (H : Heap) (K : V → Heap → Prop) (hW : Wk H idw ido l axis t L)
    (hk : ∀ G, Grp l C G → K (.d (.sl 1 (G.map grD))) H) : ACalls Tryd.prog 50 [.pt idw 0 0 0, .d (.sl 1 (C.map natR))] H K := by
  have hwl := hW.hw
  have hWt : ∀ s, Wk (trH H s) idw ido l axis t L := fun s => by
    cases s with
    | none => exact hW.app _
    | some s => exact hW.app _
  have hlt : ∀ s, H.length < (trH H s).length := fun s => by
    cases s with
    | none => simp [trH]
    | some s => simp [trH]
  refine ACalls_of Tryd.func50 rfl in_50 (Nat.le_of_ble_eq_true rfl) ?_
  intro F hF
  simp (dsimp := false) only [go_sem, Nat.reduceAdd, Nat.reduceBEq, Nat.reduceEqDiff, Nat.reduceLT, Nat.reduceLeDiff, Nat.reduceMul, Int.reduceToNat, reduceCtorEq, ↓reduceIte, Tryd.ntmps50, Tryd.results50, ks_50, mu_50, ti_ag3, ti_ag35, ti_hb77, ti_sb35, ti_sb76, ti_sl35, ti_sl76, ti_sz35, ndD, ndV, tsV, hwl, in_50] at hF
  subst hF
  repeat' (first | with_reducible (first | refine And.intro ?_ ?_ | intro _ | refine AWp_seq ?_ | refine AWp_block ?_ | (refine hKv _ _ (AWp_nop ?_); clear hKv Kv) | (refine hKA ?_; clear hKA hKB KA KB) | (refine hKB ?_; clear hKA hKB KA KB) | refine AWp_skipN ?_ | refine AWp_exitO (by repeat (first | exact Out.hit | apply Out.thenA | apply Out.out rfl)) ?_) | (with_reducible (first | (refine hKv _ _ ?_; clear hKv Kv) | ((first | refine AWp_regC mu_50 ks_50 ?_ | refine AWp_regE mu_50 ks_50 ?_); intro Kv hKv) | refine AWp_retR ?_); try simp (dsimp := false) only [go_sem, Nat.reduceAdd, Nat.reduceBEq, Nat.reduceEqDiff, Nat.reduceLT, Nat.reduceLeDiff, Nat.reduceMul, Int.reduceToNat, reduceCtorEq, ↓reduceIte, Tryd.ntmps50, Tryd.results50, ks_50, mu_50, ti_ag3, ti_ag35, ti_hb77, ti_sb35, ti_sb76, ti_sl35, ti_sl76, ti_sz35, ndD, ndV, tsV, hwl]) | (refine AWp_condC rfl ?_; intro KA KB hKA hKB; try simp only [onB_true, onB_false, onB_dec, onB_ndec, onB_not, onB_and, onB_or]) | (refine AWp_condA rfl ?_ ?_) | with_reducible (first | refine onB_of ?_ ?_ | rfl) | omega)
  refine AWp_whileP (fun y : Nat × Option (List (List Nat) × List Nat) => y.1 ≤ C.length ∧ (y.2 = none ∧ y.1 = 0 ∨ ∃ DL g, y.2 = some (DL, g) ∧ g ≠ [] ∧ Grp l (C.take y.1) (DL ++ [g])))
    (fun y => [(0, .pt idw 0 0 0), (5, .os H.length (trV y.2)), (6, .d (.i .i64 (trL l y.2))), (10, .d (.sl 1 (C.map natR))), (11, .d (.i .i64 C.length)), (12, .d (.i .i64 y.1))])
    (fun y => trH H y.2) (fun y => C.length - y.1) (0, none) ⟨Nat.zero_le _, .inl ⟨rfl, rfl⟩⟩ ?_ ?_ ?_ ?_ ?_
  · first | rfl
  · simp (dsimp := false) only [go_sem, Nat.reduceAdd, Nat.reduceBEq, Nat.reduceEqDiff, Nat.reduceLT, Nat.reduceLeDiff, Nat.reduceMul, Int.reduceToNat, reduceCtorEq, ↓reduceIte, Tryd.ntmps50, Tryd.results50, ks_50, mu_50, ti_ag3, ti_ag35, ti_hb77, ti_sb35, ti_sb76, ti_sl35, ti_sl76, ti_sz35, ndD, ndV, tsV, hwl]
    first | done | ((repeat' (refine And.intro ?_ ?_)) <;> first | rfl | (simp [trH]; done) | (simp [trH]; omega)) | (simp [trH, trL, trV, hwl]; done) | (simp [trH, trL, trV, hwl]; omega)
  · intro y _
    exact Nat.le_of_lt (hlt _)
  · intro y _
    exact tr_bel
  rintro ⟨k, s⟩ ⟨hk1, hs⟩
  simp only [] at hk1 hs ⊢
  by_cases hkC : k < C.length
  · obtain ⟨n, hn⟩ : ∃ n, C[k]? = some n := ⟨C[k], List.getElem?_eq_getElem hkC⟩
    have hnl := hC n (List.mem_of_getElem? hn)
    have k1 : ((k : Int) < (C.length : Int)) = True := eq_true (by omega)
    have k0 : ((0 : Int) ≤ (k : Int)) = True := eq_true (by omega)
    have ek : (k : Int) + 1 = ((k + 1 : Nat) : Int) := by omega
    have hro := fun K hk => root_A l hg hN axis t idw ido L n hnl (trH H s) K (hWt s) hk
    have htk := take_of_get hn
    have hcl1 : ∀ X, (∀ ob, ob ∈ X → ∀ m, ObBel m ob) → Closed H (H ++ X) := fun X h => closed_app fun ob hob => h ob hob _
    have hnil : ∀ (v e : Nat) (rows : List (List Nat)) m, ObBel m (.row v e 1 (rows.map grC ++ [[.d (.c (.slice none 0 0))]])) := fun v e rows m row hr v hv => by
      rcases List.mem_append.1 hr with hr | hr
      · obtain ⟨g', _, rfl⟩ := List.mem_map.1 hr
        rw [List.mem_singleton.1 hv]
        exact .d _
      · rw [List.mem_singleton.1 hr] at hv
        rw [List.mem_singleton.1 hv]
        exact .d _
    rcases hs with ⟨rfl, rfl⟩ | ⟨DL, g, rfl, hgne, hG⟩
    · have hne : ((rt l n : Int) = -1) = False := eq_false (by omega)
      have z1 : ((1 : Nat) : Int) - 1 = 0 := rfl
      have z2 : ((0 : Int) < ((1 : Nat) : Int)) = True := eq_true (by omega)
      rw [trH] at hro
      have hstep : Grp l (C.take (0 + 1)) ([] ++ [[n]]) := by rw [htk]; exact grp_one l n
      repeat' (first | with_reducible (first | refine And.intro ?_ ?_ | intro _ | refine AWp_seq ?_ | refine AWp_block ?_ | (refine hKv _ _ (AWp_nop ?_); clear hKv Kv) | (refine hKA ?_; clear hKA hKB KA KB) | (refine hKB ?_; clear hKA hKB KA KB) | refine AWp_skipN ?_ | refine AWp_exitO (by repeat (first | exact Out.hit | apply Out.thenA | apply Out.out rfl)) ?_) | ((first | with_reducible (first | (refine hKv _ _ ?_; clear hKv Kv) | ((first | refine AWp_regC mu_50 ks_50 ?_ | refine AWp_regE mu_50 ks_50 ?_); intro Kv hKv) | refine AWp_retR ?_) | refine hro _ ?_); try simp (dsimp := false) only [go_sem, Nat.reduceAdd, Nat.reduceBEq, Nat.reduceEqDiff, Nat.reduceLT, Nat.reduceLeDiff, Nat.reduceMul, Int.reduceToNat, reduceCtorEq, ↓reduceIte, Tryd.ntmps50, Tryd.results50, ks_50, mu_50, ti_ag3, ti_ag35, ti_hb77, ti_sb35, ti_sb76, ti_sl35, ti_sl76, ti_sz35, ndD, ndV, tsV, natR, trH, trL, trV, hwl, hn, k0, k1, ek, hne, z1, z2, Int.reduceSub, Int.reduceLE, Int.reduceLT]) | (refine AWp_condC rfl ?_; intro KA KB hKA hKB; try simp only [onB_true, onB_false, onB_dec, onB_ndec, onB_not, onB_and, onB_or]) | (refine AWp_condA rfl ?_ ?_) | with_reducible (first | refine onB_of ?_ ?_ | rfl) | omega)
      all_goals first
        | omega
        | exact hcl1 _ fun ob hob m => by rw [List.mem_singleton.1 hob]; exact hnil _ _ [] m
        | exact ⟨(1, some ([], [n])), ⟨by show 1 ≤ C.length; omega, .inr ⟨[], [n], rfl, by simp, hstep⟩⟩, by show C.length - 1 < C.length - 0; omega, rfl, by (repeat' (refine And.intro ?_ ?_)) <;> first | rfl | omega | (simp [trH]; done) | (simp [trH, trL, trV]; done) | (simp [trH, trL, trV]; omega)⟩
    · have hlast : (g.headD 0) ∈ g := head_mem hgne
      have hgl := grp_len hG
      rw [List.length_append, List.length_singleton, List.length_take] at hgl
      have hg0 : g.length ≠ 0 := fun e => hgne (List.eq_nil_of_length_eq_zero e)
      have hgC : g.length ≤ C.length := by
        have h1 : (DL ++ [g]).flatten.length = (C.take k).length := by rw [hG.fl]
        simp only [List.flatten_append, List.flatten_cons, List.flatten_nil, List.append_nil, List.length_append, List.length_take] at h1
        omega
      by_cases hrr : rt l n = rt l (g.headD 0)
      · have hne : ((rt l n : Int) = (rt l (g.headD 0) : Int)) = True := eq_true (by omega)
        have p0 : ((0 : Int) ≤ ((DL.length + 1 : Nat) : Int) - 1) = True := eq_true (by omega)
        have p1 : (((DL.length + 1 : Nat) : Int) - 1 < ((DL.length + 1 : Nat) : Int)) = True := eq_true (by omega)
        have p2 : (((DL.length + 1 : Nat) : Int) - 1).toNat = DL.length := by omega
        have p3 : ∀ X : List V, (DL.map grC ++ [X])[DL.length]? = some X := fun X => by rw [List.getElem?_append_right (by rw [List.length_map]; exact Nat.le_refl _), List.length_map, Nat.sub_self]; rfl
        have p4 : ∀ X Y : List V, (DL.map grC ++ [X]).set DL.length Y = DL.map grC ++ [Y] := fun X Y => by rw [List.set_append_right _ _ (by rw [List.length_map]; exact Nat.le_refl _), List.length_map, Nat.sub_self]; rfl
        have p5 : ∀ A B, (A :: (List.replicate DL.length Ob.dead ++ [B]))[DL.length + 1]? = some B := fun A B => by rw [List.getElem?_cons_succ, List.getElem?_append_right (by rw [List.length_replicate]; exact Nat.le_refl _), List.length_replicate, Nat.sub_self]; rfl
        have p6 : ∀ B X, (List.replicate DL.length Ob.dead ++ [B]).set DL.length X = List.replicate DL.length Ob.dead ++ [X] := fun B X => by rw [List.set_append_right _ _ (by rw [List.length_replicate]; exact Nat.le_refl _), List.length_replicate, Nat.sub_self]; rfl
        have p7 : g.length - 1 + 1 = g.length := by omega
        have p8 : (g ++ [n]).length - 1 = g.length := by simp
        have hstep : Grp l (C.take (k + 1)) (DL ++ [g ++ [n]]) := by rw [htk]; exact grp_snoc (C := DL) hG hgne hrr
        have hhd : (g ++ [n]).headD 0 = g.headD 0 := by
          cases g with
          | nil => exact absurd rfl hgne
          | cons a g => rfl
        rw [trH] at hro
        repeat' (first | with_reducible (first | refine And.intro ?_ ?_ | intro _ | refine AWp_seq ?_ | refine AWp_block ?_ | (refine hKv _ _ (AWp_nop ?_); clear hKv Kv) | (refine hKA ?_; clear hKA hKB KA KB) | (refine hKB ?_; clear hKA hKB KA KB) | refine AWp_skipN ?_ | refine AWp_exitO (by repeat (first | exact Out.hit | apply Out.thenA | apply Out.out rfl)) ?_) | ((first | with_reducible (first | (refine hKv _ _ ?_; clear hKv Kv) | ((first | refine AWp_regC mu_50 ks_50 ?_ | refine AWp_regE mu_50 ks_50 ?_); intro Kv hKv) | refine AWp_retR ?_) | refine hro _ ?_); try simp (dsimp := false) only [go_sem, Nat.reduceAdd, Nat.reduceBEq, Nat.reduceEqDiff, Nat.reduceLT, Nat.reduceLeDiff, Nat.reduceMul, Int.reduceToNat, reduceCtorEq, ↓reduceIte, Tryd.ntmps50, Tryd.results50, ks_50, mu_50, ti_ag3, ti_ag35, ti_hb77, ti_sb35, ti_sb76, ti_sl35, ti_sl76, ti_sz35, ndD, ndV, tsV, natR, trH, trL, trV, hwl, hn, k0, k1, ek, hne, p0, p1, p2, p3, p4, p5, p6, p7]) | (refine AWp_condC rfl ?_; intro KA KB hKA hKB; try simp only [onB_true, onB_false, onB_dec, onB_ndec, onB_not, onB_and, onB_or]) | (refine AWp_condA rfl ?_ ?_) | with_reducible (first | refine onB_of ?_ ?_ | rfl) | omega)
        all_goals first
          | omega
          | exact ⟨(k + 1, some (DL, g ++ [n])), ⟨by show k + 1 ≤ C.length; omega, .inr ⟨DL, g ++ [n], rfl, by simp, hstep⟩⟩, by show C.length - (k + 1) < C.length - k; omega, by (simp only [trH, p8, List.map_append]; rfl), by (repeat' (refine And.intro ?_ ?_)) <;> first | rfl | omega | (simp only [trH, trL, trV, hhd]; done) | (simp [trH]; done) | (simp [trH, trL, trV]; done) | (simp [trH, trL, trV]; omega)⟩
      · have hne : ((rt l n : Int) = (rt l (g.headD 0) : Int)) = False := eq_false (by omega)
        have hstep : Grp l (C.take (k + 1)) (DL ++ [g] ++ [[n]]) := by
          rw [htk]
          exact grp_new hg hG hgne hnl (fun c hc => by
            obtain ⟨i, hi⟩ := List.getElem?_of_mem hc
            rw [List.getElem?_take] at hi
            split at hi
            · exact hr.lt hi hn (by assumption)
            · cases hi) hrr
        clear hro
        rw [trH]
        refine AWp_frzR (H.length + (DL.length + 1)) H.length DL.length 0 (by omega) (tr_get H _ _ DL.length) (natC_data g) (get_app0 _ _) (by rw [List.getElem?_append_right (by rw [List.length_map]; exact Nat.le_refl _), List.length_map, Nat.sub_self]; rfl) rfl ?_
        have hfr : ∀ (v1 v2 : Nat) (a b c d e : V), frz (H.length + (DL.length + 1)) (g.length - 1) (.sl 1 (g.map natR)) [(0, .pt idw 0 0 0), (5, .os H.length v1), (6, .d (.i .i64 v2)), (10, .d (.sl 1 (C.map natR))), (11, .d (.i .i64 C.length)), (12, .d (.i .i64 k))] = [(0, .pt idw 0 0 0), (5, .os H.length v1), (6, .d (.i .i64 v2)), (10, .d (.sl 1 (C.map natR))), (11, .d (.i .i64 C.length)), (12, .d (.i .i64 k))] := fun v1 v2 _ _ _ _ _ => by
          have : ¬ (H.length = H.length + (DL.length + 1) ∧ v1 = g.length - 1) := fun h => by omega
          simp [frz, frzV, this]
        simp only [trV, trL]
        rw [hfr _ _ .un .un .un .un .un]
        have hheap : ((H ++ (Ob.row (DL.length + 1) 35 1 (DL.map grC ++ [[V.os (H.length + (DL.length + 1)) (g.length - 1)]]) :: (List.replicate DL.length Ob.dead ++ [.row (g.length - 1) 3 1 (g.map natC)]))).set (H.length + (DL.length + 1)) Ob.dead).set H.length (Ob.row (DL.length + 1) 35 1 ((DL.map grC ++ [[V.os (H.length + (DL.length + 1)) (g.length - 1)]]).set DL.length ([V.os (H.length + (DL.length + 1)) (g.length - 1)].set 0 (V.d (D.sl 1 (g.map natR)))))) = H ++ (Ob.row (DL ++ [g]).length 35 1 ((DL ++ [g]).map grC) :: List.replicate (DL ++ [g]).length Ob.dead) := by
          rw [tr_set, set_app0, List.set_append_right _ _ (by rw [List.length_map]; exact Nat.le_refl _), List.length_map, Nat.sub_self, List.length_append, List.length_singleton, List.map_append, List.replicate_succ']
          rfl
        rw [hheap, show DL.length + 1 = (DL ++ [g]).length by simp]
        have hD1 : (DL ++ [g]).length ≤ 100000 := by rw [List.length_append, List.length_singleton]; omega
        generalize DL ++ [g] = D2 at hstep hD1 ⊢
        have hro := fun K hk => root_A l hg hN axis t idw ido L n hnl (H ++ (.row D2.length 35 1 (D2.map grC) :: List.replicate D2.length .dead)) K (hW.app _) hk
        have p0 : ((0 : Int) ≤ ((D2.length + 1 : Nat) : Int) - 1) = True := eq_true (by omega)
        have p1 : (((D2.length + 1 : Nat) : Int) - 1 < ((D2.length + 1 : Nat) : Int)) = True := eq_true (by omega)
        have p2 : (((D2.length + 1 : Nat) : Int) - 1).toNat = D2.length := by omega
        have p3 : ∀ X : List V, (D2.map grC ++ [X])[D2.length]? = some X := fun X => by rw [List.getElem?_append_right (by rw [List.length_map]; exact Nat.le_refl _), List.length_map, Nat.sub_self]; rfl
        have p4 : ∀ X Y : List V, (D2.map grC ++ [X]).set D2.length Y = D2.map grC ++ [Y] := fun X Y => by rw [List.set_append_right _ _ (by rw [List.length_map]; exact Nat.le_refl _), List.length_map, Nat.sub_self]; rfl
        have p5 : ∀ B : Ob, (List.replicate D2.length Ob.dead ++ [B])[D2.length]? = some B := fun B => by rw [List.getElem?_append_right (by rw [List.length_replicate]; exact Nat.le_refl _), List.length_replicate, Nat.sub_self]; rfl
        have hdd : ∀ ob, ob ∈ List.replicate D2.length Ob.dead → ∀ m, ObBel m ob := fun ob hob m => by rw [(List.mem_replicate.1 hob).2]; exact trivial
        have hcB : ∀ (v : Nat), Closed H (H ++ (.row v 35 1 (D2.map grC ++ [[.d (.c (.slice none 0 0))]]) :: List.replicate D2.length .dead)) := fun v => hcl1 _ fun ob hob m => by
          rcases List.mem_cons.1 hob with rfl | hob
          · exact hnil _ _ _ m
          · exact hdd ob hob m
        have hcA : Closed H (H ++ (.row D2.length 35 1 (D2.map grC) :: List.replicate D2.length .dead)) := hcl1 _ fun ob hob m => by
          rcases List.mem_cons.1 hob with rfl | hob
          · intro row hr v hv
            obtain ⟨g', _, rfl⟩ := List.mem_map.1 hr
            rw [List.mem_singleton.1 hv]
            exact .d _
          · exact hdd ob hob m
        repeat' (first | with_reducible (first | refine And.intro ?_ ?_ | intro _ | refine AWp_seq ?_ | refine AWp_block ?_ | (refine hKv _ _ (AWp_nop ?_); clear hKv Kv) | (refine hKA ?_; clear hKA hKB KA KB) | (refine hKB ?_; clear hKA hKB KA KB) | refine AWp_skipN ?_ | refine AWp_exitO (by repeat (first | exact Out.hit | apply Out.thenA | apply Out.out rfl)) ?_) | ((first | with_reducible (first | (refine hKv _ _ ?_; clear hKv Kv) | ((first | refine AWp_regC mu_50 ks_50 ?_ | refine AWp_regE mu_50 ks_50 ?_); intro Kv hKv) | refine AWp_retR ?_) | refine hro _ ?_); try simp (dsimp := false) only [go_sem, Nat.reduceAdd, Nat.reduceBEq, Nat.reduceEqDiff, Nat.reduceLT, Nat.reduceLeDiff, Nat.reduceMul, Int.reduceToNat, reduceCtorEq, ↓reduceIte, Tryd.ntmps50, Tryd.results50, ks_50, mu_50, ti_ag3, ti_ag35, ti_hb77, ti_sb35, ti_sb76, ti_sl35, ti_sl76, ti_sz35, ndD, ndV, tsV, natR, hwl, hn, k0, k1, ek, hne, p0, p1, p2, p3, p4, p5, List.length_replicate]) | (refine AWp_condC rfl ?_; intro KA KB hKA hKB; try simp only [onB_true, onB_false, onB_dec, onB_ndec, onB_not, onB_and, onB_or]) | (refine AWp_condA rfl ?_ ?_) | with_reducible (first | refine onB_of ?_ ?_ | rfl) | omega)
        all_goals first
          | omega
          | exact hcA
          | exact hcB _
          | exact ⟨(k + 1, some (D2, [n])), ⟨by show k + 1 ≤ C.length; omega, .inr ⟨D2, [n], rfl, by simp, hstep⟩⟩, by show C.length - (k + 1) < C.length - k; omega, by (simp only [trH, List.cons_append]; rfl), by (repeat' (refine And.intro ?_ ?_)) <;> first | rfl | omega | (simp [trH]; done) | (simp [trH, trL, trV]; done) | (simp [trH, trL, trV]; omega)⟩
  · obtain rfl : k = C.length := by omega
    have k1 : ((C.length : Int) < (C.length : Int)) = False := eq_false (by omega)
    rcases hs with ⟨rfl, hC0⟩ | ⟨DL, g, rfl, hgne, hG⟩
    · have hCn : C = [] := List.eq_nil_of_length_eq_zero hC0
      have hk0 := hk [] (by rw [hCn]; exact ⟨rfl, fun g h => (by cases h), fun g h => (by cases h), List.Pairwise.nil⟩)
      repeat' (first | with_reducible (first | refine And.intro ?_ ?_ | intro _ | refine AWp_seq ?_ | refine AWp_block ?_ | (refine hKv _ _ (AWp_nop ?_); clear hKv Kv) | (refine hKA ?_; clear hKA hKB KA KB) | (refine hKB ?_; clear hKA hKB KA KB) | refine AWp_skipN ?_ | refine AWp_exitO (by repeat (first | exact Out.hit | apply Out.thenA | apply Out.out rfl)) ?_) | (with_reducible (first | (refine hKv _ _ ?_; clear hKv Kv) | ((first | refine AWp_regC mu_50 ks_50 ?_ | refine AWp_regE mu_50 ks_50 ?_); intro Kv hKv) | refine AWp_retR ?_); try simp (dsimp := false) only [go_sem, Nat.reduceAdd, Nat.reduceBEq, Nat.reduceEqDiff, Nat.reduceLT, Nat.reduceLeDiff, Nat.reduceMul, Int.reduceToNat, reduceCtorEq, ↓reduceIte, Tryd.ntmps50, Tryd.results50, ks_50, mu_50, ti_ag3, ti_ag35, ti_hb77, ti_sb35, ti_sb76, ti_sl35, ti_sl76, ti_sz35, ndD, ndV, tsV, natR, trH, trL, trV, k1]) | (refine AWp_condC rfl ?_; intro KA KB hKA hKB; try simp only [onB_true, onB_false, onB_dec, onB_ndec, onB_not, onB_and, onB_or]) | (refine AWp_condA rfl ?_ ?_) | with_reducible (first | refine onB_of ?_ ?_ | rfl) | omega)
      all_goals first
        | omega
        | exact dropF hk0 (.os _ _ _ _ _ _ (by omega) (get_app0 _ _) rfl) (by simp [Bel_d])
    · rw [List.take_length] at hG
      have hk0 := hk _ hG
      rw [trH]
      refine AWp_frzR (H.length + (DL.length + 1)) H.length DL.length 0 (by omega) (tr_get H _ _ DL.length) (natC_data g) (get_app0 _ _) (by rw [List.getElem?_append_right (by rw [List.length_map]; exact Nat.le_refl _), List.length_map, Nat.sub_self]; rfl) rfl ?_
      have hfr : ∀ (v1 v2 : Nat), frz (H.length + (DL.length + 1)) (g.length - 1) (.sl 1 (g.map natR)) [(0, .pt idw 0 0 0), (5, .os H.length v1), (6, .d (.i .i64 v2)), (10, .d (.sl 1 (C.map natR))), (11, .d (.i .i64 C.length)), (12, .d (.i .i64 C.length))] = [(0, .pt idw 0 0 0), (5, .os H.length v1), (6, .d (.i .i64 v2)), (10, .d (.sl 1 (C.map natR))), (11, .d (.i .i64 C.length)), (12, .d (.i .i64 C.length))] := fun v1 v2 => by
        have : ¬ (H.length = H.length + (DL.length + 1) ∧ v1 = g.length - 1) := fun h => by omega
        simp [frz, frzV, this]
      simp only [trV, trL]
      rw [hfr]
      have hheap : ((H ++ (Ob.row (DL.length + 1) 35 1 (DL.map grC ++ [[V.os (H.length + (DL.length + 1)) (g.length - 1)]]) :: (List.replicate DL.length Ob.dead ++ [.row (g.length - 1) 3 1 (g.map natC)]))).set (H.length + (DL.length + 1)) Ob.dead).set H.length (Ob.row (DL.length + 1) 35 1 ((DL.map grC ++ [[V.os (H.length + (DL.length + 1)) (g.length - 1)]]).set DL.length ([V.os (H.length + (DL.length + 1)) (g.length - 1)].set 0 (V.d (D.sl 1 (g.map natR)))))) = H ++ (Ob.row (DL.length + 1) 35 1 ((DL ++ [g]).map grC) :: List.replicate (DL.length + 1) Ob.dead) := by
        rw [tr_set, set_app0, List.set_append_right _ _ (by rw [List.length_map]; exact Nat.le_refl _), List.length_map, Nat.sub_self, List.map_append, List.replicate_succ']
        rfl
      rw [hheap]
      repeat' (first | with_reducible (first | refine And.intro ?_ ?_ | intro _ | refine AWp_seq ?_ | refine AWp_block ?_ | (refine hKv _ _ (AWp_nop ?_); clear hKv Kv) | (refine hKA ?_; clear hKA hKB KA KB) | (refine hKB ?_; clear hKA hKB KA KB) | refine AWp_skipN ?_ | refine AWp_exitO (by repeat (first | exact Out.hit | apply Out.thenA | apply Out.out rfl)) ?_) | (with_reducible (first | (refine hKv _ _ ?_; clear hKv Kv) | ((first | refine AWp_regC mu_50 ks_50 ?_ | refine AWp_regE mu_50 ks_50 ?_); intro Kv hKv) | refine AWp_retR ?_); try simp (dsimp := false) only [go_sem, Nat.reduceAdd, Nat.reduceBEq, Nat.reduceEqDiff, Nat.reduceLT, Nat.reduceLeDiff, Nat.reduceMul, Int.reduceToNat, reduceCtorEq, ↓reduceIte, Tryd.ntmps50, Tryd.results50, ks_50, mu_50, ti_ag3, ti_ag35, ti_hb77, ti_sb35, ti_sb76, ti_sl35, ti_sl76, ti_sz35, ndD, ndV, tsV, natR, k1]) | (refine AWp_condC rfl ?_; intro KA KB hKA hKB; try simp only [onB_true, onB_false, onB_dec, onB_ndec, onB_not, onB_and, onB_or]) | (refine AWp_condA rfl ?_ ?_) | with_reducible (first | refine onB_of ?_ ?_ | rfl) | omega)
      all_goals first
        | omega
        | exact dropF hk0 (.os _ _ _ _ _ _ (by omega) (get_app0 _ _) (grC_data _)) (by simp [Bel_d])
end Go.Proofs.YtpgdflhcmijaiaaDoor
