/- Regions that draw their order: the written order's reading holds for every order. No condition. -/
import Derived.Test.YtmhabdopcbokoaaDoorR10
set_option linter.all false
set_option linter.unusedSimpArgs false
set_option linter.unusedVariables false
namespace Go.Proofs.YtmhabdopcbokoaaDoor.Ab
open Go
variable [Glo]
section
variable {P : Program} {n : Nat} {H : Heap}
def QCall (P : Program) (g : Nat) (vs : List V) (H : Heap) (K : V → Prop) : Prop := ∃ v, ACalls P g vs H (Two v H) ∧ K v
theorem QCall_of {g : Nat} {vs : List V} {K : V → Prop} {v : V} (h : ACalls P g vs H (Two v H)) (hk : K v) : QCall P g vs H K := ⟨v, h, hk⟩
def vcQ (P : Program) (M : List Nat) (o : Oper) (F : Frame) (H : Heap) (K : V → Prop) : Prop :=
  match o.op with
  | .call c => (match c.callee with
    | .value f => (match ev F f with
      | .fn g caps => hasBody P g = true ∧ QCall P g (evs F c.args ++ caps) H (lk K .mk)
      | _ => False)
    | _ => vcOp P M o F H fun v H' => H' = H ∧ K v)
  | _ => vcOp P M o F H fun v H' => H' = H ∧ K v
theorem vcQ_det {M : List Nat} {o : Oper} {F : Frame} {K : V → Prop} (h : vcQ P M o F H K) : ∃ v, vcOp P M o F H (Two v H) ∧ K v := by
  have two : ∀ {A : (V → Heap → Prop) → Prop}, (∃ v H', A (Two v H') ∧ (H' = H ∧ K v)) → ∃ v, A (Two v H) ∧ K v := fun {A} ⟨v, H', h1, h2, h3⟩ => ⟨v, h2 ▸ h1, h3⟩
  have one : ∀ {A : (V → Prop) → Prop}, (∃ v, A (fun u => u = v) ∧ (True ∧ K v)) → ∃ v, A (fun u => Two v H u H) ∧ K v := fun {A} ⟨v, h1, _, h2⟩ =>
    ⟨v, by simpa [Two] using h1, h2⟩
  unfold vcQ at h
  unfold vcOp at h ⊢
  cases ho : o.op <;> simp only [ho] at h ⊢
  case call c =>
    cases hc : c.callee with
    | value f =>
      simp only [hc] at h ⊢
      split at h
      · rename_i hf
        obtain ⟨h1, v, h2, h3⟩ := h
        simp only [hf]
        exact ⟨v, ⟨h1, h2⟩, h3⟩
      · exact h.elim
    | builtin b =>
      simp only [hc] at h ⊢
      exact two (vcBuiltin_det h)
    | invoke r m => simp only [hc] at h
  case pick c a b =>
    split at h
    · rename_i t ht
      cases t
      · exact ⟨_, ⟨fun e => (by cases e), fun _ => ⟨rfl, rfl⟩⟩, (h.2 rfl).2⟩
      · exact ⟨_, ⟨fun _ => ⟨rfl, rfl⟩, fun e => (by cases e)⟩, (h.1 rfl).2⟩
    · exact h.elim
  case move x => exact ⟨_, ⟨rfl, rfl⟩, h.2⟩
  case assign x => exact two (vcAssign_det h)
  case binOp =>
    split at h
    · rename_i hm; (try simp only [hm]); exact one (vcBinW_det h)
    · rename_i hm; (try simp only [hm]); exact one (vcBinN_det h)
  case unOp => exact one (vcUn_det h)
  case convert =>
    obtain ⟨v, h1, h2⟩ := one (vcConv_det h.2)
    exact ⟨v, ⟨h.1, h1⟩, h2⟩
  case load => exact one (vcLoad_det h)
  case store => exact two (vcStore_det h)
  case nilCheck => exact one (vcNil_det h)
  case fieldAddr => exact one (vcFAddr_det h)
  case field => exact one (vcField_det h)
  case indexAddr => exact one (vcIAddr_det h)
  case index => exact one (vcIndex_det h)
  case slice =>
    split at h
    · split at h
      · rename_i hm; (try simp only [hm]); exact one (vcView_det h)
      · rename_i hm; (try simp only [hm]); exact two (vcTrunc_det h)
    · exact one (vcSlice_det h)
  case extract => exact one (vcExtract_det h)
  case alloc => exact two (vcAlloc_det h)
  case box => exact two (vcBox_det h)
  case build => exact one (vcBuild_det h)
  case buildSlice =>
    split at h
    · exact two (vcBSliceO_det h)
    · exact one (vcBSlice_det h)
  case makeSlice => exact two (vcMake_det h)
  case makeFunc t first caps =>
    cases t with
    | func g => exact ⟨_, ⟨h.1, rfl, rfl⟩, h.2.2⟩
    | _ => exact h.elim
  case makeMap t r =>
    cases r with
    | none => exact two (vcMakeMap_det h)
    | some x => exact h.elim
  case lookup => exact one (vcLookup_det h)
  case mapUpdate => exact two (vcMapUp_det h)
  case insert => exact two (vcMapUp_det h)
  case mapEntry => exact two (vcMapEnt_det h)
  case entryStore => exact two (vcEntSt_det h)
def ECall (P : Program) (g : Nat) (vs : List V) (H : Heap) (K : V → Heap → Prop) : Prop := ∃ v H1, ACalls P g vs H (Two v H1) ∧ K v H1
theorem ECall_of {g : Nat} {vs : List V} {K : V → Heap → Prop} {v : V} {H1 : Heap} (h : ACalls P g vs H (Two v H1)) (hk : K v H1) : ECall P g vs H K := ⟨v, H1, h, hk⟩
def vcE (P : Program) (M : List Nat) (o : Oper) (F : Frame) (H : Heap) (K : V → Heap → Prop) : Prop :=
  match o.op with
  | .call c => (match c.callee with
    | .value f => (match ev F f with
      | .fn g caps => hasBody P g = true ∧ ECall P g (evs F c.args ++ caps) H (lk K .mk)
      | _ => False)
    | _ => vcOp P M o F H K)
  | _ => vcOp P M o F H K
theorem vcE_det {M : List Nat} {o : Oper} {F : Frame} {K : V → Heap → Prop} (h : vcE P M o F H K) : ∃ v H1, vcOp P M o F H (Two v H1) ∧ K v H1 := by
  have two : ∀ {A : (V → Heap → Prop) → Prop}, (∃ v H', A (Two v H') ∧ K v H') → ∃ v H1, A (Two v H1) ∧ K v H1 := fun h => h
  have one : ∀ {A : (V → Prop) → Prop}, (∃ v, A (fun u => u = v) ∧ K v H) → ∃ v H1, A (fun u => Two v H1 u H) ∧ K v H1 := fun {A} ⟨v, h1, h2⟩ =>
    ⟨v, H, by simpa [Two] using h1, h2⟩
  unfold vcE at h
  unfold vcOp at h ⊢
  cases ho : o.op <;> simp only [ho] at h ⊢
  case call c =>
    cases hc : c.callee with
    | value f =>
      simp only [hc] at h ⊢
      split at h
      · rename_i hf
        obtain ⟨h1, v, H1, h2, h3⟩ := h
        simp only [hf]
        exact ⟨v, H1, ⟨h1, h2⟩, h3⟩
      · exact h.elim
    | builtin b =>
      simp only [hc] at h ⊢
      exact two (vcBuiltin_det h)
    | invoke r m => simp only [hc] at h
  case pick c a b =>
    split at h
    · rename_i t ht
      cases t
      · exact ⟨_, _, ⟨fun e => (by cases e), fun _ => ⟨rfl, rfl⟩⟩, h.2 rfl⟩
      · exact ⟨_, _, ⟨fun _ => ⟨rfl, rfl⟩, fun e => (by cases e)⟩, h.1 rfl⟩
    · exact h.elim
  case move x => exact ⟨_, _, ⟨rfl, rfl⟩, h⟩
  case assign x => exact two (vcAssign_det h)
  case binOp =>
    split at h
    · rename_i hm; (try simp only [hm]); exact one (vcBinW_det h)
    · rename_i hm; (try simp only [hm]); exact one (vcBinN_det h)
  case unOp => exact one (vcUn_det h)
  case convert =>
    obtain ⟨v, H1, h1, h2⟩ := one (vcConv_det h.2)
    exact ⟨v, H1, ⟨h.1, h1⟩, h2⟩
  case load => exact one (vcLoad_det h)
  case store => exact two (vcStore_det h)
  case nilCheck => exact one (vcNil_det h)
  case fieldAddr => exact one (vcFAddr_det h)
  case field => exact one (vcField_det h)
  case indexAddr => exact one (vcIAddr_det h)
  case index => exact one (vcIndex_det h)
  case slice =>
    split at h
    · split at h
      · rename_i hm; (try simp only [hm]); exact one (vcView_det h)
      · rename_i hm; (try simp only [hm]); exact two (vcTrunc_det h)
    · exact one (vcSlice_det h)
  case extract => exact one (vcExtract_det h)
  case alloc => exact two (vcAlloc_det h)
  case box => exact two (vcBox_det h)
  case build => exact one (vcBuild_det h)
  case buildSlice =>
    split at h
    · exact two (vcBSliceO_det h)
    · exact one (vcBSlice_det h)
  case makeSlice => exact two (vcMake_det h)
  case makeFunc t first caps =>
    cases t with
    | func g => exact ⟨_, _, ⟨h.1, rfl, rfl⟩, h.2⟩
    | _ => exact h.elim
  case makeMap t r =>
    cases r with
    | none => exact two (vcMakeMap_det h)
    | some x => exact h.elim
  case lookup => exact one (vcLookup_det h)
  case mapUpdate => exact two (vcMapUp_det h)
  case insert => exact two (vcMapUp_det h)
  case mapEntry => exact two (vcMapEnt_det h)
  case entryStore => exact two (vcEntSt_det h)
def gF (F : Nat → V) (dst : Nat → Option Nat) (vs : Nat → V) (L : Nat → Bool) : Nat → Nat → V
  | 0, x => F x
  | k + 1, x => if L k = true ∧ dst k = some x then vs k else gF F dst vs L k x
theorem gF_same {F : Nat → V} {dst : Nat → Option Nat} {vs vs' : Nat → V} {L L' : Nat → Bool} {x : Nat} : ∀ {k : Nat}, (∀ i, i < k → dst i = some x → L i = L' i ∧ vs i = vs' i) → gF F dst vs L k x = gF F dst vs' L' k x
  | 0, _ => rfl
  | k + 1, h => by
    unfold gF
    rw [gF_same fun i hi hd => h i (by omega) hd]
    by_cases hd : dst k = some x
    · obtain ⟨h1, h2⟩ := h k (by omega) hd
      rw [h1, h2]
    · simp [hd]
theorem gF_none {F : Nat → V} {dst : Nat → Option Nat} {vs : Nat → V} {L : Nat → Bool} {x : Nat} {j : Nat} : ∀ {k : Nat}, j ≤ k → (∀ i, j ≤ i → i < k → dst i = some x → L i = false) → gF F dst vs L k x = gF F dst vs L j x
  | 0, hj, _ => by obtain rfl : j = 0 := by omega
                   rfl
  | k + 1, hj, h => by
    by_cases hjk : j = k + 1
    · subst hjk; rfl
    · rw [gF, gF_none (j := j) (by omega) fun i h1 h2 => h i h1 (by omega)]
      rw [if_neg]
      rintro ⟨h1, h2⟩
      rw [h k (by omega) (by omega) h2] at h1
      cases h1
theorem gF_set {F : Nat → V} {dst : Nat → Option Nat} {vs : Nat → V} {L L' : Nat → Bool} {x i k : Nat} (hi : i < k) (hL : ∀ j, j ≠ i → L' j = L j) (hLi : L' i = true) (hone : ∀ j, j < k → j ≠ i → dst j = some x → dst i ≠ some x) :
    gF F dst vs L' k x = if dst i = some x then vs i else gF F dst vs L k x := by
  split
  · rename_i hd
    rw [gF_none (j := i + 1) (by omega) fun j h1 h2 h3 => absurd hd (hone j h2 (by omega) h3), gF, if_pos ⟨hLi, hd⟩]
  · rename_i hd
    exact gF_same fun j hj hdj => ⟨hL j fun e => hd (e ▸ hdj), rfl⟩
structure SatG (n : Nat) (w : World) (H : Heap) (σ : Conc) (g : Nat → V) (tmps : Array Value) : Prop where
  ok : WOk w H σ
  size : tmps.size = n
  slot : ∀ x, VRel w (Own H σ) H σ (g x) (tmps.getD x undef)
theorem SatG.toF {w : World} {σ : Conc} {g : Nat → V} {F : Frame} {tmps : Array Value} (h : SatG n w H σ g tmps) (hF : ∀ x, F.get x = .top ∨ F.get x = g x) : Sat n w H σ F tmps :=
  ⟨h.ok, h.size, fun x => by
    rcases hF x with h1 | h1
    · rw [h1]; exact .top _
    · rw [h1]; exact h.slot x⟩
theorem SatG.put {w : World} {σ : Conc} {g g' : Nat → V} {a : Act} (h : SatG n w H σ g a.tmps) {dst : Option Tmp} (hd : dstOk n dst) {v : V} {val : Value} (hv : VRel w (Own H σ) H σ v val)
    (hg : ∀ x, g' x = if dst = some x then v else g x) : SatG n w H σ g' (a.put dst val).tmps := by
  cases dst with
  | none => exact ⟨h.ok, h.size, fun x => by rw [hg x, if_neg (by simp)]; exact h.slot x⟩
  | some d =>
    have hx : d < n := hd
    have hsz := h.size
    refine ⟨h.ok, by simp [Act.put, hsz], fun y => ?_⟩
    rw [hg y]
    simp only [Act.put, Array.getD_eq_getD_getElem?, Array.getElem?_setIfInBounds]
    by_cases hy : d = y
    · subst hy
      have hlt : d < a.tmps.size := by rw [hsz]; exact hx
      rw [if_pos rfl, if_pos rfl, if_pos hlt]
      exact hv
    · rw [if_neg (by simpa using hy), if_neg hy]
      have := h.slot y
      rwa [Array.getD_eq_getD_getElem?] at this
def OpOk (P : Program) (n : Nat) (M : List Nat) (all : List Oper) (H : Heap) (o : Oper) (F : Frame) (v : V) : Prop :=
  dstOk n o.dst ∧ match o.guard with
  | none => vcOp P M o F H (Two v H)
  | some (j, want) => ∃ d, (all[j]?).bind (·.dst) = some d ∧ ((F.get d = .un ∧ v = .un) ∨ (d < n ∧ ∃ t, F.get d = .d (.b t) ∧ (t = want → vcOp P M o F H (Two v H)) ∧ (t = (!want) → v = .un)))
theorem OpOk.congr {M : List Nat} {all : List Oper} {o : Oper} {F F' : Frame} {v : V} (h : OpOk P n M all H o F v) (hF : ∀ x, x ∈ o.looksAt all.toArray → F.get x = F'.get x) : OpOk P n M all H o F' v := by
  have ho : ∀ x, Operand.tmp x ∈ o.op.operands.toList → F.get x = F'.get x := fun x hx => hF x (by
    unfold Oper.looksAt
    refine List.mem_append_left _ (List.mem_filterMap.2 ⟨_, hx, rfl⟩))
  unfold OpOk at h ⊢
  refine ⟨h.1, ?_⟩
  have h := h.2
  cases hg : o.guard with
  | none => rw [hg] at h; exact vcOp_congr ho h
  | some jw =>
    obtain ⟨j, want⟩ := jw
    rw [hg] at h
    obtain ⟨d, hd, h⟩ := h
    have hFd : F.get d = F'.get d := hF d (by
      unfold Oper.looksAt
      refine List.mem_append_right _ ?_
      simp [hg, hd])
    refine ⟨d, hd, ?_⟩
    rw [← hFd]
    rcases h with h | ⟨h1, t, h2, h3, h4⟩
    · exact .inl h
    · exact .inr ⟨h1, t, h2, fun e => vcOp_congr ho (h3 e), h4⟩
def vcD (P : Program) (n : Nat) (M : List Nat) (all : List Oper) (H : Heap) (T : Frame → Prop) : Nat → List Oper → Frame → Prop
  | 0, _, F => T F
  | _ + 1, [], _ => False
  | k + 1, o :: rest, F =>
    match o.guard with
    | none => dstOk n o.dst ∧ vcQ P M o F H fun v => vcD P n M all H T k rest (F.put o.dst v)
    | some (j, want) =>
      match (all[j]?).bind (·.dst) with
      | some d =>
        (match F.get d with
        | .d (.b t) => d < n ∧ dstOk n o.dst ∧ (match want with
            | true => onB t (vcQ P M o (F.put (some d) (.d (.b true))) H fun v => vcD P n M all H T k rest ((F.put (some d) (.d (.b true))).put o.dst v))
                (vcD P n M all H T k rest ((F.put (some d) (.d (.b false))).put o.dst .un))
            | false => onB t (vcD P n M all H T k rest ((F.put (some d) (.d (.b true))).put o.dst .un))
                (vcQ P M o (F.put (some d) (.d (.b false))) H fun v => vcD P n M all H T k rest ((F.put (some d) (.d (.b false))).put o.dst v)))
        | .un => dstOk n o.dst ∧ vcD P n M all H T k rest (F.put o.dst .un)
        | _ => False)
      | none => False
theorem get_put (F : Frame) (d : Option Tmp) (v : V) (x : Nat) : (F.put d v).get x = if d = some x then v else F.get x := by
  cases d with
  | none => simp [Frame.put]
  | some y =>
    rw [get_put_some]
    by_cases h : x = y
    · subst h; simp
    · rw [if_neg h, if_neg (by simpa using fun e : y = x => h e.symm)]
theorem get_know {F : Frame} {d : Nat} {v : V} (h : F.get d = v) (x : Nat) : (F.put (some d) v).get x = F.get x := by
  rw [get_put_some]
  split
  · rename_i hx; rw [hx, h]
  · rfl
def always : Nat → Bool := fun _ => true
theorem vcD_run {M : List Nat} {all : List Oper} {T : Frame → Prop} {F0 : Nat → V} : ∀ (k p : Nat) (l : List Oper) (vs : Nat → V) (F : Frame),
    (∀ i, l[i]? = all[p + i]?) → (∀ x, F.get x = gF F0 (fun i => (all[i]?).bind (·.dst)) vs always p x) → vcD P n M all H T k l F →
    ∃ vs' : Nat → V, (∀ i, i < p → vs' i = vs i) ∧
      (∀ i, p ≤ i → i < p + k → ∃ o, all[i]? = some o ∧ ∀ F', (∀ x, x ∈ o.looksAt all.toArray → F'.get x = gF F0 (fun i => (all[i]?).bind (·.dst)) vs' always i x) → OpOk P n M all H o F' (vs' i)) ∧
      ∃ F', T F' ∧ ∀ x, F'.get x = gF F0 (fun i => (all[i]?).bind (·.dst)) vs' always (p + k) x
  | 0, p, l, vs, F, hl, hF, h => ⟨vs, fun _ _ => rfl, fun i h1 h2 => by omega, F, h, hF⟩
  | k + 1, p, [], vs, F, hl, hF, h => h.elim
  | k + 1, p, o :: rest, vs, F, hl, hF, h => by
    have h0 : all[p]? = some o := by simpa using (hl 0).symm
    have hl' : ∀ i, rest[i]? = all[p + 1 + i]? := fun i => by
      have := hl (i + 1)
      rw [List.getElem?_cons_succ] at this
      rw [this]
      congr 1
      omega
    -- with what this operation yields, the others follow
    have step : ∀ (v : V) (F1 : Frame), (∀ x, F1.get x = F.get x) → OpOk P n M all H o F v → vcD P n M all H T k rest (F1.put o.dst v) → ∃ vs' : Nat → V, (∀ i, i < p → vs' i = vs i) ∧
        (∀ i, p ≤ i → i < p + (k + 1) → ∃ o, all[i]? = some o ∧ ∀ F', (∀ x, x ∈ o.looksAt all.toArray → F'.get x = gF F0 (fun i => (all[i]?).bind (·.dst)) vs' always i x) → OpOk P n M all H o F' (vs' i)) ∧
        ∃ F', T F' ∧ ∀ x, F'.get x = gF F0 (fun i => (all[i]?).bind (·.dst)) vs' always (p + (k + 1)) x := by
      intro v F1 hF1 hok hrest
      let vs1 : Nat → V := fun i => if i = p then v else vs i
      have e1 : ∀ x, gF F0 (fun i => (all[i]?).bind (·.dst)) vs1 always p x = gF F0 (fun i => (all[i]?).bind (·.dst)) vs always p x := fun x =>
        gF_same fun i hi _ => ⟨rfl, if_neg (by omega)⟩
      obtain ⟨vs', h1, h2, F', h3, h4⟩ := vcD_run k (p + 1) rest vs1 (F1.put o.dst v) hl' (fun x => by
        rw [get_put, gF, e1, hF1, hF x]
        simp [always, h0, vs1]) hrest
      have e2 : ∀ x, gF F0 (fun i => (all[i]?).bind (·.dst)) vs' always p x = gF F0 (fun i => (all[i]?).bind (·.dst)) vs always p x := fun x =>
        gF_same fun i hi _ => ⟨rfl, by rw [h1 i (by omega)]; exact if_neg (by omega)⟩
      refine ⟨vs', fun i hi => by rw [h1 i (by omega)]; exact if_neg (by omega), fun i hi hi2 => ?_, F', h3, fun x => by rw [h4 x]; congr 1; omega⟩
      by_cases hip : i = p
      · subst hip
        refine ⟨o, h0, fun F' hF' => ?_⟩
        rw [h1 i (by omega)]
        simp only [vs1, if_true]
        exact hok.congr fun x hx => by rw [hF' x hx, e2 x, hF x]
      · exact h2 i (by omega) (by omega)
    unfold vcD at h
    cases hg : o.guard with
    | none =>
      rw [hg] at h
      obtain ⟨v, h1, h2⟩ := vcQ_det h.2
      exact step v F (fun _ => rfl) ⟨h.1, by rw [hg]; exact h1⟩ h2
    | some jw =>
      obtain ⟨j, want⟩ := jw
      rw [hg] at h
      simp only [] at h
      split at h
      case h_2 => exact h.elim
      rename_i d hd
      split at h
      · rename_i t ht
        obtain ⟨hdn, hdo, h12⟩ := h
        have h1 : t = want → vcQ P M o (F.put (some d) (.d (.b want))) H fun v => vcD P n M all H T k rest ((F.put (some d) (.d (.b want))).put o.dst v) := fun e => by
          subst e; cases t <;> simp only [onB] at h12 <;> simpa using h12
        have h2 : t = (!want) → vcD P n M all H T k rest ((F.put (some d) (.d (.b (!want)))).put o.dst .un) := fun e => by
          subst e; cases want <;> simp only [onB] at h12 <;> simpa using h12
        by_cases htw : t = want
        · subst htw
          obtain ⟨v, h3, h4⟩ := vcQ_det (h1 rfl)
          refine step v _ (get_know ht) ⟨hdo, ?_⟩ h4
          rw [hg]
          exact ⟨d, hd, .inr ⟨hdn, t, ht, fun _ => vcOp_congr (fun x _ => get_know ht x) h3, fun e => by cases t <;> simp at e⟩⟩
        · have htn : t = !want := by cases t <;> cases want <;> simp_all
          refine step .un _ (get_know (by rw [ht, htn])) ⟨hdo, ?_⟩ (h2 htn)
          rw [hg]
          exact ⟨d, hd, .inr ⟨hdn, t, ht, fun e => absurd e htw, fun _ => rfl⟩⟩
      · rename_i ht
        refine step .un F (fun _ => rfl) ⟨h.1, ?_⟩ h.2
        rw [hg]
        exact ⟨d, hd, .inl ⟨ht, rfl⟩⟩
      · exact h.elim
end
end Go.Proofs.YtmhabdopcbokoaaDoor.Ab
