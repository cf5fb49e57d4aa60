/- Regions that draw their order: the rule. No condition. -/
import Derived.Test.YtmhabdopcbokoaaDoorR11
set_option linter.all false
set_option linter.unusedSimpArgs false
set_option linter.unusedVariables false
namespace Go.Proofs.YtmhabdopcbokoaaDoor.Ab
open Go
variable [Glo]
section
variable {P : Program} {n : Nat} {dfs : List Deferred} {H : Heap}
theorem OpOk.run {M : List Nat} {all : List Oper} {o : Oper} {F : Frame} {v : V} {i : Nat} {w : World} {σ : Conc} {a : Act} {Q : Exit → Act → World → Prop} {K : Act → World → Prop} (h : OpOk P n M all H o F v) (hi : all[i]? = some o) (hs : Sat n w H σ F a.tmps)
    (hK : ∀ val w' σ', VRel w' (Own H σ') H σ' v val → WOk w' H σ' → Pres w H σ w' H σ' → K (a.put o.dst val) w') : wpOp P all.toArray Q i K a w := by
  have step : vcOp P M o F H (Two v H) → o.wp P a w K Q := fun h1 => vcOp_wp h1 hs fun v' val w' H' σ' hk hv hw' hp' => by
    obtain ⟨rfl, rfl⟩ := hk
    exact hK val w' σ' hv hw' hp'
  have skip : v = .un → K (a.put o.dst undef) w := fun e => hK undef w σ (e ▸ .un) hs.ok (Pres.refl _ _ _)
  unfold wpOp
  rw [List.getElem?_toArray, hi]
  simp only []
  obtain ⟨hdo, h⟩ := h
  cases hg : o.guard with
  | none =>
    rw [hg] at h
    rw [if_pos (by simp [Region.wanted, hg])]
    exact .inl (step h)
  | some jw =>
    obtain ⟨j, want⟩ := jw
    rw [hg] at h
    obtain ⟨d, hdst, h⟩ := h
    have hy : yielded all.toArray a.tmps j = match a.tmps[d]? with | some (.bool b) => some b | _ => none := by
      unfold yielded
      rw [List.getElem?_toArray, hdst]
      rfl
    have hsl := hs.slot d
    rcases h with ⟨ht, hv⟩ | ⟨hdn, t, ht, h1, h2⟩
    · rw [ht] at hsl
      have hval : a.tmps.getD d undef = undef := by
        generalize a.tmps.getD d undef = u at hsl
        cases hsl; rfl
      have hne : (match a.tmps[d]? with | some (.bool b) => some b | _ => none : Option Bool) = none := by
        rw [Array.getD_eq_getD_getElem?] at hval
        cases hq : a.tmps[d]? with
        | none => rfl
        | some u =>
          rw [hq] at hval
          simp only [Option.getD_some] at hval
          subst hval
          rfl
      rw [hne] at hy
      rw [if_neg (by simp [Region.wanted, hg, hy])]
      exact skip hv
    · rw [ht] at hsl
      have hval := hsl.inv_d.inv_b
      have hlt : d < a.tmps.size := by rw [hs.size]; exact hdn
      have hget : a.tmps[d]? = some (.bool t) := by
        rw [Array.getD_eq_getD_getElem?, Array.getElem?_eq_getElem hlt] at hval
        rw [Array.getElem?_eq_getElem hlt]
        exact congrArg some hval
      rw [hget] at hy
      by_cases htw : t = want
      · rw [if_pos (by simp [Region.wanted, hg, hy, htw])]
        exact .inl (step (h1 htw))
      · have htn : t = !want := by cases t <;> cases want <;> simp_all
        rw [if_neg (by simp [Region.wanted, hg, hy, htw])]
        exact skip (h2 htn)
def backB (ops : Array Oper) (nh : Nat) : Bool :=
  (List.range nh).all fun i => match ops[i]? with
    | some o => o.after.toList.all fun e => !Region.binds .any e || decide (e.on < i)
    | none => false
def dstB (ops : Array Oper) (nh : Nat) : Bool :=
  (List.range nh).all fun i => match (ops[i]?).bind (·.dst) with
    | some d => (List.range i).all fun k => (ops[k]?).bind (·.dst) != some d
    | none => true
def looksB (ops : Array Oper) (nh : Nat) : Bool :=
  (List.range nh).all fun i => match ops[i]? with
    | some o => (o.looksAt ops).all fun x => (List.range nh).all fun k =>
        (ops[k]?).bind (·.dst) != some x || (if k < i then Region.waitsFor .any ops i k else k == i || Region.waitsFor .any ops k i)
    | none => false
def drawB (ops : Array Oper) (nh : Nat) : Bool :=
  decide (nh < ops.size) && Region.sinkB .any ops nh && Region.chainB .any ops nh && backB ops nh && dstB ops nh && looksB ops nh &&
    Region.seqB .any ops (ops.size - nh) nh (Array.replicate nh true ++ Array.replicate (ops.size - nh) false)
theorem backB_spec {ops : Array Oper} {nh i : Nat} {o : Oper} (h : backB ops nh = true) (hi : i < nh) (ho : ops[i]? = some o) : ∀ e ∈ o.after, Region.binds .any e = true → e.on < i := by
  have := List.all_eq_true.1 h i (List.mem_range.2 hi)
  rw [ho] at this
  intro e he hb
  have := List.all_eq_true.1 this e (Array.mem_toList_iff.2 he)
  simpa [hb] using this
theorem dstB_spec {ops : Array Oper} {nh i k x : Nat} (h : dstB ops nh = true) (hi : i < nh) (hk : k < nh) (hne : k ≠ i) (hx : (ops[k]?).bind (·.dst) = some x) : (ops[i]?).bind (·.dst) ≠ some x := by
  intro hx'
  rcases Nat.lt_or_gt_of_ne hne with hlt | hlt
  · have := List.all_eq_true.1 h i (List.mem_range.2 hi)
    rw [hx'] at this
    have := List.all_eq_true.1 this k (List.mem_range.2 hlt)
    simp [hx] at this
  · have := List.all_eq_true.1 h k (List.mem_range.2 hk)
    rw [hx] at this
    have := List.all_eq_true.1 this i (List.mem_range.2 hlt)
    simp [hx'] at this
theorem looksB_spec {ops : Array Oper} {nh i k x : Nat} {o : Oper} (h : looksB ops nh = true) (hi : i < nh) (ho : ops[i]? = some o) (hx : x ∈ o.looksAt ops) (hk : k < nh) (hd : (ops[k]?).bind (·.dst) = some x) :
    (k < i ∧ Region.waitsFor .any ops i k = true) ∨ k = i ∨ Region.waitsFor .any ops k i = true := by
  have := List.all_eq_true.1 h i (List.mem_range.2 hi)
  rw [ho] at this
  have := List.all_eq_true.1 (List.all_eq_true.1 this x hx) k (List.mem_range.2 hk)
  simp only [hd, bne_self_eq_false, Bool.false_or] at this
  split at this
  · rename_i hlt; exact .inl ⟨hlt, this⟩
  · simp only [Bool.or_eq_true, beq_iff_eq] at this
    exact .inr this
theorem countP_set {p q : Nat → Bool} {i : Nat} : ∀ {l : List Nat}, l.Nodup → i ∈ l → p i = true → q i = false → (∀ j, j ≠ i → q j = p j) → l.countP p = l.countP q + 1
  | x :: l, hn, hi, hp, hq, hj => by
    have hn' := List.nodup_cons.1 hn
    by_cases hx : x = i
    · subst hx
      have : l.countP p = l.countP q := List.countP_congr fun y hy => by rw [hj y fun e => hn'.1 (e ▸ hy)]
      simp [List.countP_cons, hp, hq, this]
    · have hi' : i ∈ l := by
        rcases List.mem_cons.1 hi with h | h
        · exact absurd h.symm hx
        · exact h
      have := countP_set hn'.2 hi' hp hq hj
      rw [List.countP_cons, List.countP_cons, hj x hx, this]
      omega
theorem countP_none {p : Nat → Bool} {k : Nat} (h : (List.range k).countP p = 0) : ∀ i, i < k → p i = false := fun i hi => by
  have := List.countP_eq_zero.1 h i (List.mem_range.2 hi)
  simpa using this
theorem countP_some {p : Nat → Bool} {k f : Nat} (h : (List.range k).countP p = f + 1) : ∃ i, i < k ∧ p i = true := by
  have : 0 < (List.range k).countP p := by omega
  obtain ⟨i, hi, hp⟩ := List.countP_pos_iff.1 this
  exact ⟨i, List.mem_range.1 hi, hp⟩
theorem least {p : Nat → Bool} : ∀ (i : Nat), p i = true → ∃ j, j ≤ i ∧ p j = true ∧ ∀ k, k < j → p k = false := by
  intro i
  induction i using Nat.strongRecOn with
  | _ i ih =>
    intro hi
    by_cases h : ∃ k, k < i ∧ p k = true
    · obtain ⟨k, hk, hp⟩ := h
      obtain ⟨j, h1, h2, h3⟩ := ih k hk hp
      exact ⟨j, by omega, h2, h3⟩
    · exact ⟨i, Nat.le_refl _, hi, fun k hk => by
        cases hp : p k with
        | false => rfl
        | true => exact absurd ⟨k, hk, hp⟩ h⟩
theorem draw_head {M : List Nat} {all : List Oper} {nh : Nat} {vs F0 : Nat → V} {w0 : World} {H0 : Heap} {σ0 : Conc} {Q' : Exit → Act → World → Prop}
    (hlt : nh < all.toArray.size) (hs : Region.sinkB .any all.toArray nh = true) (hc : Region.chainB .any all.toArray nh = true) (hb : backB all.toArray nh = true) (hd : dstB all.toArray nh = true) (hlk : looksB all.toArray nh = true)
    (hq : Region.seqB .any all.toArray (all.toArray.size - nh) nh (Array.replicate nh true ++ Array.replicate (all.toArray.size - nh) false) = true)
    (hok : ∀ i, i < nh → ∃ o, all[i]? = some o ∧ ∀ F', (∀ x, x ∈ o.looksAt all.toArray → F'.get x = gF F0 (fun i => (all[i]?).bind (·.dst)) vs always i x) → OpOk P n M all H o F' (vs i))
    (hend : ∀ (w : World) (σ : Conc) (a : Act), SatG n w H σ (gF F0 (fun i => (all[i]?).bind (·.dst)) vs always nh) a.tmps → Pres w0 H0 σ0 w H σ → a.defers = dfs → wpList P all.toArray Q' (all.drop nh) a w) :
    ∀ (f : Nat) (listed : Array Bool) (a : Act) (w : World) (σ : Conc), HeadInv .any all.toArray nh listed → (List.range nh).countP (fun i => !listed.getD i false) = f →
      SatG n w H σ (gF F0 (fun i => (all[i]?).bind (·.dst)) vs (fun i => listed.getD i false) nh) a.tmps → Pres w0 H0 σ0 w H σ → a.defers = dfs → wpAny P .any all.toArray Q' (f + (all.toArray.size - nh)) listed a w
  | 0, listed, a, w, σ, inv, hf, hsat, hp, hdf => by
    have hall : ∀ i, i < nh → listed.getD i false = true := fun i hi => by simpa using countP_none hf i hi
    have heq : listed = Array.replicate nh true ++ Array.replicate (all.toArray.size - nh) false := by
      have hsz := inv.size
      apply Array.ext
      · simp at hlt hsz ⊢; omega
      · intro i h1 h2
        by_cases hi : i < nh
        · have := hall i hi
          simp [h1] at this
          rw [Array.getElem_append_left (by simpa using hi)]
          simp [this]
        · have := inv.tail i (by omega) (by omega)
          simp [h1] at this
          rw [Array.getElem_append_right (by simpa using hi)]
          simp [this]
    have hdl : (all.drop nh).length = all.toArray.size - nh := by simp
    rw [Nat.zero_add, ← hdl]
    refine wpAny_of_seq (all.drop nh) nh listed a w (fun j => by simp [List.getElem?_drop]) (by rw [hdl, heq]; exact hq) (hend w σ a ?_ hp hdf)
    refine ⟨hsat.ok, hsat.size, fun x => ?_⟩
    have : gF F0 (fun i => (all[i]?).bind (·.dst)) vs always nh x = gF F0 (fun i => (all[i]?).bind (·.dst)) vs (fun i => listed.getD i false) nh x :=
      gF_same fun i hi _ => ⟨by rw [hall i hi]; rfl, rfl⟩
    rw [this]
    exact hsat.slot x
  | f + 1, listed, a, w, σ, inv, hf, hsat, hp, hdf => by
    have hsz := inv.size
    obtain ⟨i0, hi0, hu0⟩ := countP_some hf
    have hu0' : listed.getD i0 false = false := by simpa using hu0
    have hin : ∀ i ∈ Region.ready .any all.toArray listed, i < nh := fun i hi => by
      rcases Nat.lt_or_ge i nh with h | h
      · exact h
      · exact absurd hi (tail_waits hs hc hlt inv _ i0 rfl hi0 (getD_in (by omega) hu0') i h)
    rw [show f + 1 + (all.toArray.size - nh) = (f + (all.toArray.size - nh)) + 1 by omega]
    refine ⟨fun h0 => ?_, fun i hi => ?_⟩
    · -- the least that is not done is ready
      exfalso
      obtain ⟨j, hj, hpj, hmin⟩ := least (p := fun i => !listed.getD i false) i0 hu0
      have hjn : j < nh := by omega
      obtain ⟨o, ho, _⟩ := hok j hjn
      have ho' : all.toArray[j]? = some o := by simpa using ho
      have : j ∈ Region.ready .any all.toArray listed := mem_ready.2 ⟨getD_in (by omega) (by simpa using hpj), o, ho', fun e he hbe => by
        have := hmin _ (backB_spec hb hjn ho' e he hbe)
        simpa using this⟩
      rw [h0] at this
      cases this
    · have hin := hin i hi
      obtain ⟨hun, oi, hoi, hall⟩ := mem_ready.1 hi
      obtain ⟨o, ho, hok'⟩ := hok i hin
      have ho' : all.toArray[i]? = some o := by simpa using ho
      obtain rfl : o = oi := Option.some.inj (ho'.symm.trans hoi)
      have hunf : listed.getD i false = false := getD_both hun
      -- what it looks at is what it would see in the written order
      have hsee : ∀ x, x ∈ o.looksAt all.toArray → gF F0 (fun i => (all[i]?).bind (·.dst)) vs (fun i => listed.getD i false) nh x = gF F0 (fun i => (all[i]?).bind (·.dst)) vs always i x := fun x hx => by
        have e1 : gF F0 (fun i => (all[i]?).bind (·.dst)) vs (fun i => listed.getD i false) nh x = gF F0 (fun i => (all[i]?).bind (·.dst)) vs (fun k => decide (k < i)) nh x :=
          gF_same fun k hk hdk => ⟨by
            have hdk' : (all.toArray[k]?).bind (·.dst) = some x := by simpa using hdk
            rcases looksB_spec hlk hin ho' hx hk hdk' with ⟨h1, h2⟩ | h1 | h1
            · obtain ⟨oj, hoj, e, he, hbe, hon⟩ := Region.waitsFor_spec h2
              obtain rfl : oj = o := Option.some.inj (hoj.symm.trans ho')
              have := hall e he hbe
              rw [hon] at this
              rw [this]
              simp [h1]
            · subst h1
              rw [hunf]
              simp
            · obtain ⟨oj, hoj, e, he, hbe, hon⟩ := Region.waitsFor_spec h1
              have hki : ¬ k < i := by
                have := backB_spec hb hk hoj e he hbe
                omega
              have : listed.getD k false = false := by
                cases hlk' : listed.getD k false with
                | false => rfl
                | true =>
                  have := inv.closed k oj hoj hlk' e he hbe
                  rw [hon, hunf] at this
                  cases this
              rw [this]
              simp [hki], rfl⟩
        rw [e1, gF_none (j := i) (by omega) fun k h1 _ _ => by simpa using h1]
        exact gF_same fun k hk _ => ⟨by simp [always, hk], rfl⟩
      let F1 : Frame := (o.looksAt all.toArray).map fun x => (x, gF F0 (fun i => (all[i]?).bind (·.dst)) vs always i x)
      have hF1 : ∀ x, F1.get x = if x ∈ o.looksAt all.toArray then gF F0 (fun i => (all[i]?).bind (·.dst)) vs always i x else .top := fun x => by
        have : ∀ (l : List Nat), Frame.get (l.map fun x => (x, gF F0 (fun i => (all[i]?).bind (·.dst)) vs always i x)) x = if x ∈ l then gF F0 (fun i => (all[i]?).bind (·.dst)) vs always i x else .top := by
          intro l
          induction l with
          | nil => simp [Frame.get]
          | cons y l ih =>
            rw [List.map_cons]
            have := get_cons y (gF F0 (fun i => (all[i]?).bind (·.dst)) vs always i y) (l.map fun x => (x, gF F0 (fun i => (all[i]?).bind (·.dst)) vs always i x)) x
            rw [this, ih]
            by_cases hxy : x = y
            · subst hxy; simp
            · simp [hxy]
        exact this _
      have hokF : OpOk P n M all H o F1 (vs i) := hok' F1 fun x hx => by rw [hF1, if_pos hx]
      refine OpOk.run hokF ho (hsat.toF fun x => ?_) fun val w' σ' hv hw' hp' => ?_
      · rw [hF1]
        split
        · rename_i hx; exact .inr (hsee x hx).symm
        · exact .inl rfl
      · have hset : ∀ j, j ≠ i → (listed.setIfInBounds i true).getD j false = listed.getD j false := fun j hj => getD_set_ne false (Ne.symm hj)
        have hseti : (listed.setIfInBounds i true).getD i false = true := by
          have : i < listed.size := by omega
          simp [this]
        refine draw_head hlt hs hc hb hd hlk hq hok hend f _ _ w' σ' (inv.set hi hin) ?_ ?_ (hp.trans hp') (by cases hdst : o.dst <;> simpa [Act.put, hdst] using hdf)
        · have := countP_set (p := fun i => !listed.getD i false) (q := fun j => !(listed.setIfInBounds i true).getD j false) (i := i) (l := List.range nh) List.nodup_range (List.mem_range.2 hin) (by simp [hunf]) (by simp [hseti]) (fun j hj => by simp only [hset j hj])
          omega
        · have hsat' : SatG n w' H σ' (gF F0 (fun i => (all[i]?).bind (·.dst)) vs (fun i => listed.getD i false) nh) a.tmps := ⟨hw', hsat.size, fun x => (hsat.slot x).pres hp'⟩
          refine hsat'.put hokF.1 hv fun x => ?_
          rw [gF_set hin hset hseti fun j hj hji hdj => by
            have := dstB_spec (i := i) (k := j) (x := x) hd hin hj hji (by simpa using hdj)
            simpa using this]
          simp [ho]
variable {H0 : Heap} {Q : Exit → Frame → Heap → Prop} {F : Frame}
theorem AWp_draw_n {id : Nat} {l : List Oper} (nh : Nat) (M : List Nat) (ks : Nat → List Nat) (hm : P.follows .mixedOrders = true) (hB : drawB l.toArray nh = true)
    (h : vcD P n M l H (fun F' => vcOps P n M l (l.drop nh) F' H fun F'' H'' => Q .normal (canon (ks id) F'') H'') nh l F) : AWp P n dfs H0 (.region id l.toArray true) Q F H := by
  unfold AWp
  intro w0 σ0 w σ a hw hp hs hd
  simp only [drawB, Bool.and_eq_true, decide_eq_true_eq] at hB
  obtain ⟨⟨⟨⟨⟨⟨hlt, hsk⟩, hc⟩, hb⟩, hds⟩, hlk⟩, hq⟩ := hB
  obtain ⟨vs, _, hok, F', hT, hF'⟩ := vcD_run (F0 := F.get) nh 0 l (fun _ => .top) F (fun i => by simp) (fun x => rfl) h
  rw [Nat.zero_add] at hF'
  refine wp_region_any hm ?_
  have hsd : Sat n w.drew H σ F a.tmps := hs.pres (Pres.drew w H σ) hs.ok.drew
  have hnl : ∀ (m j : Nat), (Array.replicate m false).getD j false = false := getD_replicate_false
  have key := draw_head (P := P) (n := n) (H := H) (M := M) (all := l) (nh := nh) (vs := vs) (F0 := F.get) (w0 := w0) (H0 := H0) (σ0 := σ0)
    (Q' := fun e a' w' => ∃ F' H' σ', Q e F' H' ∧ Pres w0 H0 σ0 w' H' σ' ∧ Sat n w' H' σ' F' a'.tmps ∧ a'.defers = dfs) hlt hsk hc hb hds hlk hq
    (fun i hi => hok i (Nat.zero_le _) (by omega))
    (fun w1 σ1 a1 h1 h2 h3 => vcOps_wp (l.drop nh) F' H _ w1 σ1 a1 hT (h1.toF fun x => .inr (hF' x)) h2 h3 fun F'' H'' w' σ' a' hk hs' hp' hd' =>
      ⟨canon (ks id) F'', H'', σ', hk, hp', hs'.canon _, hd'⟩)
    nh (Array.replicate l.toArray.size false) a w.drew σ
    ⟨by simp, fun j oj _ hl => (by rw [getD_replicate_false] at hl; cases hl), fun t _ ht => getD_in (by simpa using ht) (getD_replicate_false _ _)⟩
    (by
      have : (List.range nh).countP (fun i => !(Array.replicate l.toArray.size false).getD i false) = (List.range nh).length := List.countP_eq_length.2 fun i _ => by rw [hnl]; rfl
      rw [this, List.length_range])
    ⟨hsd.ok, hsd.size, fun x => by
      have : gF F.get (fun i => (l[i]?).bind (·.dst)) vs (fun i => (Array.replicate l.toArray.size false).getD i false) nh x = F.get x :=
        gF_none (j := 0) (Nat.zero_le _) fun i _ _ _ => hnl _ _
      rw [this]
      exact hsd.slot x⟩
    (hp.trans (Pres.drew w H σ)) hd
  rw [show nh + (l.toArray.size - nh) = l.toArray.size by omega] at key
  exact key
theorem AWp_draw {id : Nat} {l : List Oper} {R : Frame → Heap → Prop} (nd : Nat → Nat) (M : List Nat) (ks : Nat → List Nat) (hm : P.follows .mixedOrders = true) (hB : drawB l.toArray (nd id) = true) [ho : Nrm Q R]
    (h : ∀ Kv : Frame → Heap → Prop, (∀ F' H', R F' H' → Kv F' H') → vcD P n M l H (lk (fun F' => vcOps P n M l (l.drop (nd id)) F' H fun F'' H'' => Kv (canon (ks id) F'') H'') .mk) (nd id) l F) : AWp P n dfs H0 (.region id l.toArray true) Q F H := AWp_draw_n (nd id) M ks hm hB (h _ fun F' H' hr => ho.spec F' H' hr)
theorem AWp_drawE {id : Nat} {l : List Oper} (nd : Nat → Nat) (M : List Nat) (ks : Nat → List Nat) (hm : P.follows .mixedOrders = true) (hB : drawB l.toArray (nd id) = true)
    (h : ∀ Kv : Frame → Heap → Prop, (∀ F' H', Q .normal F' H' → Kv F' H') → vcD P n M l H (lk (fun F' => vcOps P n M l (l.drop (nd id)) F' H fun F'' H'' => Kv (canon (ks id) F'') H'') .mk) (nd id) l F) : AWp P n dfs H0 (.region id l.toArray true) Q F H := AWp_draw_n (nd id) M ks hm hB (h _ fun F' H' hr => hr)
theorem Two_intro (v : V) (H : Heap) : Two v H v H := ⟨rfl, rfl⟩
end
end Go.Proofs.YtmhabdopcbokoaaDoor.Ab
