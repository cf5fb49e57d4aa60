/- Regions that draw their order, in which an object is made at any time and one operation, the last whose order is open, turns it. No condition. -/
import Derived.Test.YtdmkfkjdielmiaaDoorP14
set_option linter.all false
set_option linter.unusedSimpArgs false
set_option linter.unusedVariables false
namespace Go.Proofs.YtdmkfkjdielmiaaDoor.Ab
open Go
variable [Glo]
section
variable {P : Program} {n : Nat} {dfs : List Deferred} {H Ha H1 : Heap}
def atC (b c : Bool) (H Ha H1 : Heap) : Heap := match c with | true => H1 | false => match b with | true => Ha | false => H
theorem draw_headA {M : List Nat} {all : List Oper} {nh a0 e : Nat} {vs F0 : Nat → V} {w0 : World} {H0 : Heap} {σ0 : Conc} {Q' : Exit → Act → World → Prop}
    (hlt : nh < all.toArray.size) (he : e < nh) (ha : a0 < nh) (hae : Region.waitsFor .any all.toArray e a0 = true) (hs : Region.sinkB .any all.toArray nh = true) (hc : Region.chainB .any all.toArray nh = true) (hb : backB all.toArray nh = true) (hd : dstB all.toArray nh = true) (hlk : looksB all.toArray nh = true)
    (hq : Region.seqB .any all.toArray (all.toArray.size - nh) nh (Array.replicate nh true ++ Array.replicate (all.toArray.size - nh) false) = true)
    (hok : ∀ i, i < nh → i ≠ a0 → i ≠ e → ∃ o, all[i]? = some o ∧ ∀ F', (∀ x, x ∈ o.looksAt all.toArray → F'.get x = gF F0 (fun i => (all[i]?).bind (·.dst)) vs always i x) →
      (Region.waitsFor .any all.toArray i a0 = false → Region.waitsFor .any all.toArray i e = false → OpOk P n M all H o F' (vs i)) ∧ (Region.waitsFor .any all.toArray i e = false → i ∉ ancs all.toArray a0 → OpOk P n M all Ha o F' (vs i)) ∧ (i ∉ ancs all.toArray e → OpOk P n M all H1 o F' (vs i)))
    (hoa : ∃ o, all[a0]? = some o ∧ o.guard = none ∧ dstOk n o.dst ∧ ∀ F', (∀ x, x ∈ o.looksAt all.toArray → F'.get x = gF F0 (fun i => (all[i]?).bind (·.dst)) vs always a0 x) → vcOp P M o F' H (Two (vs a0) Ha))
    (hoe : ∃ o, all[e]? = some o ∧ o.guard = none ∧ dstOk n o.dst ∧ ∀ F', (∀ x, x ∈ o.looksAt all.toArray → F'.get x = gF F0 (fun i => (all[i]?).bind (·.dst)) vs always e x) → vcOp P M o F' Ha (Two (vs e) H1))
    (hend : ∀ (w : World) (σ : Conc) (a : Act), SatG n w H1 σ (gF F0 (fun i => (all[i]?).bind (·.dst)) vs always nh) a.tmps → Pres w0 H0 σ0 w H1 σ → a.defers = dfs → wpList P all.toArray Q' (all.drop nh) a w) :
    ∀ (f : Nat) (listed : Array Bool) (a : Act) (w : World) (σ : Conc), HeadInv .any all.toArray nh listed → (List.range nh).countP (fun i => !listed.getD i false) = f →
      SatG n w (atC (listed.getD a0 false) (listed.getD e false) H Ha H1) σ (gF F0 (fun i => (all[i]?).bind (·.dst)) vs (fun i => listed.getD i false) nh) a.tmps → Pres w0 H0 σ0 w (atC (listed.getD a0 false) (listed.getD e false) H Ha H1) σ → a.defers = dfs → wpAny P .any all.toArray Q' (f + (all.toArray.size - nh)) listed a w
  | 0, listed, a, w, σ, inv, hf, hsat, hp, hdf => by
    have hall : ∀ i, i < nh → listed.getD i false = true := fun i hi => by simpa using countP_none hf i hi
    rw [hall e he, hall a0 ha] at hsat hp
    have heq : listed = Array.replicate nh true ++ Array.replicate (all.toArray.size - nh) false := by
      have hsz := inv.size
      apply Array.ext
      · simp at hlt hsz ⊢; omega
      · intro i h1 h2
        by_cases hi : i < nh
        · have := hall i hi
          simp [h1] at this
          rw [Array.getElem_append_left (by simpa using hi)]
          simp [this]
        · have := inv.tail i (by omega) (by omega)
          simp [h1] at this
          rw [Array.getElem_append_right (by simpa using hi)]
          simp [this]
    have hdl : (all.drop nh).length = all.toArray.size - nh := by simp
    rw [Nat.zero_add, ← hdl]
    refine wpAny_of_seq (all.drop nh) nh listed a w (fun j => by simp [List.getElem?_drop]) (by rw [hdl, heq]; exact hq) (hend w σ a ?_ hp hdf)
    refine ⟨hsat.ok, hsat.size, fun x => ?_⟩
    have : gF F0 (fun i => (all[i]?).bind (·.dst)) vs always nh x = gF F0 (fun i => (all[i]?).bind (·.dst)) vs (fun i => listed.getD i false) nh x :=
      gF_same fun i hi _ => ⟨by rw [hall i hi]; rfl, rfl⟩
    rw [this]
    exact hsat.slot x
  | f + 1, listed, a, w, σ, inv, hf, hsat, hp, hdf => by
    have hsz := inv.size
    obtain ⟨i0, hi0, hu0⟩ := countP_some hf
    have hu0' : listed.getD i0 false = false := by simpa using hu0
    have hex : ∀ i, i < nh → ∃ o, all[i]? = some o := fun i hi => by
      by_cases hie : i = e
      · subst hie
        obtain ⟨o, ho, _⟩ := hoe
        exact ⟨o, ho⟩
      · by_cases hia : i = a0
        · subst hia
          obtain ⟨o, ho, _⟩ := hoa
          exact ⟨o, ho⟩
        · obtain ⟨o, ho, _⟩ := hok i hi hia hie
          exact ⟨o, ho⟩
    have hin : ∀ i ∈ Region.ready .any all.toArray listed, i < nh := fun i hi => by
      rcases Nat.lt_or_ge i nh with h | h
      · exact h
      · exact absurd hi (tail_waits hs hc hlt inv _ i0 rfl hi0 (getD_in (by omega) hu0') i h)
    rw [show f + 1 + (all.toArray.size - nh) = (f + (all.toArray.size - nh)) + 1 by omega]
    refine ⟨fun h0 => ?_, fun i hi => ?_⟩
    · exfalso
      obtain ⟨j, hj, hpj, hmin⟩ := least (p := fun i => !listed.getD i false) i0 hu0
      have hjn : j < nh := by omega
      obtain ⟨o, ho⟩ := hex j hjn
      have ho' : all.toArray[j]? = some o := by simpa using ho
      have : j ∈ Region.ready .any all.toArray listed := mem_ready.2 ⟨getD_in (by omega) (by simpa using hpj), o, ho', fun e he hbe => by
        have := hmin _ (backB_spec hb hjn ho' e he hbe)
        simpa using this⟩
      rw [h0] at this
      cases this
    · have hin := hin i hi
      obtain ⟨hun, oi, hoi, hall⟩ := mem_ready.1 hi
      obtain ⟨o, ho⟩ := hex i hin
      have ho' : all.toArray[i]? = some o := by simpa using ho
      obtain rfl : o = oi := Option.some.inj (ho'.symm.trans hoi)
      have hunf : listed.getD i false = false := getD_both hun
      have hsee : ∀ x, x ∈ o.looksAt all.toArray → gF F0 (fun i => (all[i]?).bind (·.dst)) vs (fun i => listed.getD i false) nh x = gF F0 (fun i => (all[i]?).bind (·.dst)) vs always i x := fun x hx => by
        have e1 : gF F0 (fun i => (all[i]?).bind (·.dst)) vs (fun i => listed.getD i false) nh x = gF F0 (fun i => (all[i]?).bind (·.dst)) vs (fun k => decide (k < i)) nh x :=
          gF_same fun k hk hdk => ⟨by
            have hdk' : (all.toArray[k]?).bind (·.dst) = some x := by simpa using hdk
            rcases looksB_spec hlk hin ho' hx hk hdk' with ⟨h1, h2⟩ | h1 | h1
            · obtain ⟨oj, hoj, e, he, hbe, hon⟩ := Region.waitsFor_spec h2
              obtain rfl : oj = o := Option.some.inj (hoj.symm.trans ho')
              have := hall e he hbe
              rw [hon] at this
              rw [this]
              simp [h1]
            · subst h1
              rw [hunf]
              simp
            · obtain ⟨oj, hoj, e, he, hbe, hon⟩ := Region.waitsFor_spec h1
              have hki : ¬ k < i := by
                have := backB_spec hb hk hoj e he hbe
                omega
              have : listed.getD k false = false := by
                cases hlk' : listed.getD k false with
                | false => rfl
                | true =>
                  have := inv.closed k oj hoj hlk' e he hbe
                  rw [hon, hunf] at this
                  cases this
              rw [this]
              simp [hki], rfl⟩
        rw [e1, gF_none (j := i) (by omega) fun k h1 _ _ => by simpa using h1]
        exact gF_same fun k hk _ => ⟨by simp [always, hk], rfl⟩
      let F1 : Frame := (o.looksAt all.toArray).map fun x => (x, gF F0 (fun i => (all[i]?).bind (·.dst)) vs always i x)
      have hF1 : ∀ x, F1.get x = if x ∈ o.looksAt all.toArray then gF F0 (fun i => (all[i]?).bind (·.dst)) vs always i x else .top := fun x => by
        have : ∀ (l : List Nat), Frame.get (l.map fun x => (x, gF F0 (fun i => (all[i]?).bind (·.dst)) vs always i x)) x = if x ∈ l then gF F0 (fun i => (all[i]?).bind (·.dst)) vs always i x else .top := by
          intro l
          induction l with
          | nil => simp [Frame.get]
          | cons y l ih =>
            rw [List.map_cons]
            have := get_cons y (gF F0 (fun i => (all[i]?).bind (·.dst)) vs always i y) (l.map fun x => (x, gF F0 (fun i => (all[i]?).bind (·.dst)) vs always i x)) x
            rw [this, ih]
            by_cases hxy : x = y
            · subst hxy; simp
            · simp [hxy]
        exact this _
      have hlook : ∀ x, x ∈ o.looksAt all.toArray → F1.get x = gF F0 (fun i => (all[i]?).bind (·.dst)) vs always i x := fun x hx => by rw [hF1, if_pos hx]
      have hset : ∀ j, j ≠ i → (listed.setIfInBounds i true).getD j false = listed.getD j false := fun j hj => getD_set_ne false (Ne.symm hj)
      have hseti : (listed.setIfInBounds i true).getD i false = true := by
        have : i < listed.size := by omega
        simp [this]
      have hcount : (List.range nh).countP (fun j => !(listed.setIfInBounds i true).getD j false) = f := by
        have := countP_set (p := fun i => !listed.getD i false) (q := fun j => !(listed.setIfInBounds i true).getD j false) (i := i) (l := List.range nh) List.nodup_range (List.mem_range.2 hin) (by simp [hunf]) (by simp [hseti]) (fun j hj => by simp only [hset j hj])
        omega
      have hgset : ∀ x, gF F0 (fun i => (all[i]?).bind (·.dst)) vs (fun j => (listed.setIfInBounds i true).getD j false) nh x = if o.dst = some x then vs i else gF F0 (fun i => (all[i]?).bind (·.dst)) vs (fun i => listed.getD i false) nh x := fun x => by
        rw [gF_set hin hset hseti fun j hj hji hdj => by
          have := dstB_spec (i := i) (k := j) (x := x) hd hin hj hji (by simpa using hdj)
          simpa using this]
        simp [ho]
      have hF1s : ∀ x, F1.get x = .top ∨ F1.get x = gF F0 (fun i => (all[i]?).bind (·.dst)) vs (fun i => listed.getD i false) nh x := fun x => by
        rw [hF1]
        split
        · rename_i hx; exact .inr (hsee x hx).symm
        · exact .inl rfl
      have hle : ∀ L : Array Bool, HeadInv .any all.toArray nh L → L.getD e false = true → L.getD a0 false = true := fun L invL hL => by
        obtain ⟨oj, hoj, ed, hed, hbe, hon⟩ := Region.waitsFor_spec hae
        have := invL.closed e oj hoj hL ed hed hbe
        rwa [hon] at this
      by_cases hia : i = a0
      · subst hia
        obtain ⟨o', ho2, hg, hdo, hE⟩ := hoa
        obtain rfl : o = o' := Option.some.inj (ho.symm.trans ho2)
        have hne : i ≠ e := fun h => by
          subst h
          obtain ⟨oj, hoj, ed, hed, hbe, hon⟩ := Region.waitsFor_spec hae
          have := backB_spec hb hin hoj ed hed hbe
          omega
        have hlf : listed.getD e false = false := by
          cases h : listed.getD e false with
          | false => rfl
          | true => rw [hle listed inv h] at hunf; cases hunf
        rw [hunf, hlf] at hsat hp
        refine EOk_run (M := M) (v := vs i) (H1 := Ha) (all := all) hg (hE F1 hlook) ho (hsat.toF hF1s) fun val w' σ' hv hw' hp' => ?_
        refine draw_headA hlt he ha hae hs hc hb hd hlk hq hok ⟨o, ho2, hg, hdo, hE⟩ hoe hend f _ _ w' σ' (inv.set hi hin) hcount ?_ ?_ (by cases hdst : o.dst <;> simpa [Act.put, hdst] using hdf)
        · rw [hseti, hset e (Ne.symm hne), hlf]
          have hsat' : SatG n w' Ha σ' (gF F0 (fun i => (all[i]?).bind (·.dst)) vs (fun i => listed.getD i false) nh) a.tmps := ⟨hw', hsat.size, fun x => (hsat.slot x).pres hp'⟩
          exact hsat'.put hdo hv hgset
        · rw [hseti, hset e (Ne.symm hne), hlf]
          exact hp.trans hp'
      by_cases hie : i = e
      · subst hie
        obtain ⟨o', ho2, hg, hdo, hE⟩ := hoe
        obtain rfl : o = o' := Option.some.inj (ho.symm.trans ho2)
        have hla : listed.getD a0 false = true := by
          obtain ⟨oj, hoj, ed, hed, hbe, hon⟩ := Region.waitsFor_spec hae
          obtain rfl : oj = o := Option.some.inj (hoj.symm.trans ho')
          have := hall ed hed hbe
          rwa [hon] at this
        rw [hunf, hla] at hsat hp
        refine EOk_run (M := M) (v := vs i) (H1 := H1) (all := all) hg (hE F1 hlook) ho (hsat.toF hF1s) fun val w' σ' hv hw' hp' => ?_
        refine draw_headA hlt he ha hae hs hc hb hd hlk hq hok hoa ⟨o, ho2, hg, hdo, hE⟩ hend f _ _ w' σ' (inv.set hi hin) hcount ?_ ?_ (by cases hdst : o.dst <;> simpa [Act.put, hdst] using hdf)
        · rw [hseti]
          have hsat' : SatG n w' H1 σ' (gF F0 (fun i => (all[i]?).bind (·.dst)) vs (fun i => listed.getD i false) nh) a.tmps := ⟨hw', hsat.size, fun x => (hsat.slot x).pres hp'⟩
          exact hsat'.put hdo hv hgset
        · rw [hseti]
          exact hp.trans hp'
      · obtain ⟨o', ho2, hO⟩ := hok i hin hia hie
        obtain rfl : o = o' := Option.some.inj (ho.symm.trans ho2)
        obtain ⟨hA, hAa, hB⟩ := hO F1 hlook
        have hwt : ∀ y, listed.getD y false = false → Region.waitsFor .any all.toArray i y = false := fun y hy => by
          cases hwt : Region.waitsFor .any all.toArray i y with
          | false => rfl
          | true =>
            obtain ⟨oj, hoj, ed, hed, hbe, hon⟩ := Region.waitsFor_spec hwt
            obtain rfl : oj = o := Option.some.inj (hoj.symm.trans ho')
            have := hall ed hed hbe
            rw [hon, hy] at this
            cases this
        have hokF : OpOk P n M all (atC (listed.getD a0 false) (listed.getD e false) H Ha H1) o F1 (vs i) := by
          cases hle' : listed.getD e false with
          | true =>
            refine hB fun hm => ?_
            have := ancs_done inv hle' i hm
            rw [hunf] at this
            cases this
          | false =>
            cases hla : listed.getD a0 false with
            | true =>
              refine hAa (hwt _ hle') fun hm => ?_
              have := ancs_done inv hla i hm
              rw [hunf] at this
              cases this
            | false => exact hA (hwt _ hla) (hwt _ hle')
        refine OpOk.run hokF ho (hsat.toF hF1s) fun val w' σ' hv hw' hp' => ?_
        refine draw_headA hlt he ha hae hs hc hb hd hlk hq hok hoa hoe hend f _ _ w' σ' (inv.set hi hin) hcount ?_ ?_ (by cases hdst : o.dst <;> simpa [Act.put, hdst] using hdf)
        · rw [hset e (Ne.symm hie), hset a0 (Ne.symm hia)]
          have hsat' : SatG n w' (atC (listed.getD a0 false) (listed.getD e false) H Ha H1) σ' (gF F0 (fun i => (all[i]?).bind (·.dst)) vs (fun i => listed.getD i false) nh) a.tmps := ⟨hw', hsat.size, fun x => (hsat.slot x).pres hp'⟩
          exact hsat'.put hokF.1 hv hgset
        · rw [hset e (Ne.symm hie), hset a0 (Ne.symm hia)]
          exact hp.trans hp'
def vcA1 (P : Program) (n : Nat) (M : List Nat) (H Ha : Heap) (va : V) (T : Frame → Prop) : List Nat → List Oper → Frame → Prop
  | [], _, F => T F
  | _ :: _, [], _ => False
  | c :: cs, o :: rest, F => o.guard = none ∧ dstOk n o.dst ∧ match c with
    | 0 => vcQ P M o F H fun v => vcQ P M o F Ha fun v' => v = v' ∧ vcA1 P n M H Ha va T cs rest (F.put o.dst v)
    | 1 => vcQ P M o F Ha fun v => vcA1 P n M H Ha va T cs rest (F.put o.dst v)
    | 2 => vcA1 P n M H Ha va T cs rest (F.put o.dst va)
    | _ => vcQ P M o F H fun v => vcA1 P n M H Ha va T cs rest (F.put o.dst v)
def vcA2 (P : Program) (n : Nat) (M : List Nat) (H : Heap) (T : Heap → Frame → Prop) : List Oper → Frame → Prop
  | [], _ => False
  | o :: _, F => o.guard = none ∧ dstOk n o.dst ∧ vcE P M o F H fun v H1 => T H1 (F.put o.dst v)
def vcA0 (P : Program) (n : Nat) (M : List Nat) (H : Heap) (T : V → Heap → Prop) : List Oper → Frame → Prop
  | [], _ => False
  | o :: _, F => (match o.op with | .alloc _ => True | _ => False) ∧ o.guard = none ∧ dstOk n o.dst ∧ vcE P M o F H T
theorem vcA1_run {M : List Nat} {all : List Oper} {T : Frame → Prop} {F0 : Nat → V} {Ha : Heap} {va : V} : ∀ (cs : List Nat) (p : Nat) (l : List Oper) (vs : Nat → V) (F : Frame),
    (∀ i, l[i]? = all[p + i]?) → (∀ x, F.get x = gF F0 (fun i => (all[i]?).bind (·.dst)) vs always p x) → vcA1 P n M H Ha va T cs l F →
    ∃ vs' : Nat → V, (∀ i, i < p → vs' i = vs i) ∧
      (∀ i, p ≤ i → i < p + cs.length → ∃ o, all[i]? = some o ∧ (cs[i - p]? = some 2 → vs' i = va) ∧ ∀ F', (∀ x, x ∈ o.looksAt all.toArray → F'.get x = gF F0 (fun i => (all[i]?).bind (·.dst)) vs' always i x) →
        (cs[i - p]? = some 0 → OpOk P n M all H o F' (vs' i) ∧ OpOk P n M all Ha o F' (vs' i)) ∧ (cs[i - p]? = some 1 → OpOk P n M all Ha o F' (vs' i)) ∧ (cs[i - p]? = some 3 → OpOk P n M all H o F' (vs' i))) ∧
      ∃ F', T F' ∧ ∀ x, F'.get x = gF F0 (fun i => (all[i]?).bind (·.dst)) vs' always (p + cs.length) x
  | [], p, l, vs, F, hl, hF, h => ⟨vs, fun _ _ => rfl, fun i h1 h2 => by simp at h2; omega, F, h, hF⟩
  | b :: cs, p, [], vs, F, hl, hF, h => h.elim
  | b :: cs, p, o :: rest, vs, F, hl, hF, h => by
    have h0 : all[p]? = some o := by simpa using (hl 0).symm
    have hl' : ∀ i, rest[i]? = all[p + 1 + i]? := fun i => by
      have := hl (i + 1)
      rw [List.getElem?_cons_succ] at this
      rw [this]
      congr 1
      omega
    have step : ∀ (v : V), (b = 2 → v = va) → (b = 0 → OpOk P n M all H o F v ∧ OpOk P n M all Ha o F v) → (b = 1 → OpOk P n M all Ha o F v) → (b = 3 → OpOk P n M all H o F v) → vcA1 P n M H Ha va T cs rest (F.put o.dst v) → ∃ vs' : Nat → V, (∀ i, i < p → vs' i = vs i) ∧
        (∀ i, p ≤ i → i < p + (cs.length + 1) → ∃ o, all[i]? = some o ∧ ((b :: cs)[i - p]? = some 2 → vs' i = va) ∧ ∀ F', (∀ x, x ∈ o.looksAt all.toArray → F'.get x = gF F0 (fun i => (all[i]?).bind (·.dst)) vs' always i x) →
          ((b :: cs)[i - p]? = some 0 → OpOk P n M all H o F' (vs' i) ∧ OpOk P n M all Ha o F' (vs' i)) ∧ ((b :: cs)[i - p]? = some 1 → OpOk P n M all Ha o F' (vs' i)) ∧ ((b :: cs)[i - p]? = some 3 → OpOk P n M all H o F' (vs' i))) ∧
        ∃ F', T F' ∧ ∀ x, F'.get x = gF F0 (fun i => (all[i]?).bind (·.dst)) vs' always (p + (cs.length + 1)) x := by
      intro v k2 k0 k1 k3 hrest
      let vs1 : Nat → V := fun i => if i = p then v else vs i
      have e1 : ∀ x, gF F0 (fun i => (all[i]?).bind (·.dst)) vs1 always p x = gF F0 (fun i => (all[i]?).bind (·.dst)) vs always p x := fun x =>
        gF_same fun i hi _ => ⟨rfl, if_neg (by omega)⟩
      obtain ⟨vs', h1, h2, F', h3, h4⟩ := vcA1_run cs (p + 1) rest vs1 (F.put o.dst v) hl' (fun x => by
        rw [get_put, gF, e1, hF x]
        simp [always, h0, vs1]) hrest
      have e2 : ∀ x, gF F0 (fun i => (all[i]?).bind (·.dst)) vs' always p x = gF F0 (fun i => (all[i]?).bind (·.dst)) vs always p x := fun x =>
        gF_same fun i hi _ => ⟨rfl, by rw [h1 i (by omega)]; exact if_neg (by omega)⟩
      refine ⟨vs', fun i hi => by rw [h1 i (by omega)]; exact if_neg (by omega), fun i hi hi2 => ?_, F', h3, fun x => by rw [h4 x]; congr 1; omega⟩
      by_cases hip : i = p
      · subst hip
        have hv : vs' i = v := by rw [h1 i (by omega)]; simp only [vs1, if_true]
        rw [Nat.sub_self, hv]
        refine ⟨o, h0, fun hb => k2 (by simpa using hb), fun F' hF' => ?_⟩
        have cg : ∀ {H'}, OpOk P n M all H' o F v → OpOk P n M all H' o F' v := fun hO => hO.congr fun x hx => by rw [hF' x hx, e2 x, hF x]
        exact ⟨fun hb => ⟨cg (k0 (by simpa using hb)).1, cg (k0 (by simpa using hb)).2⟩, fun hb => cg (k1 (by simpa using hb)), fun hb => cg (k3 (by simpa using hb))⟩
      · obtain ⟨o', ho', hh⟩ := h2 i (by omega) (by omega)
        rw [show i - p = (i - (p + 1)) + 1 by omega, List.getElem?_cons_succ]
        exact ⟨o', ho', hh⟩
    obtain ⟨hg, hd, h⟩ := h
    split at h
    · obtain ⟨v, h1, h2⟩ := vcQ_det h
      obtain ⟨v', h3, rfl, h4⟩ := vcQ_det h2
      exact step v (fun e => by cases e) (fun _ => ⟨⟨hd, by rw [hg]; exact h1⟩, ⟨hd, by rw [hg]; exact h3⟩⟩) (fun e => by cases e) (fun e => by cases e) h4
    · obtain ⟨v, h1, h2⟩ := vcQ_det h
      exact step v (fun e => by cases e) (fun e => by cases e) (fun _ => ⟨hd, by rw [hg]; exact h1⟩) (fun e => by cases e) h2
    · exact step va (fun _ => rfl) (fun e => by cases e) (fun e => by cases e) (fun e => by cases e) h
    · rename_i n0 n1 n2
      obtain ⟨v, h1, h2⟩ := vcQ_det h
      exact step v (fun e => (n2 e).elim) (fun e => (n0 e).elim) (fun e => (n1 e).elim) (fun _ => ⟨hd, by rw [hg]; exact h1⟩) h2
def drawAB (ops : Array Oper) (a0 e : Nat) (cs : List Nat) : Bool :=
  decide (e + 1 < ops.size) && decide (a0 < e) && Region.waitsFor .any ops e a0 && Region.sinkB .any ops (e + 1) && Region.chainB .any ops (e + 1) && backB ops (e + 1) && dstB ops (e + 1) && looksB ops (e + 1) &&
    Region.seqB .any ops (ops.size - (e + 1)) (e + 1) (Array.replicate (e + 1) true ++ Array.replicate (ops.size - (e + 1)) false) && decide (cs.length = e) && (cs[a0]? == some 2) &&
    ((List.range e).all fun i => i == a0 || ((cs[i]? == some 0 && (ancs ops e).contains i) || (cs[i]? == some 1 && Region.waitsFor .any ops i a0 && (ancs ops e).contains i) || (cs[i]? == some 3 && ((ops[i]?).map freeB).getD false)))
variable {H0 : Heap} {Q : Exit → Frame → Heap → Prop} {F : Frame}
theorem AWp_drawA_n {id : Nat} {l : List Oper} (a0 e : Nat) (cs : List Nat) (M : List Nat) (ks : Nat → List Nat) (hm : P.follows .mixedOrders = true) (hB : drawAB l.toArray a0 e cs = true)
    (h : vcA0 P n M H (fun va Ha => vcA1 P n M H Ha va (fun F' => vcA2 P n M Ha (fun H1 F'' => vcOps P n M l (l.drop (e + 1)) F'' H1 fun F3 H3 => Q .normal (canon (ks id) F3) H3) (l.drop e) F') cs l F) (l.drop a0) F) : AWp P n dfs H0 (.region id l.toArray true) Q F H := by
  unfold AWp
  intro w0 σ0 w σ a hw hp hs hd
  simp only [drawAB, Bool.and_eq_true, decide_eq_true_eq, beq_iff_eq] at hB
  obtain ⟨⟨⟨⟨⟨⟨⟨⟨⟨⟨⟨hlt, hae'⟩, hwa⟩, hsk⟩, hc⟩, hb⟩, hds⟩, hlk⟩, hq⟩, hcl⟩, hc2⟩, hpre⟩ := hB
  have hal : a0 < l.length := by simp at hlt; omega
  have hel : e < l.length := by simp at hlt; omega
  rw [List.drop_eq_getElem_cons hal] at h
  obtain ⟨hao, hga, hda, hA⟩ := h
  obtain ⟨va, Ha, hA1, hX⟩ := vcE_det hA
  have hla : l[a0]? = some l[a0] := List.getElem?_eq_getElem hal
  have hle : l[e]? = some l[e] := List.getElem?_eq_getElem hel
  obtain ⟨vs0, _, hok0, F1, hT0, hF1⟩ := vcA1_run (F0 := F.get) (all := l) cs 0 l (fun _ => .top) F (fun i => by simp) (fun x => rfl) hX
  rw [Nat.zero_add, hcl] at hF1
  simp only [Nat.zero_add, hcl, Nat.sub_zero] at hok0
  rw [List.drop_eq_getElem_cons hel] at hT0
  obtain ⟨hge, hde, hE⟩ := hT0
  obtain ⟨ve, H1, hE1, hT⟩ := vcE_det hE
  let vs : Nat → V := fun i => if i = e then ve else vs0 i
  have e2 : ∀ i, i ≤ e → ∀ x, gF F.get (fun i => (l[i]?).bind (·.dst)) vs always i x = gF F.get (fun i => (l[i]?).bind (·.dst)) vs0 always i x := fun i hi x =>
    gF_same fun k hk _ => ⟨rfl, if_neg (by omega)⟩
  have hF3 : ∀ x, (F1.put l[e].dst ve).get x = gF F.get (fun i => (l[i]?).bind (·.dst)) vs always (e + 1) x := fun x => by
    rw [get_put, gF, e2 e (Nat.le_refl _), hF1 x]
    simp [always, hle, vs]
  refine wp_region_any hm ?_
  have hsd : Sat n w.drew H σ F a.tmps := hs.pres (Pres.drew w H σ) hs.ok.drew
  have hnl : ∀ (m j : Nat), (Array.replicate m false).getD j false = false := getD_replicate_false
  have key := draw_headA (P := P) (n := n) (H := H) (Ha := Ha) (H1 := H1) (M := M) (all := l) (nh := e + 1) (a0 := a0) (e := e) (vs := vs) (F0 := F.get) (w0 := w0) (H0 := H0) (σ0 := σ0)
    (Q' := fun e a' w' => ∃ F' H' σ', Q e F' H' ∧ Pres w0 H0 σ0 w' H' σ' ∧ Sat n w' H' σ' F' a'.tmps ∧ a'.defers = dfs) hlt (Nat.lt_succ_self _) (by omega) hwa hsk hc hb hds hlk hq
    (fun i hi hia hie => by
      have hie2 : i < e := by omega
      obtain ⟨o, ho, _, hh⟩ := hok0 i (Nat.zero_le _) hie2
      refine ⟨o, ho, fun F' hF' => ?_⟩
      have hv : vs i = vs0 i := if_neg hie
      obtain ⟨j0, j1, j3⟩ := hh F' fun x hx => by rw [hF' x hx, e2 i (by omega)]
      rw [hv]
      have := List.all_eq_true.1 hpre i (List.mem_range.2 hie2)
      simp only [Bool.or_eq_true, Bool.and_eq_true, beq_iff_eq, List.contains_iff_mem] at this
      rcases this with h1 | ((⟨h1, h2⟩ | ⟨⟨h1, h2⟩, h3⟩) | ⟨h1, h2⟩)
      · exact absurd h1 hia
      · exact ⟨fun _ _ => (j0 h1).1, fun _ _ => (j0 h1).2, fun hn => absurd h2 hn⟩
      · exact ⟨fun hn _ => (by rw [h2] at hn; cases hn), fun _ _ => j1 h1, fun hn => absurd h3 hn⟩
      · have hf : freeB o = true := by simpa [ho] using h2
        exact ⟨fun _ _ => j3 h1, fun _ _ => (j3 h1).free hf, fun _ => (j3 h1).free hf⟩)
    ⟨l[a0], hla, hga, hda, fun F' hF' => by
      obtain ⟨o, ho, hva, _⟩ := hok0 a0 (Nat.zero_le _) hae'
      have : vs a0 = va := by rw [← hva hc2]; exact if_neg (by omega)
      rw [this]
      refine vcOp_congr (fun x hx => ?_) hA1
      exfalso
      revert hao hx
      cases l[a0].op <;> simp [Op.operands]⟩
    ⟨l[e], hle, hge, hde, fun F' hF' => by
      have : vs e = ve := if_pos rfl
      rw [this]
      exact vcOp_congr (fun x hx => by
        rw [hF' x (by
          unfold Oper.looksAt
          exact List.mem_append_left _ (List.mem_filterMap.2 ⟨_, hx, rfl⟩)), e2 e (Nat.le_refl _), hF1 x]) hE1⟩
    (fun w1 σ1 a1 h1 h2 h3 => vcOps_wp (l.drop (e + 1)) (F1.put l[e].dst ve) H1 _ w1 σ1 a1 hT (h1.toF fun x => .inr (hF3 x)) h2 h3 fun F'' H'' w' σ' a' hk hs' hp' hd' =>
      ⟨_, H'', σ', hk, hp', hs'.canon _, hd'⟩)
    (e + 1) (Array.replicate l.toArray.size false) a w.drew σ
    ⟨by simp, fun j oj _ hl => (by rw [getD_replicate_false] at hl; cases hl), fun t _ ht => getD_in (by simpa using ht) (getD_replicate_false _ _)⟩
    (by
      have : (List.range (e + 1)).countP (fun i => !(Array.replicate l.toArray.size false).getD i false) = (List.range (e + 1)).length := List.countP_eq_length.2 fun i _ => by rw [hnl]; rfl
      rw [this, List.length_range])
    (by
      rw [hnl, hnl]
      exact ⟨hsd.ok, hsd.size, fun x => by
        have : gF F.get (fun i => (l[i]?).bind (·.dst)) vs (fun i => (Array.replicate l.toArray.size false).getD i false) (e + 1) x = F.get x :=
          gF_none (j := 0) (Nat.zero_le _) fun i _ _ _ => hnl _ _
        rw [this]
        exact hsd.slot x⟩)
    (by rw [hnl, hnl]; exact hp.trans (Pres.drew w H σ)) hd
  rw [show e + 1 + (l.toArray.size - (e + 1)) = l.toArray.size by omega] at key
  exact key
theorem AWp_drawA {id : Nat} {l : List Oper} {R : Frame → Heap → Prop} (xa : Nat → Nat × Nat × List Nat) (M : List Nat) (ks : Nat → List Nat) (hx : Nat.ble 1 (xa id).2.1 = true) (hm : P.follows .mixedOrders = true) (hB : drawAB l.toArray (xa id).1 (xa id).2.1 (xa id).2.2 = true) [ho : Nrm Q R]
    (h : ∀ Kv : Frame → Heap → Prop, (∀ F' H', R F' H' → Kv F' H') → vcA0 P n M H (lk (fun va Ha => vcA1 P n M H Ha va (lk (fun F' => vcA2 P n M Ha (lk (fun H1 F'' => vcOps P n M l (l.drop ((xa id).2.1 + 1)) F'' H1 fun F3 H3 => Kv (canon (ks id) F3) H3) .mk) (l.drop (xa id).2.1) F') .mk) (xa id).2.2 l F) .mk) (l.drop (xa id).1) F) : AWp P n dfs H0 (.region id l.toArray true) Q F H :=
  AWp_drawA_n (xa id).1 (xa id).2.1 (xa id).2.2 M ks hm hB (h _ fun F' H' hr => ho.spec F' H' hr)
theorem vcA1_nil {M : List Nat} {Ha : Heap} {va : V} {T : Frame → Prop} {l : List Oper} : vcA1 P n M H Ha va T [] l F = T F := Eq.trans rfl rfl
theorem vcA1_0 {M : List Nat} {Ha : Heap} {va : V} {T : Frame → Prop} {cs : List Nat} {d : Option Tmp} {op : Op} {ty : TypeId} {ps : String} {af : Array Edge} {rest : List Oper} : vcA1 P n M H Ha va T (0 :: cs) (⟨d, op, ty, ps, af, none⟩ :: rest) F = (dstOk n d ∧ vcQ P M ⟨d, op, ty, ps, af, none⟩ F H fun v => vcQ P M ⟨d, op, ty, ps, af, none⟩ F Ha fun v' => v = v' ∧ vcA1 P n M H Ha va T cs rest (F.put d v)) := by simp [vcA1]
theorem vcA1_1 {M : List Nat} {Ha : Heap} {va : V} {T : Frame → Prop} {cs : List Nat} {d : Option Tmp} {op : Op} {ty : TypeId} {ps : String} {af : Array Edge} {rest : List Oper} : vcA1 P n M H Ha va T (1 :: cs) (⟨d, op, ty, ps, af, none⟩ :: rest) F = (dstOk n d ∧ vcQ P M ⟨d, op, ty, ps, af, none⟩ F Ha fun v => vcA1 P n M H Ha va T cs rest (F.put d v)) := by simp [vcA1]
theorem vcA1_2 {M : List Nat} {Ha : Heap} {va : V} {T : Frame → Prop} {cs : List Nat} {d : Option Tmp} {op : Op} {ty : TypeId} {ps : String} {af : Array Edge} {rest : List Oper} : vcA1 P n M H Ha va T (2 :: cs) (⟨d, op, ty, ps, af, none⟩ :: rest) F = (dstOk n d ∧ vcA1 P n M H Ha va T cs rest (F.put d va)) := by simp [vcA1]
theorem vcA1_3 {M : List Nat} {Ha : Heap} {va : V} {T : Frame → Prop} {cs : List Nat} {d : Option Tmp} {op : Op} {ty : TypeId} {ps : String} {af : Array Edge} {rest : List Oper} : vcA1 P n M H Ha va T (3 :: cs) (⟨d, op, ty, ps, af, none⟩ :: rest) F = (dstOk n d ∧ vcQ P M ⟨d, op, ty, ps, af, none⟩ F H fun v => vcA1 P n M H Ha va T cs rest (F.put d v)) := by simp [vcA1]
theorem vcA2_c {M : List Nat} {T : Heap → Frame → Prop} {d : Option Tmp} {op : Op} {ty : TypeId} {ps : String} {af : Array Edge} {rest : List Oper} : vcA2 P n M H T (⟨d, op, ty, ps, af, none⟩ :: rest) F = (dstOk n d ∧ vcE P M ⟨d, op, ty, ps, af, none⟩ F H fun v H1 => T H1 (F.put d v)) := by simp [vcA2]
theorem vcA0_c {M : List Nat} {T : V → Heap → Prop} {d : Option Tmp} {t : TypeId} {ty : TypeId} {ps : String} {af : Array Edge} {rest : List Oper} : vcA0 P n M H T (⟨d, .alloc t, ty, ps, af, none⟩ :: rest) F = (dstOk n d ∧ vcE P M ⟨d, .alloc t, ty, ps, af, none⟩ F H T) := by simp [vcA0]
end
attribute [go_sem ↓] vcA1_nil vcA1_0 vcA1_1 vcA1_2 vcA1_3 vcA2_c vcA0_c
end Go.Proofs.YtdmkfkjdielmiaaDoor.Ab
namespace Go.Proofs.YtdmkfkjdielmiaaDoor.Ab
open Go
variable [Glo]
theorem vcD_0 {P : Program} {n : Nat} {M : List Nat} {all l : List Oper} {H : Heap} {T : Frame → Prop} {F : Frame} : vcD P n M all H T 0 l F = T F := by
  unfold vcD; rfl
theorem vcD_n {P : Program} {n k : Nat} {M : List Nat} {all rest : List Oper} {d : Option Tmp} {op : Op} {ty : TypeId} {ps : String} {af : Array Edge} {H : Heap} {T : Frame → Prop} {F : Frame} : vcD P n M all H T (k + 1) (⟨d, op, ty, ps, af, none⟩ :: rest) F = (dstOk n d ∧ vcQ P M ⟨d, op, ty, ps, af, none⟩ F H (lk (fun v => vcD P n M all H T k rest (F.put d v)) .mk)) := by
  rw [vcD]; rfl
def vcDg (P : Program) (n : Nat) (M : List Nat) (all : List Oper) (H : Heap) (T : Frame → Prop) (k : Nat) (o : Oper) (rest : List Oper) (want : Bool) (d : Nat) (F : Frame) (x : V) : Prop :=
  match x with
  | .d (.b t) => d < n ∧ dstOk n o.dst ∧ (match want with
      | true => onB t (vcQ P M o (F.put (some d) (.d (.b true))) H (lk (fun v => vcD P n M all H T k rest ((F.put (some d) (.d (.b true))).put o.dst v)) .mk))
          (vcD P n M all H T k rest ((F.put (some d) (.d (.b false))).put o.dst .un))
      | false => onB t (vcD P n M all H T k rest ((F.put (some d) (.d (.b true))).put o.dst .un))
          (vcQ P M o (F.put (some d) (.d (.b false))) H (lk (fun v => vcD P n M all H T k rest ((F.put (some d) (.d (.b false))).put o.dst v)) .mk)))
  | .un => dstOk n o.dst ∧ vcD P n M all H T k rest (F.put o.dst .un)
  | _ => False
theorem vcD_s {P : Program} {n k j : Nat} {M : List Nat} {all rest : List Oper} {d : Option Tmp} {op : Op} {ty : TypeId} {ps : String} {af : Array Edge} {want : Bool} {H : Heap} {T : Frame → Prop} {F : Frame} : vcD P n M all H T (k + 1) (⟨d, op, ty, ps, af, some (j, want)⟩ :: rest) F = (match (all[j]?).bind (·.dst) with | some e => vcDg P n M all H T k ⟨d, op, ty, ps, af, some (j, want)⟩ rest want e F (F.get e) | none => False) := by
  rw [vcD]
  simp only []
  cases (all[j]?).bind (·.dst) <;> rfl
theorem vcDg_un {P : Program} {n k : Nat} {M : List Nat} {all rest : List Oper} {o : Oper} {want : Bool} {e : Nat} {H : Heap} {T : Frame → Prop} {F : Frame} : vcDg P n M all H T k o rest want e F .un = (dstOk n o.dst ∧ vcD P n M all H T k rest (F.put o.dst .un)) := rfl
theorem vcDg_t {P : Program} {n k : Nat} {M : List Nat} {all rest : List Oper} {o : Oper} {e : Nat} {t : Bool} {H : Heap} {T : Frame → Prop} {F : Frame} : vcDg P n M all H T k o rest true e F (.d (.b t)) = (e < n ∧ dstOk n o.dst ∧ onB t (vcQ P M o (F.put (some e) (.d (.b true))) H (lk (fun v => vcD P n M all H T k rest ((F.put (some e) (.d (.b true))).put o.dst v)) .mk)) (vcD P n M all H T k rest ((F.put (some e) (.d (.b false))).put o.dst .un))) := rfl
theorem vcDg_f {P : Program} {n k : Nat} {M : List Nat} {all rest : List Oper} {o : Oper} {e : Nat} {t : Bool} {H : Heap} {T : Frame → Prop} {F : Frame} : vcDg P n M all H T k o rest false e F (.d (.b t)) = (e < n ∧ dstOk n o.dst ∧ onB t (vcD P n M all H T k rest ((F.put (some e) (.d (.b true))).put o.dst .un)) (vcQ P M o (F.put (some e) (.d (.b false))) H (lk (fun v => vcD P n M all H T k rest ((F.put (some e) (.d (.b false))).put o.dst v)) .mk))) := rfl
attribute [go_sem ↓ 2000] vcD_0 vcD_n vcD_s
attribute [go_sem ↓] vcDg_un vcDg_t vcDg_f
end Go.Proofs.YtdmkfkjdielmiaaDoor.Ab
