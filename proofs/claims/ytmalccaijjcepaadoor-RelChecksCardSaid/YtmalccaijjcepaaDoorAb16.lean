/- Regions that draw their order, with one operation that turns objects among those whose order is open; looks at an own object's first rows. No condition. -/
import Derived.Test.YtmalccaijjcepaaDoorAb15
set_option linter.all false
set_option linter.unusedSimpArgs false
set_option linter.unusedVariables false
namespace Go.Proofs.YtmalccaijjcepaaDoor.Ab
open Go
variable [Glo]
section
variable {P : Program} {n : Nat} {dfs : List Deferred} {H H1 : Heap}

/-- An operation that does not look at objects. -/
def freeB (o : Oper) : Bool := o.guard.isNone && match o.op with | .binOp .eql _ _ _ _ | .binOp .neq _ _ _ _ => false | .move _ | .binOp .. | .unOp .. | .index .. | .extract .. | .field .. => true | _ => false
theorem vcBinN_free {op : BinOp} {t : TypeId} {x y : V} {K : V → Prop} (h1 : op ≠ .eql) (h2 : op ≠ .neq) (h : vcBinN P op t x y H K) : vcBinN P op t x y H1 K := by
  unfold vcBinN at h ⊢
  split at h
  · split at h
    · exact absurd rfl h1
    · exact absurd rfl h2
    · exact h.elim
  · exact h
theorem OpOk.free {M : List Nat} {all : List Oper} {o : Oper} {F : Frame} {v : V} (h : OpOk P n M all H o F v) (hf : freeB o = true) : OpOk P n M all H1 o F v := by
  obtain ⟨dst, op, type, pos, after, guard⟩ := o
  cases guard with
  | some g => simp [freeB] at hf
  | none =>
    refine ⟨h.1, ?_⟩
    have h := h.2
    cases op with
    | move x => exact ⟨h.1, rfl⟩
    | binOp op t x y u =>
      have ho : op ≠ .eql ∧ op ≠ .neq := by
        constructor <;> (intro e; subst e; simp [freeB] at hf)
      have h : (match (match dst with | some d => M.contains d | none => false) with | true => vcBinW op (ev F x) (ev F y) (fun u => Two v H u H) | false => vcBinN P op t (ev F x) (ev F y) H (fun u => Two v H u H)) := h
      show (match (match dst with | some d => M.contains d | none => false) with | true => vcBinW op (ev F x) (ev F y) (fun u => Two v H1 u H1) | false => vcBinN P op t (ev F x) (ev F y) H1 (fun u => Two v H1 u H1))
      split at h
      · simpa [Two] using h
      · exact vcBinN_free ho.1 ho.2 (by simpa [Two] using h)
    | unOp op t x =>
      have h : vcUn op (ev F x) (fun u => Two v H u H) := h
      show vcUn op (ev F x) (fun u => Two v H1 u H1)
      simpa [Two] using h
    | index t x i =>
      have h : vcIndex P t (ev F x) (ev F i) (fun u => Two v H u H) := h
      show vcIndex P t (ev F x) (ev F i) (fun u => Two v H1 u H1)
      simpa [Two] using h
    | extract x i =>
      have h : vcExtract (ev F x) i (fun u => Two v H u H) := h
      show vcExtract (ev F x) i (fun u => Two v H1 u H1)
      simpa [Two] using h
    | field t x f =>
      have h : vcField P t (ev F x) f (fun u => Two v H u H) := h
      show vcField P t (ev F x) f (fun u => Two v H1 u H1)
      simpa [Two] using h
    | _ => simp [freeB] at hf

/-- Those that must be done ahead of operation e. -/
def ancs (ops : Array Oper) (e : Nat) : List Nat := (List.range e).reverse.foldl (fun acc k => if acc.any (fun m => Region.waitsFor .any ops m k) then k :: acc else acc) [e]
theorem ancs_done {ops : Array Oper} {nh : Nat} {listed : Array Bool} (inv : HeadInv .any ops nh listed) {e : Nat} (he : listed.getD e false = true) : ∀ k, k ∈ ancs ops e → listed.getD k false = true := by
  have key : ∀ (l acc : List Nat), (∀ k, k ∈ acc → listed.getD k false = true) → ∀ k, k ∈ l.foldl (fun acc k => if acc.any (fun m => Region.waitsFor .any ops m k) then k :: acc else acc) acc → listed.getD k false = true := by
    intro l
    induction l with
    | nil => intro acc h; exact h
    | cons x l ih =>
      intro acc h
      rw [List.foldl_cons]
      refine ih _ fun k hk => ?_
      split at hk
      · rename_i hx
        rcases List.mem_cons.1 hk with rfl | hk
        · obtain ⟨m, hm, hw⟩ := List.any_eq_true.1 hx
          obtain ⟨oj, hoj, ed, hed, hb, hon⟩ := Region.waitsFor_spec hw
          have := inv.closed m oj hoj (h m hm) ed hed hb
          rwa [hon] at this
        · exact h k hk
      · exact h k hk
  refine key _ _ fun k hk => ?_
  rw [List.mem_singleton] at hk
  rw [hk]; exact he

theorem EOk_run {M : List Nat} {all : List Oper} {o : Oper} {F : Frame} {v : V} {i : Nat} {w : World} {σ : Conc} {a : Act} {Q : Exit → Act → World → Prop} {K : Act → World → Prop} (hg : o.guard = none) (h : vcOp P M o F H (Two v H1)) (hi : all[i]? = some o) (hs : Sat n w H σ F a.tmps)
    (hK : ∀ val w' σ', VRel w' (Own H1 σ') H1 σ' v val → WOk w' H1 σ' → Pres w H σ w' H1 σ' → K (a.put o.dst val) w') : wpOp P all.toArray Q i K a w := by
  have step : o.wp P a w K Q := vcOp_wp h hs fun v' val w' H' σ' hk hv hw' hp' => by
    obtain ⟨rfl, rfl⟩ := hk
    exact hK val w' σ' hv hw' hp'
  unfold wpOp
  rw [List.getElem?_toArray, hi]
  simp only []
  rw [if_pos (by simp [Region.wanted, hg])]
  exact .inl step

def atB (b : Bool) (H H1 : Heap) : Heap := match b with | true => H1 | false => H
theorem draw_headX {M : List Nat} {all : List Oper} {nh e : Nat} {vs F0 : Nat → V} {w0 : World} {H0 : Heap} {σ0 : Conc} {Q' : Exit → Act → World → Prop}
    (hlt : nh < all.toArray.size) (he : e < nh) (hs : Region.sinkB .any all.toArray nh = true) (hc : Region.chainB .any all.toArray nh = true) (hb : backB all.toArray nh = true) (hd : dstB all.toArray nh = true) (hlk : looksB all.toArray nh = true)
    (hq : Region.seqB .any all.toArray (all.toArray.size - nh) nh (Array.replicate nh true ++ Array.replicate (all.toArray.size - nh) false) = true)
    (hok : ∀ i, i < nh → i ≠ e → ∃ o, all[i]? = some o ∧ ∀ F', (∀ x, x ∈ o.looksAt all.toArray → F'.get x = gF F0 (fun i => (all[i]?).bind (·.dst)) vs always i x) →
      (Region.waitsFor .any all.toArray i e = false → OpOk P n M all H o F' (vs i)) ∧ (i ∉ ancs all.toArray e → OpOk P n M all H1 o F' (vs i)))
    (hoe : ∃ o, all[e]? = some o ∧ o.guard = none ∧ dstOk n o.dst ∧ ∀ F', (∀ x, x ∈ o.looksAt all.toArray → F'.get x = gF F0 (fun i => (all[i]?).bind (·.dst)) vs always e x) → vcOp P M o F' H (Two (vs e) H1))
    (hend : ∀ (w : World) (σ : Conc) (a : Act), SatG n w H1 σ (gF F0 (fun i => (all[i]?).bind (·.dst)) vs always nh) a.tmps → Pres w0 H0 σ0 w H1 σ → a.defers = dfs → wpList P all.toArray Q' (all.drop nh) a w) :
    ∀ (f : Nat) (listed : Array Bool) (a : Act) (w : World) (σ : Conc), HeadInv .any all.toArray nh listed → (List.range nh).countP (fun i => !listed.getD i false) = f →
      SatG n w (atB (listed.getD e false) H H1) σ (gF F0 (fun i => (all[i]?).bind (·.dst)) vs (fun i => listed.getD i false) nh) a.tmps → Pres w0 H0 σ0 w (atB (listed.getD e false) H H1) σ → a.defers = dfs → wpAny P .any all.toArray Q' (f + (all.toArray.size - nh)) listed a w
  | 0, listed, a, w, σ, inv, hf, hsat, hp, hdf => by
    have hall : ∀ i, i < nh → listed.getD i false = true := fun i hi => by simpa using countP_none hf i hi
    rw [hall e he] at hsat hp
    have heq : listed = Array.replicate nh true ++ Array.replicate (all.toArray.size - nh) false := by
      have hsz := inv.size
      apply Array.ext
      · simp at hlt hsz ⊢; omega
      · intro i h1 h2
        by_cases hi : i < nh
        · have := hall i hi
          simp [h1] at this
          rw [Array.getElem_append_left (by simpa using hi)]
          simp [this]
        · have := inv.tail i (by omega) (by omega)
          simp [h1] at this
          rw [Array.getElem_append_right (by simpa using hi)]
          simp [this]
    have hdl : (all.drop nh).length = all.toArray.size - nh := by simp
    rw [Nat.zero_add, ← hdl]
    refine wpAny_of_seq (all.drop nh) nh listed a w (fun j => by simp [List.getElem?_drop]) (by rw [hdl, heq]; exact hq) (hend w σ a ?_ hp hdf)
    refine ⟨hsat.ok, hsat.size, fun x => ?_⟩
    have : gF F0 (fun i => (all[i]?).bind (·.dst)) vs always nh x = gF F0 (fun i => (all[i]?).bind (·.dst)) vs (fun i => listed.getD i false) nh x :=
      gF_same fun i hi _ => ⟨by rw [hall i hi]; rfl, rfl⟩
    rw [this]
    exact hsat.slot x
  | f + 1, listed, a, w, σ, inv, hf, hsat, hp, hdf => by
    have hsz := inv.size
    obtain ⟨i0, hi0, hu0⟩ := countP_some hf
    have hu0' : listed.getD i0 false = false := by simpa using hu0
    have hex : ∀ i, i < nh → ∃ o, all[i]? = some o := fun i hi => by
      by_cases hie : i = e
      · subst hie
        obtain ⟨o, ho, _⟩ := hoe
        exact ⟨o, ho⟩
      · obtain ⟨o, ho, _⟩ := hok i hi hie
        exact ⟨o, ho⟩
    have hin : ∀ i ∈ Region.ready .any all.toArray listed, i < nh := fun i hi => by
      rcases Nat.lt_or_ge i nh with h | h
      · exact h
      · exact absurd hi (tail_waits hs hc hlt inv _ i0 rfl hi0 (getD_in (by omega) hu0') i h)
    rw [show f + 1 + (all.toArray.size - nh) = (f + (all.toArray.size - nh)) + 1 by omega]
    refine ⟨fun h0 => ?_, fun i hi => ?_⟩
    · exfalso
      obtain ⟨j, hj, hpj, hmin⟩ := least (p := fun i => !listed.getD i false) i0 hu0
      have hjn : j < nh := by omega
      obtain ⟨o, ho⟩ := hex j hjn
      have ho' : all.toArray[j]? = some o := by simpa using ho
      have : j ∈ Region.ready .any all.toArray listed := mem_ready.2 ⟨getD_in (by omega) (by simpa using hpj), o, ho', fun e he hbe => by
        have := hmin _ (backB_spec hb hjn ho' e he hbe)
        simpa using this⟩
      rw [h0] at this
      cases this
    · have hin := hin i hi
      obtain ⟨hun, oi, hoi, hall⟩ := mem_ready.1 hi
      obtain ⟨o, ho⟩ := hex i hin
      have ho' : all.toArray[i]? = some o := by simpa using ho
      obtain rfl : o = oi := Option.some.inj (ho'.symm.trans hoi)
      have hunf : listed.getD i false = false := getD_both hun
      have hsee : ∀ x, x ∈ o.looksAt all.toArray → gF F0 (fun i => (all[i]?).bind (·.dst)) vs (fun i => listed.getD i false) nh x = gF F0 (fun i => (all[i]?).bind (·.dst)) vs always i x := fun x hx => by
        have e1 : gF F0 (fun i => (all[i]?).bind (·.dst)) vs (fun i => listed.getD i false) nh x = gF F0 (fun i => (all[i]?).bind (·.dst)) vs (fun k => decide (k < i)) nh x :=
          gF_same fun k hk hdk => ⟨by
            have hdk' : (all.toArray[k]?).bind (·.dst) = some x := by simpa using hdk
            rcases looksB_spec hlk hin ho' hx hk hdk' with ⟨h1, h2⟩ | h1 | h1
            · obtain ⟨oj, hoj, e, he, hbe, hon⟩ := Region.waitsFor_spec h2
              obtain rfl : oj = o := Option.some.inj (hoj.symm.trans ho')
              have := hall e he hbe
              rw [hon] at this
              rw [this]
              simp [h1]
            · subst h1
              rw [hunf]
              simp
            · obtain ⟨oj, hoj, e, he, hbe, hon⟩ := Region.waitsFor_spec h1
              have hki : ¬ k < i := by
                have := backB_spec hb hk hoj e he hbe
                omega
              have : listed.getD k false = false := by
                cases hlk' : listed.getD k false with
                | false => rfl
                | true =>
                  have := inv.closed k oj hoj hlk' e he hbe
                  rw [hon, hunf] at this
                  cases this
              rw [this]
              simp [hki], rfl⟩
        rw [e1, gF_none (j := i) (by omega) fun k h1 _ _ => by simpa using h1]
        exact gF_same fun k hk _ => ⟨by simp [always, hk], rfl⟩
      let F1 : Frame := (o.looksAt all.toArray).map fun x => (x, gF F0 (fun i => (all[i]?).bind (·.dst)) vs always i x)
      have hF1 : ∀ x, F1.get x = if x ∈ o.looksAt all.toArray then gF F0 (fun i => (all[i]?).bind (·.dst)) vs always i x else .top := fun x => by
        have : ∀ (l : List Nat), Frame.get (l.map fun x => (x, gF F0 (fun i => (all[i]?).bind (·.dst)) vs always i x)) x = if x ∈ l then gF F0 (fun i => (all[i]?).bind (·.dst)) vs always i x else .top := by
          intro l
          induction l with
          | nil => simp [Frame.get]
          | cons y l ih =>
            rw [List.map_cons]
            have := get_cons y (gF F0 (fun i => (all[i]?).bind (·.dst)) vs always i y) (l.map fun x => (x, gF F0 (fun i => (all[i]?).bind (·.dst)) vs always i x)) x
            rw [this, ih]
            by_cases hxy : x = y
            · subst hxy; simp
            · simp [hxy]
        exact this _
      have hlook : ∀ x, x ∈ o.looksAt all.toArray → F1.get x = gF F0 (fun i => (all[i]?).bind (·.dst)) vs always i x := fun x hx => by rw [hF1, if_pos hx]
      have hset : ∀ j, j ≠ i → (listed.setIfInBounds i true).getD j false = listed.getD j false := fun j hj => getD_set_ne false (Ne.symm hj)
      have hseti : (listed.setIfInBounds i true).getD i false = true := by
        have : i < listed.size := by omega
        simp [this]
      have hcount : (List.range nh).countP (fun j => !(listed.setIfInBounds i true).getD j false) = f := by
        have := countP_set (p := fun i => !listed.getD i false) (q := fun j => !(listed.setIfInBounds i true).getD j false) (i := i) (l := List.range nh) List.nodup_range (List.mem_range.2 hin) (by simp [hunf]) (by simp [hseti]) (fun j hj => by simp only [hset j hj])
        omega
      have hgset : ∀ x, gF F0 (fun i => (all[i]?).bind (·.dst)) vs (fun j => (listed.setIfInBounds i true).getD j false) nh x = if o.dst = some x then vs i else gF F0 (fun i => (all[i]?).bind (·.dst)) vs (fun i => listed.getD i false) nh x := fun x => by
        rw [gF_set hin hset hseti fun j hj hji hdj => by
          have := dstB_spec (i := i) (k := j) (x := x) hd hin hj hji (by simpa using hdj)
          simpa using this]
        simp [ho]
      have hF1s : ∀ x, F1.get x = .top ∨ F1.get x = gF F0 (fun i => (all[i]?).bind (·.dst)) vs (fun i => listed.getD i false) nh x := fun x => by
        rw [hF1]
        split
        · rename_i hx; exact .inr (hsee x hx).symm
        · exact .inl rfl
      by_cases hie : i = e
      · subst hie
        obtain ⟨o', ho2, hg, hdo, hE⟩ := hoe
        obtain rfl : o = o' := Option.some.inj (ho.symm.trans ho2)
        rw [hunf] at hsat hp
        refine EOk_run (M := M) (v := vs i) (H1 := H1) (all := all) hg (hE F1 hlook) ho (hsat.toF hF1s) fun val w' σ' hv hw' hp' => ?_
        refine draw_headX hlt he hs hc hb hd hlk hq hok ⟨o, ho2, hg, hdo, hE⟩ hend f _ _ w' σ' (inv.set hi hin) hcount ?_ ?_ (by cases hdst : o.dst <;> simpa [Act.put, hdst] using hdf)
        · rw [hseti]
          have hsat' : SatG n w' H1 σ' (gF F0 (fun i => (all[i]?).bind (·.dst)) vs (fun i => listed.getD i false) nh) a.tmps := ⟨hw', hsat.size, fun x => (hsat.slot x).pres hp'⟩
          exact hsat'.put hdo hv hgset
        · rw [hseti]
          exact hp.trans hp'
      · obtain ⟨o', ho2, hO⟩ := hok i hin hie
        obtain rfl : o = o' := Option.some.inj (ho.symm.trans ho2)
        obtain ⟨hA, hB⟩ := hO F1 hlook
        have hokF : OpOk P n M all (atB (listed.getD e false) H H1) o F1 (vs i) := by
          cases hle : listed.getD e false with
          | true =>
            refine hB fun hm => ?_
            have := ancs_done inv hle i hm
            rw [hunf] at this
            cases this
          | false =>
            refine hA ?_
            cases hwt : Region.waitsFor .any all.toArray i e with
            | false => rfl
            | true =>
              obtain ⟨oj, hoj, ed, hed, hbe, hon⟩ := Region.waitsFor_spec hwt
              obtain rfl : oj = o := Option.some.inj (hoj.symm.trans ho')
              have := hall ed hed hbe
              rw [hon, hle] at this
              cases this
        refine OpOk.run hokF ho (hsat.toF hF1s) fun val w' σ' hv hw' hp' => ?_
        refine draw_headX hlt he hs hc hb hd hlk hq hok hoe hend f _ _ w' σ' (inv.set hi hin) hcount ?_ ?_ (by cases hdst : o.dst <;> simpa [Act.put, hdst] using hdf)
        · rw [hset e (Ne.symm hie)]
          have hsat' : SatG n w' (atB (listed.getD e false) H H1) σ' (gF F0 (fun i => (all[i]?).bind (·.dst)) vs (fun i => listed.getD i false) nh) a.tmps := ⟨hw', hsat.size, fun x => (hsat.slot x).pres hp'⟩
          exact hsat'.put hokF.1 hv hgset
        · rw [hset e (Ne.symm hie)]
          exact hp.trans hp'

/-! ### Looks at an own object's first rows become the object -/
def vwP (r : Nat) (F : Frame) (v : V) (H : Heap) (K : Frame → Heap → Prop) : Prop :=
  match v with
  | .vw id ver n => (match H[id]? with | some (.row ver' e sz rows) => ver = ver' ∧ K ((r, .os id (ver + 1)) :: F) (H.set id (.row (ver + 1) e sz (rows.take n))) | _ => False)
  | _ => False
def vwK : List Nat → Frame → Heap → (Frame → Heap → Prop) → Prop
  | [], F, H, K => K F H
  | r :: rs, F, H, K => vwP r F (F.get r) H (lk (fun F' H' => vwK rs F' H' K) .mk)
theorem vwP_run {r : Nat} {F : Frame} {K : Frame → Heap → Prop} {w : World} {σ : Conc} {tmps : Array Value} (h : vwP r F (F.get r) H K) (hs : Sat n w H σ F tmps) :
    ∃ F' H' σ', K F' H' ∧ Pres w H σ w H' σ' ∧ Sat n w H' σ' F' tmps := by
  unfold vwP at h
  split at h
  case h_2 => exact h.elim
  rename_i id ver k hv
  split at h
  case h_2 => exact h.elim
  rename_i ver' e sz rows hr
  obtain ⟨rfl, hk⟩ := h
  have hsl := hs.slot r
  rw [hv] at hsl
  have hnz := hsl.nz_vw hr
  obtain ⟨_, hval⟩ := hsl.inv_vw hr
  obtain ⟨hkn, hval⟩ := hval rfl
  have hid := (List.getElem?_eq_some_iff.1 hr).1
  have hl : Lies w (Own H σ) H σ (σ id) w e sz (rows.take k) := by
    rcases hs.ok.lies2 hr hnz with ⟨hn, rfl⟩ | ⟨g, cap, cur, hg, hh, h3, h4, h5, h6, h7⟩
    · exact .inl ⟨hn, by simp⟩
    · refine .inr <| .inl ⟨g, cap, cur, hg, hh, by simp; omega, h4, h5, fun i row hi => ?_, fun i j row v hi hj => ?_⟩
      · rw [List.getElem?_take] at hi
        split at hi
        · exact h6 i row hi
        · cases hi
      · rw [List.getElem?_take] at hi
        split at hi
        · exact h7 i j row v hi hj
        · cases hi
  obtain ⟨p, ok⟩ := hs.ok.set (w' := w) (ver' := ver + 1) (c := σ id) hr (by omega) (fun he => by omega) rfl rfl (OutSame.refl w) (Nat.le_refl _) (fun _ _ _ => rfl) (fun g cap hc => .inl ⟨cap, hc⟩) hl (fun a e => hs.ok.nil _ a e)
  refine ⟨_, _, _, hk, p, ok, hs.size, fun x => ?_⟩
  rw [get_cons]
  split
  · rename_i hx
    subst hx
    rw [hval]
    refine .os _ _ _ (by simpa using hid) fun v1 e1 s1 r1 hr1 => ?_
    rw [List.getElem?_set, if_pos rfl, if_pos hid] at hr1
    cases hr1
    exact ⟨Nat.le_refl _, fun _ => ⟨hnz, by simp only [Conc.put, if_true, List.length_take, Nat.min_eq_left hkn]⟩⟩
  · exact (hs.slot x).pres p
theorem vwK_run : ∀ {rs : List Nat} {H : Heap} {F : Frame} {K : Frame → Heap → Prop} {w : World} {σ : Conc} {tmps : Array Value}, vwK rs F H K → Sat n w H σ F tmps → ∃ F' H' σ', K F' H' ∧ Pres w H σ w H' σ' ∧ Sat n w H' σ' F' tmps
  | [], H, F, K, w, σ, tmps, h, hs => ⟨F, H, σ, h, Pres.refl _ _ _, hs⟩
  | r :: rs, H, F, K, w, σ, tmps, h, hs => by
    obtain ⟨F1, H1, σ1, h1, p1, s1⟩ := vwP_run h hs
    obtain ⟨F2, H2, σ2, h2, p2, s2⟩ := vwK_run (rs := rs) h1 s1
    exact ⟨F2, H2, σ2, h2, p1.trans p2, s2⟩

/-! ### The rule -/
def vcX3 (P : Program) (n : Nat) (M : List Nat) (H H1 : Heap) (T : Frame → Prop) : List Bool → List Oper → Frame → Prop
  | [], _, F => T F
  | _ :: _, [], _ => False
  | true :: bs, o :: rest, F => o.guard = none ∧ dstOk n o.dst ∧ vcQ P M o F H1 fun v => vcX3 P n M H H1 T bs rest (F.put o.dst v)
  | false :: bs, o :: rest, F => o.guard = none ∧ dstOk n o.dst ∧ vcQ P M o F H fun v => vcQ P M o F H1 fun v' => v = v' ∧ vcX3 P n M H H1 T bs rest (F.put o.dst v)
def vcX2 (P : Program) (n : Nat) (M : List Nat) (H : Heap) (bs : List Bool) (T : Heap → Frame → Prop) : List Oper → Frame → Prop
  | [], _ => False
  | o :: rest, F => o.guard = none ∧ dstOk n o.dst ∧ vcE P M o F H fun v H1 => vcX3 P n M H H1 (T H1) bs rest (F.put o.dst v)

theorem vcX3_run {M : List Nat} {all : List Oper} {T : Frame → Prop} {F0 : Nat → V} : ∀ (bs : List Bool) (p : Nat) (l : List Oper) (vs : Nat → V) (F : Frame),
    (∀ i, l[i]? = all[p + i]?) → (∀ x, F.get x = gF F0 (fun i => (all[i]?).bind (·.dst)) vs always p x) → vcX3 P n M H H1 T bs l F →
    ∃ vs' : Nat → V, (∀ i, i < p → vs' i = vs i) ∧
      (∀ i, p ≤ i → i < p + bs.length → ∃ o, all[i]? = some o ∧ ∀ F', (∀ x, x ∈ o.looksAt all.toArray → F'.get x = gF F0 (fun i => (all[i]?).bind (·.dst)) vs' always i x) → OpOk P n M all H1 o F' (vs' i) ∧ (bs[i - p]? = some false → OpOk P n M all H o F' (vs' i))) ∧
      ∃ F', T F' ∧ ∀ x, F'.get x = gF F0 (fun i => (all[i]?).bind (·.dst)) vs' always (p + bs.length) x
  | [], p, l, vs, F, hl, hF, h => ⟨vs, fun _ _ => rfl, fun i h1 h2 => by simp at h2; omega, F, h, hF⟩
  | b :: bs, p, [], vs, F, hl, hF, h => by cases b <;> exact h.elim
  | b :: bs, p, o :: rest, vs, F, hl, hF, h => by
    have h0 : all[p]? = some o := by simpa using (hl 0).symm
    have hl' : ∀ i, rest[i]? = all[p + 1 + i]? := fun i => by
      have := hl (i + 1)
      rw [List.getElem?_cons_succ] at this
      rw [this]
      congr 1
      omega
    have step : ∀ (v : V), o.guard = none → OpOk P n M all H1 o F v → (b = false → OpOk P n M all H o F v) → vcX3 P n M H H1 T bs rest (F.put o.dst v) → ∃ vs' : Nat → V, (∀ i, i < p → vs' i = vs i) ∧
        (∀ i, p ≤ i → i < p + (bs.length + 1) → ∃ o, all[i]? = some o ∧ ∀ F', (∀ x, x ∈ o.looksAt all.toArray → F'.get x = gF F0 (fun i => (all[i]?).bind (·.dst)) vs' always i x) → OpOk P n M all H1 o F' (vs' i) ∧ ((b :: bs)[i - p]? = some false → OpOk P n M all H o F' (vs' i))) ∧
        ∃ F', T F' ∧ ∀ x, F'.get x = gF F0 (fun i => (all[i]?).bind (·.dst)) vs' always (p + (bs.length + 1)) x := by
      intro v hg hok1 hok hrest
      let vs1 : Nat → V := fun i => if i = p then v else vs i
      have e1 : ∀ x, gF F0 (fun i => (all[i]?).bind (·.dst)) vs1 always p x = gF F0 (fun i => (all[i]?).bind (·.dst)) vs always p x := fun x =>
        gF_same fun i hi _ => ⟨rfl, if_neg (by omega)⟩
      obtain ⟨vs', h1, h2, F', h3, h4⟩ := vcX3_run bs (p + 1) rest vs1 (F.put o.dst v) hl' (fun x => by
        rw [get_put, gF, e1, hF x]
        simp [always, h0, vs1]) hrest
      have e2 : ∀ x, gF F0 (fun i => (all[i]?).bind (·.dst)) vs' always p x = gF F0 (fun i => (all[i]?).bind (·.dst)) vs always p x := fun x =>
        gF_same fun i hi _ => ⟨rfl, by rw [h1 i (by omega)]; exact if_neg (by omega)⟩
      refine ⟨vs', fun i hi => by rw [h1 i (by omega)]; exact if_neg (by omega), fun i hi hi2 => ?_, F', h3, fun x => by rw [h4 x]; congr 1; omega⟩
      by_cases hip : i = p
      · subst hip
        refine ⟨o, h0, fun F' hF' => ?_⟩
        rw [h1 i (by omega)]
        simp only [vs1, if_true]
        refine ⟨hok1.congr fun x hx => by rw [hF' x hx, e2 x, hF x], fun hb => ?_⟩
        rw [Nat.sub_self] at hb
        exact (hok (by simpa using hb)).congr fun x hx => by rw [hF' x hx, e2 x, hF x]
      · obtain ⟨o', ho', hh⟩ := h2 i (by omega) (by omega)
        refine ⟨o', ho', fun F' hF' => ⟨(hh F' hF').1, fun hb => (hh F' hF').2 ?_⟩⟩
        rw [show i - p = (i - (p + 1)) + 1 by omega, List.getElem?_cons_succ] at hb
        exact hb
    cases b with
    | true =>
      obtain ⟨hg, hd, h⟩ := h
      obtain ⟨v, h1, h2⟩ := vcQ_det h
      exact step v hg ⟨hd, by rw [hg]; exact h1⟩ (fun e => by cases e) h2
    | false =>
      obtain ⟨hg, hd, h⟩ := h
      obtain ⟨v, h1, h2⟩ := vcQ_det h
      obtain ⟨v', h3, rfl, h4⟩ := vcQ_det h2
      exact step v hg ⟨hd, by rw [hg]; exact h3⟩ (fun _ => ⟨hd, by rw [hg]; exact h1⟩) h4

def drawXB (ops : Array Oper) (nh e : Nat) (bs : List Bool) : Bool :=
  decide (nh < ops.size) && decide (e < nh) && Region.sinkB .any ops nh && Region.chainB .any ops nh && backB ops nh && dstB ops nh && looksB ops nh &&
    Region.seqB .any ops (ops.size - nh) nh (Array.replicate nh true ++ Array.replicate (ops.size - nh) false) && decide (e + 1 + bs.length = nh) &&
    ((List.range e).all fun i => (ancs ops e).contains i || ((ops[i]?).map freeB).getD false) && ((List.range bs.length).all fun j => bs[j]? == some false || Region.waitsFor .any ops (e + 1 + j) e)

variable {H0 : Heap} {Q : Exit → Frame → Heap → Prop} {F : Frame}
theorem AWp_drawX_n {id : Nat} {l : List Oper} (nh e : Nat) (bs : List Bool) (M : List Nat) (ks vws : Nat → List Nat) (hm : P.follows .mixedOrders = true) (hB : drawXB l.toArray nh e bs = true)
    (h : vcD P n M l H (fun F' => vcX2 P n M H bs (fun H1 F'' => vcOps P n M l (l.drop nh) F'' H1 fun F3 H3 => vwK (vws id) (canon (ks id) F3) H3 fun F4 H4 => Q .normal F4 H4) (l.drop e) F') e l F) : AWp P n dfs H0 (.region id l.toArray true) Q F H := by
  unfold AWp
  intro w0 σ0 w σ a hw hp hs hd
  simp only [drawXB, Bool.and_eq_true, decide_eq_true_eq] at hB
  obtain ⟨⟨⟨⟨⟨⟨⟨⟨⟨⟨hlt, hen⟩, hsk⟩, hc⟩, hb⟩, hds⟩, hlk⟩, hq⟩, hbl⟩, hpre⟩, haft⟩ := hB
  obtain ⟨vs0, _, hok0, F1, hT0, hF1⟩ := vcD_run (F0 := F.get) e 0 l (fun _ => .top) F (fun i => by simp) (fun x => rfl) h
  rw [Nat.zero_add] at hF1
  -- the one that turns objects
  have hel : e < l.length := by simp at hlt; omega
  have hdrop : l.drop e = l[e] :: l.drop (e + 1) := List.drop_eq_getElem_cons hel
  rw [hdrop] at hT0
  obtain ⟨hge, hde, hE⟩ := hT0
  obtain ⟨ve, H1, hE1, hX⟩ := vcE_det hE
  have hle : l[e]? = some l[e] := List.getElem?_eq_getElem hel
  let vs1 : Nat → V := fun i => if i = e then ve else vs0 i
  have e1 : ∀ i, i ≤ e → ∀ x, gF F.get (fun i => (l[i]?).bind (·.dst)) vs1 always i x = gF F.get (fun i => (l[i]?).bind (·.dst)) vs0 always i x := fun i hi x =>
    gF_same fun k hk _ => ⟨rfl, if_neg (by omega)⟩
  obtain ⟨vs, hvs, hok3, F3, hT, hF3⟩ := vcX3_run (F0 := F.get) (all := l) bs (e + 1) (l.drop (e + 1)) vs1 (F1.put l[e].dst ve) (fun i => by simp [List.getElem?_drop]) (fun x => by
    rw [get_put, gF, e1 e (Nat.le_refl _), hF1 x]
    simp [always, hle, vs1]) hX
  have e2 : ∀ i, i ≤ e → ∀ x, gF F.get (fun i => (l[i]?).bind (·.dst)) vs always i x = gF F.get (fun i => (l[i]?).bind (·.dst)) vs0 always i x := fun i hi x => by
    rw [← e1 i hi x]
    exact gF_same fun k hk _ => ⟨rfl, hvs k (by omega)⟩
  rw [hbl] at hF3
  refine wp_region_any hm ?_
  have hsd : Sat n w.drew H σ F a.tmps := hs.pres (Pres.drew w H σ) hs.ok.drew
  have hnl : ∀ (m j : Nat), (Array.replicate m false).getD j false = false := getD_replicate_false
  have key := draw_headX (P := P) (n := n) (H := H) (H1 := H1) (M := M) (all := l) (nh := nh) (e := e) (vs := vs) (F0 := F.get) (w0 := w0) (H0 := H0) (σ0 := σ0)
    (Q' := fun e a' w' => ∃ F' H' σ', Q e F' H' ∧ Pres w0 H0 σ0 w' H' σ' ∧ Sat n w' H' σ' F' a'.tmps ∧ a'.defers = dfs) hlt hen hsk hc hb hds hlk hq
    (fun i hi hie => by
      rcases Nat.lt_or_gt_of_ne hie with hlt' | hgt
      · obtain ⟨o, ho, hh⟩ := hok0 i (Nat.zero_le _) (by omega)
        refine ⟨o, ho, fun F' hF' => ?_⟩
        have hO : OpOk P n M l H o F' (vs i) := by
          rw [hvs i (by omega)]
          show OpOk P n M l H o F' (if i = e then ve else vs0 i)
          rw [if_neg hie]
          exact hh F' fun x hx => by rw [hF' x hx, e2 i (by omega)]
        refine ⟨fun _ => hO, fun hna => hO.free ?_⟩
        have := List.all_eq_true.1 hpre i (List.mem_range.2 hlt')
        simp only [Bool.or_eq_true, List.contains_iff_mem] at this
        rcases this with h1 | h1
        · exact absurd h1 hna
        · simpa [ho] using h1
      · obtain ⟨o, ho, hh⟩ := hok3 i (by omega) (by omega)
        refine ⟨o, ho, fun F' hF' => ⟨fun hw => (hh F' hF').2 ?_, fun _ => (hh F' hF').1⟩⟩
        have := List.all_eq_true.1 haft (i - (e + 1)) (List.mem_range.2 (by omega))
        simp only [Bool.or_eq_true, beq_iff_eq] at this
        rcases this with h1 | h1
        · exact h1
        · rw [show e + 1 + (i - (e + 1)) = i by omega, hw] at h1
          cases h1)
    ⟨l[e], hle, hge, hde, fun F' hF' => by
      have : vs e = ve := by rw [hvs e (by omega)]; exact if_pos rfl
      rw [this]
      exact vcOp_congr (fun x hx => by
        rw [hF' x (by
          unfold Oper.looksAt
          exact List.mem_append_left _ (List.mem_filterMap.2 ⟨_, hx, rfl⟩)), e2 e (Nat.le_refl _), hF1 x]) hE1⟩
    (fun w1 σ1 a1 h1 h2 h3 => vcOps_wp (l.drop nh) F3 H1 _ w1 σ1 a1 hT (h1.toF fun x => .inr (hF3 x)) h2 h3 fun F'' H'' w' σ' a' hk hs' hp' hd' => by
      obtain ⟨F4, H4, σ4, hQ, p4, s4⟩ := vwK_run hk (hs'.canon _)
      exact ⟨F4, H4, σ4, hQ, hp'.trans p4, s4, hd'⟩)
    nh (Array.replicate l.toArray.size false) a w.drew σ
    ⟨by simp, fun j oj _ hl => (by rw [getD_replicate_false] at hl; cases hl), fun t _ ht => getD_in (by simpa using ht) (getD_replicate_false _ _)⟩
    (by
      have : (List.range nh).countP (fun i => !(Array.replicate l.toArray.size false).getD i false) = (List.range nh).length := List.countP_eq_length.2 fun i _ => by rw [hnl]; rfl
      rw [this, List.length_range])
    (by
      rw [hnl]
      exact ⟨hsd.ok, hsd.size, fun x => by
        have : gF F.get (fun i => (l[i]?).bind (·.dst)) vs (fun i => (Array.replicate l.toArray.size false).getD i false) nh x = F.get x :=
          gF_none (j := 0) (Nat.zero_le _) fun i _ _ _ => hnl _ _
        rw [this]
        exact hsd.slot x⟩)
    (by rw [hnl]; exact hp.trans (Pres.drew w H σ)) hd
  rw [show nh + (l.toArray.size - nh) = l.toArray.size by omega] at key
  exact key
theorem AWp_drawX {id : Nat} {l : List Oper} {R : Frame → Heap → Prop} (xd : Nat → Nat × Nat × List Bool) (M : List Nat) (ks vws : Nat → List Nat) (hx : Nat.ble 1 (xd id).1 = true) (hm : P.follows .mixedOrders = true) (hB : drawXB l.toArray (xd id).1 (xd id).2.1 (xd id).2.2 = true) [ho : Nrm Q R]
    (h : ∀ Kv : Frame → Heap → Prop, (∀ F' H', R F' H' → Kv F' H') → vcD P n M l H (lk (fun F' => vcX2 P n M H (xd id).2.2 (lk (fun H1 F'' => vcOps P n M l (l.drop (xd id).1) F'' H1 fun F3 H3 => vwK (vws id) (canon (ks id) F3) H3 Kv) .mk) (l.drop (xd id).2.1) F') .mk) (xd id).2.1 l F) : AWp P n dfs H0 (.region id l.toArray true) Q F H :=
  AWp_drawX_n (xd id).1 (xd id).2.1 (xd id).2.2 M ks vws hm hB (h _ fun F' H' hr => ho.spec F' H' hr)
theorem AWp_drawXE {id : Nat} {l : List Oper} (xd : Nat → Nat × Nat × List Bool) (M : List Nat) (ks vws : Nat → List Nat) (hx : Nat.ble 1 (xd id).1 = true) (hm : P.follows .mixedOrders = true) (hB : drawXB l.toArray (xd id).1 (xd id).2.1 (xd id).2.2 = true)
    (h : ∀ Kv : Frame → Heap → Prop, (∀ F' H', Q .normal F' H' → Kv F' H') → vcD P n M l H (lk (fun F' => vcX2 P n M H (xd id).2.2 (lk (fun H1 F'' => vcOps P n M l (l.drop (xd id).1) F'' H1 fun F3 H3 => vwK (vws id) (canon (ks id) F3) H3 Kv) .mk) (l.drop (xd id).2.1) F') .mk) (xd id).2.1 l F) : AWp P n dfs H0 (.region id l.toArray true) Q F H :=
  AWp_drawX_n (xd id).1 (xd id).2.1 (xd id).2.2 M ks vws hm hB (h _ fun F' H' hr => hr)
/-- In a region that goes as written: looks become objects behind it. -/
theorem AWp_regvw {id : Nat} {l : List Oper} {R : Frame → Heap → Prop} (M : List Nat) (ks vws : Nat → List Nat) [ho : Nrm Q R] (h : ∀ Kv : Frame → Heap → Prop, (∀ F' H', R F' H' → Kv F' H') → vcOps P n M l l F H fun F' H' => vwK (vws id) (canon (ks id) F') H' Kv) :
    AWp P n dfs H0 (.region id l.toArray false) Q F H := by
  have := AWp_reg (P := P) (n := n) (dfs := dfs) (H0 := H0) (F := F) (H := H) (id := id) (l := l) (Q := fun e F' H' => match e with | .normal => vwK (vws id) F' H' fun F'' H'' => Q .normal F'' H'' | _ => Q e F' H') M ks (h _ fun F' H' hr => ho.spec F' H' hr)
  unfold AWp at this ⊢
  intro w0 σ0 w σ a hw hp hs hd
  refine Code.wp_mono ?_ (this w0 σ0 w σ a hw hp hs hd)
  rintro e a' w' ⟨F', H', σ', hQ, hp', hs', hd'⟩
  cases e with
  | normal =>
    obtain ⟨F4, H4, σ4, hQ, p4, s4⟩ := vwK_run hQ hs'
    exact ⟨F4, H4, σ4, hQ, hp'.trans p4, s4, hd'⟩
  | _ => exact ⟨F', H', σ', hQ, hp', hs', hd'⟩
theorem vcX3_nil {M : List Nat} {T : Frame → Prop} {l : List Oper} : vcX3 P n M H H1 T [] l F = T F := Eq.trans rfl rfl
theorem vcX3_t {M : List Nat} {T : Frame → Prop} {bs : List Bool} {d : Option Tmp} {op : Op} {ty : TypeId} {ps : String} {af : Array Edge} {rest : List Oper} : vcX3 P n M H H1 T (true :: bs) (⟨d, op, ty, ps, af, none⟩ :: rest) F = (dstOk n d ∧ vcQ P M ⟨d, op, ty, ps, af, none⟩ F H1 fun v => vcX3 P n M H H1 T bs rest (F.put d v)) := by simp [vcX3]
theorem vcX3_f {M : List Nat} {T : Frame → Prop} {bs : List Bool} {d : Option Tmp} {op : Op} {ty : TypeId} {ps : String} {af : Array Edge} {rest : List Oper} : vcX3 P n M H H1 T (false :: bs) (⟨d, op, ty, ps, af, none⟩ :: rest) F = (dstOk n d ∧ vcQ P M ⟨d, op, ty, ps, af, none⟩ F H fun v => vcQ P M ⟨d, op, ty, ps, af, none⟩ F H1 fun v' => v = v' ∧ vcX3 P n M H H1 T bs rest (F.put d v)) := by simp [vcX3]
theorem vcX2_c {M : List Nat} {T : Heap → Frame → Prop} {bs : List Bool} {d : Option Tmp} {op : Op} {ty : TypeId} {ps : String} {af : Array Edge} {rest : List Oper} : vcX2 P n M H bs T (⟨d, op, ty, ps, af, none⟩ :: rest) F = (dstOk n d ∧ vcE P M ⟨d, op, ty, ps, af, none⟩ F H fun v H1 => vcX3 P n M H H1 (T H1) bs rest (F.put d v)) := by simp [vcX2]
end
attribute [go_sem ↓] vcX3_nil vcX3_t vcX3_f vcX2_c vcE
theorem roP_z (r : Nat) (F : Frame) (ver e sz : Nat) (cells : List V) (K : Frame → Heap → Prop) : roP r F (.pt 0 ver 0 0) [] [Ob.row ver e sz [cells]] K =
    (othB 0 r F ∧ (match dsOf cells with | some ds => K (rpl r ds F) [] | none => False)) := roP_0 r F [] ver e sz cells K
attribute [go_sem] vwP vwK vcView Bel_vw roP_z
end Go.Proofs.YtmalccaijjcepaaDoor.Ab
