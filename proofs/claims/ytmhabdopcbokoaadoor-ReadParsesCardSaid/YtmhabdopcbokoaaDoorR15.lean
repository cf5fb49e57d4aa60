/- Regions that draw their order, in which any number of operations turn objects, one behind the other; an own object that is given up at once. No condition. -/
import Derived.Test.YtmhabdopcbokoaaDoorR14
set_option linter.all false
set_option linter.unusedSimpArgs false
set_option linter.unusedVariables false
namespace Go.Proofs.YtmhabdopcbokoaaDoor.Ab
open Go
variable [Glo]
section
variable {P : Program} {n : Nat} {dfs : List Deferred} {H : Heap}
def Vw (v : V) (H : Heap) (v' : V) (H' : Heap) : Prop := ∀ (w : World) (σ : Conc) (val : Value), WOk w H σ → VRel w (Own H σ) H σ v val → ∃ σ', Pres w H σ w H' σ' ∧ WOk w H' σ' ∧ VRel w (Own H' σ') H' σ' v' val
theorem Vw.refl (v : V) (H : Heap) : Vw v H v H := fun w σ val h1 h2 => ⟨σ, Pres.refl _ _ _, h1, h2⟩
def giveK (K : V → Heap → Prop) (v : V) (H : Heap) : Prop :=
  match v with
  | .os id ver => (match H[id]? with | some (.row ver' _ sz rows) => ver' = ver ∧ (match dsRows rows with | some ds => K (.d (.sl sz ds)) (H.set id .dead) | none => False) | _ => False)
  | v => K v H
theorem giveK_Vw {K : V → Heap → Prop} {v : V} {H : Heap} (h : giveK K v H) : ∃ v' H', Vw v H v' H' ∧ K v' H' := by
  cases v
  case os id ver =>
    simp only [giveK] at h
    split at h
    case h_2 => exact h.elim
    rename_i ver' e sz rows hr
    obtain ⟨rfl, h⟩ := h
    split at h
    case h_2 => exact h.elim
    rename_i ds hd
    refine ⟨_, _, fun w σ val hw hv => ?_, h⟩
    obtain ⟨p, hw'⟩ := hw.kill id
    refine ⟨σ, p, hw', .d _ _ (os_data hw hr hd (fun b ho => ?_) (fun cap g hg ho => ?_) hv)⟩
    · obtain ⟨id', v', e', s', r', c', h1, h2⟩ := ho
      rw [List.getElem?_set] at h1
      split at h1
      · split at h1 <;> cases h1
      · exact ⟨id', v', e', s', r', c', h1, h2⟩
    · obtain ⟨id', v', e', s', r', c', h1, h2⟩ := ho
      rw [List.getElem?_set] at h1
      split at h1
      · split at h1 <;> cases h1
      · rename_i hne
        exact hne (hw.inj _ _ _ _ _ _ _ _ _ _ _ _ _ hr h1 hg h2)
  all_goals exact ⟨_, _, Vw.refl _ _, h⟩
inductive Cd where
  | q (b f : Nat)
  | t
  | g
def Cd.isT : Cd → Bool
  | .q _ _ => false
  | _ => true
def turns (cs : List Cd) : Nat := cs.countP Cd.isT
def allH (Q : Heap → Prop) : List Heap → Prop
  | [] => True
  | H :: l => Q H ∧ allH Q l
theorem allH_get {Q : Heap → Prop} : ∀ {l : List Heap} {k : Nat} {H : Heap}, allH Q l → l[k]? = some H → Q H
  | [], _, _, _, h => by simp at h
  | x :: l, 0, _, h, e => by simp at e; subst e; exact h.1
  | x :: l, k + 1, _, h, e => allH_get h.2 (by simpa using e)
def vcT (P : Program) (n : Nat) (M : List Nat) (T : Frame → Heap → Prop) : List Cd → List Oper → List Heap → Heap → Frame → (Nat → Heap → Prop) → Prop
  | [], _, _, H, F, _ => T F H
  | _ :: _, [], _, _, _, _ => False
  | c :: cs, o :: rest, hs, H, F, pd => o.guard = none ∧ dstOk n o.dst ∧ match c with
    | .q b f => vcQ P M o F H fun v => allH (fun H' => vcQ P M o F H' fun v' => v' = v) (hs.take b) ∧ vcT P n M T cs rest hs H (F.put o.dst v) fun k Ha => pd k Ha ∧ (k < f → vcQ P M o F Ha fun v' => v' = v)
    | .t => vcE P M o F H fun v H1 => pd 0 H1 ∧ vcT P n M T cs rest (H :: hs) H1 (F.put o.dst v) fun k => pd (k + 1)
    | .g => vcE P M o F H (giveK fun v H1 => pd 0 H1 ∧ vcT P n M T cs rest (H :: hs) H1 (F.put o.dst v) fun k => pd (k + 1))
def opT (P : Program) (n : Nat) (M : List Nat) (all : List Oper) (Hs : Nat → Heap) (st m : Nat) (G : Nat → V) (o : Oper) (v : V) : Cd → Prop
  | .q b f => ∀ F', (∀ x, x ∈ o.looksAt all.toArray → F'.get x = G x) → ∀ k, st ≤ k + b → k ≤ st + f → k ≤ m → OpOk P n M all (Hs k) o F' v
  | _ => o.guard = none ∧ dstOk n o.dst ∧ ∀ F', (∀ x, x ∈ o.looksAt all.toArray → F'.get x = G x) → ∃ v1 H1, vcOp P M o F' (Hs st) (Two v1 H1) ∧ Vw v1 H1 v (Hs (st + 1))
theorem turns_cons (c : Cd) (cs : List Cd) : turns (c :: cs) = turns cs + (if c.isT then 1 else 0) := by
  unfold turns
  rw [List.countP_cons]
theorem vcT_run {M : List Nat} {all : List Oper} {T : Frame → Heap → Prop} {F0 : Nat → V} : ∀ (cs : List Cd) (p s : Nat) (l : List Oper) (hs : List Heap) (H : Heap) (vs : Nat → V) (Hs : Nat → Heap) (F : Frame) (pd : Nat → Heap → Prop),
    (∀ i, l[i]? = all[p + i]?) → (∀ x, F.get x = gF F0 (fun i => (all[i]?).bind (·.dst)) vs always p x) → Hs s = H → (∀ k, k < s → hs[s - 1 - k]? = some (Hs k)) → vcT P n M T cs l hs H F pd →
    ∃ (vs' : Nat → V) (Hs' : Nat → Heap), (∀ i, i < p → vs' i = vs i) ∧ (∀ k, k ≤ s → Hs' k = Hs k) ∧ (∀ k, k < turns cs → pd k (Hs' (s + 1 + k))) ∧
      (∃ F', T F' (Hs' (s + turns cs)) ∧ ∀ x, F'.get x = gF F0 (fun i => (all[i]?).bind (·.dst)) vs' always (p + cs.length) x) ∧
      ∀ i, i < cs.length → ∃ o, all[p + i]? = some o ∧ ∃ c, cs[i]? = some c ∧ opT P n M all Hs' (s + turns (cs.take i)) (s + turns cs) (gF F0 (fun i => (all[i]?).bind (·.dst)) vs' always (p + i)) o (vs' (p + i)) c
  | [], p, s, l, hs, H, vs, Hs, F, pd, hl, hF, hH, hh, h => ⟨vs, Hs, fun _ _ => rfl, fun _ _ => rfl, fun k hk => by simp [turns] at hk, ⟨F, by subst hH; exact h, hF⟩, fun i hi => by simp at hi⟩
  | c :: cs, p, s, [], hs, H, vs, Hs, F, pd, hl, hF, hH, hh, h => by cases c <;> exact h.elim
  | c :: cs, p, s, o :: rest, hs, H, vs, Hs, F, pd, hl, hF, hH, hh, h => by
    have h0 : all[p]? = some o := by simpa using (hl 0).symm
    have hl' : ∀ i, rest[i]? = all[p + 1 + i]? := fun i => by
      have := hl (i + 1)
      rw [List.getElem?_cons_succ] at this
      rw [this]
      congr 1
      omega
    obtain ⟨hg, hd, h⟩ := h
    have eq1 : ∀ (v : V) x, gF F0 (fun i => (all[i]?).bind (·.dst)) (fun i => if i = p then v else vs i) always p x = gF F0 (fun i => (all[i]?).bind (·.dst)) vs always p x := fun v x =>
      gF_same fun i hi _ => ⟨rfl, if_neg (by omega)⟩
    have hput : ∀ (v : V) x, (F.put o.dst v).get x = gF F0 (fun i => (all[i]?).bind (·.dst)) (fun i => if i = p then v else vs i) always (p + 1) x := fun v x => by
      rw [get_put, gF, eq1, hF x]
      simp [always, h0]
    have turn : ∀ (v1 : V) (H1 : Heap) (v : V) (H2 : Heap), c.isT = true → vcOp P M o F H (Two v1 H1) → Vw v1 H1 v H2 → pd 0 H2 → vcT P n M T cs rest (H :: hs) H2 (F.put o.dst v) (fun k => pd (k + 1)) →
        ∃ (vs' : Nat → V) (Hs' : Nat → Heap), (∀ i, i < p → vs' i = vs i) ∧ (∀ k, k ≤ s → Hs' k = Hs k) ∧ (∀ k, k < turns (c :: cs) → pd k (Hs' (s + 1 + k))) ∧
          (∃ F', T F' (Hs' (s + turns (c :: cs))) ∧ ∀ x, F'.get x = gF F0 (fun i => (all[i]?).bind (·.dst)) vs' always (p + (c :: cs).length) x) ∧
          ∀ i, i < (c :: cs).length → ∃ o, all[p + i]? = some o ∧ ∃ c', (c :: cs)[i]? = some c' ∧ opT P n M all Hs' (s + turns ((c :: cs).take i)) (s + turns (c :: cs)) (gF F0 (fun i => (all[i]?).bind (·.dst)) vs' always (p + i)) o (vs' (p + i)) c' := by
      intro v1 H1 v H2 hc hop hvw hpd hrest
      have et : turns (c :: cs) = turns cs + 1 := by rw [turns_cons, if_pos hc]
      obtain ⟨vs', Hs', k1, k2, k3, ⟨F', k4, k5⟩, k6⟩ := vcT_run cs (p + 1) (s + 1) rest (H :: hs) H2 (fun i => if i = p then v else vs i) (fun k => if k = s + 1 then H2 else Hs k) (F.put o.dst v) _ hl' (hput v) (if_pos rfl) (fun k hk => by
        rw [if_neg (by omega)]
        by_cases hks : k = s
        · subst hks
          rw [show k + 1 - 1 - k = 0 by omega]
          simp [hH]
        · rw [show s + 1 - 1 - k = (s - 1 - k) + 1 by omega, List.getElem?_cons_succ]
          exact hh k (by omega)) hrest
      have kS : ∀ k, k ≤ s → Hs' k = Hs k := fun k hk => by rw [k2 k (by omega), if_neg (by omega)]
      have kS1 : Hs' (s + 1) = H2 := by rw [k2 (s + 1) (Nat.le_refl _), if_pos rfl]
      have kV : ∀ i, i < p → vs' i = vs i := fun i hi => by rw [k1 i (by omega), if_neg (by omega)]
      have kP : vs' p = v := by rw [k1 p (by omega), if_pos rfl]
      refine ⟨vs', Hs', kV, kS, fun k hk => ?_, ⟨F', by rw [et, show s + (turns cs + 1) = s + 1 + turns cs by omega]; exact k4, fun x => by rw [k5 x]; congr 1; simp; omega⟩, fun i hi => ?_⟩
      · rw [et] at hk
        cases k with
        | zero => rw [Nat.add_zero, kS1]; exact hpd
        | succ k => rw [show s + 1 + (k + 1) = s + 1 + 1 + k by omega]; exact k3 k (by omega)
      · cases i with
        | zero =>
          refine ⟨o, h0, c, rfl, ?_⟩
          have ok : o.guard = none ∧ dstOk n o.dst ∧ ∀ F', (∀ x, x ∈ o.looksAt all.toArray → F'.get x = gF F0 (fun i => (all[i]?).bind (·.dst)) vs' always (p + 0) x) → ∃ v1 H1, vcOp P M o F' (Hs' (s + turns ((c :: cs).take 0))) (Two v1 H1) ∧ Vw v1 H1 (vs' (p + 0)) (Hs' (s + turns ((c :: cs).take 0) + 1)) := by
            refine ⟨hg, hd, fun F1 hF1 => ⟨v1, H1, ?_, ?_⟩⟩
            · rw [List.take_zero, show turns [] = 0 from rfl, Nat.add_zero, kS s (Nat.le_refl _), hH]
              refine vcOp_congr (fun x hx => ?_) hop
              rw [hF1 x (by
                unfold Oper.looksAt
                exact List.mem_append_left _ (List.mem_filterMap.2 ⟨_, hx, rfl⟩)), hF x, Nat.add_zero]
              exact (gF_same fun i hi _ => ⟨rfl, (kV i hi).symm⟩)
            · rw [List.take_zero, show turns [] = 0 from rfl, Nat.add_zero, kS1, kP]
              exact hvw
          cases c with
          | q b f => cases hc
          | t => exact ok
          | g => exact ok
        | succ i =>
          obtain ⟨o', ho', c', hc', hh'⟩ := k6 i (by simpa using hi)
          refine ⟨o', by rw [show p + (i + 1) = p + 1 + i by omega]; exact ho', c', by simpa using hc', ?_⟩
          have e1 : s + turns ((c :: cs).take (i + 1)) = s + 1 + turns (cs.take i) := by rw [List.take_succ_cons, turns_cons, if_pos hc]; omega
          rw [e1, show s + turns (c :: cs) = s + 1 + turns cs by rw [et]; omega, show p + (i + 1) = p + 1 + i by omega]
          exact hh'
    cases c with
    | q b f =>
      have et : turns (.q b f :: cs) = turns cs := by rw [turns_cons]; rfl
      obtain ⟨v, h1, h2, h3⟩ := vcQ_det h
      obtain ⟨vs', Hs', k1, k2, k3, ⟨F', k4, k5⟩, k6⟩ := vcT_run cs (p + 1) s rest hs H (fun i => if i = p then v else vs i) Hs (F.put o.dst v) _ hl' (hput v) hH hh h3
      have kV : ∀ i, i < p → vs' i = vs i := fun i hi => by rw [k1 i (by omega), if_neg (by omega)]
      have kP : vs' p = v := by rw [k1 p (by omega), if_pos rfl]
      refine ⟨vs', Hs', kV, k2, fun k hk => (k3 k (by rw [et] at hk; exact hk)).1, ⟨F', by rw [et]; exact k4, fun x => by rw [k5 x]; congr 1; simp; omega⟩, fun i hi => ?_⟩
      cases i with
      | zero =>
        refine ⟨o, h0, .q b f, rfl, fun F1 hF1 k q1 q2 q3 => ?_⟩
        rw [List.take_zero, show turns [] = 0 from rfl, Nat.add_zero] at q1 q2
        rw [et] at q3
        rw [Nat.add_zero, kP]
        have cg : ∀ {H'}, OpOk P n M all H' o F v → OpOk P n M all H' o F1 v := fun hO => hO.congr fun x hx => by
          rw [hF1 x hx, hF x, Nat.add_zero]
          exact (gF_same fun i hi _ => ⟨rfl, (kV i hi).symm⟩)
        have ok : ∀ {H'}, vcOp P M o F H' (Two v H') → OpOk P n M all H' o F1 v := fun hO => cg ⟨hd, by rw [hg]; exact hO⟩
        rcases Nat.lt_trichotomy k s with hk | hk | hk
        · rw [k2 k (by omega)]
          have := allH_get (k := s - 1 - k) h2 (by rw [List.getElem?_take, if_pos (by omega)]; exact hh k hk)
          obtain ⟨v', h4, rfl⟩ := vcQ_det this
          exact ok h4
        · rw [hk, k2 s (Nat.le_refl _), hH]
          exact ok h1
        · have := (k3 (k - s - 1) (by omega)).2 (by omega)
          rw [show s + 1 + (k - s - 1) = k by omega] at this
          obtain ⟨v', h4, rfl⟩ := vcQ_det this
          exact ok h4
      | succ i =>
        obtain ⟨o', ho', c', hc', hh'⟩ := k6 i (by simpa using hi)
        refine ⟨o', by rw [show p + (i + 1) = p + 1 + i by omega]; exact ho', c', by simpa using hc', ?_⟩
        have e1 : s + turns ((Cd.q b f :: cs).take (i + 1)) = s + turns (cs.take i) := by rw [List.take_succ_cons, turns_cons]; rfl
        rw [e1, show s + turns (Cd.q b f :: cs) = s + turns cs by rw [et], show p + (i + 1) = p + 1 + i by omega]
        exact hh'
    | t =>
      obtain ⟨v1, H1, h1, h2, h3⟩ := vcE_det h
      exact turn v1 H1 v1 H1 rfl h1 (Vw.refl _ _) h2 h3
    | g =>
      obtain ⟨v1, H1, h1, h2⟩ := vcE_det h
      obtain ⟨v, H2, h3, h4, h5⟩ := giveK_Vw h2
      exact turn v1 H1 v H2 rfl h1 h3 h4 h5
theorem EOk_runV {M : List Nat} {all : List Oper} {o : Oper} {F : Frame} {v1 v : V} {H1 H2 : Heap} {i : Nat} {w : World} {σ : Conc} {a : Act} {Q : Exit → Act → World → Prop} {K : Act → World → Prop} (hg : o.guard = none) (h : vcOp P M o F H (Two v1 H1)) (hv : Vw v1 H1 v H2) (hi : all[i]? = some o) (hs : Sat n w H σ F a.tmps)
    (hK : ∀ val w' σ', VRel w' (Own H2 σ') H2 σ' v val → WOk w' H2 σ' → Pres w H σ w' H2 σ' → K (a.put o.dst val) w') : wpOp P all.toArray Q i K a w :=
  EOk_run hg h hi hs fun val w' σ' h1 h2 h3 => by
    obtain ⟨σ2, p2, ok2, r2⟩ := hv w' σ' val h2 h1
    exact hK val w' σ2 r2 ok2 (h3.trans p2)
theorem draw_headT {M : List Nat} {all : List Oper} {nh m : Nat} {isT : Nat → Bool} {st : Nat → Nat} {Hs : Nat → Heap} {vs F0 : Nat → V} {w0 : World} {H0 : Heap} {σ0 : Conc} {Q' : Exit → Act → World → Prop}
    (hlt : nh < all.toArray.size) (hs : Region.sinkB .any all.toArray nh = true) (hc : Region.chainB .any all.toArray nh = true) (hb : backB all.toArray nh = true) (hd : dstB all.toArray nh = true) (hlk : looksB all.toArray nh = true)
    (hq : Region.seqB .any all.toArray (all.toArray.size - nh) nh (Array.replicate nh true ++ Array.replicate (all.toArray.size - nh) false) = true)
    (hst : ∀ i, i < nh → isT i = true → st i < m ∧ (st i = 0 ∨ ∃ j, j < nh ∧ isT j = true ∧ st j + 1 = st i ∧ Region.waitsFor .any all.toArray i j = true) ∧ ∀ j, j < nh → isT j = true → st j = st i → j = i)
    (hm : m = 0 ∨ ∃ j, j < nh ∧ isT j = true ∧ st j + 1 = m)
    (hok : ∀ i, i < nh → isT i = false → ∃ o, all[i]? = some o ∧ ∀ F', (∀ x, x ∈ o.looksAt all.toArray → F'.get x = gF F0 (fun i => (all[i]?).bind (·.dst)) vs always i x) →
      ∀ s, s ≤ m → (∀ j, j < nh → isT j = true → s ≤ st j → Region.waitsFor .any all.toArray i j = false) → (∀ j, j < nh → isT j = true → st j < s → i ∉ ancs all.toArray j) → OpOk P n M all (Hs s) o F' (vs i))
    (hoe : ∀ i, i < nh → isT i = true → ∃ o, all[i]? = some o ∧ o.guard = none ∧ dstOk n o.dst ∧ ∀ F', (∀ x, x ∈ o.looksAt all.toArray → F'.get x = gF F0 (fun i => (all[i]?).bind (·.dst)) vs always i x) → ∃ v1 H1, vcOp P M o F' (Hs (st i)) (Two v1 H1) ∧ Vw v1 H1 (vs i) (Hs (st i + 1)))
    (hend : ∀ (w : World) (σ : Conc) (a : Act), SatG n w (Hs m) σ (gF F0 (fun i => (all[i]?).bind (·.dst)) vs always nh) a.tmps → Pres w0 H0 σ0 w (Hs m) σ → a.defers = dfs → wpList P all.toArray Q' (all.drop nh) a w) :
    ∀ (f s : Nat) (listed : Array Bool) (a : Act) (w : World) (σ : Conc), HeadInv .any all.toArray nh listed → (List.range nh).countP (fun i => !listed.getD i false) = f → s ≤ m → (∀ i, i < nh → isT i = true → (listed.getD i false = true ↔ st i < s)) →
      SatG n w (Hs s) σ (gF F0 (fun i => (all[i]?).bind (·.dst)) vs (fun i => listed.getD i false) nh) a.tmps → Pres w0 H0 σ0 w (Hs s) σ → a.defers = dfs → wpAny P .any all.toArray Q' (f + (all.toArray.size - nh)) listed a w
  | 0, s, listed, a, w, σ, inv, hf, hsm, hli, hsat, hp, hdf => by
    have hall : ∀ i, i < nh → listed.getD i false = true := fun i hi => by simpa using countP_none hf i hi
    obtain rfl : s = m := by
      rcases hm with h | ⟨j, j1, j2, j3⟩
      · omega
      · have := (hli j j1 j2).1 (hall j j1)
        omega
    have heq : listed = Array.replicate nh true ++ Array.replicate (all.toArray.size - nh) false := by
      have hsz := inv.size
      apply Array.ext
      · simp at hlt hsz ⊢; omega
      · intro i h1 h2
        by_cases hi : i < nh
        · have := hall i hi
          simp [h1] at this
          rw [Array.getElem_append_left (by simpa using hi)]
          simp [this]
        · have := inv.tail i (by omega) (by omega)
          simp [h1] at this
          rw [Array.getElem_append_right (by simpa using hi)]
          simp [this]
    have hdl : (all.drop nh).length = all.toArray.size - nh := by simp
    rw [Nat.zero_add, ← hdl]
    refine wpAny_of_seq (all.drop nh) nh listed a w (fun j => by simp [List.getElem?_drop]) (by rw [hdl, heq]; exact hq) (hend w σ a ?_ hp hdf)
    refine ⟨hsat.ok, hsat.size, fun x => ?_⟩
    have : gF F0 (fun i => (all[i]?).bind (·.dst)) vs always nh x = gF F0 (fun i => (all[i]?).bind (·.dst)) vs (fun i => listed.getD i false) nh x :=
      gF_same fun i hi _ => ⟨by rw [hall i hi]; rfl, rfl⟩
    rw [this]
    exact hsat.slot x
  | f + 1, s, listed, a, w, σ, inv, hf, hsm, hli, hsat, hp, hdf => by
    have hsz := inv.size
    obtain ⟨i0, hi0, hu0⟩ := countP_some hf
    have hu0' : listed.getD i0 false = false := by simpa using hu0
    have hex : ∀ i, i < nh → ∃ o, all[i]? = some o := fun i hi => by
      cases hie : isT i with
      | true =>
        obtain ⟨o, ho, _⟩ := hoe i hi hie
        exact ⟨o, ho⟩
      | false =>
        obtain ⟨o, ho, _⟩ := hok i hi hie
        exact ⟨o, ho⟩
    have hin : ∀ i ∈ Region.ready .any all.toArray listed, i < nh := fun i hi => by
      rcases Nat.lt_or_ge i nh with h | h
      · exact h
      · exact absurd hi (tail_waits hs hc hlt inv _ i0 rfl hi0 (getD_in (by omega) hu0') i h)
    rw [show f + 1 + (all.toArray.size - nh) = (f + (all.toArray.size - nh)) + 1 by omega]
    refine ⟨fun h0 => ?_, fun i hi => ?_⟩
    · exfalso
      obtain ⟨j, hj, hpj, hmin⟩ := least (p := fun i => !listed.getD i false) i0 hu0
      have hjn : j < nh := by omega
      obtain ⟨o, ho⟩ := hex j hjn
      have ho' : all.toArray[j]? = some o := by simpa using ho
      have : j ∈ Region.ready .any all.toArray listed := mem_ready.2 ⟨getD_in (by omega) (by simpa using hpj), o, ho', fun e he hbe => by
        have := hmin _ (backB_spec hb hjn ho' e he hbe)
        simpa using this⟩
      rw [h0] at this
      cases this
    · have hin := hin i hi
      obtain ⟨hun, oi, hoi, hall⟩ := mem_ready.1 hi
      obtain ⟨o, ho⟩ := hex i hin
      have ho' : all.toArray[i]? = some o := by simpa using ho
      obtain rfl : o = oi := Option.some.inj (ho'.symm.trans hoi)
      have hunf : listed.getD i false = false := getD_both hun
      have hsee : ∀ x, x ∈ o.looksAt all.toArray → gF F0 (fun i => (all[i]?).bind (·.dst)) vs (fun i => listed.getD i false) nh x = gF F0 (fun i => (all[i]?).bind (·.dst)) vs always i x := fun x hx => by
        have e1 : gF F0 (fun i => (all[i]?).bind (·.dst)) vs (fun i => listed.getD i false) nh x = gF F0 (fun i => (all[i]?).bind (·.dst)) vs (fun k => decide (k < i)) nh x :=
          gF_same fun k hk hdk => ⟨by
            have hdk' : (all.toArray[k]?).bind (·.dst) = some x := by simpa using hdk
            rcases looksB_spec hlk hin ho' hx hk hdk' with ⟨h1, h2⟩ | h1 | h1
            · obtain ⟨oj, hoj, e, he, hbe, hon⟩ := Region.waitsFor_spec h2
              obtain rfl : oj = o := Option.some.inj (hoj.symm.trans ho')
              have := hall e he hbe
              rw [hon] at this
              rw [this]
              simp [h1]
            · subst h1
              rw [hunf]
              simp
            · obtain ⟨oj, hoj, e, he, hbe, hon⟩ := Region.waitsFor_spec h1
              have hki : ¬ k < i := by
                have := backB_spec hb hk hoj e he hbe
                omega
              have : listed.getD k false = false := by
                cases hlk' : listed.getD k false with
                | false => rfl
                | true =>
                  have := inv.closed k oj hoj hlk' e he hbe
                  rw [hon, hunf] at this
                  cases this
              rw [this]
              simp [hki], rfl⟩
        rw [e1, gF_none (j := i) (by omega) fun k h1 _ _ => by simpa using h1]
        exact gF_same fun k hk _ => ⟨by simp [always, hk], rfl⟩
      let F1 : Frame := (o.looksAt all.toArray).map fun x => (x, gF F0 (fun i => (all[i]?).bind (·.dst)) vs always i x)
      have hF1 : ∀ x, F1.get x = if x ∈ o.looksAt all.toArray then gF F0 (fun i => (all[i]?).bind (·.dst)) vs always i x else .top := fun x => by
        have : ∀ (l : List Nat), Frame.get (l.map fun x => (x, gF F0 (fun i => (all[i]?).bind (·.dst)) vs always i x)) x = if x ∈ l then gF F0 (fun i => (all[i]?).bind (·.dst)) vs always i x else .top := by
          intro l
          induction l with
          | nil => simp [Frame.get]
          | cons y l ih =>
            rw [List.map_cons]
            have := get_cons y (gF F0 (fun i => (all[i]?).bind (·.dst)) vs always i y) (l.map fun x => (x, gF F0 (fun i => (all[i]?).bind (·.dst)) vs always i x)) x
            rw [this, ih]
            by_cases hxy : x = y
            · subst hxy; simp
            · simp [hxy]
        exact this _
      have hlook : ∀ x, x ∈ o.looksAt all.toArray → F1.get x = gF F0 (fun i => (all[i]?).bind (·.dst)) vs always i x := fun x hx => by rw [hF1, if_pos hx]
      have hset : ∀ j, j ≠ i → (listed.setIfInBounds i true).getD j false = listed.getD j false := fun j hj => getD_set_ne false (Ne.symm hj)
      have hseti : (listed.setIfInBounds i true).getD i false = true := by
        have : i < listed.size := by omega
        simp [this]
      have hcount : (List.range nh).countP (fun j => !(listed.setIfInBounds i true).getD j false) = f := by
        have := countP_set (p := fun i => !listed.getD i false) (q := fun j => !(listed.setIfInBounds i true).getD j false) (i := i) (l := List.range nh) List.nodup_range (List.mem_range.2 hin) (by simp [hunf]) (by simp [hseti]) (fun j hj => by simp only [hset j hj])
        omega
      have hgset : ∀ x, gF F0 (fun i => (all[i]?).bind (·.dst)) vs (fun j => (listed.setIfInBounds i true).getD j false) nh x = if o.dst = some x then vs i else gF F0 (fun i => (all[i]?).bind (·.dst)) vs (fun i => listed.getD i false) nh x := fun x => by
        rw [gF_set hin hset hseti fun j hj hji hdj => by
          have := dstB_spec (i := i) (k := j) (x := x) hd hin hj hji (by simpa using hdj)
          simpa using this]
        simp [ho]
      have hF1s : ∀ x, F1.get x = .top ∨ F1.get x = gF F0 (fun i => (all[i]?).bind (·.dst)) vs (fun i => listed.getD i false) nh x := fun x => by
        rw [hF1]
        split
        · rename_i hx; exact .inr (hsee x hx).symm
        · exact .inl rfl
      have hready : ∀ j, Region.waitsFor .any all.toArray i j = true → listed.getD j false = true := fun j hw => by
        obtain ⟨oj, hoj, ed, hed, hbe, hon⟩ := Region.waitsFor_spec hw
        obtain rfl : oj = o := Option.some.inj (hoj.symm.trans ho')
        have := hall ed hed hbe
        rwa [hon] at this
      cases hie : isT i with
      | true =>
        obtain ⟨o', ho2, hg, hdo, hE⟩ := hoe i hin hie
        obtain rfl : o = o' := Option.some.inj (ho.symm.trans ho2)
        obtain ⟨t1, t2, t3⟩ := hst i hin hie
        have his : st i = s := by
          have h1 : ¬ st i < s := fun h => by
            have := (hli i hin hie).2 h
            rw [hunf] at this
            cases this
          rcases t2 with h2 | ⟨j, j1, j2, j3, j4⟩
          · omega
          · have := (hli j j1 j2).1 (hready j j4)
            omega
        rw [← his] at hsat hp
        obtain ⟨v1, H1, hop, hvw⟩ := hE F1 hlook
        refine EOk_runV (M := M) (v := vs i) (H2 := Hs (st i + 1)) (all := all) hg hop hvw ho (hsat.toF hF1s) fun val w' σ' hv hw' hp' => ?_
        refine draw_headT hlt hs hc hb hd hlk hq hst hm hok hoe hend f (st i + 1) _ _ w' σ' (inv.set hi hin) hcount (by omega) (fun j hj hjt => ?_) ?_ (hp.trans hp') (by cases hdst : o.dst <;> simpa [Act.put, hdst] using hdf)
        · by_cases hji : j = i
          · subst hji
            rw [hseti]
            exact ⟨fun _ => Nat.lt_succ_self _, fun _ => rfl⟩
          · rw [hset j hji, hli j hj hjt]
            have : st j ≠ st i := fun e => hji (t3 j hj hjt e)
            omega
        · have hsat' : SatG n w' (Hs (st i + 1)) σ' (gF F0 (fun i => (all[i]?).bind (·.dst)) vs (fun i => listed.getD i false) nh) a.tmps := ⟨hw', hsat.size, fun x => (hsat.slot x).pres hp'⟩
          exact hsat'.put hdo hv hgset
      | false =>
        obtain ⟨o', ho2, hO⟩ := hok i hin hie
        obtain rfl : o = o' := Option.some.inj (ho.symm.trans ho2)
        have hokF : OpOk P n M all (Hs s) o F1 (vs i) := hO F1 hlook s hsm (fun j hj hjt hsj => by
          cases hwt : Region.waitsFor .any all.toArray i j with
          | false => rfl
          | true =>
            have := (hli j hj hjt).1 (hready j hwt)
            omega) fun j hj hjt hjs hmem => by
          have := ancs_done inv ((hli j hj hjt).2 hjs) i hmem
          rw [hunf] at this
          cases this
        refine OpOk.run hokF ho (hsat.toF hF1s) fun val w' σ' hv hw' hp' => ?_
        refine draw_headT hlt hs hc hb hd hlk hq hst hm hok hoe hend f s _ _ w' σ' (inv.set hi hin) hcount hsm (fun j hj hjt => ?_) ?_ (hp.trans hp') (by cases hdst : o.dst <;> simpa [Act.put, hdst] using hdf)
        · have hji : j ≠ i := fun e => by rw [e, hie] at hjt; cases hjt
          rw [hset j hji]
          exact hli j hj hjt
        · have hsat' : SatG n w' (Hs s) σ' (gF F0 (fun i => (all[i]?).bind (·.dst)) vs (fun i => listed.getD i false) nh) a.tmps := ⟨hw', hsat.size, fun x => (hsat.slot x).pres hp'⟩
          exact hsat'.put hokF.1 hv hgset
def isTB (cs : List Cd) (i : Nat) : Bool := match cs[i]? with | some c => c.isT | none => false
def stB' (cs : List Cd) (i : Nat) : Nat := turns (cs.take i)
def drawTB (ops : Array Oper) (nh : Nat) (cs : List Cd) : Bool :=
  decide (nh < ops.size) && Region.sinkB .any ops nh && Region.chainB .any ops nh && backB ops nh && dstB ops nh && looksB ops nh &&
    Region.seqB .any ops (ops.size - nh) nh (Array.replicate nh true ++ Array.replicate (ops.size - nh) false) && decide (cs.length = nh) &&
    ((List.range nh).all fun i => !isTB cs i || (decide (stB' cs i < turns cs) && (decide (stB' cs i = 0) || (List.range nh).any fun j => isTB cs j && decide (stB' cs j + 1 = stB' cs i) && Region.waitsFor .any ops i j) && (List.range nh).all fun j => !isTB cs j || decide (j = i) || !decide (stB' cs j = stB' cs i))) &&
    (decide (turns cs = 0) || (List.range nh).any fun j => isTB cs j && decide (stB' cs j + 1 = turns cs)) &&
    ((List.range nh).all fun i => match cs[i]? with
      | some (.q b f) => ((ops[i]?).map freeB).getD false || (List.range (turns cs + 1)).all fun k => (decide (stB' cs i ≤ k + b) && decide (k ≤ stB' cs i + f)) || (List.range nh).any fun j => isTB cs j && ((decide (k ≤ stB' cs j) && Region.waitsFor .any ops i j) || (decide (stB' cs j < k) && (ancs ops j).contains i))
      | _ => true)
variable {H0 : Heap} {Q : Exit → Frame → Heap → Prop} {F : Frame}
theorem AWp_drawT_n {id : Nat} {l : List Oper} (nh : Nat) (cs : List Cd) (M : List Nat) (ks : Nat → List Nat) (hm : P.follows .mixedOrders = true) (hB : drawTB l.toArray nh cs = true)
    (h : vcT P n M (fun F' H' => vcOps P n M l (l.drop nh) F' H' fun F3 H3 => Q .normal (canon (ks id) F3) H3) cs l [] H F fun _ _ => True) : AWp P n dfs H0 (.region id l.toArray true) Q F H := by
  unfold AWp
  intro w0 σ0 w σ a hw hp hs hd
  simp only [drawTB, Bool.and_eq_true, decide_eq_true_eq] at hB
  obtain ⟨⟨⟨⟨⟨⟨⟨⟨⟨⟨hlt, hsk⟩, hc⟩, hb⟩, hds⟩, hlk⟩, hq⟩, hcl⟩, hT⟩, hend⟩, hQ⟩ := hB
  obtain ⟨vs, Hs, _, hH0, _, ⟨F', hF', hG⟩, hop⟩ := vcT_run (F0 := F.get) (all := l) cs 0 0 l [] H (fun _ => .top) (fun _ => H) F _ (fun i => by simp) (fun x => rfl) rfl (fun k hk => by omega) h
  simp only [Nat.zero_add, hcl] at hF' hG hop
  have hH0 : Hs 0 = H := hH0 0 (Nat.le_refl _)
  refine wp_region_any hm ?_
  have hsd : Sat n w.drew H σ F a.tmps := hs.pres (Pres.drew w H σ) hs.ok.drew
  have hnl : ∀ (m j : Nat), (Array.replicate m false).getD j false = false := getD_replicate_false
  have key := draw_headT (P := P) (n := n) (M := M) (all := l) (nh := nh) (m := turns cs) (isT := isTB cs) (st := stB' cs) (Hs := Hs) (vs := vs) (F0 := F.get) (w0 := w0) (H0 := H0) (σ0 := σ0)
    (Q' := fun e a' w' => ∃ F' H' σ', Q e F' H' ∧ Pres w0 H0 σ0 w' H' σ' ∧ Sat n w' H' σ' F' a'.tmps ∧ a'.defers = dfs) hlt hsk hc hb hds hlk hq
    (fun i hi hti => by
      have := List.all_eq_true.1 hT i (List.mem_range.2 hi)
      simp only [hti, Bool.not_true, Bool.false_or, Bool.and_eq_true, Bool.or_eq_true, decide_eq_true_eq, List.any_eq_true, List.all_eq_true, List.mem_range, Bool.not_eq_true', decide_eq_false_iff_not] at this
      obtain ⟨⟨h1, h2⟩, h3⟩ := this
      refine ⟨h1, h2.imp (fun h => h) fun ⟨j, j1, ⟨j2, j3⟩, j4⟩ => ⟨j, j1, j2, j3, j4⟩, fun j hj hjt e => ?_⟩
      rcases h3 j hj with (h | h) | h
      · rw [h] at hjt; cases hjt
      · exact h
      · exact absurd e h)
    (by
      simp only [Bool.or_eq_true, Bool.and_eq_true, decide_eq_true_eq, List.any_eq_true, List.mem_range] at hend
      exact hend.imp (fun h => h) fun ⟨j, j1, j2, j3⟩ => ⟨j, j1, j2, j3⟩)
    (fun i hi hti => by
      obtain ⟨o, ho, c, hci, hh⟩ := hop i hi
      refine ⟨o, ho, fun F' hF' s hs h1 h2 => ?_⟩
      have := List.all_eq_true.1 hQ i (List.mem_range.2 hi)
      rw [hci] at this
      cases c with
      | q b f =>
        simp only [Bool.or_eq_true] at this
        have hh : ∀ k, stB' cs i ≤ k + b → k ≤ stB' cs i + f → k ≤ turns cs → OpOk P n M l (Hs k) o F' (vs i) := fun k => hh F' hF' k
        rcases this with h | h
        · have hf : freeB o = true := by simpa [ho] using h
          have hle : stB' cs i ≤ turns cs := (List.Sublist.countP_le (List.take_sublist i cs))
          exact (hh (stB' cs i) (by omega) (by omega) hle).free hf
        · have := List.all_eq_true.1 h s (List.mem_range.2 (by omega))
          simp only [Bool.or_eq_true, Bool.and_eq_true, decide_eq_true_eq, List.any_eq_true, List.mem_range, List.contains_iff_mem] at this
          rcases this with ⟨a1, a2⟩ | ⟨j, j1, j2, j3⟩
          · exact hh s a1 a2 hs
          · rcases j3 with ⟨a1, a2⟩ | ⟨a1, a2⟩
            · have := h1 j j1 j2 a1
              rw [a2] at this
              cases this
            · exact absurd a2 (h2 j j1 j2 a1)
      | t => simp [isTB, hci, Cd.isT] at hti
      | g => simp [isTB, hci, Cd.isT] at hti)
    (fun i hi hti => by
      obtain ⟨o, ho, c, hci, hh⟩ := hop i hi
      refine ⟨o, ho, ?_⟩
      cases c with
      | q b f => simp [isTB, hci, Cd.isT] at hti
      | t => exact hh
      | g => exact hh)
    (fun w1 σ1 a1 h1 h2 h3 => vcOps_wp (l.drop nh) F' (Hs (turns cs)) _ w1 σ1 a1 hF' (h1.toF fun x => .inr (hG x)) h2 h3 fun F'' H'' w' σ' a' hk hs' hp' hd' =>
      ⟨_, H'', σ', hk, hp', hs'.canon _, hd'⟩)
    nh 0 (Array.replicate l.toArray.size false) a w.drew σ
    ⟨by simp, fun j oj _ hl => (by rw [getD_replicate_false] at hl; cases hl), fun t _ ht => getD_in (by simpa using ht) (getD_replicate_false _ _)⟩
    (by
      have : (List.range nh).countP (fun i => !(Array.replicate l.toArray.size false).getD i false) = (List.range nh).length := List.countP_eq_length.2 fun i _ => by rw [hnl]; rfl
      rw [this, List.length_range])
    (Nat.zero_le _) (fun i _ _ => by
      rw [hnl]
      exact ⟨fun h => (by cases h), fun h => absurd h (Nat.not_lt_zero _)⟩)
    (by
      rw [hH0]
      exact ⟨hsd.ok, hsd.size, fun x => by
        have : gF F.get (fun i => (l[i]?).bind (·.dst)) vs (fun i => (Array.replicate l.toArray.size false).getD i false) nh x = F.get x :=
          gF_none (j := 0) (Nat.zero_le _) fun i _ _ _ => hnl _ _
        rw [this]
        exact hsd.slot x⟩)
    (by rw [hH0]; exact hp.trans (Pres.drew w H σ)) hd
  rw [show nh + (l.toArray.size - nh) = l.toArray.size by omega] at key
  exact key
theorem AWp_drawT {id : Nat} {l : List Oper} {R : Frame → Heap → Prop} (xt : Nat → Nat × List Cd) (M : List Nat) (ks : Nat → List Nat) (hx : Nat.ble 1 (xt id).1 = true) (hm : P.follows .mixedOrders = true) (hB : drawTB l.toArray (xt id).1 (xt id).2 = true) [ho : Nrm Q R]
    (h : ∀ Kv : Frame → Heap → Prop, (∀ F' H', R F' H' → Kv F' H') → vcT P n M (lk (fun F' H' => vcOps P n M l (l.drop (xt id).1) F' H' fun F3 H3 => Kv (canon (ks id) F3) H3) .mk) (xt id).2 l [] H F fun _ _ => True) : AWp P n dfs H0 (.region id l.toArray true) Q F H :=
  AWp_drawT_n _ _ M ks hm hB (h _ fun F' H' hr => ho.spec F' H' hr)
theorem vcT_nil {M : List Nat} {T : Frame → Heap → Prop} {l : List Oper} {hs : List Heap} {pd : Nat → Heap → Prop} : vcT P n M T [] l hs H F pd = T F H := Eq.trans rfl rfl
theorem vcT_q0 {M : List Nat} {T : Frame → Heap → Prop} {cs : List Cd} {d : Option Tmp} {op : Op} {ty : TypeId} {ps : String} {af : Array Edge} {rest : List Oper} {hs : List Heap} {pd : Nat → Heap → Prop} : vcT P n M T (.q 0 0 :: cs) (⟨d, op, ty, ps, af, none⟩ :: rest) hs H F pd = (dstOk n d ∧ vcQ P M ⟨d, op, ty, ps, af, none⟩ F H fun v => vcT P n M T cs rest hs H (F.put d v) pd) := by
  rw [vcT]; simp [allH]
theorem vcT_q {M : List Nat} {T : Frame → Heap → Prop} {b f : Nat} {cs : List Cd} {d : Option Tmp} {op : Op} {ty : TypeId} {ps : String} {af : Array Edge} {rest : List Oper} {hs : List Heap} {pd : Nat → Heap → Prop} : vcT P n M T (.q b f :: cs) (⟨d, op, ty, ps, af, none⟩ :: rest) hs H F pd = (dstOk n d ∧ vcQ P M ⟨d, op, ty, ps, af, none⟩ F H fun v => allH (fun H' => vcQ P M ⟨d, op, ty, ps, af, none⟩ F H' fun v' => v' = v) (hs.take b) ∧ vcT P n M T cs rest hs H (F.put d v) fun k Ha => pd k Ha ∧ (k < f → vcQ P M ⟨d, op, ty, ps, af, none⟩ F Ha fun v' => v' = v)) := by
  rw [vcT]; simp
theorem vcT_t {M : List Nat} {T : Frame → Heap → Prop} {cs : List Cd} {d : Option Tmp} {op : Op} {ty : TypeId} {ps : String} {af : Array Edge} {rest : List Oper} {hs : List Heap} {pd : Nat → Heap → Prop} : vcT P n M T (.t :: cs) (⟨d, op, ty, ps, af, none⟩ :: rest) hs H F pd = (dstOk n d ∧ vcE P M ⟨d, op, ty, ps, af, none⟩ F H fun v H1 => pd 0 H1 ∧ vcT P n M T cs rest (H :: hs) H1 (F.put d v) fun k => pd (k + 1)) := by
  rw [vcT]; simp
theorem vcT_g {M : List Nat} {T : Frame → Heap → Prop} {cs : List Cd} {d : Option Tmp} {op : Op} {ty : TypeId} {ps : String} {af : Array Edge} {rest : List Oper} {hs : List Heap} {pd : Nat → Heap → Prop} : vcT P n M T (.g :: cs) (⟨d, op, ty, ps, af, none⟩ :: rest) hs H F pd = (dstOk n d ∧ vcE P M ⟨d, op, ty, ps, af, none⟩ F H (giveK fun v H1 => pd 0 H1 ∧ vcT P n M T cs rest (H :: hs) H1 (F.put d v) fun k => pd (k + 1))) := by
  rw [vcT]; simp
def vcG (P : Program) (n : Nat) (M : List Nat) (all : List Oper) : List Bool → List Oper → Frame → Heap → (Frame → Heap → Prop) → Prop
  | [], l, F, H, K => vcOps P n M all l F H K
  | _ :: _, [], _, _, _ => False
  | b :: bs, o :: rest, F, H, K => o.guard = none ∧ dstOk n o.dst ∧ match b with
    | true => vcOp P M o F H (giveK fun v H' => vcG P n M all bs rest (F.put o.dst v) H' K)
    | false => vcOp P M o F H fun v H' => vcG P n M all bs rest (F.put o.dst v) H' K
theorem vcG_nil {M : List Nat} {all l : List Oper} {K : Frame → Heap → Prop} : vcG P n M all [] l F H K = vcOps P n M all l F H K := by rw [vcG]
theorem vcG_f {M : List Nat} {all : List Oper} {bs : List Bool} {d : Option Tmp} {op : Op} {ty : TypeId} {ps : String} {af : Array Edge} {rest : List Oper} {K : Frame → Heap → Prop} : vcG P n M all (false :: bs) (⟨d, op, ty, ps, af, none⟩ :: rest) F H K = (dstOk n d ∧ vcOp P M ⟨d, op, ty, ps, af, none⟩ F H fun v H' => vcG P n M all bs rest (F.put d v) H' K) := by
  rw [vcG]; simp
theorem vcG_t {M : List Nat} {all : List Oper} {bs : List Bool} {d : Option Tmp} {op : Op} {ty : TypeId} {ps : String} {af : Array Edge} {rest : List Oper} {K : Frame → Heap → Prop} : vcG P n M all (true :: bs) (⟨d, op, ty, ps, af, none⟩ :: rest) F H K = (dstOk n d ∧ vcOp P M ⟨d, op, ty, ps, af, none⟩ F H (giveK fun v H' => vcG P n M all bs rest (F.put d v) H' K)) := by
  rw [vcG]; simp
end
attribute [go_sem ↓] vcT_nil vcT_q0 vcT_q vcT_t vcT_g vcG_nil vcG_f vcG_t
attribute [go_sem] giveK allH List.take_zero List.take_succ_cons
end Go.Proofs.YtmhabdopcbokoaaDoor.Ab
