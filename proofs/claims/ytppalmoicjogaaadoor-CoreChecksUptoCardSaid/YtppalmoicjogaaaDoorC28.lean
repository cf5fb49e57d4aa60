/- Regions that draw their order, in which any number of operations turn objects, and others are guarded. No condition. -/
import Derived.Test.YtppalmoicjogaaaDoorC27
set_option linter.all false
set_option linter.unusedSimpArgs false
set_option linter.unusedVariables false
namespace Go.Proofs.YtppalmoicjogaaaDoor.Ab
open Go
variable [Glo]
section
variable {P : Program} {n : Nat} {H : Heap}
def quietK (P : Program) (M : List Nat) (o : Oper) (F : Frame) (b f : Nat) (hs : List Heap) (pd : Nat → Heap → Prop) (v : V) (k : (Nat → Heap → Prop) → Prop) : Prop :=
  allH (fun H' => vcQ P M o F H' fun v' => v' = v) (hs.take b) ∧ k fun k Ha => pd k Ha ∧ (k < f → vcQ P M o F Ha fun v' => v' = v)
def vcU (P : Program) (n : Nat) (M : List Nat) (all : List Oper) (T : Frame → Heap → Prop) : List Cd → List Oper → List Heap → Heap → Frame → (Nat → Heap → Prop) → Prop
  | [], _, _, H, F, _ => T F H
  | _ :: _, [], _, _, _, _ => False
  | .q b f :: cs, o :: rest, hs, H, F, pd =>
    match o.guard with
    | none => dstOk n o.dst ∧ vcQ P M o F H fun v => quietK P M o F b f hs pd v fun pd' => vcU P n M all T cs rest hs H (F.put o.dst v) pd'
    | some (j, want) =>
      match (all[j]?).bind (·.dst) with
      | some d =>
        (match F.get d with
        | .d (.b t) => d < n ∧ dstOk n o.dst ∧ (match want with
            | true => onB t (vcQ P M o F H fun v => quietK P M o F b f hs pd v fun pd' => vcU P n M all T cs rest hs H (F.put o.dst v) pd') (vcU P n M all T cs rest hs H (F.put o.dst .un) pd)
            | false => onB t (vcU P n M all T cs rest hs H (F.put o.dst .un) pd) (vcQ P M o F H fun v => quietK P M o F b f hs pd v fun pd' => vcU P n M all T cs rest hs H (F.put o.dst v) pd'))
        | .un => dstOk n o.dst ∧ vcU P n M all T cs rest hs H (F.put o.dst .un) pd
        | _ => False)
      | none => False
  | .t :: cs, o :: rest, hs, H, F, pd => o.guard = none ∧ dstOk n o.dst ∧ vcE P M o F H fun v H1 => pd 0 H1 ∧ vcU P n M all T cs rest (H :: hs) H1 (F.put o.dst v) fun k => pd (k + 1)
  | .g :: cs, o :: rest, hs, H, F, pd => o.guard = none ∧ dstOk n o.dst ∧ vcE P M o F H (giveK fun v H1 => pd 0 H1 ∧ vcU P n M all T cs rest (H :: hs) H1 (F.put o.dst v) fun k => pd (k + 1))
theorem vcU_run {M : List Nat} {all : List Oper} {T : Frame → Heap → Prop} {F0 : Nat → V} : ∀ (cs : List Cd) (p s : Nat) (l : List Oper) (hs : List Heap) (H : Heap) (vs : Nat → V) (Hs : Nat → Heap) (F : Frame) (pd : Nat → Heap → Prop),
    (∀ i, l[i]? = all[p + i]?) → (∀ x, F.get x = gF F0 (fun i => (all[i]?).bind (·.dst)) vs always p x) → Hs s = H → (∀ k, k < s → hs[s - 1 - k]? = some (Hs k)) → vcU P n M all T cs l hs H F pd →
    ∃ (vs' : Nat → V) (Hs' : Nat → Heap), (∀ i, i < p → vs' i = vs i) ∧ (∀ k, k ≤ s → Hs' k = Hs k) ∧ (∀ k, k < turns cs → pd k (Hs' (s + 1 + k))) ∧
      (∃ F', T F' (Hs' (s + turns cs)) ∧ ∀ x, F'.get x = gF F0 (fun i => (all[i]?).bind (·.dst)) vs' always (p + cs.length) x) ∧
      ∀ i, i < cs.length → ∃ o, all[p + i]? = some o ∧ ∃ c, cs[i]? = some c ∧ opT P n M all Hs' (s + turns (cs.take i)) (s + turns cs) (gF F0 (fun i => (all[i]?).bind (·.dst)) vs' always (p + i)) o (vs' (p + i)) c
  | [], p, s, l, hs, H, vs, Hs, F, pd, hl, hF, hH, hh, h => ⟨vs, Hs, fun _ _ => rfl, fun _ _ => rfl, fun k hk => by simp [turns] at hk, ⟨F, by subst hH; exact h, hF⟩, fun i hi => by simp at hi⟩
  | c :: cs, p, s, [], hs, H, vs, Hs, F, pd, hl, hF, hH, hh, h => by cases c <;> exact h.elim
  | c :: cs, p, s, o :: rest, hs, H, vs, Hs, F, pd, hl, hF, hH, hh, h => by
    have h0 : all[p]? = some o := by simpa using (hl 0).symm
    have hl' : ∀ i, rest[i]? = all[p + 1 + i]? := fun i => by
      have := hl (i + 1)
      rw [List.getElem?_cons_succ] at this
      rw [this]
      congr 1
      omega
    have eq1 : ∀ (v : V) x, gF F0 (fun i => (all[i]?).bind (·.dst)) (fun i => if i = p then v else vs i) always p x = gF F0 (fun i => (all[i]?).bind (·.dst)) vs always p x := fun v x =>
      gF_same fun i hi _ => ⟨rfl, if_neg (by omega)⟩
    have hput : ∀ (v : V) x, (F.put o.dst v).get x = gF F0 (fun i => (all[i]?).bind (·.dst)) (fun i => if i = p then v else vs i) always (p + 1) x := fun v x => by
      rw [get_put, gF, eq1, hF x]
      simp [always, h0]
    have turn : ∀ (v1 : V) (H1 : Heap) (v : V) (H2 : Heap), c.isT = true → o.guard = none → dstOk n o.dst → vcOp P M o F H (Two v1 H1) → Vw v1 H1 v H2 → pd 0 H2 → vcU P n M all T cs rest (H :: hs) H2 (F.put o.dst v) (fun k => pd (k + 1)) →
        ∃ (vs' : Nat → V) (Hs' : Nat → Heap), (∀ i, i < p → vs' i = vs i) ∧ (∀ k, k ≤ s → Hs' k = Hs k) ∧ (∀ k, k < turns (c :: cs) → pd k (Hs' (s + 1 + k))) ∧
          (∃ F', T F' (Hs' (s + turns (c :: cs))) ∧ ∀ x, F'.get x = gF F0 (fun i => (all[i]?).bind (·.dst)) vs' always (p + (c :: cs).length) x) ∧
          ∀ i, i < (c :: cs).length → ∃ o, all[p + i]? = some o ∧ ∃ c', (c :: cs)[i]? = some c' ∧ opT P n M all Hs' (s + turns ((c :: cs).take i)) (s + turns (c :: cs)) (gF F0 (fun i => (all[i]?).bind (·.dst)) vs' always (p + i)) o (vs' (p + i)) c' := by
      intro v1 H1 v H2 hc hg hd hop hvw hpd hrest
      have et : turns (c :: cs) = turns cs + 1 := by rw [turns_cons, if_pos hc]
      obtain ⟨vs', Hs', k1, k2, k3, ⟨F', k4, k5⟩, k6⟩ := vcU_run cs (p + 1) (s + 1) rest (H :: hs) H2 (fun i => if i = p then v else vs i) (fun k => if k = s + 1 then H2 else Hs k) (F.put o.dst v) _ hl' (hput v) (if_pos rfl) (fun k hk => by
        rw [if_neg (by omega)]
        by_cases hks : k = s
        · subst hks
          rw [show k + 1 - 1 - k = 0 by omega]
          simp [hH]
        · rw [show s + 1 - 1 - k = (s - 1 - k) + 1 by omega, List.getElem?_cons_succ]
          exact hh k (by omega)) hrest
      have kS : ∀ k, k ≤ s → Hs' k = Hs k := fun k hk => by rw [k2 k (by omega), if_neg (by omega)]
      have kS1 : Hs' (s + 1) = H2 := by rw [k2 (s + 1) (Nat.le_refl _), if_pos rfl]
      have kV : ∀ i, i < p → vs' i = vs i := fun i hi => by rw [k1 i (by omega), if_neg (by omega)]
      have kP : vs' p = v := by rw [k1 p (by omega), if_pos rfl]
      refine ⟨vs', Hs', kV, kS, fun k hk => ?_, ⟨F', by rw [et, show s + (turns cs + 1) = s + 1 + turns cs by omega]; exact k4, fun x => by rw [k5 x]; congr 1; simp; omega⟩, fun i hi => ?_⟩
      · rw [et] at hk
        cases k with
        | zero => rw [Nat.add_zero, kS1]; exact hpd
        | succ k => rw [show s + 1 + (k + 1) = s + 1 + 1 + k by omega]; exact k3 k (by omega)
      · cases i with
        | zero =>
          refine ⟨o, h0, c, rfl, ?_⟩
          have ok : o.guard = none ∧ dstOk n o.dst ∧ ∀ F', (∀ x, x ∈ o.looksAt all.toArray → F'.get x = gF F0 (fun i => (all[i]?).bind (·.dst)) vs' always (p + 0) x) → ∃ v1 H1, vcOp P M o F' (Hs' (s + turns ((c :: cs).take 0))) (Two v1 H1) ∧ Vw v1 H1 (vs' (p + 0)) (Hs' (s + turns ((c :: cs).take 0) + 1)) := by
            refine ⟨hg, hd, fun F1 hF1 => ⟨v1, H1, ?_, ?_⟩⟩
            · rw [List.take_zero, show turns [] = 0 from rfl, Nat.add_zero, kS s (Nat.le_refl _), hH]
              refine vcOp_congr (fun x hx => ?_) hop
              rw [hF1 x (by
                unfold Oper.looksAt
                exact List.mem_append_left _ (List.mem_filterMap.2 ⟨_, hx, rfl⟩)), hF x, Nat.add_zero]
              exact (gF_same fun i hi _ => ⟨rfl, (kV i hi).symm⟩)
            · rw [List.take_zero, show turns [] = 0 from rfl, Nat.add_zero, kS1, kP]
              exact hvw
          cases c with
          | q b f => cases hc
          | t => exact ok
          | g => exact ok
        | succ i =>
          obtain ⟨o', ho', c', hc', hh'⟩ := k6 i (by simpa using hi)
          refine ⟨o', by rw [show p + (i + 1) = p + 1 + i by omega]; exact ho', c', by simpa using hc', ?_⟩
          have e1 : s + turns ((c :: cs).take (i + 1)) = s + 1 + turns (cs.take i) := by rw [List.take_succ_cons, turns_cons, if_pos hc]; omega
          rw [e1, show s + turns (c :: cs) = s + 1 + turns cs by rw [et]; omega, show p + (i + 1) = p + 1 + i by omega]
          exact hh'
    cases c with
    | q b f =>
      have et : turns (.q b f :: cs) = turns cs := by rw [turns_cons]; rfl
      have quiet : ∀ (v : V) (pd' : Nat → Heap → Prop), (∀ k Ha, pd' k Ha → pd k Ha) → OpOk P n M all H o F v → allH (fun H' => OpOk P n M all H' o F v) (hs.take b) → (∀ k Ha, pd' k Ha → k < f → OpOk P n M all Ha o F v) → vcU P n M all T cs rest hs H (F.put o.dst v) pd' →
          ∃ (vs' : Nat → V) (Hs' : Nat → Heap), (∀ i, i < p → vs' i = vs i) ∧ (∀ k, k ≤ s → Hs' k = Hs k) ∧ (∀ k, k < turns (Cd.q b f :: cs) → pd k (Hs' (s + 1 + k))) ∧
            (∃ F', T F' (Hs' (s + turns (Cd.q b f :: cs))) ∧ ∀ x, F'.get x = gF F0 (fun i => (all[i]?).bind (·.dst)) vs' always (p + (Cd.q b f :: cs).length) x) ∧
            ∀ i, i < (Cd.q b f :: cs).length → ∃ o, all[p + i]? = some o ∧ ∃ c', (Cd.q b f :: cs)[i]? = some c' ∧ opT P n M all Hs' (s + turns ((Cd.q b f :: cs).take i)) (s + turns (Cd.q b f :: cs)) (gF F0 (fun i => (all[i]?).bind (·.dst)) vs' always (p + i)) o (vs' (p + i)) c' := by
        intro v pd' q0 q1 q2 q3 h3
        obtain ⟨vs', Hs', k1, k2, k3, ⟨F', k4, k5⟩, k6⟩ := vcU_run cs (p + 1) s rest hs H (fun i => if i = p then v else vs i) Hs (F.put o.dst v) _ hl' (hput v) hH hh h3
        have kV : ∀ i, i < p → vs' i = vs i := fun i hi => by rw [k1 i (by omega), if_neg (by omega)]
        have kP : vs' p = v := by rw [k1 p (by omega), if_pos rfl]
        refine ⟨vs', Hs', kV, k2, fun k hk => q0 _ _ (k3 k (by rw [et] at hk; exact hk)), ⟨F', by rw [et]; exact k4, fun x => by rw [k5 x]; congr 1; simp; omega⟩, fun i hi => ?_⟩
        cases i with
        | zero =>
          refine ⟨o, h0, .q b f, rfl, fun F1 hF1 k g1 g2 g3 => ?_⟩
          rw [List.take_zero, show turns [] = 0 from rfl, Nat.add_zero] at g1 g2
          rw [et] at g3
          rw [Nat.add_zero, kP]
          have cg : ∀ {H'}, OpOk P n M all H' o F v → OpOk P n M all H' o F1 v := fun hO => hO.congr fun x hx => by
            rw [hF1 x hx, hF x, Nat.add_zero]
            exact (gF_same fun i hi _ => ⟨rfl, (kV i hi).symm⟩)
          rcases Nat.lt_trichotomy k s with hk | hk | hk
          · rw [k2 k (by omega)]
            exact cg (allH_get (k := s - 1 - k) q2 (by rw [List.getElem?_take, if_pos (by omega)]; exact hh k hk))
          · rw [hk, k2 s (Nat.le_refl _), hH]
            exact cg q1
          · have := q3 _ _ (k3 (k - s - 1) (by omega)) (by omega)
            rw [show s + 1 + (k - s - 1) = k by omega] at this
            exact cg this
        | succ i =>
          obtain ⟨o', ho', c', hc', hh'⟩ := k6 i (by simpa using hi)
          refine ⟨o', by rw [show p + (i + 1) = p + 1 + i by omega]; exact ho', c', by simpa using hc', ?_⟩
          have e1 : s + turns ((Cd.q b f :: cs).take (i + 1)) = s + turns (cs.take i) := by rw [List.take_succ_cons, turns_cons]; rfl
          rw [e1, show s + turns (Cd.q b f :: cs) = s + turns cs by rw [et], show p + (i + 1) = p + 1 + i by omega]
          exact hh'
      have goes : (∀ {H' v}, vcOp P M o F H' (Two v H') → OpOk P n M all H' o F v) → (vcQ P M o F H fun v => quietK P M o F b f hs pd v fun pd' => vcU P n M all T cs rest hs H (F.put o.dst v) pd') →
          ∃ (vs' : Nat → V) (Hs' : Nat → Heap), (∀ i, i < p → vs' i = vs i) ∧ (∀ k, k ≤ s → Hs' k = Hs k) ∧ (∀ k, k < turns (Cd.q b f :: cs) → pd k (Hs' (s + 1 + k))) ∧
            (∃ F', T F' (Hs' (s + turns (Cd.q b f :: cs))) ∧ ∀ x, F'.get x = gF F0 (fun i => (all[i]?).bind (·.dst)) vs' always (p + (Cd.q b f :: cs).length) x) ∧
            ∀ i, i < (Cd.q b f :: cs).length → ∃ o, all[p + i]? = some o ∧ ∃ c', (Cd.q b f :: cs)[i]? = some c' ∧ opT P n M all Hs' (s + turns ((Cd.q b f :: cs).take i)) (s + turns (Cd.q b f :: cs)) (gF F0 (fun i => (all[i]?).bind (·.dst)) vs' always (p + i)) o (vs' (p + i)) c' := by
        intro hok hq
        have det : ∀ {H' v}, (vcQ P M o F H' fun v' => v' = v) → OpOk P n M all H' o F v := fun hv => by
          obtain ⟨v', h4, rfl⟩ := vcQ_det hv
          exact hok h4
        obtain ⟨v, h1, h2, h3⟩ := vcQ_det hq
        refine quiet v _ (fun _ _ h => h.1) (hok h1) ?_ (fun k Ha h hk => det (h.2 hk)) h3
        generalize hs.take b = l at h2
        induction l with
        | nil => trivial
        | cons x l ih => exact ⟨det h2.1, ih h2.2⟩
      have skips : (∀ {H'}, OpOk P n M all H' o F .un) → vcU P n M all T cs rest hs H (F.put o.dst .un) pd →
          ∃ (vs' : Nat → V) (Hs' : Nat → Heap), (∀ i, i < p → vs' i = vs i) ∧ (∀ k, k ≤ s → Hs' k = Hs k) ∧ (∀ k, k < turns (Cd.q b f :: cs) → pd k (Hs' (s + 1 + k))) ∧
            (∃ F', T F' (Hs' (s + turns (Cd.q b f :: cs))) ∧ ∀ x, F'.get x = gF F0 (fun i => (all[i]?).bind (·.dst)) vs' always (p + (Cd.q b f :: cs).length) x) ∧
            ∀ i, i < (Cd.q b f :: cs).length → ∃ o, all[p + i]? = some o ∧ ∃ c', (Cd.q b f :: cs)[i]? = some c' ∧ opT P n M all Hs' (s + turns ((Cd.q b f :: cs).take i)) (s + turns (Cd.q b f :: cs)) (gF F0 (fun i => (all[i]?).bind (·.dst)) vs' always (p + i)) o (vs' (p + i)) c' := by
        intro hok hq
        refine quiet .un pd (fun _ _ h => h) hok ?_ (fun k Ha _ _ => hok) hq
        generalize hs.take b = l
        induction l with
        | nil => trivial
        | cons x l ih => exact ⟨hok, ih⟩
      unfold vcU at h
      cases hg : o.guard with
      | none =>
        rw [hg] at h
        exact goes (fun hO => ⟨h.1, by rw [hg]; exact hO⟩) h.2
      | some jw =>
        obtain ⟨j, want⟩ := jw
        rw [hg] at h
        simp only [] at h
        split at h
        case h_2 => exact h.elim
        rename_i d hdj
        split at h
        · rename_i t ht
          obtain ⟨hdn, hdo, h12⟩ := h
          by_cases htw : t = want
          · have hne : t ≠ !want := by subst htw; cases t <;> simp
            refine goes (fun hO => ⟨hdo, by rw [hg]; exact ⟨d, hdj, .inr ⟨hdn, t, ht, fun _ => hO, fun e => absurd e hne⟩⟩⟩) ?_
            subst htw
            cases t <;> simp only [onB] at h12 <;> simpa using h12
          · have hne : t = !want := by cases t <;> cases want <;> simp_all
            refine skips (fun {H'} => ⟨hdo, by rw [hg]; exact ⟨d, hdj, .inr ⟨hdn, t, ht, fun e => absurd e htw, fun _ => rfl⟩⟩⟩) ?_
            subst hne
            cases want <;> simp only [onB] at h12 <;> simpa using h12
        · rename_i ht
          exact skips (fun {H'} => ⟨h.1, by rw [hg]; exact ⟨d, hdj, .inl ⟨ht, rfl⟩⟩⟩) h.2
        · exact h.elim
    | t =>
      obtain ⟨hg, hd, h⟩ := h
      obtain ⟨v1, H1, h1, h2, h3⟩ := vcE_det h
      exact turn v1 H1 v1 H1 rfl hg hd h1 (Vw.refl _ _) h2 h3
    | g =>
      obtain ⟨hg, hd, h⟩ := h
      obtain ⟨v1, H1, h1, h2⟩ := vcE_det h
      obtain ⟨v, H2, h3, h4, h5⟩ := giveK_Vw h2
      exact turn v1 H1 v H2 rfl hg hd h1 h3 h4 h5
variable {H0 : Heap} {Q : Exit → Frame → Heap → Prop} {F : Frame}
theorem AWp_drawU_n {id : Nat} {l : List Oper} (nh : Nat) (cs : List Cd) (M : List Nat) (ks : Nat → List Nat) (hm : P.follows .mixedOrders = true) (hB : drawTB l.toArray nh cs = true)
    (h : vcU P n M l (fun F' H' => vcOps P n M l (l.drop nh) F' H' fun F3 H3 => Q .normal (canon (ks id) F3) H3) cs l [] H F fun _ _ => True) : AWp P n H0 (.region id l.toArray true) Q F H := by
  unfold AWp
  intro w0 σ0 w σ a hw hp hs hd
  simp only [drawTB, Bool.and_eq_true, decide_eq_true_eq] at hB
  obtain ⟨⟨⟨⟨⟨⟨⟨⟨⟨⟨hlt, hsk⟩, hc⟩, hb⟩, hds⟩, hlk⟩, hq⟩, hcl⟩, hT⟩, hend⟩, hQ⟩ := hB
  obtain ⟨vs, Hs, _, hH0, _, ⟨F', hF', hG⟩, hop⟩ := vcU_run (F0 := F.get) (all := l) cs 0 0 l [] H (fun _ => .top) (fun _ => H) F _ (fun i => by simp) (fun x => rfl) rfl (fun k hk => by omega) h
  simp only [Nat.zero_add, hcl] at hF' hG hop
  have hH0 : Hs 0 = H := hH0 0 (Nat.le_refl _)
  refine wp_region_any hm ?_
  have hsd : Sat n w.drew H σ F a.tmps := hs.pres (Pres.drew w H σ) hs.ok.drew
  have hnl : ∀ (m j : Nat), (Array.replicate m false).getD j false = false := getD_replicate_false
  have key := draw_headT (P := P) (n := n) (M := M) (all := l) (nh := nh) (m := turns cs) (isT := isTB cs) (st := stB' cs) (Hs := Hs) (vs := vs) (F0 := F.get) (w0 := w0) (H0 := H0) (σ0 := σ0)
    (Q' := fun e a' w' => ∃ F' H' σ', Q e F' H' ∧ Pres w0 H0 σ0 w' H' σ' ∧ Sat n w' H' σ' F' a'.tmps ∧ a'.defers = []) hlt hsk hc hb hds hlk hq
    (fun i hi hti => by
      have := List.all_eq_true.1 hT i (List.mem_range.2 hi)
      simp only [hti, Bool.not_true, Bool.false_or, Bool.and_eq_true, Bool.or_eq_true, decide_eq_true_eq, List.any_eq_true, List.all_eq_true, List.mem_range, Bool.not_eq_true', decide_eq_false_iff_not] at this
      obtain ⟨⟨h1, h2⟩, h3⟩ := this
      refine ⟨h1, h2.imp (fun h => h) fun ⟨j, j1, ⟨j2, j3⟩, j4⟩ => ⟨j, j1, j2, j3, j4⟩, fun j hj hjt e => ?_⟩
      rcases h3 j hj with (h | h) | h
      · rw [h] at hjt; cases hjt
      · exact h
      · exact absurd e h)
    (by
      simp only [Bool.or_eq_true, Bool.and_eq_true, decide_eq_true_eq, List.any_eq_true, List.mem_range] at hend
      exact hend.imp (fun h => h) fun ⟨j, j1, j2, j3⟩ => ⟨j, j1, j2, j3⟩)
    (fun i hi hti => by
      obtain ⟨o, ho, c, hci, hh⟩ := hop i hi
      refine ⟨o, ho, fun F' hF' s hs h1 h2 => ?_⟩
      have := List.all_eq_true.1 hQ i (List.mem_range.2 hi)
      rw [hci] at this
      cases c with
      | q b f =>
        simp only [Bool.or_eq_true] at this
        have hh : ∀ k, stB' cs i ≤ k + b → k ≤ stB' cs i + f → k ≤ turns cs → OpOk P n M l (Hs k) o F' (vs i) := fun k => hh F' hF' k
        rcases this with h | h
        · have hf : freeB o = true := by simpa [ho] using h
          have hle : stB' cs i ≤ turns cs := (List.Sublist.countP_le (List.take_sublist i cs))
          exact (hh (stB' cs i) (by omega) (by omega) hle).free hf
        · have := List.all_eq_true.1 h s (List.mem_range.2 (by omega))
          simp only [Bool.or_eq_true, Bool.and_eq_true, decide_eq_true_eq, List.any_eq_true, List.mem_range, List.contains_iff_mem] at this
          rcases this with ⟨a1, a2⟩ | ⟨j, j1, j2, j3⟩
          · exact hh s a1 a2 hs
          · rcases j3 with ⟨a1, a2⟩ | ⟨a1, a2⟩
            · have := h1 j j1 j2 a1
              rw [a2] at this
              cases this
            · exact absurd a2 (h2 j j1 j2 a1)
      | t => simp [isTB, hci, Cd.isT] at hti
      | g => simp [isTB, hci, Cd.isT] at hti)
    (fun i hi hti => by
      obtain ⟨o, ho, c, hci, hh⟩ := hop i hi
      refine ⟨o, ho, ?_⟩
      cases c with
      | q b f => simp [isTB, hci, Cd.isT] at hti
      | t => exact hh
      | g => exact hh)
    (fun w1 σ1 a1 h1 h2 h3 => vcOps_wp (l.drop nh) F' (Hs (turns cs)) _ w1 σ1 a1 hF' (h1.toF fun x => .inr (hG x)) h2 h3 fun F'' H'' w' σ' a' hk hs' hp' hd' =>
      ⟨_, H'', σ', hk, hp', hs'.canon _, hd'⟩)
    nh 0 (Array.replicate l.toArray.size false) a w.drew σ
    ⟨by simp, fun j oj _ hl => (by rw [getD_replicate_false] at hl; cases hl), fun t _ ht => getD_in (by simpa using ht) (getD_replicate_false _ _)⟩
    (by
      have : (List.range nh).countP (fun i => !(Array.replicate l.toArray.size false).getD i false) = (List.range nh).length := List.countP_eq_length.2 fun i _ => by rw [hnl]; rfl
      rw [this, List.length_range])
    (Nat.zero_le _) (fun i _ _ => by
      rw [hnl]
      exact ⟨fun h => (by cases h), fun h => absurd h (Nat.not_lt_zero _)⟩)
    (by
      rw [hH0]
      exact ⟨hsd.ok, hsd.size, fun x => by
        have : gF F.get (fun i => (l[i]?).bind (·.dst)) vs (fun i => (Array.replicate l.toArray.size false).getD i false) nh x = F.get x :=
          gF_none (j := 0) (Nat.zero_le _) fun i _ _ _ => hnl _ _
        rw [this]
        exact hsd.slot x⟩)
    (by rw [hH0]; exact hp.trans (Pres.drew w H σ)) hd
  rw [show nh + (l.toArray.size - nh) = l.toArray.size by omega] at key
  exact key
theorem AWp_drawU {id : Nat} {l : List Oper} {R : Frame → Heap → Prop} (xt : Nat → Nat × List Cd) (M : List Nat) (ks : Nat → List Nat) (hx : Nat.ble 1 (xt id).1 = true) (hm : P.follows .mixedOrders = true) (hB : drawTB l.toArray (xt id).1 (xt id).2 = true) [ho : Nrm Q R]
    (h : ∀ Kv : Frame → Heap → Prop, (∀ F' H', R F' H' → Kv F' H') → vcU P n M l (lk (fun F' H' => vcOps P n M l (l.drop (xt id).1) F' H' fun F3 H3 => Kv (canon (ks id) F3) H3) .mk) (xt id).2 l [] H F fun _ _ => True) : AWp P n H0 (.region id l.toArray true) Q F H :=
  AWp_drawU_n _ _ M ks hm hB (h _ fun F' H' hr => ho.spec F' H' hr)
theorem vcU_nil {M : List Nat} {T : Frame → Heap → Prop} {l all : List Oper} {hs : List Heap} {pd : Nat → Heap → Prop} : vcU P n M all T [] l hs H F pd = T F H := Eq.trans rfl rfl
theorem vcU_q {M : List Nat} {T : Frame → Heap → Prop} {all : List Oper} {b f : Nat} {cs : List Cd} {d : Option Tmp} {op : Op} {ty : TypeId} {ps : String} {af : Array Edge} {rest : List Oper} {hs : List Heap} {pd : Nat → Heap → Prop} : vcU P n M all T (.q b f :: cs) (⟨d, op, ty, ps, af, none⟩ :: rest) hs H F pd = (dstOk n d ∧ vcQ P M ⟨d, op, ty, ps, af, none⟩ F H (lk (fun v => quietK P M ⟨d, op, ty, ps, af, none⟩ F b f hs pd v (lk (fun pd' => vcU P n M all T cs rest hs H (F.put d v) pd') .mk)) .mk)) := by
  rw [vcU]; rfl
def vcUg (P : Program) (n : Nat) (M : List Nat) (all : List Oper) (T : Frame → Heap → Prop) (b f : Nat) (cs : List Cd) (o : Oper) (rest : List Oper) (hs : List Heap) (H : Heap) (F : Frame) (pd : Nat → Heap → Prop) (want : Bool) (e : Nat) : V → Prop
  | .d (.b t) => e < n ∧ dstOk n o.dst ∧ (match want with
      | true => onB t (vcQ P M o F H fun v => quietK P M o F b f hs pd v fun pd' => vcU P n M all T cs rest hs H (F.put o.dst v) pd') (vcU P n M all T cs rest hs H (F.put o.dst .un) pd)
      | false => onB t (vcU P n M all T cs rest hs H (F.put o.dst .un) pd) (vcQ P M o F H fun v => quietK P M o F b f hs pd v fun pd' => vcU P n M all T cs rest hs H (F.put o.dst v) pd'))
  | .un => dstOk n o.dst ∧ vcU P n M all T cs rest hs H (F.put o.dst .un) pd
  | _ => False
theorem vcU_s {M : List Nat} {T : Frame → Heap → Prop} {all : List Oper} {b f j : Nat} {want : Bool} {cs : List Cd} {d : Option Tmp} {op : Op} {ty : TypeId} {ps : String} {af : Array Edge} {rest : List Oper} {hs : List Heap} {pd : Nat → Heap → Prop} : vcU P n M all T (.q b f :: cs) (⟨d, op, ty, ps, af, some (j, want)⟩ :: rest) hs H F pd = (match (all[j]?).bind (·.dst) with | some e => vcUg P n M all T b f cs ⟨d, op, ty, ps, af, some (j, want)⟩ rest hs H F pd want e (F.get e) | none => False) := by
  rw [vcU]
  simp only []
  cases (all[j]?).bind (·.dst) with
  | none => rfl
  | some e =>
    simp only []
    cases F.get e <;> first | rfl | (rename_i x; cases x <;> rfl)
theorem vcUg_un {M : List Nat} {T : Frame → Heap → Prop} {all : List Oper} {b f e : Nat} {want : Bool} {cs : List Cd} {o : Oper} {rest : List Oper} {hs : List Heap} {pd : Nat → Heap → Prop} : vcUg P n M all T b f cs o rest hs H F pd want e .un = (dstOk n o.dst ∧ vcU P n M all T cs rest hs H (F.put o.dst .un) pd) := Eq.trans rfl rfl
theorem vcUg_T {M : List Nat} {T : Frame → Heap → Prop} {all : List Oper} {b f e : Nat} {t : Bool} {cs : List Cd} {o : Oper} {rest : List Oper} {hs : List Heap} {pd : Nat → Heap → Prop} : vcUg P n M all T b f cs o rest hs H F pd true e (.d (.b t)) = (e < n ∧ dstOk n o.dst ∧ onB t (vcQ P M o F H (lk (fun v => quietK P M o F b f hs pd v (lk (fun pd' => vcU P n M all T cs rest hs H (F.put o.dst v) pd') .mk)) .mk)) (vcU P n M all T cs rest hs H (F.put o.dst .un) pd)) := Eq.trans rfl rfl
theorem vcUg_F {M : List Nat} {T : Frame → Heap → Prop} {all : List Oper} {b f e : Nat} {t : Bool} {cs : List Cd} {o : Oper} {rest : List Oper} {hs : List Heap} {pd : Nat → Heap → Prop} : vcUg P n M all T b f cs o rest hs H F pd false e (.d (.b t)) = (e < n ∧ dstOk n o.dst ∧ onB t (vcU P n M all T cs rest hs H (F.put o.dst .un) pd) (vcQ P M o F H (lk (fun v => quietK P M o F b f hs pd v (lk (fun pd' => vcU P n M all T cs rest hs H (F.put o.dst v) pd') .mk)) .mk))) := Eq.trans rfl rfl
theorem vcU_t {M : List Nat} {T : Frame → Heap → Prop} {all : List Oper} {cs : List Cd} {d : Option Tmp} {op : Op} {ty : TypeId} {ps : String} {af : Array Edge} {rest : List Oper} {hs : List Heap} {pd : Nat → Heap → Prop} : vcU P n M all T (.t :: cs) (⟨d, op, ty, ps, af, none⟩ :: rest) hs H F pd = (dstOk n d ∧ vcE P M ⟨d, op, ty, ps, af, none⟩ F H (lk (fun v H1 => pd 0 H1 ∧ vcU P n M all T cs rest (H :: hs) H1 (F.put d v) fun k => pd (k + 1)) .mk)) := by
  rw [vcU]; simp [lk]
theorem vcU_g {M : List Nat} {T : Frame → Heap → Prop} {all : List Oper} {cs : List Cd} {d : Option Tmp} {op : Op} {ty : TypeId} {ps : String} {af : Array Edge} {rest : List Oper} {hs : List Heap} {pd : Nat → Heap → Prop} : vcU P n M all T (.g :: cs) (⟨d, op, ty, ps, af, none⟩ :: rest) hs H F pd = (dstOk n d ∧ vcE P M ⟨d, op, ty, ps, af, none⟩ F H (lk (giveK (lk (fun v H1 => pd 0 H1 ∧ vcU P n M all T cs rest (H :: hs) H1 (F.put d v) fun k => pd (k + 1)) .mk)) .mk)) := by
  rw [vcU]; simp [lk]
theorem quietK_0 {M : List Nat} {o : Oper} {hs : List Heap} {pd : Nat → Heap → Prop} {v : V} {k : (Nat → Heap → Prop) → Prop} : quietK P M o F 0 0 hs pd v k = k pd := by
  simp [quietK, allH]
theorem quietK_n {M : List Nat} {o : Oper} {b f : Nat} {hs : List Heap} {pd : Nat → Heap → Prop} {v : V} {k : (Nat → Heap → Prop) → Prop} : quietK P M o F b f hs pd v k = (allH (fun H' => vcQ P M o F H' fun v' => v' = v) (hs.take b) ∧ k fun k Ha => pd k Ha ∧ (k < f → vcQ P M o F Ha fun v' => v' = v)) := Eq.trans rfl rfl
end
attribute [go_sem ↓ high] quietK_0
attribute [go_sem ↓ low] quietK_n
attribute [go_sem ↓] vcU_nil vcU_q vcU_s vcU_t vcU_g vcUg_un vcUg_T vcUg_F
end Go.Proofs.YtppalmoicjogaaaDoor.Ab
namespace Go.Proofs.YtppalmoicjogaaaDoor.Ab
open Go
variable [Glo]
section
variable {P : Program} {n : Nat} {H0 H : Heap} {Q : Exit → Frame → Heap → Prop} {F : Frame}
structure Halt (p : Prop) : Prop where
  go : p
theorem halt_block {x y : Code} (k : Nat) (h : Halt (AWp P n H0 (.seq (.block k x) y) Q F H)) : AWp P n H0 (.seq (.block k x) y) Q F H := h.go
theorem AWp_cutG {x y : Code} {ι : Type} (I : ι → Prop) (Fr : ι → Frame) (Hp : ι → Heap) (hl : ∀ i, I i → H0.length ≤ (Hp i).length) (hc : ∀ i, I i → Closed H0 (Hp i))
    (h2 : ∀ i, I i → AWp P n H0 y Q (Fr i) (Hp i))
    (h1 : AWp P n H0 x (thenA (fun F' H' => ∃ i G', I i ∧ H' = Hp i ++ G' ∧ Sub (Hp i).length F' (Fr i)) Q) F H) : Halt (AWp P n H0 (.seq x y) Q F H) :=
  ⟨AWp_seq (h1.mono fun e F' H' h => by
    cases e with
    | normal =>
      obtain ⟨i, G', hi, rfl, hs⟩ := h
      exact AWp_ent ⟨⟨G', rfl⟩, hl i hi, hc i hi, hs.ent⟩ (h2 i hi)
    | _ => exact h)⟩
theorem AWp_whileG {c : Code} {ι : Type} (I : ι → Prop) (Fr : ι → Frame) (Hp : ι → Heap) (μ : ι → Nat) (i0 : ι) (h0 : I i0) (hH : ∃ G', H = Hp i0 ++ G') (hs : Sub (Hp i0).length F (Fr i0)) (hl : ∀ i, I i → H0.length ≤ (Hp i).length) (hc : ∀ i, I i → Closed H0 (Hp i))
    (hr : ∀ i, I i → AWp P n H0 c (thenA (fun F' H' => ∃ i' G', I i' ∧ μ i' < μ i ∧ H' = Hp i' ++ G' ∧ Sub (Hp i').length F' (Fr i')) Q) (Fr i) (Hp i)) : AWp P n H0 (.loop c) Q F H := by
  obtain ⟨G0, rfl⟩ := hH
  refine AWp_loop I Fr Hp μ i0 h0 ⟨⟨G0, rfl⟩, hl _ h0, hc _ h0, hs.ent⟩ fun i hi => (hr i hi).mono fun e F' H' h => ?_
  cases e with
  | normal =>
    obtain ⟨i', G', h1, h2, rfl, h3⟩ := h
    exact ⟨i', h1, ⟨⟨G', rfl⟩, hl _ h1, hc _ h1, h3.ent⟩, h2⟩
  | _ => exact h
end
end Go.Proofs.YtppalmoicjogaaaDoor.Ab
