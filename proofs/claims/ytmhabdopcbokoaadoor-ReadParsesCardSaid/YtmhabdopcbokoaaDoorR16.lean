/- Regions that draw their order, in which an object is made at any time beside operations that turn objects, one behind the other. No condition. -/
import Derived.Test.YtmhabdopcbokoaaDoorR15
set_option linter.all false
set_option linter.unusedSimpArgs false
set_option linter.unusedVariables false
namespace Go.Proofs.YtmhabdopcbokoaaDoor.Ab
open Go
variable [Glo]
section
variable {P : Program} {n : Nat} {dfs : List Deferred} {H : Heap}
inductive Ce where
  | q (b f : Nat) (x : Bool)
  | t
  | a
def Ce.isT : Ce → Bool
  | .t => true
  | _ => false
def turnsV (cs : List Ce) : Nat := cs.countP Ce.isT
theorem turnsV_cons (c : Ce) (cs : List Ce) : turnsV (c :: cs) = turnsV cs + (if c.isT then 1 else 0) := by
  unfold turnsV
  rw [List.countP_cons]
def isAl : Op → Bool
  | .alloc _ => true
  | _ => false
def vcV (P : Program) (n : Nat) (M : List Nat) (ob : Ob) (L : Nat) (T : Frame → Heap → Prop) : List Ce → List Oper → List Heap → Heap → Frame → (Nat → Heap → Prop) → Prop
  | [], _, _, H, F, _ => T F (H ++ [ob])
  | _ :: _, [], _, _, _, _ => False
  | c :: cs, o :: rest, hs, H, F, pd => o.guard = none ∧ dstOk n o.dst ∧ match c with
    | .q b f x => vcQ P M o F (H ++ [ob]) fun v => (x = false → vcQ P M o F H fun v' => v' = v) ∧ allH (fun H' => (x = false → vcQ P M o F H' fun v' => v' = v) ∧ vcQ P M o F (H' ++ [ob]) fun v' => v' = v) (hs.take b) ∧
        vcV P n M ob L T cs rest hs H (F.put o.dst v) fun k Ha => pd k Ha ∧ (k < f → (x = false → vcQ P M o F Ha fun v' => v' = v) ∧ vcQ P M o F (Ha ++ [ob]) fun v' => v' = v)
    | .t => vcE P M o F H fun v H1 => vcE P M o F (H ++ [ob]) fun v' H1' => v' = v ∧ H1' = H1 ++ [ob] ∧ H1.length = L ∧ pd 0 H1 ∧ vcV P n M ob L T cs rest (H :: hs) H1 (F.put o.dst v) fun k => pd (k + 1)
    | .a => isAl o.op = true ∧ vcV P n M ob L T cs rest hs H (F.put o.dst (.pt L 0 0 0)) pd
def opV (P : Program) (n : Nat) (M : List Nat) (all : List Oper) (ob : Ob) (L : Nat) (Hs : Nat → Heap) (st m : Nat) (G : Nat → V) (o : Oper) (v : V) : Ce → Prop
  | .q b f x => ∀ F', (∀ y, y ∈ o.looksAt all.toArray → F'.get y = G y) → ∀ k, st ≤ k + b → k ≤ st + f → k ≤ m → (x = false → OpOk P n M all (Hs k) o F' v) ∧ OpOk P n M all (Hs k ++ [ob]) o F' v
  | .t => o.guard = none ∧ dstOk n o.dst ∧ ∀ F', (∀ x, x ∈ o.looksAt all.toArray → F'.get x = G x) → vcOp P M o F' (Hs st) (Two v (Hs (st + 1))) ∧ vcOp P M o F' (Hs st ++ [ob]) (Two v (Hs (st + 1) ++ [ob]))
  | .a => o.guard = none ∧ dstOk n o.dst ∧ isAl o.op = true ∧ v = .pt L 0 0 0
theorem vcV_run {M : List Nat} {all : List Oper} {ob : Ob} {L : Nat} {T : Frame → Heap → Prop} {F0 : Nat → V} : ∀ (cs : List Ce) (p s : Nat) (l : List Oper) (hs : List Heap) (H : Heap) (vs : Nat → V) (Hs : Nat → Heap) (F : Frame) (pd : Nat → Heap → Prop),
    (∀ i, l[i]? = all[p + i]?) → (∀ x, F.get x = gF F0 (fun i => (all[i]?).bind (·.dst)) vs always p x) → Hs s = H → (∀ k, k < s → hs[s - 1 - k]? = some (Hs k)) → (∀ k, k ≤ s → (Hs k).length = L) → vcV P n M ob L T cs l hs H F pd →
    ∃ (vs' : Nat → V) (Hs' : Nat → Heap), (∀ i, i < p → vs' i = vs i) ∧ (∀ k, k ≤ s → Hs' k = Hs k) ∧ (∀ k, k < turnsV cs → pd k (Hs' (s + 1 + k))) ∧ (∀ k, k ≤ s + turnsV cs → (Hs' k).length = L) ∧
      (∃ F', T F' (Hs' (s + turnsV cs) ++ [ob]) ∧ ∀ x, F'.get x = gF F0 (fun i => (all[i]?).bind (·.dst)) vs' always (p + cs.length) x) ∧
      ∀ i, i < cs.length → ∃ o, all[p + i]? = some o ∧ ∃ c, cs[i]? = some c ∧ opV P n M all ob L Hs' (s + turnsV (cs.take i)) (s + turnsV cs) (gF F0 (fun i => (all[i]?).bind (·.dst)) vs' always (p + i)) o (vs' (p + i)) c
  | [], p, s, l, hs, H, vs, Hs, F, pd, hl, hF, hH, hh, hL, h => ⟨vs, Hs, fun _ _ => rfl, fun _ _ => rfl, fun k hk => by simp [turnsV] at hk, hL, ⟨F, by subst hH; exact h, hF⟩, fun i hi => by simp at hi⟩
  | c :: cs, p, s, [], hs, H, vs, Hs, F, pd, hl, hF, hH, hh, hL, h => by cases c <;> exact h.elim
  | c :: cs, p, s, o :: rest, hs, H, vs, Hs, F, pd, hl, hF, hH, hh, hL, h => by
    have h0 : all[p]? = some o := by simpa using (hl 0).symm
    have hl' : ∀ i, rest[i]? = all[p + 1 + i]? := fun i => by
      have := hl (i + 1)
      rw [List.getElem?_cons_succ] at this
      rw [this]
      congr 1
      omega
    obtain ⟨hg, hd, h⟩ := h
    have eq1 : ∀ (v : V) x, gF F0 (fun i => (all[i]?).bind (·.dst)) (fun i => if i = p then v else vs i) always p x = gF F0 (fun i => (all[i]?).bind (·.dst)) vs always p x := fun v x =>
      gF_same fun i hi _ => ⟨rfl, if_neg (by omega)⟩
    have hput : ∀ (v : V) x, (F.put o.dst v).get x = gF F0 (fun i => (all[i]?).bind (·.dst)) (fun i => if i = p then v else vs i) always (p + 1) x := fun v x => by
      rw [get_put, gF, eq1, hF x]
      simp [always, h0]
    cases c with
    | q b f x =>
      have et : turnsV (.q b f x :: cs) = turnsV cs := by rw [turnsV_cons]; rfl
      obtain ⟨v, h1, h1', h2, h3⟩ := vcQ_det h
      obtain ⟨vs', Hs', k1, k2, k3, kL, ⟨F', k4, k5⟩, k6⟩ := vcV_run cs (p + 1) s rest hs H (fun i => if i = p then v else vs i) Hs (F.put o.dst v) _ hl' (hput v) hH hh hL h3
      have kV : ∀ i, i < p → vs' i = vs i := fun i hi => by rw [k1 i (by omega), if_neg (by omega)]
      have kP : vs' p = v := by rw [k1 p (by omega), if_pos rfl]
      refine ⟨vs', Hs', kV, k2, fun k hk => (k3 k (by rw [et] at hk; exact hk)).1, by rw [et]; exact kL, ⟨F', by rw [et]; exact k4, fun x => by rw [k5 x]; congr 1; simp; omega⟩, fun i hi => ?_⟩
      cases i with
      | zero =>
        refine ⟨o, h0, .q b f x, rfl, fun F1 hF1 k q1 q2 q3 => ?_⟩
        rw [List.take_zero, show turnsV [] = 0 from rfl, Nat.add_zero] at q1 q2
        rw [et] at q3
        rw [Nat.add_zero, kP]
        have cg : ∀ {H'}, OpOk P n M all H' o F v → OpOk P n M all H' o F1 v := fun hO => hO.congr fun x hx => by
          rw [hF1 x hx, hF x, Nat.add_zero]
          exact (gF_same fun i hi _ => ⟨rfl, (kV i hi).symm⟩)
        have ok : ∀ {H'}, vcOp P M o F H' (Two v H') → OpOk P n M all H' o F1 v := fun hO => cg ⟨hd, by rw [hg]; exact hO⟩
        have okq : ∀ {H'}, vcQ P M o F H' (fun v' => v' = v) → OpOk P n M all H' o F1 v := fun hO => by
          obtain ⟨v', h4, rfl⟩ := vcQ_det hO
          exact ok h4
        rcases Nat.lt_trichotomy k s with hk | hk | hk
        · rw [k2 k (by omega)]
          have := allH_get (k := s - 1 - k) h2 (by rw [List.getElem?_take, if_pos (by omega)]; exact hh k hk)
          exact ⟨fun hx => okq (this.1 hx), okq this.2⟩
        · rw [hk, k2 s (Nat.le_refl _), hH]
          exact ⟨fun hx => okq (h1' hx), ok h1⟩
        · have := (k3 (k - s - 1) (by omega)).2 (by omega)
          rw [show s + 1 + (k - s - 1) = k by omega] at this
          exact ⟨fun hx => okq (this.1 hx), okq this.2⟩
      | succ i =>
        obtain ⟨o', ho', c', hc', hh'⟩ := k6 i (by simpa using hi)
        refine ⟨o', by rw [show p + (i + 1) = p + 1 + i by omega]; exact ho', c', by simpa using hc', ?_⟩
        have e1 : s + turnsV ((Ce.q b f x :: cs).take (i + 1)) = s + turnsV (cs.take i) := by rw [List.take_succ_cons, turnsV_cons]; rfl
        rw [e1, show s + turnsV (Ce.q b f x :: cs) = s + turnsV cs by rw [et], show p + (i + 1) = p + 1 + i by omega]
        exact hh'
    | a =>
      have et : turnsV (.a :: cs) = turnsV cs := by rw [turnsV_cons]; rfl
      obtain ⟨hal, h3⟩ := h
      obtain ⟨vs', Hs', k1, k2, k3, kL, ⟨F', k4, k5⟩, k6⟩ := vcV_run cs (p + 1) s rest hs H (fun i => if i = p then .pt L 0 0 0 else vs i) Hs (F.put o.dst (.pt L 0 0 0)) _ hl' (hput _) hH hh hL h3
      have kV : ∀ i, i < p → vs' i = vs i := fun i hi => by rw [k1 i (by omega), if_neg (by omega)]
      have kP : vs' p = .pt L 0 0 0 := by rw [k1 p (by omega), if_pos rfl]
      refine ⟨vs', Hs', kV, k2, fun k hk => k3 k (by rw [et] at hk; exact hk), by rw [et]; exact kL, ⟨F', by rw [et]; exact k4, fun x => by rw [k5 x]; congr 1; simp; omega⟩, fun i hi => ?_⟩
      cases i with
      | zero => exact ⟨o, h0, .a, rfl, hg, hd, hal, kP⟩
      | succ i =>
        obtain ⟨o', ho', c', hc', hh'⟩ := k6 i (by simpa using hi)
        refine ⟨o', by rw [show p + (i + 1) = p + 1 + i by omega]; exact ho', c', by simpa using hc', ?_⟩
        have e1 : s + turnsV ((Ce.a :: cs).take (i + 1)) = s + turnsV (cs.take i) := by rw [List.take_succ_cons, turnsV_cons]; rfl
        rw [e1, show s + turnsV (Ce.a :: cs) = s + turnsV cs by rw [et], show p + (i + 1) = p + 1 + i by omega]
        exact hh'
    | t =>
      have et : turnsV (.t :: cs) = turnsV cs + 1 := by rw [turnsV_cons]; rfl
      obtain ⟨v, H1, hop, h⟩ := vcE_det h
      obtain ⟨v', H1', hop', e1, e2, hlen, hpd, hrest⟩ := vcE_det h
      rw [e1, e2] at hop'
      obtain ⟨vs', Hs', k1, k2, k3, kL, ⟨F', k4, k5⟩, k6⟩ := vcV_run cs (p + 1) (s + 1) rest (H :: hs) H1 (fun i => if i = p then v else vs i) (fun k => if k = s + 1 then H1 else Hs k) (F.put o.dst v) _ hl' (hput v) (if_pos rfl) (fun k hk => by
        rw [if_neg (by omega)]
        by_cases hks : k = s
        · subst hks
          rw [show k + 1 - 1 - k = 0 by omega]
          simp [hH]
        · rw [show s + 1 - 1 - k = (s - 1 - k) + 1 by omega, List.getElem?_cons_succ]
          exact hh k (by omega)) (fun k hk => by
        by_cases hks : k = s + 1
        · rw [if_pos hks]; exact hlen
        · rw [if_neg hks]; exact hL k (by omega)) hrest
      have kS : ∀ k, k ≤ s → Hs' k = Hs k := fun k hk => by rw [k2 k (by omega), if_neg (by omega)]
      have kS1 : Hs' (s + 1) = H1 := by rw [k2 (s + 1) (Nat.le_refl _), if_pos rfl]
      have kV : ∀ i, i < p → vs' i = vs i := fun i hi => by rw [k1 i (by omega), if_neg (by omega)]
      have kP : vs' p = v := by rw [k1 p (by omega), if_pos rfl]
      refine ⟨vs', Hs', kV, kS, fun k hk => ?_, by rw [et, show s + (turnsV cs + 1) = s + 1 + turnsV cs by omega]; exact kL, ⟨F', by rw [et, show s + (turnsV cs + 1) = s + 1 + turnsV cs by omega]; exact k4, fun x => by rw [k5 x]; congr 1; simp; omega⟩, fun i hi => ?_⟩
      · rw [et] at hk
        cases k with
        | zero => rw [Nat.add_zero, kS1]; exact hpd
        | succ k => rw [show s + 1 + (k + 1) = s + 1 + 1 + k by omega]; exact k3 k (by omega)
      · cases i with
        | zero =>
          refine ⟨o, h0, .t, rfl, hg, hd, fun F1 hF1 => ?_⟩
          have hcg : ∀ x, Operand.tmp x ∈ o.op.operands.toList → F.get x = F1.get x := fun x hx => by
            rw [hF1 x (by
              unfold Oper.looksAt
              exact List.mem_append_left _ (List.mem_filterMap.2 ⟨_, hx, rfl⟩)), hF x, Nat.add_zero]
            exact (gF_same fun i hi _ => ⟨rfl, (kV i hi).symm⟩)
          rw [List.take_zero, show turnsV [] = 0 from rfl, Nat.add_zero, kS s (Nat.le_refl _), hH, kS1, Nat.add_zero, kP]
          exact ⟨vcOp_congr (fun x hx => hcg x hx) hop, vcOp_congr (fun x hx => hcg x hx) hop'⟩
        | succ i =>
          obtain ⟨o', ho', c', hc', hh'⟩ := k6 i (by simpa using hi)
          refine ⟨o', by rw [show p + (i + 1) = p + 1 + i by omega]; exact ho', c', by simpa using hc', ?_⟩
          have e1 : s + turnsV ((Ce.t :: cs).take (i + 1)) = s + 1 + turnsV (cs.take i) := by rw [List.take_succ_cons, turnsV_cons, if_pos (show Ce.t.isT = true from rfl)]; omega
          rw [e1, show s + turnsV (Ce.t :: cs) = s + 1 + turnsV cs by rw [et]; omega, show p + (i + 1) = p + 1 + i by omega]
          exact hh'
theorem draw_headV {M : List Nat} {all : List Oper} {nh m : Nat} {isT : Nat → Bool} {st : Nat → Nat} {a0 : Nat} {Hs : Bool → Nat → Heap} {vs F0 : Nat → V} {w0 : World} {H0 : Heap} {σ0 : Conc} {Q' : Exit → Act → World → Prop}
    (ha : a0 < nh) (hta : isT a0 = false) (hlt : nh < all.toArray.size) (hs : Region.sinkB .any all.toArray nh = true) (hc : Region.chainB .any all.toArray nh = true) (hb : backB all.toArray nh = true) (hd : dstB all.toArray nh = true) (hlk : looksB all.toArray nh = true)
    (hq : Region.seqB .any all.toArray (all.toArray.size - nh) nh (Array.replicate nh true ++ Array.replicate (all.toArray.size - nh) false) = true)
    (hst : ∀ i, i < nh → isT i = true → st i < m ∧ (st i = 0 ∨ ∃ j, j < nh ∧ isT j = true ∧ st j + 1 = st i ∧ Region.waitsFor .any all.toArray i j = true) ∧ ∀ j, j < nh → isT j = true → st j = st i → j = i)
    (hm : m = 0 ∨ ∃ j, j < nh ∧ isT j = true ∧ st j + 1 = m)
    (hok : ∀ i, i < nh → isT i = false → i ≠ a0 → ∃ o, all[i]? = some o ∧ ∀ F', (∀ x, x ∈ o.looksAt all.toArray → F'.get x = gF F0 (fun i => (all[i]?).bind (·.dst)) vs always i x) →
      ∀ b s, s ≤ m → (b = false → Region.waitsFor .any all.toArray i a0 = false) → (∀ j, j < nh → isT j = true → s ≤ st j → Region.waitsFor .any all.toArray i j = false) → (∀ j, j < nh → isT j = true → st j < s → i ∉ ancs all.toArray j) → OpOk P n M all (Hs b s) o F' (vs i))
    (hoe : ∀ i, i < nh → isT i = true → ∃ o, all[i]? = some o ∧ o.guard = none ∧ dstOk n o.dst ∧ ∀ F', (∀ x, x ∈ o.looksAt all.toArray → F'.get x = gF F0 (fun i => (all[i]?).bind (·.dst)) vs always i x) → ∀ b, vcOp P M o F' (Hs b (st i)) (Two (vs i) (Hs b (st i + 1))))
    (hoa : ∃ o, all[a0]? = some o ∧ o.guard = none ∧ dstOk n o.dst ∧ ∀ F' s, s ≤ m → vcOp P M o F' (Hs false s) (Two (vs a0) (Hs true s)))
    (hend : ∀ (w : World) (σ : Conc) (a : Act), SatG n w (Hs true m) σ (gF F0 (fun i => (all[i]?).bind (·.dst)) vs always nh) a.tmps → Pres w0 H0 σ0 w (Hs true m) σ → a.defers = dfs → wpList P all.toArray Q' (all.drop nh) a w) :
    ∀ (f s : Nat) (listed : Array Bool) (a : Act) (w : World) (σ : Conc), HeadInv .any all.toArray nh listed → (List.range nh).countP (fun i => !listed.getD i false) = f → s ≤ m → (∀ i, i < nh → isT i = true → (listed.getD i false = true ↔ st i < s)) →
      SatG n w (Hs (listed.getD a0 false) s) σ (gF F0 (fun i => (all[i]?).bind (·.dst)) vs (fun i => listed.getD i false) nh) a.tmps → Pres w0 H0 σ0 w (Hs (listed.getD a0 false) s) σ → a.defers = dfs → wpAny P .any all.toArray Q' (f + (all.toArray.size - nh)) listed a w
  | 0, s, listed, a, w, σ, inv, hf, hsm, hli, hsat, hp, hdf => by
    have hall : ∀ i, i < nh → listed.getD i false = true := fun i hi => by simpa using countP_none hf i hi
    obtain rfl : s = m := by
      rcases hm with h | ⟨j, j1, j2, j3⟩
      · omega
      · have := (hli j j1 j2).1 (hall j j1)
        omega
    rw [hall a0 ha] at hsat hp
    have heq : listed = Array.replicate nh true ++ Array.replicate (all.toArray.size - nh) false := by
      have hsz := inv.size
      apply Array.ext
      · simp at hlt hsz ⊢; omega
      · intro i h1 h2
        by_cases hi : i < nh
        · have := hall i hi
          simp [h1] at this
          rw [Array.getElem_append_left (by simpa using hi)]
          simp [this]
        · have := inv.tail i (by omega) (by omega)
          simp [h1] at this
          rw [Array.getElem_append_right (by simpa using hi)]
          simp [this]
    have hdl : (all.drop nh).length = all.toArray.size - nh := by simp
    rw [Nat.zero_add, ← hdl]
    refine wpAny_of_seq (all.drop nh) nh listed a w (fun j => by simp [List.getElem?_drop]) (by rw [hdl, heq]; exact hq) (hend w σ a ?_ hp hdf)
    refine ⟨hsat.ok, hsat.size, fun x => ?_⟩
    have : gF F0 (fun i => (all[i]?).bind (·.dst)) vs always nh x = gF F0 (fun i => (all[i]?).bind (·.dst)) vs (fun i => listed.getD i false) nh x :=
      gF_same fun i hi _ => ⟨by rw [hall i hi]; rfl, rfl⟩
    rw [this]
    exact hsat.slot x
  | f + 1, s, listed, a, w, σ, inv, hf, hsm, hli, hsat, hp, hdf => by
    have hsz := inv.size
    obtain ⟨i0, hi0, hu0⟩ := countP_some hf
    have hu0' : listed.getD i0 false = false := by simpa using hu0
    have hex : ∀ i, i < nh → ∃ o, all[i]? = some o := fun i hi => by
      cases hie : isT i with
      | true =>
        obtain ⟨o, ho, _⟩ := hoe i hi hie
        exact ⟨o, ho⟩
      | false =>
        by_cases hia : i = a0
        · subst hia
          obtain ⟨o, ho, _⟩ := hoa
          exact ⟨o, ho⟩
        · obtain ⟨o, ho, _⟩ := hok i hi hie hia
          exact ⟨o, ho⟩
    have hin : ∀ i ∈ Region.ready .any all.toArray listed, i < nh := fun i hi => by
      rcases Nat.lt_or_ge i nh with h | h
      · exact h
      · exact absurd hi (tail_waits hs hc hlt inv _ i0 rfl hi0 (getD_in (by omega) hu0') i h)
    rw [show f + 1 + (all.toArray.size - nh) = (f + (all.toArray.size - nh)) + 1 by omega]
    refine ⟨fun h0 => ?_, fun i hi => ?_⟩
    · exfalso
      obtain ⟨j, hj, hpj, hmin⟩ := least (p := fun i => !listed.getD i false) i0 hu0
      have hjn : j < nh := by omega
      obtain ⟨o, ho⟩ := hex j hjn
      have ho' : all.toArray[j]? = some o := by simpa using ho
      have : j ∈ Region.ready .any all.toArray listed := mem_ready.2 ⟨getD_in (by omega) (by simpa using hpj), o, ho', fun e he hbe => by
        have := hmin _ (backB_spec hb hjn ho' e he hbe)
        simpa using this⟩
      rw [h0] at this
      cases this
    · have hin := hin i hi
      obtain ⟨hun, oi, hoi, hall⟩ := mem_ready.1 hi
      obtain ⟨o, ho⟩ := hex i hin
      have ho' : all.toArray[i]? = some o := by simpa using ho
      obtain rfl : o = oi := Option.some.inj (ho'.symm.trans hoi)
      have hunf : listed.getD i false = false := getD_both hun
      have hsee : ∀ x, x ∈ o.looksAt all.toArray → gF F0 (fun i => (all[i]?).bind (·.dst)) vs (fun i => listed.getD i false) nh x = gF F0 (fun i => (all[i]?).bind (·.dst)) vs always i x := fun x hx => by
        have e1 : gF F0 (fun i => (all[i]?).bind (·.dst)) vs (fun i => listed.getD i false) nh x = gF F0 (fun i => (all[i]?).bind (·.dst)) vs (fun k => decide (k < i)) nh x :=
          gF_same fun k hk hdk => ⟨by
            have hdk' : (all.toArray[k]?).bind (·.dst) = some x := by simpa using hdk
            rcases looksB_spec hlk hin ho' hx hk hdk' with ⟨h1, h2⟩ | h1 | h1
            · obtain ⟨oj, hoj, e, he, hbe, hon⟩ := Region.waitsFor_spec h2
              obtain rfl : oj = o := Option.some.inj (hoj.symm.trans ho')
              have := hall e he hbe
              rw [hon] at this
              rw [this]
              simp [h1]
            · subst h1
              rw [hunf]
              simp
            · obtain ⟨oj, hoj, e, he, hbe, hon⟩ := Region.waitsFor_spec h1
              have hki : ¬ k < i := by
                have := backB_spec hb hk hoj e he hbe
                omega
              have : listed.getD k false = false := by
                cases hlk' : listed.getD k false with
                | false => rfl
                | true =>
                  have := inv.closed k oj hoj hlk' e he hbe
                  rw [hon, hunf] at this
                  cases this
              rw [this]
              simp [hki], rfl⟩
        rw [e1, gF_none (j := i) (by omega) fun k h1 _ _ => by simpa using h1]
        exact gF_same fun k hk _ => ⟨by simp [always, hk], rfl⟩
      let F1 : Frame := (o.looksAt all.toArray).map fun x => (x, gF F0 (fun i => (all[i]?).bind (·.dst)) vs always i x)
      have hF1 : ∀ x, F1.get x = if x ∈ o.looksAt all.toArray then gF F0 (fun i => (all[i]?).bind (·.dst)) vs always i x else .top := fun x => by
        have : ∀ (l : List Nat), Frame.get (l.map fun x => (x, gF F0 (fun i => (all[i]?).bind (·.dst)) vs always i x)) x = if x ∈ l then gF F0 (fun i => (all[i]?).bind (·.dst)) vs always i x else .top := by
          intro l
          induction l with
          | nil => simp [Frame.get]
          | cons y l ih =>
            rw [List.map_cons]
            have := get_cons y (gF F0 (fun i => (all[i]?).bind (·.dst)) vs always i y) (l.map fun x => (x, gF F0 (fun i => (all[i]?).bind (·.dst)) vs always i x)) x
            rw [this, ih]
            by_cases hxy : x = y
            · subst hxy; simp
            · simp [hxy]
        exact this _
      have hlook : ∀ x, x ∈ o.looksAt all.toArray → F1.get x = gF F0 (fun i => (all[i]?).bind (·.dst)) vs always i x := fun x hx => by rw [hF1, if_pos hx]
      have hset : ∀ j, j ≠ i → (listed.setIfInBounds i true).getD j false = listed.getD j false := fun j hj => getD_set_ne false (Ne.symm hj)
      have hseti : (listed.setIfInBounds i true).getD i false = true := by
        have : i < listed.size := by omega
        simp [this]
      have hcount : (List.range nh).countP (fun j => !(listed.setIfInBounds i true).getD j false) = f := by
        have := countP_set (p := fun i => !listed.getD i false) (q := fun j => !(listed.setIfInBounds i true).getD j false) (i := i) (l := List.range nh) List.nodup_range (List.mem_range.2 hin) (by simp [hunf]) (by simp [hseti]) (fun j hj => by simp only [hset j hj])
        omega
      have hgset : ∀ x, gF F0 (fun i => (all[i]?).bind (·.dst)) vs (fun j => (listed.setIfInBounds i true).getD j false) nh x = if o.dst = some x then vs i else gF F0 (fun i => (all[i]?).bind (·.dst)) vs (fun i => listed.getD i false) nh x := fun x => by
        rw [gF_set hin hset hseti fun j hj hji hdj => by
          have := dstB_spec (i := i) (k := j) (x := x) hd hin hj hji (by simpa using hdj)
          simpa using this]
        simp [ho]
      have hF1s : ∀ x, F1.get x = .top ∨ F1.get x = gF F0 (fun i => (all[i]?).bind (·.dst)) vs (fun i => listed.getD i false) nh x := fun x => by
        rw [hF1]
        split
        · rename_i hx; exact .inr (hsee x hx).symm
        · exact .inl rfl
      have hready : ∀ j, Region.waitsFor .any all.toArray i j = true → listed.getD j false = true := fun j hw => by
        obtain ⟨oj, hoj, ed, hed, hbe, hon⟩ := Region.waitsFor_spec hw
        obtain rfl : oj = o := Option.some.inj (hoj.symm.trans ho')
        have := hall ed hed hbe
        rwa [hon] at this
      cases hie : isT i with
      | true =>
        obtain ⟨o', ho2, hg, hdo, hE⟩ := hoe i hin hie
        obtain rfl : o = o' := Option.some.inj (ho.symm.trans ho2)
        obtain ⟨t1, t2, t3⟩ := hst i hin hie
        have his : st i = s := by
          have h1 : ¬ st i < s := fun h => by
            have := (hli i hin hie).2 h
            rw [hunf] at this
            cases this
          rcases t2 with h2 | ⟨j, j1, j2, j3, j4⟩
          · omega
          · have := (hli j j1 j2).1 (hready j j4)
            omega
        have hia : a0 ≠ i := fun e => by rw [← e, hta] at hie; cases hie
        rw [← his] at hsat hp
        refine EOk_run (M := M) (v := vs i) (H1 := Hs (listed.getD a0 false) (st i + 1)) (all := all) hg (hE F1 hlook _) ho (hsat.toF hF1s) fun val w' σ' hv hw' hp' => ?_
        refine draw_headV ha hta hlt hs hc hb hd hlk hq hst hm hok hoe hoa hend f (st i + 1) _ _ w' σ' (inv.set hi hin) hcount (by omega) (fun j hj hjt => ?_) ?_ (by rw [hset a0 hia]; exact hp.trans hp') (by cases hdst : o.dst <;> simpa [Act.put, hdst] using hdf)
        · by_cases hji : j = i
          · subst hji
            rw [hseti]
            exact ⟨fun _ => Nat.lt_succ_self _, fun _ => rfl⟩
          · rw [hset j hji, hli j hj hjt]
            have : st j ≠ st i := fun e => hji (t3 j hj hjt e)
            omega
        · rw [hset a0 hia]
          have hsat' : SatG n w' (Hs (listed.getD a0 false) (st i + 1)) σ' (gF F0 (fun i => (all[i]?).bind (·.dst)) vs (fun i => listed.getD i false) nh) a.tmps := ⟨hw', hsat.size, fun x => (hsat.slot x).pres hp'⟩
          exact hsat'.put hdo hv hgset
      | false =>
        by_cases hia : i = a0
        · subst hia
          obtain ⟨o', ho2, hg, hdo, hA⟩ := hoa
          obtain rfl : o = o' := Option.some.inj (ho.symm.trans ho2)
          rw [hunf] at hsat hp
          refine EOk_run (M := M) (v := vs i) (H1 := Hs true s) (all := all) hg (hA F1 s hsm) ho (hsat.toF hF1s) fun val w' σ' hv hw' hp' => ?_
          refine draw_headV ha hta hlt hs hc hb hd hlk hq hst hm hok hoe ⟨o, ho2, hg, hdo, hA⟩ hend f s _ _ w' σ' (inv.set hi hin) hcount hsm (fun j hj hjt => ?_) ?_ (by rw [hseti]; exact hp.trans hp') (by cases hdst : o.dst <;> simpa [Act.put, hdst] using hdf)
          · have hji : j ≠ i := fun e => by rw [e, hie] at hjt; cases hjt
            rw [hset j hji]
            exact hli j hj hjt
          · rw [hseti]
            have hsat' : SatG n w' (Hs true s) σ' (gF F0 (fun i => (all[i]?).bind (·.dst)) vs (fun i => listed.getD i false) nh) a.tmps := ⟨hw', hsat.size, fun x => (hsat.slot x).pres hp'⟩
            exact hsat'.put hdo hv hgset
        obtain ⟨o', ho2, hO⟩ := hok i hin hie hia
        obtain rfl : o = o' := Option.some.inj (ho.symm.trans ho2)
        have hokF : OpOk P n M all (Hs (listed.getD a0 false) s) o F1 (vs i) := hO F1 hlook _ s hsm (fun hb => by
          cases hwt : Region.waitsFor .any all.toArray i a0 with
          | false => rfl
          | true =>
            have := hready a0 hwt
            rw [hb] at this
            cases this) (fun j hj hjt hsj => by
          cases hwt : Region.waitsFor .any all.toArray i j with
          | false => rfl
          | true =>
            have := (hli j hj hjt).1 (hready j hwt)
            omega) fun j hj hjt hjs hmem => by
          have := ancs_done inv ((hli j hj hjt).2 hjs) i hmem
          rw [hunf] at this
          cases this
        refine OpOk.run hokF ho (hsat.toF hF1s) fun val w' σ' hv hw' hp' => ?_
        refine draw_headV ha hta hlt hs hc hb hd hlk hq hst hm hok hoe hoa hend f s _ _ w' σ' (inv.set hi hin) hcount hsm (fun j hj hjt => ?_) ?_ (by rw [hset a0 (Ne.symm hia)]; exact hp.trans hp') (by cases hdst : o.dst <;> simpa [Act.put, hdst] using hdf)
        · have hji : j ≠ i := fun e => by rw [e, hie] at hjt; cases hjt
          rw [hset j hji]
          exact hli j hj hjt
        · rw [hset a0 (Ne.symm hia)]
          have hsat' : SatG n w' (Hs (listed.getD a0 false) s) σ' (gF F0 (fun i => (all[i]?).bind (·.dst)) vs (fun i => listed.getD i false) nh) a.tmps := ⟨hw', hsat.size, fun x => (hsat.slot x).pres hp'⟩
          exact hsat'.put hokF.1 hv hgset
def isTV (cs : List Ce) (i : Nat) : Bool := match cs[i]? with | some c => c.isT | none => false
def stV (cs : List Ce) (i : Nat) : Nat := turnsV (cs.take i)
def isAC : Option Ce → Bool
  | some .a => true
  | _ => false
def drawVB (ops : Array Oper) (nh a0 : Nat) (cs : List Ce) : Bool :=
  decide (nh < ops.size) && Region.sinkB .any ops nh && Region.chainB .any ops nh && backB ops nh && dstB ops nh && looksB ops nh &&
    Region.seqB .any ops (ops.size - nh) nh (Array.replicate nh true ++ Array.replicate (ops.size - nh) false) && decide (cs.length = nh) &&
    ((List.range nh).all fun i => !isTV cs i || (decide (stV cs i < turnsV cs) && (decide (stV cs i = 0) || (List.range nh).any fun j => isTV cs j && decide (stV cs j + 1 = stV cs i) && Region.waitsFor .any ops i j) && (List.range nh).all fun j => !isTV cs j || decide (j = i) || !decide (stV cs j = stV cs i))) &&
    (decide (turnsV cs = 0) || (List.range nh).any fun j => isTV cs j && decide (stV cs j + 1 = turnsV cs)) &&
    ((List.range nh).all fun i => match cs[i]? with
      | some (.q b f x) => ((ops[i]?).map freeB).getD false || (((!x) || Region.waitsFor .any ops i a0) && (List.range (turnsV cs + 1)).all fun k => (decide (stV cs i ≤ k + b) && decide (k ≤ stV cs i + f)) || (List.range nh).any fun j => isTV cs j && ((decide (k ≤ stV cs j) && Region.waitsFor .any ops i j) || (decide (stV cs j < k) && (ancs ops j).contains i)))
      | some .a => decide (i = a0)
      | _ => true) && isAC cs[a0]?
variable {H0 : Heap} {Q : Exit → Frame → Heap → Prop} {F : Frame}
def vcV0 (P : Program) (T : Ob → Prop) : List Oper → Prop
  | [] => False
  | o :: _ => match o.op with
    | .alloc e => (match zrI P e with
      | some ds => T (.row 0 e ds.length [ds.map .d])
      | none => False)
    | _ => False
theorem AWp_drawV_n {id : Nat} {l : List Oper} (nh a0 : Nat) (cs : List Ce) (M : List Nat) (ks : Nat → List Nat) (hm : P.follows .mixedOrders = true) (hB : drawVB l.toArray nh a0 cs = true)
    (h : vcV0 P (fun ob => vcV P n M ob H.length (fun F' H' => vcOps P n M l (l.drop nh) F' H' fun F3 H3 => Q .normal (canon (ks id) F3) H3) cs l [] H F fun _ _ => True) (l.drop a0)) : AWp P n dfs H0 (.region id l.toArray true) Q F H := by
  unfold AWp
  intro w0 σ0 w σ a hw hp hs hd
  simp only [drawVB, Bool.and_eq_true, decide_eq_true_eq] at hB
  obtain ⟨⟨⟨⟨⟨⟨⟨⟨⟨⟨⟨hlt, hsk⟩, hc⟩, hb⟩, hds⟩, hlk⟩, hq⟩, hcl⟩, hT⟩, hend⟩, hQ⟩, hA⟩ := hB
  have hAc : cs[a0]? = some .a := by
    cases hx : cs[a0]? with
    | none => rw [hx] at hA; cases hA
    | some c =>
      rw [hx] at hA
      cases c <;> first | rfl | cases hA
  have hanh : a0 < nh := by
    have := (List.getElem?_eq_some_iff.1 hAc).1
    omega
  have hal : a0 < l.length := by simp at hlt; omega
  rw [List.drop_eq_getElem_cons hal] at h
  have hla : l[a0]? = some l[a0] := List.getElem?_eq_getElem hal
  obtain ⟨e, ds, hoe, hz, h⟩ : ∃ e ds, (l[a0]).op = .alloc e ∧ zrI P e = some ds ∧ vcV P n M (.row 0 e ds.length [ds.map .d]) H.length (fun F' H' => vcOps P n M l (l.drop nh) F' H' fun F3 H3 => Q .normal (canon (ks id) F3) H3) cs l [] H F fun _ _ => True := by
    simp only [vcV0] at h
    split at h
    · rename_i e he
      split at h
      · rename_i ds hz
        exact ⟨e, ds, he, hz, h⟩
      · exact h.elim
    · exact h.elim
  obtain ⟨vs, Hs, _, hH0, _, hlen, ⟨F', hF', hG⟩, hop⟩ := vcV_run (F0 := F.get) (all := l) cs 0 0 l [] H (fun _ => .top) (fun _ => H) F _ (fun i => by simp) (fun x => rfl) rfl (fun k hk => by omega) (fun k _ => rfl) h
  simp only [Nat.zero_add, hcl] at hF' hG hop hlen
  have hH0 : Hs 0 = H := hH0 0 (Nat.le_refl _)
  refine wp_region_any hm ?_
  have hsd : Sat n w.drew H σ F a.tmps := hs.pres (Pres.drew w H σ) hs.ok.drew
  have hnl : ∀ (m j : Nat), (Array.replicate m false).getD j false = false := getD_replicate_false
  let Hb : Bool → Nat → Heap := fun b s => if b then Hs s ++ [.row 0 e ds.length [ds.map .d]] else Hs s
  have hbt : ∀ s, Hb true s = Hs s ++ [.row 0 e ds.length [ds.map .d]] := fun s => if_pos rfl
  have hbf : ∀ s, Hb false s = Hs s := fun s => if_neg (fun h => by cases h)
  have key := draw_headV (P := P) (n := n) (M := M) (all := l) (nh := nh) (m := turnsV cs) (isT := isTV cs) (st := stV cs) (a0 := a0) (Hs := Hb) (vs := vs) (F0 := F.get) (w0 := w0) (H0 := H0) (σ0 := σ0)
    (Q' := fun e a' w' => ∃ F' H' σ', Q e F' H' ∧ Pres w0 H0 σ0 w' H' σ' ∧ Sat n w' H' σ' F' a'.tmps ∧ a'.defers = dfs) hanh (by simp [isTV, hAc, Ce.isT]) hlt hsk hc hb hds hlk hq
    (fun i hi hti => by
      have := List.all_eq_true.1 hT i (List.mem_range.2 hi)
      simp only [hti, Bool.not_true, Bool.false_or, Bool.and_eq_true, Bool.or_eq_true, decide_eq_true_eq, List.any_eq_true, List.all_eq_true, List.mem_range, Bool.not_eq_true', decide_eq_false_iff_not] at this
      obtain ⟨⟨h1, h2⟩, h3⟩ := this
      refine ⟨h1, h2.imp (fun h => h) fun ⟨j, j1, ⟨j2, j3⟩, j4⟩ => ⟨j, j1, j2, j3, j4⟩, fun j hj hjt e => ?_⟩
      rcases h3 j hj with (h | h) | h
      · rw [h] at hjt; cases hjt
      · exact h
      · exact absurd e h)
    (by
      simp only [Bool.or_eq_true, Bool.and_eq_true, decide_eq_true_eq, List.any_eq_true, List.mem_range] at hend
      exact hend.imp (fun h => h) fun ⟨j, j1, j2, j3⟩ => ⟨j, j1, j2, j3⟩)
    (fun i hi hti hia => by
      obtain ⟨o, ho, c, hci, hh⟩ := hop i hi
      refine ⟨o, ho, fun F' hF' b s hs h0 h1 h2 => ?_⟩
      have := List.all_eq_true.1 hQ i (List.mem_range.2 hi)
      rw [hci] at this
      cases c with
      | q b' f x =>
        simp only [Bool.or_eq_true, Bool.and_eq_true] at this
        have hh : ∀ k, stV cs i ≤ k + b' → k ≤ stV cs i + f → k ≤ turnsV cs → (x = false → OpOk P n M l (Hs k) o F' (vs i)) ∧ OpOk P n M l (Hs k ++ [.row 0 e ds.length [ds.map .d]]) o F' (vs i) := fun k => hh F' hF' k
        rcases this with h | ⟨hx, h⟩
        · have hf : freeB o = true := by simpa [ho] using h
          have hle : stV cs i ≤ turnsV cs := (List.Sublist.countP_le (List.take_sublist i cs))
          exact (hh (stV cs i) (by omega) (by omega) hle).2.free hf
        · have both : ∀ k, stV cs i ≤ k + b' → k ≤ stV cs i + f → k ≤ turnsV cs → OpOk P n M l (Hb b k) o F' (vs i) := fun k a1 a2 a3 => by
            cases b with
            | true => rw [hbt]; exact (hh k a1 a2 a3).2
            | false =>
              rw [hbf]
              refine (hh k a1 a2 a3).1 ?_
              rcases hx with hx | hx
              · simpa using hx
              · rw [h0 rfl] at hx; cases hx
          have := List.all_eq_true.1 h s (List.mem_range.2 (by omega))
          simp only [Bool.or_eq_true, Bool.and_eq_true, decide_eq_true_eq, List.any_eq_true, List.mem_range, List.contains_iff_mem] at this
          rcases this with ⟨a1, a2⟩ | ⟨j, j1, j2, j3⟩
          · exact both s a1 a2 hs
          · rcases j3 with ⟨a1, a2⟩ | ⟨a1, a2⟩
            · have := h1 j j1 j2 a1
              rw [a2] at this
              cases this
            · exact absurd a2 (h2 j j1 j2 a1)
      | t => simp [isTV, hci, Ce.isT] at hti
      | a => exact absurd (by simpa using this) hia)
    (fun i hi hti => by
      obtain ⟨o, ho, c, hci, hh⟩ := hop i hi
      refine ⟨o, ho, ?_⟩
      cases c with
      | q b f x => simp [isTV, hci, Ce.isT] at hti
      | t =>
        obtain ⟨hg, hd, hh⟩ := hh
        refine ⟨hg, hd, fun F' hF' b => ?_⟩
        cases b with
        | true => rw [hbt, hbt]; exact (hh F' hF').2
        | false => rw [hbf, hbf]; exact (hh F' hF').1
      | a => simp [isTV, hci, Ce.isT] at hti)
    (by
      obtain ⟨o, ho, c, hci, hh⟩ := hop a0 hanh
      obtain rfl : l[a0] = o := Option.some.inj (hla.symm.trans ho)
      obtain rfl : Ce.a = c := Option.some.inj (hAc.symm.trans hci)
      obtain ⟨hg, hd, _, hv⟩ := hh
      refine ⟨_, hla, hg, hd, fun F' s hs => ?_⟩
      rw [hbt, hbf, hv]
      simp only [vcOp, hoe, vcAlloc, hz, Two]
      exact ⟨by rw [hlen s hs], trivial⟩)
    (fun w1 σ1 a1 h1 h2 h3 => vcOps_wp (l.drop nh) F' (Hs (turnsV cs) ++ [.row 0 e ds.length [ds.map .d]]) _ w1 σ1 a1 hF' (by rw [hbt] at h1; exact h1.toF fun x => .inr (hG x)) (by rw [hbt] at h2; exact h2) h3 fun F'' H'' w' σ' a' hk hs' hp' hd' =>
      ⟨_, H'', σ', hk, hp', hs'.canon _, hd'⟩)
    nh 0 (Array.replicate l.toArray.size false) a w.drew σ
    ⟨by simp, fun j oj _ hl => (by rw [getD_replicate_false] at hl; cases hl), fun t _ ht => getD_in (by simpa using ht) (getD_replicate_false _ _)⟩
    (by
      have : (List.range nh).countP (fun i => !(Array.replicate l.toArray.size false).getD i false) = (List.range nh).length := List.countP_eq_length.2 fun i _ => by rw [hnl]; rfl
      rw [this, List.length_range])
    (Nat.zero_le _) (fun i _ _ => by
      rw [hnl]
      exact ⟨fun h => (by cases h), fun h => absurd h (Nat.not_lt_zero _)⟩)
    (by
      rw [hnl, hbf, hH0]
      exact ⟨hsd.ok, hsd.size, fun x => by
        have : gF F.get (fun i => (l[i]?).bind (·.dst)) vs (fun i => (Array.replicate l.toArray.size false).getD i false) nh x = F.get x :=
          gF_none (j := 0) (Nat.zero_le _) fun i _ _ _ => hnl _ _
        rw [this]
        exact hsd.slot x⟩)
    (by rw [hnl, hbf, hH0]; exact hp.trans (Pres.drew w H σ)) hd
  rw [show nh + (l.toArray.size - nh) = l.toArray.size by omega] at key
  exact key
theorem AWp_drawV {id : Nat} {l : List Oper} {R : Frame → Heap → Prop} (xv : Nat → Nat × Nat × List Ce) (M : List Nat) (ks : Nat → List Nat) (hx : Nat.ble 1 (xv id).1 = true) (hm : P.follows .mixedOrders = true) (hB : drawVB l.toArray (xv id).1 (xv id).2.1 (xv id).2.2 = true) [ho : Nrm Q R]
    (h : ∀ Kv : Frame → Heap → Prop, (∀ F' H', R F' H' → Kv F' H') → vcV0 P (lk (fun ob => vcV P n M ob H.length (lk (fun F' H' => vcOps P n M l (l.drop (xv id).1) F' H' fun F3 H3 => Kv (canon (ks id) F3) H3) .mk) (xv id).2.2 l [] H F fun _ _ => True) .mk) (l.drop (xv id).2.1)) : AWp P n dfs H0 (.region id l.toArray true) Q F H :=
  AWp_drawV_n _ _ _ M ks hm hB (h _ fun F' H' hr => ho.spec F' H' hr)
section
variable {M : List Nat} {ob : Ob} {L : Nat} {T : Frame → Heap → Prop} {cs : List Ce} {d : Option Tmp} {op : Op} {ty : TypeId} {ps : String} {af : Array Edge} {rest : List Oper} {hs : List Heap} {pd : Nat → Heap → Prop}
theorem vcV0_c {T : Ob → Prop} {t : TypeId} : vcV0 P T (⟨d, .alloc t, ty, ps, af, none⟩ :: rest) = (match zrI P t with | some ds => T (.row 0 t ds.length [ds.map .d]) | none => False) := Eq.trans rfl rfl
theorem vcV_nil {l : List Oper} : vcV P n M ob L T [] l hs H F pd = T F (H ++ [ob]) := Eq.trans rfl rfl
theorem vcV_q {b f : Nat} : vcV P n M ob L T (.q b f false :: cs) (⟨d, op, ty, ps, af, none⟩ :: rest) hs H F pd = (dstOk n d ∧ vcQ P M ⟨d, op, ty, ps, af, none⟩ F (H ++ [ob]) fun v => vcQ P M ⟨d, op, ty, ps, af, none⟩ F H (fun v' => v' = v) ∧ allH (fun H' => vcQ P M ⟨d, op, ty, ps, af, none⟩ F H' (fun v' => v' = v) ∧ vcQ P M ⟨d, op, ty, ps, af, none⟩ F (H' ++ [ob]) fun v' => v' = v) (hs.take b) ∧ vcV P n M ob L T cs rest hs H (F.put d v) fun k Ha => pd k Ha ∧ (k < f → vcQ P M ⟨d, op, ty, ps, af, none⟩ F Ha (fun v' => v' = v) ∧ vcQ P M ⟨d, op, ty, ps, af, none⟩ F (Ha ++ [ob]) fun v' => v' = v)) := by
  rw [vcV]; simp
theorem vcV_q0 : vcV P n M ob L T (.q 0 0 true :: cs) (⟨d, op, ty, ps, af, none⟩ :: rest) hs H F pd = (dstOk n d ∧ vcQ P M ⟨d, op, ty, ps, af, none⟩ F (H ++ [ob]) fun v => vcV P n M ob L T cs rest hs H (F.put d v) pd) := by
  rw [vcV]; simp [allH]
theorem vcV_q1 {b f : Nat} : vcV P n M ob L T (.q b f true :: cs) (⟨d, op, ty, ps, af, none⟩ :: rest) hs H F pd = (dstOk n d ∧ vcQ P M ⟨d, op, ty, ps, af, none⟩ F (H ++ [ob]) fun v => allH (fun H' => vcQ P M ⟨d, op, ty, ps, af, none⟩ F (H' ++ [ob]) fun v' => v' = v) (hs.take b) ∧ vcV P n M ob L T cs rest hs H (F.put d v) fun k Ha => pd k Ha ∧ (k < f → vcQ P M ⟨d, op, ty, ps, af, none⟩ F (Ha ++ [ob]) fun v' => v' = v)) := by
  rw [vcV]; simp
theorem vcV_t : vcV P n M ob L T (.t :: cs) (⟨d, op, ty, ps, af, none⟩ :: rest) hs H F pd = (dstOk n d ∧ vcE P M ⟨d, op, ty, ps, af, none⟩ F H fun v H1 => vcE P M ⟨d, op, ty, ps, af, none⟩ F (H ++ [ob]) fun v' H1' => v' = v ∧ H1' = H1 ++ [ob] ∧ H1.length = L ∧ pd 0 H1 ∧ vcV P n M ob L T cs rest (H :: hs) H1 (F.put d v) fun k => pd (k + 1)) := by
  rw [vcV]; simp
theorem vcV_a {t : TypeId} : vcV P n M ob L T (.a :: cs) (⟨d, .alloc t, ty, ps, af, none⟩ :: rest) hs H F pd = (dstOk n d ∧ vcV P n M ob L T cs rest hs H (F.put d (.pt L 0 0 0)) pd) := by
  rw [vcV]; simp [isAl]
end
end
attribute [go_sem ↓] vcV0_c vcV_nil vcV_q0 vcV_q vcV_q1 vcV_t vcV_a
end Go.Proofs.YtmhabdopcbokoaaDoor.Ab
