/- Regions that draw their order, in which a call turns objects and an operation behind it, the last in open order, turns them again. No condition. -/
import Derived.Test.YtpgdflhcmijaiaaDoorZ20
import Derived.Test.YtpgdflhcmijaiaaDoorZ21
set_option linter.all false
set_option linter.unusedSimpArgs false
set_option linter.unusedVariables false
namespace Go.Proofs.YtpgdflhcmijaiaaDoor.Ab
open Go
variable [Glo]
section
variable {P : Program} {n : Nat} {H Ha H1 : Heap}
def vcC1 (P : Program) (n : Nat) (M : List Nat) (H : Heap) (T : Frame → (Heap → Prop) → Prop) : List Nat → List Oper → Frame → (Heap → Prop) → Prop
  | [], _, F, pd => T F pd
  | _ :: _, [], _, _ => False
  | c :: cs, o :: rest, F, pd => o.guard = none ∧ dstOk n o.dst ∧ vcQ P M o F H fun v => vcC1 P n M H T cs rest (F.put o.dst v) (match c with
    | 0 => fun Ha => pd Ha ∧ vcQ P M o F Ha fun v' => v' = v
    | _ => pd)
theorem vcC1_run {M : List Nat} {all : List Oper} {T : Frame → (Heap → Prop) → Prop} {F0 : Nat → V} : ∀ (cs : List Nat) (p : Nat) (l : List Oper) (vs : Nat → V) (F : Frame) (pd : Heap → Prop),
    (∀ i, l[i]? = all[p + i]?) → (∀ x, F.get x = gF F0 (fun i => (all[i]?).bind (·.dst)) vs always p x) → vcC1 P n M H T cs l F pd →
    ∃ vs' : Nat → V, (∀ i, i < p → vs' i = vs i) ∧ ∃ (F' : Frame) (pd' : Heap → Prop), T F' pd' ∧ (∀ x, F'.get x = gF F0 (fun i => (all[i]?).bind (·.dst)) vs' always (p + cs.length) x) ∧ (∀ Ha, pd' Ha → pd Ha) ∧
      (∀ i, p ≤ i → i < p + cs.length → ∃ o, all[i]? = some o ∧ ∀ F', (∀ x, x ∈ o.looksAt all.toArray → F'.get x = gF F0 (fun i => (all[i]?).bind (·.dst)) vs' always i x) →
        OpOk P n M all H o F' (vs' i) ∧ (cs[i - p]? = some 0 → ∀ Ha, pd' Ha → OpOk P n M all Ha o F' (vs' i)))
  | [], p, l, vs, F, pd, hl, hF, h => ⟨vs, fun _ _ => rfl, F, pd, h, hF, fun _ h => h, fun i h1 h2 => by simp at h2; omega⟩
  | b :: cs, p, [], vs, F, pd, hl, hF, h => h.elim
  | b :: cs, p, o :: rest, vs, F, pd, hl, hF, h => by
    have h0 : all[p]? = some o := by simpa using (hl 0).symm
    have hl' : ∀ i, rest[i]? = all[p + 1 + i]? := fun i => by
      have := hl (i + 1)
      rw [List.getElem?_cons_succ] at this
      rw [this]
      congr 1
      omega
    obtain ⟨hg, hd, h⟩ := h
    obtain ⟨v, h1, h2⟩ := vcQ_det h
    let vs1 : Nat → V := fun i => if i = p then v else vs i
    have e1 : ∀ x, gF F0 (fun i => (all[i]?).bind (·.dst)) vs1 always p x = gF F0 (fun i => (all[i]?).bind (·.dst)) vs always p x := fun x =>
      gF_same fun i hi _ => ⟨rfl, if_neg (by omega)⟩
    obtain ⟨vs', k1, F', pd', k3, k4, k5, k6⟩ := vcC1_run cs (p + 1) rest vs1 (F.put o.dst v) _ hl' (fun x => by
      rw [get_put, gF, e1, hF x]
      simp [always, h0, vs1]) h2
    have e2 : ∀ x, gF F0 (fun i => (all[i]?).bind (·.dst)) vs' always p x = gF F0 (fun i => (all[i]?).bind (·.dst)) vs always p x := fun x =>
      gF_same fun i hi _ => ⟨rfl, by rw [k1 i (by omega)]; exact if_neg (by omega)⟩
    refine ⟨vs', fun i hi => by rw [k1 i (by omega)]; exact if_neg (by omega), F', pd', k3, fun x => by rw [k4 x]; congr 1; simp; omega, fun Ha hA => ?_, fun i hi hi2 => ?_⟩
    · have := k5 Ha hA
      split at this
      · exact this.1
      · exact this
    · by_cases hip : i = p
      · subst hip
        have hv : vs' i = v := by rw [k1 i (by omega)]; simp only [vs1, if_true]
        rw [Nat.sub_self, hv]
        refine ⟨o, h0, fun F1 hF1 => ?_⟩
        have cg : ∀ {H'}, OpOk P n M all H' o F v → OpOk P n M all H' o F1 v := fun hO => hO.congr fun x hx => by rw [hF1 x hx, e2 x, hF x]
        refine ⟨cg ⟨hd, by rw [hg]; exact h1⟩, fun hb Ha hA => ?_⟩
        have hb0 : b = 0 := by simpa using hb
        have := k5 Ha hA
        rw [hb0] at this
        obtain ⟨_, h3⟩ := this
        obtain ⟨v', h4, h5⟩ := vcQ_det h3
        subst h5
        exact cg ⟨hd, by rw [hg]; exact h4⟩
      · obtain ⟨o', ho', hh⟩ := k6 i (by omega) (by simp at hi2; omega)
        rw [show i - p = (i - (p + 1)) + 1 by omega, List.getElem?_cons_succ]
        exact ⟨o', ho', hh⟩
def drawCB (ops : Array Oper) (a0 e : Nat) (cs1 cs2 : List Nat) : Bool :=
  decide (e + 1 < ops.size) && decide (a0 < e) && Region.waitsFor .any ops e a0 && Region.sinkB .any ops (e + 1) && Region.chainB .any ops (e + 1) && backB ops (e + 1) && dstB ops (e + 1) && looksB ops (e + 1) &&
    Region.seqB .any ops (ops.size - (e + 1)) (e + 1) (Array.replicate (e + 1) true ++ Array.replicate (ops.size - (e + 1)) false) && decide (cs1.length = a0) && decide (cs2.length = e - (a0 + 1)) &&
    ((List.range e).all fun i => i == a0 ||
      (decide (i < a0) && ((cs1[i]? == some 0 && (ancs ops e).contains i) || (cs1[i]? == some 3 && ((ops[i]?).map freeB).getD false) || (cs1[i]? == some 4 && (ancs ops a0).contains i && (ancs ops e).contains i))) ||
      (decide (a0 < i) && ((cs2[i - (a0 + 1)]? == some 0 && (ancs ops e).contains i) || (cs2[i - (a0 + 1)]? == some 1 && Region.waitsFor .any ops i a0 && (ancs ops e).contains i) || (cs2[i - (a0 + 1)]? == some 3 && ((ops[i]?).map freeB).getD false))))
variable {H0 : Heap} {Q : Exit → Frame → Heap → Prop} {F : Frame}
theorem AWp_drawC_n {id : Nat} {l : List Oper} (a0 e : Nat) (cs1 cs2 : List Nat) (M : List Nat) (ks : Nat → List Nat) (hm : P.follows .mixedOrders = true) (hB : drawCB l.toArray a0 e cs1 cs2 = true)
    (h : vcC1 P n M H (fun F1 pd => vcA2 P n M H (fun Ha F2 => pd Ha ∧ vcA1 P n M H Ha .un (fun F3 => vcA2 P n M Ha (fun H1 F4 => vcOps P n M l (l.drop (e + 1)) F4 H1 fun F5 H3 => Q .normal (canon (ks id) F5) H3) (l.drop e) F3) cs2 (l.drop (a0 + 1)) F2) (l.drop a0) F1) cs1 l F (fun _ => True)) : AWp P n H0 (.region id l.toArray true) Q F H := by
  unfold AWp
  intro w0 σ0 w σ a hw hp hs hd
  simp only [drawCB, Bool.and_eq_true, decide_eq_true_eq] at hB
  obtain ⟨⟨⟨⟨⟨⟨⟨⟨⟨⟨⟨hlt, hae⟩, hwa⟩, hsk⟩, hc⟩, hb⟩, hds⟩, hlk⟩, hq⟩, hl1⟩, hl2⟩, hpre⟩ := hB
  have hal : a0 < l.length := by simp at hlt; omega
  have hel : e < l.length := by simp at hlt; omega
  have hla : l[a0]? = some l[a0] := List.getElem?_eq_getElem hal
  have hle : l[e]? = some l[e] := List.getElem?_eq_getElem hel
  obtain ⟨vsA, _, FA, pd, hTA, hFA, _, hokA⟩ := vcC1_run (F0 := F.get) (all := l) cs1 0 l (fun _ => .top) F _ (fun i => by simp) (fun x => rfl) h
  simp only [Nat.zero_add, hl1, Nat.sub_zero] at hFA hokA
  rw [List.drop_eq_getElem_cons hal] at hTA
  obtain ⟨hga, hda, hA⟩ := hTA
  obtain ⟨va, Ha, hA1, hpd, hTB0⟩ := vcE_det hA
  let vsA' : Nat → V := fun i => if i = a0 then va else vsA i
  have sA : ∀ i, i ≤ a0 → ∀ x, gF F.get (fun i => (l[i]?).bind (·.dst)) vsA' always i x = gF F.get (fun i => (l[i]?).bind (·.dst)) vsA always i x := fun i hi x =>
    gF_same fun k hk _ => ⟨rfl, if_neg (by omega)⟩
  have hFA' : ∀ x, (FA.put l[a0].dst va).get x = gF F.get (fun i => (l[i]?).bind (·.dst)) vsA' always (a0 + 1) x := fun x => by
    rw [get_put, gF, sA a0 (Nat.le_refl _), hFA x]
    simp [always, hla, vsA']
  obtain ⟨vsB, hvB, hokB, FB, hTB, hFB⟩ := vcA1_run (F0 := F.get) (all := l) cs2 (a0 + 1) (l.drop (a0 + 1)) vsA' (FA.put l[a0].dst va) (fun i => by rw [List.getElem?_drop]) hFA' hTB0
  rw [hl2, show a0 + 1 + (e - (a0 + 1)) = e by omega] at hFB
  simp only [hl2, show a0 + 1 + (e - (a0 + 1)) = e by omega] at hokB
  rw [List.drop_eq_getElem_cons hel] at hTB
  obtain ⟨hge, hde, hE⟩ := hTB
  obtain ⟨ve, H1, hE1, hT⟩ := vcE_det hE
  let vs : Nat → V := fun i => if i = e then ve else vsB i
  have e2 : ∀ i, i ≤ e → ∀ x, gF F.get (fun i => (l[i]?).bind (·.dst)) vs always i x = gF F.get (fun i => (l[i]?).bind (·.dst)) vsB always i x := fun i hi x =>
    gF_same fun k hk _ => ⟨rfl, if_neg (by omega)⟩
  have hFE : ∀ x, (FB.put l[e].dst ve).get x = gF F.get (fun i => (l[i]?).bind (·.dst)) vs always (e + 1) x := fun x => by
    rw [get_put, gF, e2 e (Nat.le_refl _), hFB x]
    simp [always, hle, vs]
  have vB : ∀ i, i < e → vs i = vsB i := fun i hi => if_neg (by omega)
  have vA : ∀ i, i < a0 → vs i = vsA i := fun i hi => by rw [vB i (by omega), hvB i (by omega)]; exact if_neg (by omega)
  have va0 : vs a0 = va := by rw [vB a0 hae, hvB a0 (by omega)]; exact if_pos rfl
  have ve0 : vs e = ve := if_pos rfl
  have gA : ∀ i, i ≤ a0 → ∀ x, gF F.get (fun i => (l[i]?).bind (·.dst)) vs always i x = gF F.get (fun i => (l[i]?).bind (·.dst)) vsA always i x := fun i hi x =>
    gF_same fun k hk _ => ⟨rfl, vA k (by omega)⟩
  refine wp_region_any hm ?_
  have hsd : Sat n w.drew H σ F a.tmps := hs.pres (Pres.drew w H σ) hs.ok.drew
  have hnf : ∀ (m j : Nat), (Array.replicate m false).getD j false = false := getD_replicate_false
  have key := draw_headA (P := P) (n := n) (H := H) (Ha := Ha) (H1 := H1) (M := M) (all := l) (nh := e + 1) (a0 := a0) (e := e) (vs := vs) (F0 := F.get) (w0 := w0) (H0 := H0) (σ0 := σ0)
    (Q' := fun e a' w' => ∃ F' H' σ', Q e F' H' ∧ Pres w0 H0 σ0 w' H' σ' ∧ Sat n w' H' σ' F' a'.tmps ∧ a'.defers = []) hlt (Nat.lt_succ_self _) (by omega) hwa hsk hc hb hds hlk hq
    (fun i hi hia hie => by
      have hie2 : i < e := by omega
      have hall := List.all_eq_true.1 hpre i (List.mem_range.2 hie2)
      simp only [Bool.or_eq_true, Bool.and_eq_true, beq_iff_eq, decide_eq_true_eq, List.contains_iff_mem] at hall
      rcases hall with (h1 | ⟨h1, h2⟩) | ⟨h1, h2⟩
      · exact absurd h1 hia
      · obtain ⟨o, ho, hh⟩ := hokA i (Nat.zero_le _) h1
        refine ⟨o, ho, fun F' hF' => ?_⟩
        obtain ⟨j3, j0⟩ := hh F' fun x hx => by rw [hF' x hx, gA i (by omega)]
        rw [vA i h1]
        rcases h2 with (⟨h2, h3⟩ | ⟨h2, h3⟩) | ⟨⟨h2, h3⟩, h4⟩
        · exact ⟨fun _ _ => j3, fun _ _ => j0 h2 Ha hpd, fun hn => absurd h3 hn⟩
        · have hf : freeB o = true := by simpa [ho] using h3
          exact ⟨fun _ _ => j3, fun _ _ => j3.free hf, fun _ => j3.free hf⟩
        · exact ⟨fun _ _ => j3, fun _ hn => absurd h3 hn, fun hn => absurd h4 hn⟩
      · obtain ⟨o, ho, _, hh⟩ := hokB i (by omega) hie2
        refine ⟨o, ho, fun F' hF' => ?_⟩
        obtain ⟨j0, j1, j3⟩ := hh F' fun x hx => by rw [hF' x hx, e2 i (by omega)]
        rw [vB i hie2]
        rcases h2 with (⟨h2, h3⟩ | ⟨⟨h2, h3⟩, h4⟩) | ⟨h2, h3⟩
        · exact ⟨fun _ _ => (j0 h2).1, fun _ _ => (j0 h2).2, fun hn => absurd h3 hn⟩
        · exact ⟨fun hn _ => (by rw [h3] at hn; cases hn), fun _ _ => j1 h2, fun hn => absurd h4 hn⟩
        · have hf : freeB o = true := by simpa [ho] using h3
          exact ⟨fun _ _ => j3 h2, fun _ _ => (j3 h2).free hf, fun _ => (j3 h2).free hf⟩)
    ⟨l[a0], hla, hga, hda, fun F' hF' => by
      rw [va0]
      exact vcOp_congr (fun x hx => by
        rw [hF' x (by
          unfold Oper.looksAt
          exact List.mem_append_left _ (List.mem_filterMap.2 ⟨_, hx, rfl⟩)), gA a0 (Nat.le_refl _), hFA x]) hA1⟩
    ⟨l[e], hle, hge, hde, fun F' hF' => by
      rw [ve0]
      exact vcOp_congr (fun x hx => by
        rw [hF' x (by
          unfold Oper.looksAt
          exact List.mem_append_left _ (List.mem_filterMap.2 ⟨_, hx, rfl⟩)), e2 e (Nat.le_refl _), hFB x]) hE1⟩
    (fun w1 σ1 a1 h1 h2 h3 => vcOps_wp (l.drop (e + 1)) (FB.put l[e].dst ve) H1 _ w1 σ1 a1 hT (h1.toF fun x => .inr (hFE x)) h2 h3 fun F'' H'' w' σ' a' hk hs' hp' hd' =>
      ⟨_, H'', σ', hk, hp', hs'.canon _, hd'⟩)
    (e + 1) (Array.replicate l.toArray.size false) a w.drew σ
    ⟨by simp, fun j oj _ hl => (by rw [getD_replicate_false] at hl; cases hl), fun t _ ht => getD_in (by simpa using ht) (getD_replicate_false _ _)⟩
    (by
      have : (List.range (e + 1)).countP (fun i => !(Array.replicate l.toArray.size false).getD i false) = (List.range (e + 1)).length := List.countP_eq_length.2 fun i _ => by rw [hnf]; rfl
      rw [this, List.length_range])
    (by
      rw [hnf, hnf]
      exact ⟨hsd.ok, hsd.size, fun x => by
        have : gF F.get (fun i => (l[i]?).bind (·.dst)) vs (fun i => (Array.replicate l.toArray.size false).getD i false) (e + 1) x = F.get x :=
          gF_none (j := 0) (Nat.zero_le _) fun i _ _ _ => hnf _ _
        rw [this]
        exact hsd.slot x⟩)
    (by rw [hnf, hnf]; exact hp.trans (Pres.drew w H σ)) hd
  rw [show e + 1 + (l.toArray.size - (e + 1)) = l.toArray.size by omega] at key
  exact key
theorem AWp_drawC {id : Nat} {l : List Oper} {R : Frame → Heap → Prop} (xc : Nat → Nat × Nat × List Nat × List Nat) (M : List Nat) (ks : Nat → List Nat) (hx : Nat.ble 1 (xc id).2.1 = true) (hm : P.follows .mixedOrders = true) (hB : drawCB l.toArray (xc id).1 (xc id).2.1 (xc id).2.2.1 (xc id).2.2.2 = true) [ho : Nrm Q R]
    (h : ∀ Kv : Frame → Heap → Prop, (∀ F' H', R F' H' → Kv F' H') → vcC1 P n M H (lk (fun F1 pd => vcA2 P n M H (lk (fun Ha F2 => pd Ha ∧ vcA1 P n M H Ha .un (lk (fun F3 => vcA2 P n M Ha (lk (fun H1 F4 => vcOps P n M l (l.drop ((xc id).2.1 + 1)) F4 H1 fun F5 H3 => Kv (canon (ks id) F5) H3) .mk) (l.drop (xc id).2.1) F3) .mk) (xc id).2.2.2 (l.drop ((xc id).1 + 1)) F2) .mk) (l.drop (xc id).1) F1) .mk) (xc id).2.2.1 l F (fun _ => True)) : AWp P n H0 (.region id l.toArray true) Q F H :=
  AWp_drawC_n _ _ _ _ M ks hm hB (h _ fun F' H' hr => ho.spec F' H' hr)
theorem vcC1_nil {M : List Nat} {T : Frame → (Heap → Prop) → Prop} {l : List Oper} {pd : Heap → Prop} : vcC1 P n M H T [] l F pd = T F pd := Eq.trans rfl rfl
theorem vcC1_0 {M : List Nat} {T : Frame → (Heap → Prop) → Prop} {cs : List Nat} {d : Option Tmp} {op : Op} {ty : TypeId} {ps : String} {af : Array Edge} {rest : List Oper} {pd : Heap → Prop} : vcC1 P n M H T (0 :: cs) (⟨d, op, ty, ps, af, none⟩ :: rest) F pd = (dstOk n d ∧ vcQ P M ⟨d, op, ty, ps, af, none⟩ F H fun v => vcC1 P n M H T cs rest (F.put d v) fun Ha => pd Ha ∧ vcQ P M ⟨d, op, ty, ps, af, none⟩ F Ha fun v' => v' = v) := by simp [vcC1]
theorem vcC1_3 {M : List Nat} {T : Frame → (Heap → Prop) → Prop} {cs : List Nat} {d : Option Tmp} {op : Op} {ty : TypeId} {ps : String} {af : Array Edge} {rest : List Oper} {pd : Heap → Prop} : vcC1 P n M H T (3 :: cs) (⟨d, op, ty, ps, af, none⟩ :: rest) F pd = (dstOk n d ∧ vcQ P M ⟨d, op, ty, ps, af, none⟩ F H fun v => vcC1 P n M H T cs rest (F.put d v) pd) := by simp [vcC1]
theorem vcC1_4 {M : List Nat} {T : Frame → (Heap → Prop) → Prop} {cs : List Nat} {d : Option Tmp} {op : Op} {ty : TypeId} {ps : String} {af : Array Edge} {rest : List Oper} {pd : Heap → Prop} : vcC1 P n M H T (4 :: cs) (⟨d, op, ty, ps, af, none⟩ :: rest) F pd = (dstOk n d ∧ vcQ P M ⟨d, op, ty, ps, af, none⟩ F H fun v => vcC1 P n M H T cs rest (F.put d v) pd) := by simp [vcC1]
end
attribute [go_sem ↓] vcC1_nil vcC1_0 vcC1_3 vcC1_4
theorem AWp_frzR {P : Program} {n : Nat} {H0 H : Heap} {Q : Exit → Frame → Heap → Prop} {F : Frame} {c : Code} (id pid i j : Nat) {ver e sz pv pe ps : Nat} {rows prs : List (List V)} {row : List V} {ds : List (List D)} (hne : pid ≠ id) (hr : H[id]? = some (Ob.row ver e sz rows)) (hd : dsRows rows = some ds)
    (hp : H[pid]? = some (Ob.row pv pe ps prs)) (hi : prs[i]? = some row) (hj : row[j]? = some (.os id ver))
    (h : AWp P n H0 c Q (frz id ver (.sl sz ds) F) ((H.set id .dead).set pid (.row pv pe ps (prs.set i (row.set j (.d (.sl sz ds))))))) : AWp P n H0 c Q F H := by
  unfold AWp at h ⊢
  intro w0 σ0 w σ a hw hpr hs hdf
  obtain ⟨p, hw'⟩ := hs.ok.kill id
  have nown : ∀ b, Own (H.set id .dead) σ b → Own H σ b := fun b ho => by
    obtain ⟨id', v', e', s', r', c', h1, h2⟩ := ho
    rw [List.getElem?_set] at h1
    split at h1
    · split at h1 <;> cases h1
    · exact ⟨id', v', e', s', r', c', h1, h2⟩
  have nblk : ∀ cap g, σ id = .blk g cap → ¬ Own (H.set id .dead) σ g := fun cap g hg ho => by
    obtain ⟨id', v', e', s', r', c', h1, h2⟩ := ho
    rw [List.getElem?_set] at h1
    split at h1
    · split at h1 <;> cases h1
    · rename_i hne
      exact hne (hs.ok.inj _ _ _ _ _ _ _ _ _ _ _ _ _ hr h1 hg h2)
  have frzrel : ∀ v val, VRel w (Own H σ) H σ v val → VRel w (Own (H.set id .dead) σ) (H.set id .dead) σ v val → VRel w (Own (H.set id .dead) σ) (H.set id .dead) σ (frzV id ver (.sl sz ds) v) val := by
    intro v val h1 h2
    cases v <;> try exact h2
    rename_i k kk
    by_cases hik : k = id ∧ kk = ver
    · rw [show frzV id ver (.sl sz ds) (.os k kk) = .d (.sl sz ds) from if_pos hik]
      obtain ⟨rfl, rfl⟩ := hik
      exact .d _ _ (os_data hs.ok hr hd (fun b ho => nown b ho) (fun cap g hg ho => nblk cap g hg ho) h1)
    · rw [show frzV id ver (.sl sz ds) (.os k kk) = .os k kk from if_neg hik]
      exact h2
  have hp1 : (H.set id .dead)[pid]? = some (Ob.row pv pe ps prs) := by rw [List.getElem?_set, if_neg (fun e => hne e.symm)]; exact hp
  have hl0 := hs.ok.lies hp
  have hl := hw'.lies hp1
  have hlies : Lies w (Own (H.set id .dead) σ) (H.set id .dead) σ (σ pid) w pe ps (prs.set i (row.set j (.d (.sl sz ds)))) := by
    rcases hl with ⟨_, h2⟩ | ⟨g, cap, cur, h1, h2, h3, h4, h5, h6, h7⟩ | ⟨_, _, _, _, _, _, _, _, _, _, h2, _⟩
    · subst h2; cases hi
    rotate_left
    · subst h2
      have hi0 : i = 0 := by have := (List.getElem?_eq_some_iff.1 hi).1; simp at this; exact this
      subst hi0
      simp at hi
      subst hi
      have hj0 : j = 0 := by have := (List.getElem?_eq_some_iff.1 hj).1; simp at this; exact this
      subst hj0
      simp at hj
    · refine .inr <| .inl ⟨g, cap, cur, h1, h2, by simpa using h3, h4, h5, fun k r hk => ?_, fun k l r v hk hv => ?_⟩
      · rw [List.getElem?_set] at hk
        split at hk
        · rename_i hik
          subst hik
          split at hk
          · cases hk
            simpa using h6 _ _ hi
          · cases hk
        · exact h6 k r hk
      · rw [List.getElem?_set] at hk
        split at hk
        · rename_i hik
          subst hik
          split at hk
          · cases hk
            rw [List.getElem?_set] at hv
            split at hv
            · rename_i hjl
              subst hjl
              split at hv
              · cases hv
                obtain ⟨cv, a1, a2, a3⟩ := h7 _ _ _ _ hi hj
                refine ⟨cv, a1, a2, ?_⟩
                rcases hl0 with ⟨_, b2⟩ | ⟨g', cap', cur', b1, b2, b3, b4, b5, b6, b7⟩ | ⟨_, _, _, _, _, _, _, _, _, _, b2, _⟩
                · subst b2; cases hi
                · rw [b1] at h1
                  cases h1
                  rw [b2] at h2
                  cases h2
                  obtain ⟨cv', c1, c2, c3⟩ := b7 _ _ _ _ hi hj
                  rw [a1] at c1
                  cases c1
                  have := frzrel _ _ c3 a3
                  rwa [show frzV id ver (.sl sz ds) (.os id ver) = .d (.sl sz ds) from if_pos ⟨rfl, rfl⟩] at this
                · subst b2
                  have hi0 : i = 0 := by have := (List.getElem?_eq_some_iff.1 hi).1; simp at this; exact this
                  subst hi0
                  simp at hi
                  subst hi
                  have hj0 : j = 0 := by have := (List.getElem?_eq_some_iff.1 hj).1; simp at this; exact this
                  subst hj0
                  simp at hj
              · cases hv
            · exact h7 _ _ _ _ hi hv
          · cases hk
        · exact h7 _ _ _ _ hk hv
  obtain ⟨p2, ok2⟩ := hw'.set (w' := w) (ver' := pv) (e' := pe) (sz' := ps) (rows' := prs.set i (row.set j (.d (.sl sz ds)))) hp1 (Nat.le_refl _) (fun _ => ⟨rfl, rfl, by simp⟩) rfl rfl (OutSame.refl w) (Nat.le_refl _) (fun _ _ _ => rfl) (fun g cap hc => .inl ⟨cap, hc⟩) hlies
  refine h w0 σ0 w _ a hw ((hpr.trans p).trans p2) ⟨ok2, hs.size, fun x => ?_⟩ hdf
  rw [frz_get]
  exact (frzrel _ _ (hs.slot x) ((hs.slot x).pres p)).pres p2
end Go.Proofs.YtpgdflhcmijaiaaDoor.Ab
