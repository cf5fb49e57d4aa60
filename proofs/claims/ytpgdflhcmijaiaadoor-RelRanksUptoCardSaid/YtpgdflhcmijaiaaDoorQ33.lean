/- The head of a drawn region, an operation a step, with what follows out of the way. No condition. -/
import Derived.Test.YtpgdflhcmijaiaaDoorQ32
set_option linter.all false
set_option linter.unusedSimpArgs false
set_option linter.unusedVariables false
namespace Go.Proofs.YtpgdflhcmijaiaaDoor.Ab
open Go
variable [Glo]
theorem vcD_0 {P : Program} {n : Nat} {M : List Nat} {all l : List Oper} {H : Heap} {T : Frame → Prop} {F : Frame} : vcD P n M all H T 0 l F = T F := by
  unfold vcD; rfl
theorem vcD_n {P : Program} {n k : Nat} {M : List Nat} {all rest : List Oper} {d : Option Tmp} {op : Op} {ty : TypeId} {ps : String} {af : Array Edge} {H : Heap} {T : Frame → Prop} {F : Frame} : vcD P n M all H T (k + 1) (⟨d, op, ty, ps, af, none⟩ :: rest) F = (dstOk n d ∧ vcQ P M ⟨d, op, ty, ps, af, none⟩ F H (lk (fun v => vcD P n M all H T k rest (F.put d v)) .mk)) := by
  rw [vcD]; rfl
def vcDg (P : Program) (n : Nat) (M : List Nat) (all : List Oper) (H : Heap) (T : Frame → Prop) (k : Nat) (o : Oper) (rest : List Oper) (want : Bool) (d : Nat) (F : Frame) (x : V) : Prop :=
  match x with
  | .d (.b t) => d < n ∧ dstOk n o.dst ∧ (match want with
      | true => onB t (vcQ P M o (F.put (some d) (.d (.b true))) H (lk (fun v => vcD P n M all H T k rest ((F.put (some d) (.d (.b true))).put o.dst v)) .mk))
          (vcD P n M all H T k rest ((F.put (some d) (.d (.b false))).put o.dst .un))
      | false => onB t (vcD P n M all H T k rest ((F.put (some d) (.d (.b true))).put o.dst .un))
          (vcQ P M o (F.put (some d) (.d (.b false))) H (lk (fun v => vcD P n M all H T k rest ((F.put (some d) (.d (.b false))).put o.dst v)) .mk)))
  | .un => dstOk n o.dst ∧ vcD P n M all H T k rest (F.put o.dst .un)
  | _ => False
theorem vcD_s {P : Program} {n k j : Nat} {M : List Nat} {all rest : List Oper} {d : Option Tmp} {op : Op} {ty : TypeId} {ps : String} {af : Array Edge} {want : Bool} {H : Heap} {T : Frame → Prop} {F : Frame} : vcD P n M all H T (k + 1) (⟨d, op, ty, ps, af, some (j, want)⟩ :: rest) F = (match (all[j]?).bind (·.dst) with | some e => vcDg P n M all H T k ⟨d, op, ty, ps, af, some (j, want)⟩ rest want e F (F.get e) | none => False) := by
  rw [vcD]
  simp only []
  cases (all[j]?).bind (·.dst) <;> rfl
theorem vcDg_un {P : Program} {n k : Nat} {M : List Nat} {all rest : List Oper} {o : Oper} {want : Bool} {e : Nat} {H : Heap} {T : Frame → Prop} {F : Frame} : vcDg P n M all H T k o rest want e F .un = (dstOk n o.dst ∧ vcD P n M all H T k rest (F.put o.dst .un)) := rfl
theorem vcDg_t {P : Program} {n k : Nat} {M : List Nat} {all rest : List Oper} {o : Oper} {e : Nat} {t : Bool} {H : Heap} {T : Frame → Prop} {F : Frame} : vcDg P n M all H T k o rest true e F (.d (.b t)) = (e < n ∧ dstOk n o.dst ∧ onB t (vcQ P M o (F.put (some e) (.d (.b true))) H (lk (fun v => vcD P n M all H T k rest ((F.put (some e) (.d (.b true))).put o.dst v)) .mk)) (vcD P n M all H T k rest ((F.put (some e) (.d (.b false))).put o.dst .un))) := rfl
theorem vcDg_f {P : Program} {n k : Nat} {M : List Nat} {all rest : List Oper} {o : Oper} {e : Nat} {t : Bool} {H : Heap} {T : Frame → Prop} {F : Frame} : vcDg P n M all H T k o rest false e F (.d (.b t)) = (e < n ∧ dstOk n o.dst ∧ onB t (vcD P n M all H T k rest ((F.put (some e) (.d (.b true))).put o.dst .un)) (vcQ P M o (F.put (some e) (.d (.b false))) H (lk (fun v => vcD P n M all H T k rest ((F.put (some e) (.d (.b false))).put o.dst v)) .mk))) := rfl
theorem vcQ_o {P : Program} {M : List Nat} {o : Oper} {F : Frame} {H : Heap} {K : V → Prop} {u : Lk K} (hc : (match o.op with | .call _ => false | _ => true) = true) : vcQ P M o F H (lk K u) = vcOp P M o F H (lk (fun v H' => H' = H ∧ K v) .mk) := by
  unfold vcQ
  split
  · rename_i h; rw [h] at hc; cases hc
  · rfl
attribute [go_sem ↓ 2000] vcD_0 vcD_n vcD_s
attribute [go_sem ↓] vcDg_un vcDg_t vcDg_f
end Go.Proofs.YtpgdflhcmijaiaaDoor.Ab
namespace Go.Proofs.YtpgdflhcmijaiaaDoor.Ab
open Go
variable [Glo]
section
variable {P : Program} {n : Nat} {H Ha H1 : Heap}
def drawMB (ops : Array Oper) (a0 e nh : Nat) (csA csB csC : List Nat) : Bool :=
  decide (nh < ops.size) && decide (a0 < e) && decide (e < nh) && Region.waitsFor .any ops e a0 && Region.sinkB .any ops nh && Region.chainB .any ops nh && backB ops nh && dstB ops nh && looksB ops nh &&
    Region.seqB .any ops (ops.size - nh) nh (Array.replicate nh true ++ Array.replicate (ops.size - nh) false) && decide (csA = List.replicate a0 3) && decide (csB = List.replicate (e - (a0 + 1)) 3) && decide (csC = List.replicate (nh - (e + 1)) 3) &&
    ((List.range nh).all fun i => i == a0 || i == e || (decide (i < a0) && (ancs ops a0).contains i && (ancs ops e).contains i) || (decide (a0 < i) && decide (i < e) && Region.waitsFor .any ops i a0 && (ancs ops e).contains i) || (decide (e < i) && Region.waitsFor .any ops i a0 && ((ops[i]?).map freeB).getD false))
theorem rep_get {k i : Nat} (h : i < k) : (List.replicate k 3)[i]? = some 3 := by
  rw [List.getElem?_replicate, if_pos h]
variable {H0 : Heap} {Q : Exit → Frame → Heap → Prop} {F : Frame}
theorem AWp_drawM_n {id : Nat} {l : List Oper} (a0 e nh : Nat) (csA csB csC : List Nat) (M : List Nat) (ks : Nat → List Nat) (hm : P.follows .mixedOrders = true) (hB : drawMB l.toArray a0 e nh csA csB csC = true)
    (h : vcA1 P n M H H .un (fun F1 => vcA2 P n M H (fun Ha F2 => vcA1 P n M Ha Ha .un (fun F3 => vcA2 P n M Ha (fun H1 F4 => vcA1 P n M H1 H1 .un (fun F5 => vcOps P n M l (l.drop nh) F5 H1 fun F6 H3 => Q .normal (canon (ks id) F6) H3) csC (l.drop (e + 1)) F4) (l.drop e) F3) csB (l.drop (a0 + 1)) F2) (l.drop a0) F1) csA l F) : AWp P n H0 (.region id l.toArray true) Q F H := by
  unfold AWp
  intro w0 σ0 w σ a hw hp hs hd
  simp only [drawMB, Bool.and_eq_true, decide_eq_true_eq] at hB
  obtain ⟨⟨⟨⟨⟨⟨⟨⟨⟨⟨⟨⟨⟨hlt, hae⟩, hen⟩, hwa⟩, hsk⟩, hc⟩, hb⟩, hds⟩, hlk⟩, hq⟩, rfl⟩, rfl⟩, rfl⟩, hpre⟩ := hB
  have hnl : nh < l.length := by simpa using hlt
  have hal : a0 < l.length := by omega
  have hel : e < l.length := by omega
  have hla : l[a0]? = some l[a0] := List.getElem?_eq_getElem hal
  have hle : l[e]? = some l[e] := List.getElem?_eq_getElem hel
  obtain ⟨vsA, _, hokA, FA, hTA, hFA⟩ := vcA1_run (F0 := F.get) (all := l) _ 0 l (fun _ => .top) F (fun i => by simp) (fun x => rfl) h
  simp only [Nat.zero_add, List.length_replicate, Nat.sub_zero] at hFA hokA
  rw [List.drop_eq_getElem_cons hal] at hTA
  obtain ⟨hga, hda, hA⟩ := hTA
  obtain ⟨va, Ha, hA1, hTB0⟩ := vcE_det hA
  let vsA' : Nat → V := fun i => if i = a0 then va else vsA i
  have sA : ∀ i, i ≤ a0 → ∀ x, gF F.get (fun i => (l[i]?).bind (·.dst)) vsA' always i x = gF F.get (fun i => (l[i]?).bind (·.dst)) vsA always i x := fun i hi x =>
    gF_same fun k hk _ => ⟨rfl, if_neg (by omega)⟩
  have hFA' : ∀ x, (FA.put l[a0].dst va).get x = gF F.get (fun i => (l[i]?).bind (·.dst)) vsA' always (a0 + 1) x := fun x => by
    rw [get_put, gF, sA a0 (Nat.le_refl _), hFA x]
    simp [always, hla, vsA']
  obtain ⟨vsB, hvB, hokB, FB, hTB, hFB⟩ := vcA1_run (F0 := F.get) (all := l) _ (a0 + 1) (l.drop (a0 + 1)) vsA' (FA.put l[a0].dst va) (fun i => by rw [List.getElem?_drop]) hFA' hTB0
  rw [List.length_replicate, show a0 + 1 + (e - (a0 + 1)) = e by omega] at hFB
  simp only [List.length_replicate, show a0 + 1 + (e - (a0 + 1)) = e by omega] at hokB
  rw [List.drop_eq_getElem_cons hel] at hTB
  obtain ⟨hge, hde, hE⟩ := hTB
  obtain ⟨ve, H1, hE1, hTC0⟩ := vcE_det hE
  let vsB' : Nat → V := fun i => if i = e then ve else vsB i
  have sB : ∀ i, i ≤ e → ∀ x, gF F.get (fun i => (l[i]?).bind (·.dst)) vsB' always i x = gF F.get (fun i => (l[i]?).bind (·.dst)) vsB always i x := fun i hi x =>
    gF_same fun k hk _ => ⟨rfl, if_neg (by omega)⟩
  have hFB' : ∀ x, (FB.put l[e].dst ve).get x = gF F.get (fun i => (l[i]?).bind (·.dst)) vsB' always (e + 1) x := fun x => by
    rw [get_put, gF, sB e (Nat.le_refl _), hFB x]
    simp [always, hle, vsB']
  obtain ⟨vs, hvC, hokC, FC, hTC, hFC⟩ := vcA1_run (F0 := F.get) (all := l) _ (e + 1) (l.drop (e + 1)) vsB' (FB.put l[e].dst ve) (fun i => by rw [List.getElem?_drop]) hFB' hTC0
  rw [List.length_replicate, show e + 1 + (nh - (e + 1)) = nh by omega] at hFC
  simp only [List.length_replicate, show e + 1 + (nh - (e + 1)) = nh by omega] at hokC
  have vB : ∀ i, i < e → vs i = vsB i := fun i hi => by rw [hvC i (by omega)]; exact if_neg (by omega)
  have vA : ∀ i, i < a0 → vs i = vsA i := fun i hi => by rw [vB i (by omega), hvB i (by omega)]; exact if_neg (by omega)
  have va0 : vs a0 = va := by rw [vB a0 hae, hvB a0 (by omega)]; exact if_pos rfl
  have ve0 : vs e = ve := by rw [hvC e (by omega)]; exact if_pos rfl
  have gA : ∀ i, i ≤ a0 → ∀ x, gF F.get (fun i => (l[i]?).bind (·.dst)) vs always i x = gF F.get (fun i => (l[i]?).bind (·.dst)) vsA always i x := fun i hi x =>
    gF_same fun k hk _ => ⟨rfl, vA k (by omega)⟩
  have gB : ∀ i, i ≤ e → ∀ x, gF F.get (fun i => (l[i]?).bind (·.dst)) vs always i x = gF F.get (fun i => (l[i]?).bind (·.dst)) vsB always i x := fun i hi x =>
    gF_same fun k hk _ => ⟨rfl, vB k (by omega)⟩
  refine wp_region_any hm ?_
  have hsd : Sat n w.drew H σ F a.tmps := hs.pres (Pres.drew w H σ) hs.ok.drew
  have hnf : ∀ (m j : Nat), (Array.replicate m false).getD j false = false := getD_replicate_false
  have key := draw_headA (P := P) (n := n) (H := H) (Ha := Ha) (H1 := H1) (M := M) (all := l) (nh := nh) (a0 := a0) (e := e) (vs := vs) (F0 := F.get) (w0 := w0) (H0 := H0) (σ0 := σ0)
    (Q' := fun e a' w' => ∃ F' H' σ', Q e F' H' ∧ Pres w0 H0 σ0 w' H' σ' ∧ Sat n w' H' σ' F' a'.tmps ∧ a'.defers = []) hlt hen (by omega) hwa hsk hc hb hds hlk hq
    (fun i hi hia hie => by
      have hall := List.all_eq_true.1 hpre i (List.mem_range.2 hi)
      simp only [Bool.or_eq_true, Bool.and_eq_true, beq_iff_eq, decide_eq_true_eq, List.contains_iff_mem] at hall
      rcases hall with (((h1 | h1) | ⟨⟨h1, h2⟩, h3⟩) | ⟨⟨⟨h1, h2⟩, h3⟩, h4⟩) | ⟨⟨h1, h2⟩, h3⟩
      · exact absurd h1 hia
      · exact absurd h1 hie
      · obtain ⟨o, ho, _, hh⟩ := hokA i (Nat.zero_le _) h1
        refine ⟨o, ho, fun F' hF' => ?_⟩
        obtain ⟨_, _, j3⟩ := hh F' fun x hx => by rw [hF' x hx, gA i (by omega)]
        rw [vA i h1]
        exact ⟨fun _ _ => j3 (rep_get h1), fun _ hn => absurd h2 hn, fun hn => absurd h3 hn⟩
      · obtain ⟨o, ho, _, hh⟩ := hokB i (by omega) h2
        refine ⟨o, ho, fun F' hF' => ?_⟩
        obtain ⟨_, _, j3⟩ := hh F' fun x hx => by rw [hF' x hx, gB i (by omega)]
        rw [vB i h2]
        exact ⟨fun hn _ => (by rw [h3] at hn; cases hn), fun _ _ => j3 (rep_get (by omega)), fun hn => absurd h4 hn⟩
      · obtain ⟨o, ho, _, hh⟩ := hokC i (by omega) hi
        refine ⟨o, ho, fun F' hF' => ?_⟩
        obtain ⟨_, _, j3⟩ := hh F' hF'
        have hf : freeB o = true := by simpa [ho] using h3
        have hO := j3 (rep_get (by omega))
        exact ⟨fun hn _ => (by rw [h2] at hn; cases hn), fun _ _ => hO.free hf, fun _ => hO⟩)
    ⟨l[a0], hla, hga, hda, fun F' hF' => by
      rw [va0]
      exact vcOp_congr (fun x hx => by
        rw [hF' x (by
          unfold Oper.looksAt
          exact List.mem_append_left _ (List.mem_filterMap.2 ⟨_, hx, rfl⟩)), gA a0 (Nat.le_refl _), hFA x]) hA1⟩
    ⟨l[e], hle, hge, hde, fun F' hF' => by
      rw [ve0]
      exact vcOp_congr (fun x hx => by
        rw [hF' x (by
          unfold Oper.looksAt
          exact List.mem_append_left _ (List.mem_filterMap.2 ⟨_, hx, rfl⟩)), gB e (Nat.le_refl _), hFB x]) hE1⟩
    (fun w1 σ1 a1 h1 h2 h3 => vcOps_wp (l.drop nh) FC H1 _ w1 σ1 a1 hTC (h1.toF fun x => .inr (hFC x)) h2 h3 fun F'' H'' w' σ' a' hk hs' hp' hd' =>
      ⟨_, H'', σ', hk, hp', hs'.canon _, hd'⟩)
    nh (Array.replicate l.toArray.size false) a w.drew σ
    ⟨by simp, fun j oj _ hl => (by rw [getD_replicate_false] at hl; cases hl), fun t _ ht => getD_in (by simpa using ht) (getD_replicate_false _ _)⟩
    (by
      have : (List.range nh).countP (fun i => !(Array.replicate l.toArray.size false).getD i false) = (List.range nh).length := List.countP_eq_length.2 fun i _ => by rw [hnf]; rfl
      rw [this, List.length_range])
    (by
      rw [hnf, hnf]
      exact ⟨hsd.ok, hsd.size, fun x => by
        have : gF F.get (fun i => (l[i]?).bind (·.dst)) vs (fun i => (Array.replicate l.toArray.size false).getD i false) nh x = F.get x :=
          gF_none (j := 0) (Nat.zero_le _) fun i _ _ _ => hnf _ _
        rw [this]
        exact hsd.slot x⟩)
    (by rw [hnf, hnf]; exact hp.trans (Pres.drew w H σ)) hd
  rw [show nh + (l.toArray.size - nh) = l.toArray.size by omega] at key
  exact key
theorem AWp_drawM {id : Nat} {l : List Oper} {R : Frame → Heap → Prop} (xm : Nat → Nat × Nat × Nat × List Nat × List Nat × List Nat) (M : List Nat) (ks : Nat → List Nat) (hx : Nat.ble 1 (xm id).2.1 = true) (hm : P.follows .mixedOrders = true) (hB : drawMB l.toArray (xm id).1 (xm id).2.1 (xm id).2.2.1 (xm id).2.2.2.1 (xm id).2.2.2.2.1 (xm id).2.2.2.2.2 = true) [ho : Nrm Q R]
    (h : ∀ Kv : Frame → Heap → Prop, (∀ F' H', R F' H' → Kv F' H') → vcA1 P n M H H .un (lk (fun F1 => vcA2 P n M H (lk (fun Ha F2 => vcA1 P n M Ha Ha .un (lk (fun F3 => vcA2 P n M Ha (lk (fun H1 F4 => vcA1 P n M H1 H1 .un (lk (fun F5 => vcOps P n M l (l.drop (xm id).2.2.1) F5 H1 fun F6 H3 => Kv (canon (ks id) F6) H3) .mk) (xm id).2.2.2.2.2 (l.drop ((xm id).2.1 + 1)) F4) .mk) (l.drop (xm id).2.1) F3) .mk) (xm id).2.2.2.2.1 (l.drop ((xm id).1 + 1)) F2) .mk) (l.drop (xm id).1) F1) .mk) (xm id).2.2.2.1 l F) : AWp P n H0 (.region id l.toArray true) Q F H :=
  AWp_drawM_n _ _ _ _ _ _ M ks hm hB (h _ fun F' H' hr => ho.spec F' H' hr)
end
end Go.Proofs.YtpgdflhcmijaiaaDoor.Ab
