/- Small rules for walks over the abstract reading. No condition. -/
import Derived.Test.YtmhabdopcbokoaaDoorR12
set_option linter.all false
set_option linter.unusedSimpArgs false
set_option linter.unusedVariables false
namespace Go.Proofs.YtmhabdopcbokoaaDoor.Ab
open Go
variable [Glo]
theorem closed_self (H : Heap) : Closed H H := fun _ _ _ _ _ h => .inl h
theorem keepK {H : Heap} {v v' : V} {K : V → Heap → Prop} (hk : K v' H) (hb : Bel H.length v') (e : v = v') : RetK H K v H :=
  ⟨H, [], v', by simp, Nat.le_refl _, closed_self H, e ▸ .same _, hb, hk⟩
theorem keepD {H : Heap} {v : V} {x : D} {K : V → Heap → Prop} (hk : K (.d x) H) (e : v = .d x) : RetK H K v H := keepK hk (.d x) e
theorem ACalls_still {P : Program} {f : Nat} {vs : List V} {H : Heap} {K : V → Heap → Prop} (v : V) (hk : K v H)
    (h : ∀ (w : World) (σ : Conc) (args : Array Value), vs.length = args.size → (∀ (j : Nat) (v : V) (u : Value), vs[j]? = some v → args[j]? = some u → VRel w (Own H σ) H σ v u) →
      ∃ val, VRel w (Own H σ) H σ v val ∧ Calls P f args w fun e w' => e = .returned val ∧ w' = w) : ACalls P f vs H K := by
  unfold ACalls
  intro w σ args hw hl hr
  obtain ⟨val, hv, hc⟩ := h w σ args hl hr
  refine hc.mono ?_
  rintro e w' ⟨rfl, rfl⟩
  exact ⟨val, v, H, σ, rfl, hk, hv, hw, Pres.refl _ _ _⟩
theorem ACalls_below {P : Program} {f : Nat} {vs : List V} {H : Heap} {K : V → Heap → Prop} (v : V) (hk : K v H)
    (h : ∀ (w : World) (σ : Conc) (args : Array Value), WOk w H σ → vs.length = args.size → (∀ (j : Nat) (v : V) (u : Value), vs[j]? = some v → args[j]? = some u → VRel w (Own H σ) H σ v u) →
      ∃ val, (∀ w', Pres w H σ w' H σ → VRel w' (Own H σ) H σ v val) ∧ Calls P f args w fun e w' => e = .returned val ∧ RowKit.Below w.heap.size w w') : ACalls P f vs H K := by
  unfold ACalls
  intro w σ args hw hl hr
  obtain ⟨val, hv, hc⟩ := h w σ args hw hl hr
  refine hc.mono ?_
  rintro e w' ⟨rfl, hb⟩
  have p : Pres w H σ w' H σ := ⟨hb.os, hb.tape, hb.output, hb.size, fun b hb' _ => hb.block b hb', fun _ _ h => h, Nat.le_refl _, fun _ v e sz rows _ h => ⟨v, e, sz, rows, h, Nat.le_refl _, fun _ => ⟨rfl, rfl, rfl⟩⟩⟩
  exact ⟨val, v, H, σ, rfl, hk, hv w' p, hw.same p fun b ho => hb.block b (hw.lt ho), p⟩
theorem all_get0 {α : Type} (x : α) (xs : List α) (Q : α → Prop) : (∀ r, (x :: xs)[0]? = some r → Q r) = Q x := by
  apply propext
  constructor
  · intro h; exact h x rfl
  · intro h r hr; cases hr; exact h
theorem map_all {α β : Type} (f : α → β) (xs : List α) (i : Nat) (Q : β → Prop) : (∀ row, (xs.map f)[i]? = some row → Q row) = (∀ x, xs[i]? = some x → Q (f x)) := by
  apply propext
  constructor
  · intro h x hx
    exact h _ (by rw [List.getElem?_map, hx]; rfl)
  · intro h row hr
    rw [List.getElem?_map] at hr
    cases hx : xs[i]? with
    | none => rw [hx] at hr; cases hr
    | some x =>
      rw [hx] at hr
      obtain rfl : f x = row := by simpa using hr
      exact h x hx
theorem drop_of_get {α : Type} {l : List α} {i : Nat} {c : α} (h : l[i]? = some c) : l.drop i = c :: l.drop (i + 1) := by
  have hi : i < l.length := (List.getElem?_eq_some_iff.1 h).1
  rw [List.drop_eq_getElem_cons hi]
  rw [List.getElem?_eq_getElem hi] at h
  rw [Option.some.inj h]
theorem take_of_get {α : Type} {l : List α} {i : Nat} {c : α} (h : l[i]? = some c) : l.take (i + 1) = l.take i ++ [c] := by
  rw [List.take_succ, h]; rfl
theorem all_drop {α : Type} (p : α → Bool) {l : List α} {i : Nat} {c : α} (h : l[i]? = some c) : (l.drop i).all p = (p c && (l.drop (i + 1)).all p) := by
  rw [drop_of_get h, List.all_cons]
theorem lt_of_get {α : Type} {l : List α} {i : Nat} {c : α} (h : l[i]? = some c) : i < l.length := (List.getElem?_eq_some_iff.1 h).1
def intRow (x : Int) : List D := [.i .i64 x]
def intCells (x : Int) : List V := [.d (.i .i64 x)]
def strRow (x : List UInt8) : List D := [.s x]
theorem get_app0 (H G : Heap) : (H ++ G)[H.length]? = G[0]? := by rw [List.getElem?_append_right (Nat.le_refl _), Nat.sub_self]
theorem get_appk (H G : Heap) (k : Nat) : (H ++ G)[H.length + k]? = G[k]? := by rw [List.getElem?_append_right (by omega), Nat.add_sub_cancel_left]
theorem set_app0 (H G : Heap) (x : Ob) : (H ++ G).set H.length x = H ++ G.set 0 x := by rw [List.set_append_right _ _ (Nat.le_refl _), Nat.sub_self]
theorem set_appk (H G : Heap) (k : Nat) (x : Ob) : (H ++ G).set (H.length + k) x = H ++ G.set k x := by rw [List.set_append_right _ _ (by omega), Nat.add_sub_cancel_left]
def Sub (m : Nat) (F F' : Frame) : Prop := ∀ p, p ∈ F' → F.get p.1 = p.2 ∧ Bel m p.2
theorem Sub_nil (m : Nat) (F : Frame) : Sub m F [] = True := eq_true fun _ h => by cases h
theorem Sub_cons (m : Nat) (F F' : Frame) (x : Nat) (v : V) : Sub m F ((x, v) :: F') = (F.get x = v ∧ Bel m v ∧ Sub m F F') := by
  apply propext
  constructor
  · intro h
    have := h (x, v) (by simp)
    exact ⟨this.1, this.2, fun p hp => h p (by simp [hp])⟩
  · rintro ⟨h1, h2, h3⟩ p hp
    rcases List.mem_cons.1 hp with rfl | hp
    · exact ⟨h1, h2⟩
    · exact h3 p hp
theorem Sub.ent {m : Nat} {F F' : Frame} (h : Sub m F F') (x : Nat) : F'.get x = .top ∨ F'.get x = F.get x ∧ Bel m (F'.get x) := by
  unfold Frame.get
  cases hx : F'.lookup x with
  | none => exact .inl rfl
  | some v =>
    refine .inr ?_
    have : (x, v) ∈ F' := by
      clear h
      induction F' with
      | nil => cases hx
      | cons p F' ih =>
        obtain ⟨k, u⟩ := p
        rw [List.lookup_cons] at hx
        split at hx
        · rename_i hk
          have : x = k := by simpa using hk
          cases hx
          simp [this]
        · exact List.mem_cons_of_mem _ (ih hx)
    have := h _ this
    simp only [Frame.get] at this
    exact ⟨this.1.symm, this.2⟩
section
variable {P : Program} {n : Nat} {dfs : List Deferred} {H0 H : Heap} {Q : Exit → Frame → Heap → Prop} {F : Frame}
theorem AWp_while {c : Code} {ι : Type} (I : ι → Prop) (Fr : ι → Frame) (μ : ι → Nat) (i0 : ι) (h0 : I i0) (hs : Sub H.length F (Fr i0)) (hl : H0.length ≤ H.length) (hc : Closed H0 H)
    (hr : ∀ i, I i → AWp P n dfs H0 c (thenA (fun F' H' => H' = H ∧ ∃ i', I i' ∧ μ i' < μ i ∧ Sub H.length F' (Fr i')) Q) (Fr i) H) : AWp P n dfs H0 (.loop c) Q F H := by
  refine AWp_loop I Fr (fun _ => H) μ i0 h0 ⟨⟨[], by simp⟩, hl, hc, hs.ent⟩ fun i hi => (hr i hi).mono fun e F' H' h => ?_
  cases e with
  | normal =>
    obtain ⟨rfl, i', h1, h2, h3⟩ := h
    exact ⟨i', h1, ⟨⟨[], by simp⟩, hl, hc, h3.ent⟩, h2⟩
  | _ => exact h
def ObBel (m : Nat) : Ob → Prop
  | .dead => True
  | .row _ _ _ rows => ∀ row, row ∈ rows → ∀ v, v ∈ row → Bel m v
theorem closed_app {H G : Heap} (h : ∀ ob, ob ∈ G → ObBel (H ++ G).length ob) : Closed H (H ++ G) := by
  intro id ver e sz rows hr
  by_cases hid : id < H.length
  · rw [List.getElem?_append_left hid] at hr
    exact .inl hr
  · rw [List.getElem?_append_right (by omega)] at hr
    exact .inr (h _ (List.mem_of_getElem? hr))
def rpl (r : Nat) (ds : List D) (F : Frame) : Frame := F.map fun p => (p.1, if p.1 = r then .rp ds else p.2)
theorem rpl_nil (r : Nat) (ds : List D) : rpl r ds [] = [] := rfl
theorem rpl_cons (r : Nat) (ds : List D) (x : Nat) (v : V) (F : Frame) : rpl r ds ((x, v) :: F) = (x, if x = r then .rp ds else v) :: rpl r ds F := rfl
theorem rpl_get (r : Nat) (ds : List D) (F : Frame) (x : Nat) : (rpl r ds F).get x = if x = r ∧ (F.lookup x).isSome = true then .rp ds else F.get x := by
  unfold Frame.get rpl
  induction F with
  | nil => simp
  | cons p F ih =>
    obtain ⟨k, u⟩ := p
    rw [List.map_cons, List.lookup_cons, List.lookup_cons]
    by_cases h : (x == k) = true
    · rw [h]
      obtain rfl : x = k := by simpa using h
      simp only [Option.getD_some, Option.isSome_some, and_true]
    · have h : (x == k) = false := by simpa using h
      rw [h]
      exact ih
def othB (m r : Nat) : Frame → Prop
  | [] => True
  | p :: F => (p.1 = r ∨ Bel m p.2) ∧ othB m r F
theorem othB_nil (m r : Nat) : othB m r [] = True := rfl
theorem othB_cons (m r x : Nat) (v : V) (F : Frame) : othB m r ((x, v) :: F) = ((x = r ∨ Bel m v) ∧ othB m r F) := rfl
theorem othB_get {m r : Nat} : ∀ {F : Frame}, othB m r F → ∀ x, x ≠ r → F.get x = .top ∨ Bel m (F.get x)
  | [], _, x, _ => .inl rfl
  | (k, u) :: F, h, x, hx => by
    rw [get_cons]
    by_cases e : x = k
    · subst e
      rw [if_pos rfl]
      exact .inr (h.1.resolve_left hx)
    · rw [if_neg e]
      exact othB_get h.2 x hx
def roP (r : Nat) (F : Frame) (v : V) (H0 H : Heap) (K : Frame → Heap → Prop) : Prop :=
  ∃ (H1 : Heap) (ver e sz : Nat) (cells : List V), H = H1 ++ [Ob.row ver e sz [cells]] ∧ v = .pt H1.length ver 0 0 ∧ H0.length ≤ H1.length ∧ Closed H0 H1 ∧ othB H1.length r F ∧ (match dsOf cells with | some ds => K (rpl r ds F) H1 | none => False)
def roK (H0 : Heap) : List Nat → Frame → Heap → (Frame → Heap → Prop) → Prop
  | [], F, H, K => K F H
  | r :: rs, F, H, K => roP r F (F.get r) H0 H (lk (fun F' H' => roK H0 rs F' H' K) .mk)
theorem roP_gen (r : Nat) (F : Frame) (H0 H1 : Heap) (ver e sz : Nat) (cells : List V) (K : Frame → Heap → Prop) : roP r F (.pt H1.length ver 0 0) H0 (H1 ++ [Ob.row ver e sz [cells]]) K =
    (H0.length ≤ H1.length ∧ Closed H0 H1 ∧ othB H1.length r F ∧ (match dsOf cells with | some ds => K (rpl r ds F) H1 | none => False)) := by
  apply propext
  constructor
  · rintro ⟨H2, ver', e', sz', cells', h1, h2, h3, h4, h5, h6⟩
    obtain ⟨rfl, h7⟩ := List.append_inj' h1 rfl
    cases h7
    exact ⟨h3, h4, h5, h6⟩
  · rintro ⟨h3, h4, h5, h6⟩
    exact ⟨H1, ver, e, sz, cells, rfl, rfl, h3, h4, h5, h6⟩
theorem roP_0 (r : Nat) (F : Frame) (H : Heap) (ver e sz : Nat) (cells : List V) (K : Frame → Heap → Prop) : roP r F (.pt H.length ver 0 0) H (H ++ [Ob.row ver e sz [cells]]) K =
    (othB H.length r F ∧ (match dsOf cells with | some ds => K (rpl r ds F) H | none => False)) := by
  rw [roP_gen]; simp [closed_self]
theorem roP_1 (r : Nat) (F : Frame) (H : Heap) (a : Ob) (ver e sz : Nat) (cells : List V) (K : Frame → Heap → Prop) : roP r F (.pt (H.length + 1) ver 0 0) H (H ++ [a, Ob.row ver e sz [cells]]) K =
    (Closed H (H ++ [a]) ∧ othB (H.length + 1) r F ∧ (match dsOf cells with | some ds => K (rpl r ds F) (H ++ [a]) | none => False)) := by
  have := roP_gen r F H (H ++ [a]) ver e sz cells K
  simp only [List.length_append, List.length_cons, List.length_nil, Nat.zero_add, List.append_assoc, List.cons_append, List.nil_append] at this
  rw [this]; simp
theorem roP_2 (r : Nat) (F : Frame) (H : Heap) (a b : Ob) (ver e sz : Nat) (cells : List V) (K : Frame → Heap → Prop) : roP r F (.pt (H.length + 2) ver 0 0) H (H ++ [a, b, Ob.row ver e sz [cells]]) K =
    (Closed H (H ++ [a, b]) ∧ othB (H.length + 2) r F ∧ (match dsOf cells with | some ds => K (rpl r ds F) (H ++ [a, b]) | none => False)) := by
  have := roP_gen r F H (H ++ [a, b]) ver e sz cells K
  simp only [List.length_append, List.length_cons, List.length_nil, Nat.zero_add, Nat.reduceAdd, List.append_assoc, List.cons_append, List.nil_append] at this
  rw [this]; simp
theorem roP_3 (r : Nat) (F : Frame) (H : Heap) (a b c : Ob) (ver e sz : Nat) (cells : List V) (K : Frame → Heap → Prop) : roP r F (.pt (H.length + 3) ver 0 0) H (H ++ [a, b, c, Ob.row ver e sz [cells]]) K =
    (Closed H (H ++ [a, b, c]) ∧ othB (H.length + 3) r F ∧ (match dsOf cells with | some ds => K (rpl r ds F) (H ++ [a, b, c]) | none => False)) := by
  have := roP_gen r F H (H ++ [a, b, c]) ver e sz cells K
  simp only [List.length_append, List.length_cons, List.length_nil, Nat.zero_add, Nat.reduceAdd, List.append_assoc, List.cons_append, List.nil_append] at this
  rw [this]; simp
def filt (r : Nat) (F : Frame) : Frame := List.filter (fun p => decide (p.1 ≠ r)) F
theorem filt_get_self (r : Nat) : ∀ (F : Frame), (filt r F).get r = .top
  | [] => rfl
  | (k, u) :: F => by
    unfold filt
    rw [List.filter_cons]
    by_cases h : k = r
    · rw [if_neg (by simpa using h)]
      exact filt_get_self r F
    · rw [if_pos (by simpa using h)]
      have := get_cons k u (filt r F) r
      rw [if_neg (fun e => h e.symm)] at this
      exact this.trans (filt_get_self r F)
theorem filt_get (r : Nat) : ∀ (F : Frame) (x : Nat), x ≠ r → (filt r F).get x = F.get x
  | [], x, _ => rfl
  | (k, u) :: F, x, hx => by
    have ih := filt_get r F x hx
    unfold filt at ih ⊢
    rw [List.filter_cons, get_cons]
    by_cases h : k = r
    · rw [if_neg (by simpa using h), if_neg (fun e => hx (e.trans h))]
      exact ih
    · rw [if_pos (by simpa using h), get_cons, ih]
theorem AWp_ro {c : Code} {v : V} (r : Nat) (hv : F.get r = v) (h : roP r F v H0 H fun F' H' => AWp P n dfs H0 c Q F' H') : AWp P n dfs H0 c Q F H := by
  obtain ⟨H1, ver, e, sz, cells, rfl, rfl, hl, hc, ho, hm⟩ := h
  split at hm
  case h_2 => exact hm.elim
  rename_i ds hds
  unfold AWp at hm ⊢
  intro w0 σ0 w σ a hw hp hs hd
  -- what the slot shows to
  have hrow : (H1 ++ [Ob.row ver e sz [cells]])[H1.length]? = some (Ob.row ver e sz [cells]) := by simp
  have hslot := hs.slot r
  rw [hv] at hslot
  have hnz := hslot.nz_pt hrow
  obtain ⟨_, hval⟩ := hslot.inv_pt hrow
  obtain ⟨g, cap, hg, hval⟩ := hval rfl
  obtain ⟨hp', hs'⟩ := cut_state (F' := filt r F) hw hp hs hl hc (fun x => by
    by_cases hx : x = r
    · subst hx
      exact .inl (filt_get_self _ _)
    · rw [filt_get _ _ _ hx]
      rcases othB_get ho x hx with h | h
      · exact .inl h
      · exact .inr ⟨rfl, h⟩)
  refine hm w0 σ0 w σ a hw hp' ⟨hs'.ok, hs'.size, fun x => ?_⟩ hd
  rw [rpl_get]
  by_cases hx : x = r
  · subst hx
    rw [if_pos ⟨rfl, by
      cases hl : F.lookup x with
      | some _ => rfl
      | none => unfold Frame.get at hv; rw [hl] at hv; cases hv⟩, hval]
    -- the cells
    rcases hs.ok.objs hrow hnz with ⟨⟨_, hn⟩, _⟩ | ⟨g', cap', cur, hg', hh, _, _, _, hlen, hcell⟩
    · rw [hn] at hg; cases hg
    · rw [hg'] at hg
      cases hg
      obtain rfl := dsOf_eq hds
      have hno : ¬ Own H1 σ g := by
        rintro ⟨id', v', e', s', r', c', h1, h2⟩
        have hlt := (List.getElem?_eq_some_iff.1 h1).1
        have := hs.ok.inj _ _ _ _ _ _ _ _ _ _ _ _ _ hrow (by rw [List.getElem?_append_left hlt]; exact h1) hg' h2
        omega
      refine .rp ds g (0 * sz + 0) (fun j => (cur[j]?).getD undef) (Array.getElem?_eq_some_iff.1 hh).1 hno (fun j x hx => ?_) (fun j x hx => ?_)
      · obtain ⟨cv, h1, _, _⟩ := hcell 0 j _ (.d x) rfl (by rw [List.getElem?_map, hx]; rfl)
        rw [cell_of_row w g _ cur e (0, 0) hh]
        simp only [Nat.zero_mul, Nat.zero_add] at h1 ⊢
        rw [h1]; rfl
      · obtain ⟨cv, h1, _, h2⟩ := hcell 0 j _ (.d x) rfl (by rw [List.getElem?_map, hx]; rfl)
        simp only [Nat.zero_mul, Nat.zero_add] at h1
        simp only [h1, Option.getD_some]
        exact h2.inv_d.mono (Nat.le_refl _) (fun _ _ _ => rfl) (fun b _ hb => own_app b hb)
  · rw [if_neg (fun h => hx h.1)]
    rcases othB_get ho x hx with h | h
    · rw [h]; exact .top _
    · exact cut_rel (hs.slot x) h
theorem AWp_nop {c : Code} (h : AWp P n dfs H0 c Q F H) : AWp P n dfs H0 c Q F H := h
theorem AWp_rok {c : Code} : ∀ (rs : List Nat) {F : Frame} {H : Heap}, roK H0 rs F H (fun F' H' => AWp P n dfs H0 c Q F' H') → AWp P n dfs H0 c Q F H
  | [], F, H, h => h
  | r :: rs, F, H, h => AWp_ro r rfl (by
      obtain ⟨H1, ver, e, sz, cells, h1, h2, h3, h4, h5, h6⟩ := h
      refine ⟨H1, ver, e, sz, cells, h1, h2, h3, h4, h5, ?_⟩
      split at h6
      · exact AWp_rok rs h6
      · exact h6)
theorem AWp_regro {id : Nat} {l : List Oper} {y : Code} {Q1 Q2 : Exit → Frame → Heap → Prop} (M : List Nat) (ks ro : Nat → List Nat)
    (h : ∀ Kv : Frame → Heap → Prop, (∀ F' H', AWp P n dfs H0 y Q1 F' H' → Kv F' H') → vcOps P n M l l F H fun F' H' => roK H0 (ro id) (canon (ks id) F') H' Kv) :
    AWp P n dfs H0 (.region id l.toArray false) (thenA (fun F' H' => AWp P n dfs H0 y Q1 F' H') Q2) F H := by
  have := AWp_reg (P := P) (n := n) (dfs := dfs) (H0 := H0) (F := F) (H := H) (id := id) (l := l) (Q := fun e F' H' => match e with | .normal => roK H0 (ro id) F' H' fun F'' H'' => AWp P n dfs H0 y Q1 F'' H'' | _ => False) M ks (h _ fun _ _ h => h)
  refine this.mono fun e F' H' hq => ?_
  cases e with
  | normal => exact AWp_rok _ hq
  | _ => exact hq.elim
theorem dropK {H G : Heap} {v v' : V} {K : V → Heap → Prop} (hk : K v' H) (hb : Bel H.length v') (e : v = v') : RetK H K v (H ++ G) :=
  ⟨H, G, v', rfl, Nat.le_refl _, closed_self H, e ▸ .same _, hb, hk⟩
theorem dropD {H G : Heap} {v : V} {x : D} {K : V → Heap → Prop} (hk : K (.d x) H) (e : v = .d x) : RetK H K v (H ++ G) := dropK hk (.d x) e
theorem dropF {H G : Heap} {v v' : V} {K : V → Heap → Prop} (hk : K v' H) (hf : Fz H.length (H ++ G) v v') (hb : Bel H.length v') : RetK H K v (H ++ G) :=
  ⟨H, G, v', rfl, Nat.le_refl _, closed_self H, hf, hb, hk⟩
theorem AWp_while0 {c : Code} {ι : Type} (I : ι → Prop) (Fr : ι → Frame) (μ : ι → Nat) (i0 : ι) (h0 : I i0) (hs : Sub H.length F (Fr i0))
    (hr : ∀ i, I i → AWp P n dfs H c (thenA (fun F' H' => H' = H ∧ ∃ i', I i' ∧ μ i' < μ i ∧ Sub H.length F' (Fr i')) Q) (Fr i) H) : AWp P n dfs H (.loop c) Q F H :=
  AWp_while I Fr μ i0 h0 hs (Nat.le_refl _) (closed_self H) hr
end
end Go.Proofs.YtmhabdopcbokoaaDoor.Ab
namespace Go.Proofs.YtmhabdopcbokoaaDoor.Ab
open Go
variable [Glo]
theorem ops_nil {P : Program} {n : Nat} {M : List Nat} {all rest : List Oper} {d : Option Tmp} {ty : TypeId} {ps : String} {af : Array Edge} {g : Option (Nat × Bool)} {F : Frame} {H : Heap} {K : Frame → Heap → Prop} : vcOps P n M all [] F H K = K F H := Eq.trans rfl rfl
theorem ops_cons {P : Program} {n : Nat} {M : List Nat} {all rest : List Oper} {d : Option Tmp} {ty : TypeId} {ps : String} {af : Array Edge} {g : Option (Nat × Bool)} {F : Frame} {H : Heap} {op : Op} {K : Frame → Heap → Prop} : vcOps P n M all (⟨d, op, ty, ps, af, none⟩ :: rest) F H K = (dstOk n d ∧ vcOp P M ⟨d, op, ty, ps, af, none⟩ F H fun v H1 => vcOps P n M all rest (F.put d v) H1 K) := Eq.trans rfl rfl
theorem dst_some {n x : Nat} : dstOk n (some x) = (x < n) := Eq.trans rfl rfl
theorem dst_none {n : Nat} : dstOk n none = True := Eq.trans rfl rfl
theorem put_one {F : Frame} {x : Nat} {v : V} : Frame.put F (some x) v = (x, v) :: F := Eq.trans rfl rfl
theorem put_no {F : Frame} {v : V} : Frame.put F none v = F := Eq.trans rfl rfl
theorem ev_tmp {F : Frame} {t : Nat} : ev F (.tmp t) = F.get t := Eq.trans rfl rfl
theorem ev_func {F : Frame} {t : Nat} : ev F (.func t) = .fn t [] := Eq.trans rfl rfl
theorem ev_int {F : Frame} {k : IntKind} {n : Int} : ev F (.const (.int k n)) = .d (.i k n) := Eq.trans rfl rfl
theorem ev_bool {F : Frame} {n : Bool} : ev F (.const (.bool n)) = .d (.b n) := Eq.trans rfl rfl
theorem ev_string {F : Frame} {s : ByteArray} : ev F (.const (.string s)) = .d (.s s.data.toList) := Eq.trans rfl rfl
theorem ev_nilslice {F : Frame} {a : Option Addr} {n m : Nat} : ev F (.const (.slice a n m)) = .d (.c (.slice a n m)) := Eq.trans rfl rfl
theorem op_move {P : Program} {n : Nat} {M : List Nat} {all rest : List Oper} {d : Option Tmp} {ty : TypeId} {ps : String} {af : Array Edge} {g : Option (Nat × Bool)} {F : Frame} {H : Heap} {x : Operand} {K : V → Heap → Prop} : vcOp P M ⟨d, .move x, ty, ps, af, g⟩ F H K = (K (ev F x) H) := Eq.trans rfl rfl
theorem op_assign {P : Program} {n : Nat} {M : List Nat} {all rest : List Oper} {d : Option Tmp} {ty : TypeId} {ps : String} {af : Array Edge} {g : Option (Nat × Bool)} {F : Frame} {H : Heap} {x : Operand} {K : V → Heap → Prop} : vcOp P M ⟨d, .assign x, ty, ps, af, g⟩ F H K = (vcAssign P (match d with | some d => M.contains d | none => false) ty (ev F x) H K) := Eq.trans rfl rfl
theorem assign_no {P : Program} {t : TypeId} {v : V} {H : Heap} {K : V → Heap → Prop} : vcAssign P false t v H K = K v H := by unfold vcAssign; split <;> simp_all
theorem op_bin {P : Program} {n : Nat} {M : List Nat} {all rest : List Oper} {d : Option Tmp} {ty : TypeId} {ps : String} {af : Array Edge} {g : Option (Nat × Bool)} {F : Frame} {H : Heap} {op : BinOp} {t u : TypeId} {x y : Operand} {K : V → Heap → Prop} : vcOp P M ⟨d, .binOp op t x y u, ty, ps, af, g⟩ F H K = (match (match d with | some d => M.contains d | none => false) with | true => vcBinW op (ev F x) (ev F y) fun v => K v H | false => vcBinN P op t (ev F x) (ev F y) H fun v => K v H) := Eq.trans rfl rfl
theorem binN_d {P : Program} {op : BinOp} {t : TypeId} {x : D} {y : V} {H : Heap} {K : V → Prop} : vcBinN P op t (.d x) y H K = vcBin P op t (.d x) y K := Eq.trans rfl rfl
theorem binN_ag {P : Program} {op : BinOp} {t : TypeId} {x : List V} {y : V} {H : Heap} {K : V → Prop} : vcBinN P op t (.ag x) y H K = vcBin P op t (.ag x) y K := Eq.trans rfl rfl
theorem binN_em {P : Program} {op : BinOp} {t : TypeId} {y : V} {H : Heap} {K : V → Prop} : vcBinN P op t .em y H K = vcBin P op t .em y K := Eq.trans rfl rfl
theorem op_un {P : Program} {n : Nat} {M : List Nat} {all rest : List Oper} {d : Option Tmp} {ty : TypeId} {ps : String} {af : Array Edge} {g : Option (Nat × Bool)} {F : Frame} {H : Heap} {op : UnOp} {t : TypeId} {x : Operand} {K : V → Heap → Prop} : vcOp P M ⟨d, .unOp op t x, ty, ps, af, g⟩ F H K = (vcUn op (ev F x) fun v => K v H) := Eq.trans rfl rfl
theorem op_conv {P : Program} {n : Nat} {M : List Nat} {all rest : List Oper} {d : Option Tmp} {ty : TypeId} {ps : String} {af : Array Edge} {g : Option (Nat × Bool)} {F : Frame} {H : Heap} {s t : TypeId} {x : Operand} {K : V → Heap → Prop} : vcOp P M ⟨d, .convert s t x, ty, ps, af, g⟩ F H K = ((P.underlying s).isSome = true ∧ vcConv P s t (ev F x) fun v => K v H) := Eq.trans rfl rfl
theorem op_load {P : Program} {n : Nat} {M : List Nat} {all rest : List Oper} {d : Option Tmp} {ty : TypeId} {ps : String} {af : Array Edge} {g : Option (Nat × Bool)} {F : Frame} {H : Heap} {t : TypeId} {a : Operand} {K : V → Heap → Prop} : vcOp P M ⟨d, .load t a, ty, ps, af, g⟩ F H K = (vcLoad P t (ev F a) H fun v => K v H) := Eq.trans rfl rfl
theorem op_store {P : Program} {n : Nat} {M : List Nat} {all rest : List Oper} {d : Option Tmp} {ty : TypeId} {ps : String} {af : Array Edge} {g : Option (Nat × Bool)} {F : Frame} {H : Heap} {t : TypeId} {a x : Operand} {K : V → Heap → Prop} : vcOp P M ⟨d, .store t a x, ty, ps, af, g⟩ F H K = (vcStore P t (ev F a) (ev F x) H K) := Eq.trans rfl rfl
theorem op_nil {P : Program} {n : Nat} {M : List Nat} {all rest : List Oper} {d : Option Tmp} {ty : TypeId} {ps : String} {af : Array Edge} {g : Option (Nat × Bool)} {F : Frame} {H : Heap} {x : Operand} {K : V → Heap → Prop} : vcOp P M ⟨d, .nilCheck x, ty, ps, af, g⟩ F H K = (vcNil (ev F x) H fun v => K v H) := Eq.trans rfl rfl
theorem op_faddr {P : Program} {n : Nat} {M : List Nat} {all rest : List Oper} {d : Option Tmp} {ty : TypeId} {ps : String} {af : Array Edge} {g : Option (Nat × Bool)} {F : Frame} {H : Heap} {t : TypeId} {x : Operand} {f : Nat} {K : V → Heap → Prop} : vcOp P M ⟨d, .fieldAddr t x f, ty, ps, af, g⟩ F H K = (vcFAddr P t (ev F x) f H fun v => K v H) := Eq.trans rfl rfl
theorem op_field {P : Program} {n : Nat} {M : List Nat} {all rest : List Oper} {d : Option Tmp} {ty : TypeId} {ps : String} {af : Array Edge} {g : Option (Nat × Bool)} {F : Frame} {H : Heap} {t : TypeId} {x : Operand} {f : Nat} {K : V → Heap → Prop} : vcOp P M ⟨d, .field t x f, ty, ps, af, g⟩ F H K = (vcField P t (ev F x) f fun v => K v H) := Eq.trans rfl rfl
theorem op_iaddr {P : Program} {n : Nat} {M : List Nat} {all rest : List Oper} {d : Option Tmp} {ty : TypeId} {ps : String} {af : Array Edge} {g : Option (Nat × Bool)} {F : Frame} {H : Heap} {t : TypeId} {x i : Operand} {K : V → Heap → Prop} : vcOp P M ⟨d, .indexAddr t x i, ty, ps, af, g⟩ F H K = (vcIAddr P t (ev F x) (ev F i) H fun v => K v H) := Eq.trans rfl rfl
theorem op_index {P : Program} {n : Nat} {M : List Nat} {all rest : List Oper} {d : Option Tmp} {ty : TypeId} {ps : String} {af : Array Edge} {g : Option (Nat × Bool)} {F : Frame} {H : Heap} {t : TypeId} {x i : Operand} {K : V → Heap → Prop} : vcOp P M ⟨d, .index t x i, ty, ps, af, g⟩ F H K = (vcIndex P t (ev F x) (ev F i) fun v => K v H) := Eq.trans rfl rfl
theorem op_extract {P : Program} {n : Nat} {M : List Nat} {all rest : List Oper} {d : Option Tmp} {ty : TypeId} {ps : String} {af : Array Edge} {g : Option (Nat × Bool)} {F : Frame} {H : Heap} {x : Operand} {i : Nat} {K : V → Heap → Prop} : vcOp P M ⟨d, .extract x i, ty, ps, af, g⟩ F H K = (vcExtract (ev F x) i fun v => K v H) := Eq.trans rfl rfl
theorem op_alloc {P : Program} {n : Nat} {M : List Nat} {all rest : List Oper} {d : Option Tmp} {ty : TypeId} {ps : String} {af : Array Edge} {g : Option (Nat × Bool)} {F : Frame} {H : Heap} {e : TypeId} {K : V → Heap → Prop} : vcOp P M ⟨d, .alloc e, ty, ps, af, g⟩ F H K = (vcAlloc P e H K) := Eq.trans rfl rfl
theorem op_build {P : Program} {n : Nat} {M : List Nat} {all rest : List Oper} {d : Option Tmp} {ty : TypeId} {ps : String} {af : Array Edge} {g : Option (Nat × Bool)} {F : Frame} {H : Heap} {t : TypeId} {parts : Array (Nat × Operand)} {K : V → Heap → Prop} : vcOp P M ⟨d, .build t parts, ty, ps, af, g⟩ F H K = (vcBuild P t (evP F parts.toList) H fun v => K v H) := Eq.trans rfl rfl
theorem op_bslice {P : Program} {n : Nat} {M : List Nat} {all rest : List Oper} {d : Option Tmp} {ty : TypeId} {ps : String} {af : Array Edge} {g : Option (Nat × Bool)} {F : Frame} {H : Heap} {t : TypeId} {len : Nat} {parts : Array (Nat × Operand)} {K : V → Heap → Prop} : vcOp P M ⟨d, .buildSlice t len parts, ty, ps, af, g⟩ F H K = (match (match d with | some d => M.contains d | none => false) with | true => vcBSliceO P t len (evP F parts.toList) H K | false => vcBSlice P t len (evP F parts.toList) fun v => K v H) := Eq.trans rfl rfl
theorem op_make {P : Program} {n : Nat} {M : List Nat} {all rest : List Oper} {d : Option Tmp} {ty : TypeId} {ps : String} {af : Array Edge} {g : Option (Nat × Bool)} {F : Frame} {H : Heap} {t : TypeId} {l c : Operand} {K : V → Heap → Prop} : vcOp P M ⟨d, .makeSlice t l c, ty, ps, af, g⟩ F H K = (vcMake P t (ev F l) (ev F c) H K) := Eq.trans rfl rfl
theorem bin_add {P : Program} {t : TypeId} {k j : IntKind} {a b : Int} {K : V → Prop} : vcBin P .add t (.d (.i k a)) (.d (.i j b)) K = (k = j ∧ inR k (a + b) ∧ K (.d (.i k (a + b)))) := Eq.trans rfl rfl
theorem bin_sub {P : Program} {t : TypeId} {k j : IntKind} {a b : Int} {K : V → Prop} : vcBin P .sub t (.d (.i k a)) (.d (.i j b)) K = (k = j ∧ inR k (a - b) ∧ K (.d (.i k (a - b)))) := Eq.trans rfl rfl
theorem bin_mul {P : Program} {t : TypeId} {k j : IntKind} {a b : Int} {K : V → Prop} : vcBin P .mul t (.d (.i k a)) (.d (.i j b)) K = (k = j ∧ inR k (a * b) ∧ K (.d (.i k (a * b)))) := Eq.trans rfl rfl
theorem bin_eql {P : Program} {t : TypeId} {k j : IntKind} {a b : Int} {K : V → Prop} : vcBin P .eql t (.d (.i k a)) (.d (.i j b)) K = (k = j ∧ K (.d (.b (decide (a = b))))) := Eq.trans rfl rfl
theorem bin_neq {P : Program} {t : TypeId} {k j : IntKind} {a b : Int} {K : V → Prop} : vcBin P .neq t (.d (.i k a)) (.d (.i j b)) K = (k = j ∧ K (.d (.b (!decide (a = b))))) := Eq.trans rfl rfl
theorem bin_lss {P : Program} {t : TypeId} {k j : IntKind} {a b : Int} {K : V → Prop} : vcBin P .lss t (.d (.i k a)) (.d (.i j b)) K = (k = j ∧ K (.d (.b (decide (a < b))))) := Eq.trans rfl rfl
theorem bin_leq {P : Program} {t : TypeId} {k j : IntKind} {a b : Int} {K : V → Prop} : vcBin P .leq t (.d (.i k a)) (.d (.i j b)) K = (k = j ∧ K (.d (.b (decide (a ≤ b))))) := Eq.trans rfl rfl
theorem bin_gtr {P : Program} {t : TypeId} {k j : IntKind} {a b : Int} {K : V → Prop} : vcBin P .gtr t (.d (.i k a)) (.d (.i j b)) K = (k = j ∧ K (.d (.b (decide (b < a))))) := Eq.trans rfl rfl
theorem bin_geq {P : Program} {t : TypeId} {k j : IntKind} {a b : Int} {K : V → Prop} : vcBin P .geq t (.d (.i k a)) (.d (.i j b)) K = (k = j ∧ K (.d (.b (decide (b ≤ a))))) := Eq.trans rfl rfl
theorem bins_eql {P : Program} {t : TypeId} {a b : List UInt8} {K : V → Prop} : vcBin P .eql t (.d (.s a)) (.d (.s b)) K = K (.d (.b (decide (a = b)))) := Eq.trans rfl rfl
theorem bins_neq {P : Program} {t : TypeId} {a b : List UInt8} {K : V → Prop} : vcBin P .neq t (.d (.s a)) (.d (.s b)) K = K (.d (.b (!decide (a = b)))) := Eq.trans rfl rfl
theorem bins_lss {P : Program} {t : TypeId} {a b : List UInt8} {K : V → Prop} : vcBin P .lss t (.d (.s a)) (.d (.s b)) K = K (.d (.b (Op.bytesLess a b))) := Eq.trans rfl rfl
theorem bins_add {P : Program} {t : TypeId} {a b : List UInt8} {K : V → Prop} : vcBin P .add t (.d (.s a)) (.d (.s b)) K = (a.length + b.length ≤ 9223372036854775807 ∧ K (.d (.s (a ++ b)))) := Eq.trans rfl rfl
theorem un_not {t : Bool} {K : V → Prop} : vcUn .not (.d (.b t)) K = K (.d (.b (!t))) := Eq.trans rfl rfl
theorem idx_s {P : Program} {t : TypeId} {l : List UInt8} {k : IntKind} {n : Int} {K : V → Prop} : vcIndex P t (.d (.s l)) (.d (.i k n)) K = (stB P t = true ∧ 0 ≤ n ∧ n < l.length ∧ ∀ c, l[n.toNat]? = some c → K (.d (.i .u8 c.toNat))) := Eq.trans rfl rfl
theorem load_rp {P : Program} {t : TypeId} {row : List D} {H : Heap} {K : V → Prop} : vcLoad P t (.rp row) H K = vcCells P t (row.map .d) K := Eq.trans rfl rfl
end Go.Proofs.YtmhabdopcbokoaaDoor.Ab
namespace Go.Proofs.YtmhabdopcbokoaaDoor.Ab
open Go
variable [Glo]
attribute [go_sem ↓] lk1 lk2 lk3 all_get0 map_all ops_nil ops_cons dst_some dst_none put_one put_no ev_tmp ev_func ev_int ev_bool ev_string ev_nilslice op_move op_assign assign_no op_bin binN_d binN_ag binN_em op_un op_conv op_load op_store op_nil op_faddr op_field op_iaddr op_index op_extract op_alloc op_build op_bslice op_make bin_add bin_sub bin_mul bin_eql bin_neq bin_lss bin_leq bin_gtr bin_geq bins_eql bins_neq bins_lss bins_add un_not idx_s load_rp onB_true onB_false onB_dec onB_ndec onB_not onB_and onB_or vcD vcQ vcOps vcOp fnPost vcRes vcResL vcRes1 thenA inBlockA vcBin vcBinN vcMakeMap vcLookup lkV mapK vcMapUp vcMapEnt vcEntSt keyOf kdOf vcBinW binD vcUn vcConv vcLoad vcCells vcStore vcNil vcFAddr vcField vcIAddr vcIndex vcSlice vcExtract vcLen vcMax vcAlloc vcBox vcBuild vcBSlice vcBSliceO vcAssign vcAppend vcAppN numOf_i numOf_s numOf_sl numOf_c numOf_os numOf_em numOf_vw vcTrunc vcMake vcBuiltin vcSData vcUStr bytesOf_map eqB get_cons get_nil roK roP_0 roP_1 roP_2 roP_3
attribute [go_sem ↓ high] onB_dT onB_dF onB_nT onB_nF
attribute [go_sem ↓ low] onB_kT onB_kF
attribute [go_sem] get_app0 get_appk set_app0 set_appk List.set_cons_zero List.set_cons_succ List.length_append List.append_assoc intRow intCells strRow List.length_map Int.toNat_natCast Sub_cons Sub_nil Bel_d Bel_top Bel_un Bel_rp Bel_em Bel_ab Bel_os Bel_pt Bel_sd Bel_mp Bel_mo Bel_fn List.isEmpty_cons List.isEmpty_nil V.d.injEq D.i.injEq D.b.injEq D.s.injEq dstOk ev evs evP Frame.put cV canon List.map_cons List.map_nil initF List.getD_cons_zero List.getD_cons_succ List.getD_nil if_true if_false true_and and_true bnd rpl_nil rpl_cons othB_nil othB_cons fillV cellsV okCell asD dsOf dsAll srcV srcOk dataOf isNil List.getElem?_cons_succ List.getElem?_cons_zero List.getElem?_nil Option.bind_some Option.map_some Option.map_none Option.some.injEq forall_eq' forall_eq Bool.not_true Bool.not_false forall_const false_implies true_implies decide_eq_true_eq decide_eq_false_iff_not Bool.false_eq_true List.drop_succ_cons List.drop_zero List.take_succ_cons List.take_zero List.drop_nil List.take_nil List.length_cons List.length_nil List.cons_append List.nil_append List.append_nil List.append_eq List.mem_cons List.not_mem_nil or_false false_or or_true true_or or_self forall_eq_or_imp List.contains_cons List.contains_nil Bool.or_false Bool.false_or Bool.true_or Bool.or_true Bool.or_self List.range_succ List.range_zero inR_i64 inR_u8 Array.toList Bool.not_eq_true' Bool.not_eq_false' Int.toNat_zero Int.toNat_one decide_true decide_false
end Go.Proofs.YtmhabdopcbokoaaDoor.Ab
