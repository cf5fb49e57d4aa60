/- The objects that a call owns: one is turned, a new one is made, one is given up. No condition. -/
import Derived.Test.YtmhabdopcbokoaaDoorR3
set_option linter.all false
set_option linter.unusedSimpArgs false
set_option linter.unusedVariables false
namespace Go.Proofs.YtmhabdopcbokoaaDoor.Ab
open Go
variable [Glo]
theorem outSame_setRow (w : World) (g : Nat) (cs : Array Value) : OutSame w (w.setRow g cs) := rfl
def Conc.put (σ : Conc) (id : Nat) (c : Co) : Conc := fun j => if j = id then c else σ j
def Lies (w : World) (o : Nat → Prop) (H : Heap) (σ : Conc) (c : Co) (w' : World) (e sz : Nat) (rows : List (List V)) : Prop :=
  ((∃ a, c = .no a) ∧ rows = []) ∨
    (∃ g cap cur, c = .blk g cap ∧ w'.heap[g]? = some (.cells cur e (0, 0)) ∧ rows.length ≤ cap ∧ cap ≤ maxLen ∧ cur.size = cap * sz ∧
      (∀ (i : Nat) (row : List V), rows[i]? = some row → row.length = sz) ∧
      (∀ (i j : Nat) (row : List V) (v : V), rows[i]? = some row → row[j]? = some v → ∃ cv, cur[i * sz + j]? = some cv ∧ cv.oneCell' = true ∧ VRel w o H σ v cv)) ∨
    MapAt w o H σ c w' sz rows
theorem Lies.pres {w w' w2 : World} {H H' : Heap} {σ σ' : Conc} {c : Co} {e sz : Nat} {rows : List (List V)} (h : Lies w (Own H σ) H σ c w2 e sz rows) (p : Pres w H σ w' H' σ') : Lies w' (Own H' σ') H' σ' c w2 e sz rows := by
  rcases h with h | ⟨g, cap, cur, h1, h2, h3, h4, h5, h6, h7⟩ | ⟨g, cap, es, clock, sh, ks, vs, h1, h2, h3, h4, h5, h6, h7⟩
  · exact .inl h
  rotate_left
  · exact .inr (.inr ⟨g, cap, es, clock, sh, ks, vs, h1, h2, h3, h4, h5, h6, h7.pres p⟩)
  · refine .inr <| .inl ⟨g, cap, cur, h1, h2, h3, h4, h5, h6, fun i j row v hi hj => ?_⟩
    obtain ⟨cv, a, b, c⟩ := h7 i j row v hi hj
    exact ⟨cv, a, b, c.pres p⟩
theorem WOk.lies {w : World} {H : Heap} {σ : Conc} (h : WOk w H σ) {id ver e sz : Nat} {rows : List (List V)} (hr : H[id]? = some (.row ver e sz rows)) : Lies w (Own H σ) H σ (σ id) w e sz rows := h.obj id ver e sz rows hr
theorem WOk.lies2 {w : World} {H : Heap} {σ : Conc} (h : WOk w H σ) {id ver e sz : Nat} {rows : List (List V)} (hr : H[id]? = some (.row ver e sz rows)) (hz : sz ≠ 0) : ((∃ a, σ id = .no a) ∧ rows = []) ∨
    ∃ g cap cur, σ id = .blk g cap ∧ w.heap[g]? = some (.cells cur e (0, 0)) ∧ rows.length ≤ cap ∧ cap ≤ maxLen ∧ cur.size = cap * sz ∧
      (∀ (i : Nat) (row : List V), rows[i]? = some row → row.length = sz) ∧
      (∀ (i j : Nat) (row : List V) (v : V), rows[i]? = some row → row[j]? = some v → ∃ cv, cur[i * sz + j]? = some cv ∧ cv.oneCell' = true ∧ VRel w (Own H σ) H σ v cv) := h.objs hr hz
section
variable {w w' : World} {H : Heap} {σ : Conc}
theorem WOk.set (h : WOk w H σ) {id ver e sz ver' e' sz' : Nat} {rows rows' : List (List V)} {c : Co} (hr : H[id]? = some (.row ver e sz rows)) (hv : ver ≤ ver')
    (hs : ver = ver' → c = σ id ∧ sz = sz' ∧ rows'.length = rows.length)
    (hos : w'.os = w.os) (htape : w'.tape = w.tape) (hout : OutSame w w') (hsize : w.heap.size ≤ w'.heap.size)
    (hblk : ∀ k, k < w.heap.size → (∀ cap, σ id ≠ .blk k cap) → w'.heap[k]? = w.heap[k]?)
    (hc : ∀ g cap, c = .blk g cap → (∃ cap0, σ id = .blk g cap0) ∨ w.heap.size ≤ g)
    (hl : Lies w (Own H σ) H σ c w' e' sz' rows') (hnn : ∀ a, c = .no a → a = none := by first | (intro a h; cases h; rfl) | (intro a h; cases h; done) | exact fun a e => WOk.nil (by assumption) _ a e) :
    Pres w H σ w' (H.set id (.row ver' e' sz' rows')) (σ.put id c) ∧ WOk w' (H.set id (.row ver' e' sz' rows')) (σ.put id c) := by
  have hid : id < H.length := (List.getElem?_eq_some_iff.1 hr).1
  have get : ∀ j, (H.set id (.row ver' e' sz' rows'))[j]? = if j = id then some (.row ver' e' sz' rows') else H[j]? := fun j => by
    rw [List.getElem?_set]
    by_cases hj : j = id
    · subst hj; simp [hid]
    · rw [if_neg (fun x => hj x.symm), if_neg hj]
  have oth : ∀ {j v1 e1 s1 r1 g cap}, H[j]? = some (.row v1 e1 s1 r1) → j ≠ id → σ j = .blk g cap → ∀ cap0, σ id ≠ .blk g cap0 := fun hj hne hσ cap0 h0 =>
    hne (h.inj _ _ _ _ _ _ _ _ _ _ _ _ _ hj hr hσ h0)
  have p : Pres w H σ w' (H.set id (.row ver' e' sz' rows')) (σ.put id c) := by
    refine ⟨hos, htape, hout, hsize, fun b hb hno => hblk b hb fun cap h0 => hno ⟨id, ver, e, sz, rows, cap, hr, h0⟩, ?_, by simp, ?_⟩
    · rintro b hb ⟨j, v1, e1, s1, r1, cap, hj, hσ⟩
      rw [get] at hj
      unfold Conc.put at hσ
      by_cases hji : j = id
      · subst hji
        rw [if_pos rfl] at hσ
        rcases hc b cap hσ with ⟨cap0, h0⟩ | hge
        · exact ⟨j, ver, e, sz, rows, cap0, hr, h0⟩
        · omega
      · rw [if_neg hji] at hj hσ
        exact ⟨j, v1, e1, s1, r1, cap, hj, hσ⟩
    · intro j v1 e1 s1 r1 _ hj
      rw [get] at hj
      unfold Conc.put
      by_cases hji : j = id
      · subst hji
        rw [if_pos rfl] at hj ⊢
        cases hj
        exact ⟨ver, e, sz, rows, hr, hv, fun he => hs he⟩
      · rw [if_neg hji] at hj ⊢
        exact ⟨v1, e1, s1, r1, hj, Nat.le_refl _, fun _ => ⟨rfl, rfl, rfl⟩⟩
  refine ⟨p, ⟨?_, ?_, fun g row hg => (h.glob g row hg).pres p, fun j a hj => by
    unfold Conc.put at hj
    split at hj
    · exact hnn a hj
    · exact h.nil j a hj⟩⟩
  · intro j v1 e1 s1 r1 hj
    rw [get] at hj
    by_cases hji : j = id
    · subst hji
      rw [if_pos rfl] at hj
      cases hj
      have := hl.pres p
      simp only [Conc.put, if_true]
      exact this
    · rw [if_neg hji] at hj
      have hp : Conc.put σ id c j = σ j := by simp [Conc.put, hji]
      rw [hp]
      rcases h.obj j v1 e1 s1 r1 hj with hn | ⟨g, cap, cur, hg, hh, h3, h4, h5, h6, h7⟩ | ⟨g, cap, es, clock, sh, ks, vs, hg, hh, h3, h4, h5, h6, h7⟩
      · exact .inl hn
      rotate_left
      · have hlt : g < w.heap.size := (Array.getElem?_eq_some_iff.1 hh).1
        exact .inr (.inr ⟨g, cap, es, clock, sh, ks, vs, hg, (hblk g hlt (oth hj hji hg)).trans hh, h3, h4, h5, h6, h7.pres p⟩)
      · have hlt : g < w.heap.size := (Array.getElem?_eq_some_iff.1 hh).1
        refine .inr <| .inl ⟨g, cap, cur, hg, (hblk g hlt (oth hj hji hg)).trans hh, h3, h4, h5, h6, fun i k row v hi hk => ?_⟩
        obtain ⟨cv, a, b, c⟩ := h7 i k row v hi hk
        exact ⟨cv, a, b, c.pres p⟩
  · intro j j' v1 e1 s1 r1 v2 e2 s2 r2 g cap cap' hj hj' hσ hσ'
    rw [get] at hj hj'
    unfold Conc.put at hσ hσ'
    by_cases hji : j = id <;> by_cases hji' : j' = id
    · rw [hji, hji']
    · subst hji
      rw [if_pos rfl] at hσ
      rw [if_neg hji'] at hj' hσ'
      rcases hc g cap hσ with ⟨cap0, h0⟩ | hge
      · exact absurd h0 (oth hj' hji' hσ' cap0)
      · have := h.lt ⟨j', v2, e2, s2, r2, cap', hj', hσ'⟩
        omega
    · subst hji'
      rw [if_pos rfl] at hσ'
      rw [if_neg hji] at hj hσ
      rcases hc g cap' hσ' with ⟨cap0, h0⟩ | hge
      · exact absurd h0 (oth hj hji hσ cap0)
      · have := h.lt ⟨j, v1, e1, s1, r1, cap, hj, hσ⟩
        omega
    · rw [if_neg hji] at hj hσ
      rw [if_neg hji'] at hj' hσ'
      exact h.inj _ _ _ _ _ _ _ _ _ _ _ _ _ hj hj' hσ hσ'
theorem WOk.push (h : WOk w H σ) {ver e sz : Nat} {rows : List (List V)} {c : Co}
    (hos : w'.os = w.os) (htape : w'.tape = w.tape) (hout : OutSame w w') (hsize : w.heap.size ≤ w'.heap.size)
    (hblk : ∀ k, k < w.heap.size → w'.heap[k]? = w.heap[k]?)
    (hc : ∀ g cap, c = .blk g cap → w.heap.size ≤ g)
    (hl : Lies w (Own H σ) H σ c w' e sz rows) (hnn : ∀ a, c = .no a → a = none := by first | (intro a h; cases h; rfl) | (intro a h; cases h; done) | exact fun a e => WOk.nil (by assumption) _ a e) :
    Pres w H σ w' (H ++ [.row ver e sz rows]) (σ.put H.length c) ∧ WOk w' (H ++ [.row ver e sz rows]) (σ.put H.length c) := by
  have get : ∀ j ob, (H ++ [.row ver e sz rows])[j]? = some ob → (j = H.length ∧ ob = .row ver e sz rows) ∨ (j < H.length ∧ H[j]? = some ob) := fun j ob hj => by
    rcases Nat.lt_trichotomy j H.length with hlt | heq | hgt
    · rw [List.getElem?_append_left hlt] at hj
      exact .inr ⟨hlt, hj⟩
    · subst heq
      rw [List.getElem?_append_right (Nat.le_refl _)] at hj
      simp at hj
      exact .inl ⟨rfl, hj.symm⟩
    · rw [List.getElem?_append_right (by omega)] at hj
      rw [List.getElem?_cons] at hj
      rw [if_neg (by omega)] at hj
      cases hj
  have ne : ∀ {j}, j < H.length → Conc.put σ H.length c j = σ j := fun hj => by
    unfold Conc.put; rw [if_neg (by omega)]
  have eq : Conc.put σ H.length c H.length = c := by simp [Conc.put]
  have p : Pres w H σ w' (H ++ [.row ver e sz rows]) (σ.put H.length c) := by
    refine ⟨hos, htape, hout, hsize, fun b hb _ => hblk b hb, ?_, by simp, ?_⟩
    · rintro b hb ⟨j, v1, e1, s1, r1, cap, hj, hσ⟩
      rcases get j _ hj with ⟨rfl, _⟩ | ⟨hlt, hj⟩
      · rw [eq] at hσ
        have := hc b cap hσ
        omega
      · rw [ne hlt] at hσ
        exact ⟨j, v1, e1, s1, r1, cap, hj, hσ⟩
    · intro j v1 e1 s1 r1 hlt hj
      rcases get j _ hj with ⟨rfl, _⟩ | ⟨_, hj⟩
      · omega
      · exact ⟨v1, e1, s1, r1, hj, Nat.le_refl _, fun _ => ⟨ne hlt, rfl, rfl⟩⟩
  refine ⟨p, ⟨?_, ?_, fun g row hg => (h.glob g row hg).pres p, fun j a hj => by
    unfold Conc.put at hj
    split at hj
    · exact hnn a hj
    · exact h.nil j a hj⟩⟩
  · intro j v1 e1 s1 r1 hj
    rcases get j _ hj with ⟨rfl, ho⟩ | ⟨hlt, hj⟩
    · cases ho
      rw [eq]
      exact hl.pres p
    · rw [ne hlt]
      rcases h.obj j v1 e1 s1 r1 hj with hn | ⟨g, cap, cur, hg, hh, h3, h4, h5, h6, h7⟩ | ⟨g, cap, es, clock, sh, ks, vs, hg, hh, h3, h4, h5, h6, h7⟩
      · exact .inl hn
      rotate_left
      · have hlt : g < w.heap.size := (Array.getElem?_eq_some_iff.1 hh).1
        exact .inr (.inr ⟨g, cap, es, clock, sh, ks, vs, hg, (hblk g hlt).trans hh, h3, h4, h5, h6, h7.pres p⟩)
      · have hlt : g < w.heap.size := (Array.getElem?_eq_some_iff.1 hh).1
        refine .inr <| .inl ⟨g, cap, cur, hg, (hblk g hlt).trans hh, h3, h4, h5, h6, fun i k row v hi hk => ?_⟩
        obtain ⟨cv, a, b, c⟩ := h7 i k row v hi hk
        exact ⟨cv, a, b, c.pres p⟩
  · intro j j' v1 e1 s1 r1 v2 e2 s2 r2 g cap cap' hj hj' hσ hσ'
    rcases get j _ hj with ⟨rfl, _⟩ | ⟨hlt, hj⟩ <;> rcases get j' _ hj' with ⟨rfl, _⟩ | ⟨hlt', hj'⟩
    · rfl
    · rw [eq] at hσ
      rw [ne hlt'] at hσ'
      have h1 := hc g cap hσ
      have := h.lt ⟨j', v2, e2, s2, r2, cap', hj', hσ'⟩
      omega
    · rw [eq] at hσ'
      rw [ne hlt] at hσ
      have h1 := hc g cap' hσ'
      have := h.lt ⟨j, v1, e1, s1, r1, cap, hj, hσ⟩
      omega
    · rw [ne hlt] at hσ
      rw [ne hlt'] at hσ'
      exact h.inj _ _ _ _ _ _ _ _ _ _ _ _ _ hj hj' hσ hσ'
theorem WOk.kill (h : WOk w H σ) (id : Nat) : Pres w H σ w (H.set id .dead) σ ∧ WOk w (H.set id .dead) σ := by
  have get : ∀ {j v e s r}, (H.set id .dead)[j]? = some (.row v e s r) → H[j]? = some (.row v e s r) ∧ j ≠ id := fun {j v e s r} hj => by
    rw [List.getElem?_set] at hj
    split at hj
    · split at hj <;> cases hj
    · rename_i hne; exact ⟨hj, fun e => hne e.symm⟩
  have p : Pres w H σ w (H.set id .dead) σ := by
    refine ⟨rfl, rfl, OutSame.refl w, Nat.le_refl _, fun _ _ _ => rfl, ?_, by simp, ?_⟩
    · rintro b _ ⟨j, v1, e1, s1, r1, cap, hj, hσ⟩
      exact ⟨j, v1, e1, s1, r1, cap, (get hj).1, hσ⟩
    · intro j v1 e1 s1 r1 _ hj
      exact ⟨v1, e1, s1, r1, (get hj).1, Nat.le_refl _, fun _ => ⟨rfl, rfl, rfl⟩⟩
  refine ⟨p, ⟨?_, ?_, fun g row hg => (h.glob g row hg).pres p, h.nil⟩⟩
  · intro j v1 e1 s1 r1 hj
    rcases h.obj j v1 e1 s1 r1 (get hj).1 with hn | ⟨g, cap, cur, hg, hh, h3, h4, h5, h6, h7⟩ | ⟨g, cap, es, clock, sh, ks, vs, hg, hh, h3, h4, h5, h6, h7⟩
    · exact .inl hn
    rotate_left
    · exact .inr (.inr ⟨g, cap, es, clock, sh, ks, vs, hg, hh, h3, h4, h5, h6, h7.pres p⟩)
    · refine .inr <| .inl ⟨g, cap, cur, hg, hh, h3, h4, h5, h6, fun i k row v hi hk => ?_⟩
      obtain ⟨cv, a, b, c⟩ := h7 i k row v hi hk
      exact ⟨cv, a, b, c.pres p⟩
  · intro j j' v1 e1 s1 r1 v2 e2 s2 r2 g cap cap' hj hj' hσ hσ'
    exact h.inj _ _ _ _ _ _ _ _ _ _ _ _ _ (get hj).1 (get hj').1 hσ hσ'
theorem WOk.gone (h : WOk w H σ) {id ver e sz g cap : Nat} {rows : List (List V)} (hr : H[id]? = some (.row ver e sz rows)) (hg : σ id = .blk g cap)
    (hos : w'.os = w.os) (htape : w'.tape = w.tape) (hout : OutSame w w') (hsize : w.heap.size ≤ w'.heap.size) (hblk : ∀ k, k < w.heap.size → k ≠ g → w'.heap[k]? = w.heap[k]?) :
    Pres w H σ w' (H.set id .dead) σ ∧ WOk w' (H.set id .dead) σ := by
  obtain ⟨p0, ok0⟩ := h.kill id
  have get : ∀ {j v e s r}, (H.set id .dead)[j]? = some (.row v e s r) → H[j]? = some (.row v e s r) ∧ j ≠ id := fun {j v e s r} hj => by
    rw [List.getElem?_set] at hj
    split at hj
    · split at hj <;> cases hj
    · rename_i hne; exact ⟨hj, fun e => hne e.symm⟩
  have p : Pres w H σ w' (H.set id .dead) σ := ⟨hos, htape, hout, hsize, fun b hb hn => hblk b hb fun e' => hn ⟨id, ver, e, sz, rows, cap, hr, e' ▸ hg⟩, p0.own, p0.hlen, p0.keep⟩
  refine ⟨p, ⟨?_, ok0.inj, fun g row hg => (h.glob g row hg).pres p, h.nil⟩⟩
  intro j v1 e1 s1 r1 hj
  obtain ⟨hj, hji⟩ := get hj
  rcases h.obj j v1 e1 s1 r1 hj with hn | ⟨g', cap', cur, hg', hh, h3, h4, h5, h6, h7⟩ | ⟨g', cap', es, clock, sh, ks, vs, hg', hh, h3, h4, h5, h6, h7⟩
  · exact .inl hn
  rotate_left
  · have hlt : g' < w.heap.size := (Array.getElem?_eq_some_iff.1 hh).1
    have hne : g' ≠ g := fun e' => by
      subst e'
      exact hji (h.inj _ _ _ _ _ _ _ _ _ _ _ _ _ hj hr hg' hg)
    exact .inr (.inr ⟨g', cap', es, clock, sh, ks, vs, hg', (hblk g' hlt hne).trans hh, h3, h4, h5, h6, h7.pres p⟩)
  · have hlt : g' < w.heap.size := (Array.getElem?_eq_some_iff.1 hh).1
    have hne : g' ≠ g := fun e' => by
      subst e'
      exact hji (h.inj _ _ _ _ _ _ _ _ _ _ _ _ _ hj hr hg' hg)
    refine .inr <| .inl ⟨g', cap', cur, hg', (hblk g' hlt hne).trans hh, h3, h4, h5, h6, fun i k row v hi hk => ?_⟩
    obtain ⟨cv, a, b, c⟩ := h7 i k row v hi hk
    exact ⟨cv, a, b, c.pres p⟩
end
def cellsV : V → List V
  | .ag cs => cs
  | v => [v]
def okCell (H : Heap) (v : V) : Prop :=
  match v with
  | .d _ | .rp _ | .em | .fn _ _ => True
  | .os id ver | .pt id ver _ _ => (match H[id]? with | some (.row ver' _ _ _) => ver = ver' | _ => False)
  | _ => False
def asD : V → Option D
  | .d x => some x
  | _ => none
def dsOf : List V → Option (List D)
  | [] => some []
  | v :: r => match asD v, dsOf r with | some x, some l => some (x :: l) | _, _ => none
theorem dsOf_eq : ∀ {cs : List V} {ds : List D}, dsOf cs = some ds → cs = ds.map .d
  | [], ds, h => by simp [dsOf] at h; subst h; rfl
  | v :: r, ds, h => by
    unfold dsOf at h
    split at h
    · rename_i x l h1 h2
      cases h
      cases v <;> simp [asD] at h1
      subst h1
      rw [dsOf_eq h2]
      rfl
    · cases h
theorem slv_one (c : Co) (n : Nat) : (slv c n).oneCell' = true := by
  cases c <;> rfl
theorem okCell_one {w : World} {o : Nat → Prop} {H : Heap} {σ : Conc} {v : V} {val : Value} (h : okCell H v) (hv : VRel w o H σ v val) : val.oneCell' = true := by
  unfold okCell at h
  split at h
  · exact hv.inv_d.one
  · obtain ⟨_, _, _, rfl, _⟩ := hv.inv_rp; rfl
  · cases hv; rfl
  · obtain ⟨_, rfl, _⟩ := hv.inv_fn; rfl
  · split at h
    · rename_i hr
      obtain ⟨_, hv⟩ := hv.inv_os hr
      rw [hv h]
      exact slv_one _ _
    · exact h.elim
  · split at h
    · rename_i hr
      obtain ⟨_, hv⟩ := hv.inv_pt hr
      obtain ⟨_, _, _, rfl⟩ := hv h
      rfl
    · exact h.elim
  · exact h.elim
theorem cells_rel {w : World} {o : Nat → Prop} {H : Heap} {σ : Conc} {v : V} {val : Value} (hv : VRel w o H σ v val) (h : ∀ c ∈ cellsV v, okCell H c) :
    val.cells.size = (cellsV v).length ∧ ∀ (j : Nat) (c : V), (cellsV v)[j]? = some c → ∃ cv, val.cells[j]? = some cv ∧ cv.oneCell' = true ∧ VRel w o H σ c cv := by
  by_cases ha : ∃ cs, v = .ag cs
  · obtain ⟨cs, rfl⟩ := ha
    obtain ⟨vs, rfl, hl, hr⟩ := hv.inv_ag
    refine ⟨hl.symm, fun j c hj => ?_⟩
    simp only [cellsV] at hj
    have hlt : j < vs.size := by have := (List.getElem?_eq_some_iff.1 hj).1; omega
    have hvs : vs[j]? = some vs[j] := by simp [hlt]
    have hrel := hr j c _ hj hvs
    exact ⟨vs[j], hvs, okCell_one (h c (List.mem_of_getElem? hj)) hrel, hrel⟩
  · have hc : cellsV v = [v] := by
      unfold cellsV
      split
      · exact absurd ⟨_, rfl⟩ ha
      · rfl
    have ho := okCell_one (h v (by rw [hc]; simp)) hv
    have hval : val.cells = #[val] := by cases val <;> first | rfl | simp [Value.oneCell'] at ho
    rw [hval, hc]
    refine ⟨rfl, fun j c hj => ?_⟩
    cases j with
    | zero =>
      have : v = c := by simpa using hj
      subst this
      exact ⟨val, rfl, ho, hv⟩
    | succ j => simp at hj
end Go.Proofs.YtmhabdopcbokoaaDoor.Ab
