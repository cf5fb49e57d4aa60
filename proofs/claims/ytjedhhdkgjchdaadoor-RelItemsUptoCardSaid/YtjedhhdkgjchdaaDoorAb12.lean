/- Small rules for walks over the abstract reading. No condition. -/
import Derived.Test.YtjedhhdkgjchdaaDoorAb11
set_option linter.all false
set_option linter.unusedSimpArgs false
set_option linter.unusedVariables false
namespace Go.Proofs.YtjedhhdkgjchdaaDoor.Ab
open Go
variable [Glo]

theorem closed_self (H : Heap) : Closed H H := fun _ _ _ _ _ h => .inl h
theorem keepK {H : Heap} {v v' : V} {K : V → Heap → Prop} (hk : K v' H) (hb : Bel H.length v') (e : v = v') : RetK H K v H :=
  ⟨H, [], v', by simp, Nat.le_refl _, closed_self H, e ▸ .same _, hb, hk⟩
theorem keepD {H : Heap} {v : V} {x : D} {K : V → Heap → Prop} (hk : K (.d x) H) (e : v = .d x) : RetK H K v H := keepK hk (.d x) e

/-- A contract that is known of the model itself: a settled value, and the world as it was. -/
theorem ACalls_still {P : Program} {f : Nat} {vs : List V} {H : Heap} {K : V → Heap → Prop} (v : V) (hk : K v H)
    (h : ∀ (w : World) (σ : Conc) (args : Array Value), vs.length = args.size → (∀ (j : Nat) (v : V) (u : Value), vs[j]? = some v → args[j]? = some u → VRel w (Own H σ) H σ v u) →
      ∃ val, VRel w (Own H σ) H σ v val ∧ Calls P f args w fun e w' => e = .returned val ∧ w' = w) : ACalls P f vs H K := by
  unfold ACalls
  intro w σ args hw hl hr
  obtain ⟨val, hv, hc⟩ := h w σ args hl hr
  refine hc.mono ?_
  rintro e w' ⟨rfl, rfl⟩
  exact ⟨val, v, H, σ, rfl, hk, hv, hw, Pres.refl _ _ _⟩

/-- The same, where new memory is made that nobody hears of. -/
theorem ACalls_below {P : Program} {f : Nat} {vs : List V} {H : Heap} {K : V → Heap → Prop} (v : V) (hk : K v H)
    (h : ∀ (w : World) (σ : Conc) (args : Array Value), WOk w H σ → vs.length = args.size → (∀ (j : Nat) (v : V) (u : Value), vs[j]? = some v → args[j]? = some u → VRel w (Own H σ) H σ v u) →
      ∃ val, (∀ w', Pres w H σ w' H σ → VRel w' (Own H σ) H σ v val) ∧ Calls P f args w fun e w' => e = .returned val ∧ RowKit.Below w.heap.size w w') : ACalls P f vs H K := by
  unfold ACalls
  intro w σ args hw hl hr
  obtain ⟨val, hv, hc⟩ := h w σ args hw hl hr
  refine hc.mono ?_
  rintro e w' ⟨rfl, hb⟩
  have p : Pres w H σ w' H σ := ⟨hb.os, hb.tape, hb.output, hb.size, fun b hb' _ => hb.block b hb', fun _ _ h => h, Nat.le_refl _, fun _ v e sz rows _ h => ⟨v, e, sz, rows, h, Nat.le_refl _, fun _ => ⟨rfl, rfl, rfl⟩⟩⟩
  exact ⟨val, v, H, σ, rfl, hk, hv w' p, hw.same p fun b ho => hb.block b (hw.lt ho), p⟩

theorem map_all {α β : Type} (f : α → β) (xs : List α) (i : Nat) (Q : β → Prop) : (∀ row, (xs.map f)[i]? = some row → Q row) = (∀ x, xs[i]? = some x → Q (f x)) := by
  apply propext
  constructor
  · intro h x hx
    exact h _ (by rw [List.getElem?_map, hx]; rfl)
  · intro h row hr
    rw [List.getElem?_map] at hr
    cases hx : xs[i]? with
    | none => rw [hx] at hr; cases hr
    | some x =>
      rw [hx] at hr
      obtain rfl : f x = row := by simpa using hr
      exact h x hx
theorem drop_of_get {α : Type} {l : List α} {i : Nat} {c : α} (h : l[i]? = some c) : l.drop i = c :: l.drop (i + 1) := by
  have hi : i < l.length := (List.getElem?_eq_some_iff.1 h).1
  rw [List.drop_eq_getElem_cons hi]
  rw [List.getElem?_eq_getElem hi] at h
  rw [Option.some.inj h]
theorem take_of_get {α : Type} {l : List α} {i : Nat} {c : α} (h : l[i]? = some c) : l.take (i + 1) = l.take i ++ [c] := by
  rw [List.take_succ, h]; rfl
theorem all_drop {α : Type} (p : α → Bool) {l : List α} {i : Nat} {c : α} (h : l[i]? = some c) : (l.drop i).all p = (p c && (l.drop (i + 1)).all p) := by
  rw [drop_of_get h, List.all_cons]
theorem any_drop {α : Type} (p : α → Bool) {l : List α} {i : Nat} {c : α} (h : l[i]? = some c) : (l.drop i).any p = (p c || (l.drop (i + 1)).any p) := by
  rw [drop_of_get h, List.any_cons]
theorem lt_of_get {α : Type} {l : List α} {i : Nat} {c : α} (h : l[i]? = some c) : i < l.length := (List.getElem?_eq_some_iff.1 h).1

/-- A number alone, as a row. -/
def intRow (x : Int) : List D := [.i .i64 x]
def intCells (x : Int) : List V := [.d (.i .i64 x)]
def strRow (x : List UInt8) : List D := [.s x]

theorem get_app0 (H G : Heap) : (H ++ G)[H.length]? = G[0]? := by rw [List.getElem?_append_right (Nat.le_refl _), Nat.sub_self]
theorem get_appk (H G : Heap) (k : Nat) : (H ++ G)[H.length + k]? = G[k]? := by rw [List.getElem?_append_right (by omega), Nat.add_sub_cancel_left]
theorem set_app0 (H G : Heap) (x : Ob) : (H ++ G).set H.length x = H ++ G.set 0 x := by rw [List.set_append_right _ _ (Nat.le_refl _), Nat.sub_self]
theorem set_appk (H G : Heap) (k : Nat) (x : Ob) : (H ++ G).set (H.length + k) x = H ++ G.set k x := by rw [List.set_append_right _ _ (by omega), Nat.add_sub_cancel_left]

/-- The frame F' says no more than F. -/
def Sub (m : Nat) (F F' : Frame) : Prop := ∀ p, p ∈ F' → F.get p.1 = p.2 ∧ Bel m p.2
theorem Sub_nil (m : Nat) (F : Frame) : Sub m F [] = True := eq_true fun _ h => by cases h
theorem Sub_cons (m : Nat) (F F' : Frame) (x : Nat) (v : V) : Sub m F ((x, v) :: F') = (F.get x = v ∧ Bel m v ∧ Sub m F F') := by
  apply propext
  constructor
  · intro h
    have := h (x, v) (by simp)
    exact ⟨this.1, this.2, fun p hp => h p (by simp [hp])⟩
  · rintro ⟨h1, h2, h3⟩ p hp
    rcases List.mem_cons.1 hp with rfl | hp
    · exact ⟨h1, h2⟩
    · exact h3 p hp
theorem Sub.ent {m : Nat} {F F' : Frame} (h : Sub m F F') (x : Nat) : F'.get x = .top ∨ F'.get x = F.get x ∧ Bel m (F'.get x) := by
  unfold Frame.get
  cases hx : F'.lookup x with
  | none => exact .inl rfl
  | some v =>
    refine .inr ?_
    have : (x, v) ∈ F' := by
      clear h
      induction F' with
      | nil => cases hx
      | cons p F' ih =>
        obtain ⟨k, u⟩ := p
        rw [List.lookup_cons] at hx
        split at hx
        · rename_i hk
          have : x = k := by simpa using hk
          cases hx
          simp [this]
        · exact List.mem_cons_of_mem _ (ih hx)
    have := h _ this
    simp only [Frame.get] at this
    exact ⟨this.1.symm, this.2⟩

section
variable {P : Program} {n : Nat} {H0 H : Heap} {Q : Exit → Frame → Heap → Prop} {F : Frame}

/-- A loop that leaves the objects as they are. -/
theorem AWp_while {c : Code} {ι : Type} (I : ι → Prop) (Fr : ι → Frame) (μ : ι → Nat) (i0 : ι) (h0 : I i0) (hs : Sub H.length F (Fr i0)) (hl : H0.length ≤ H.length) (hc : Closed H0 H)
    (hr : ∀ i, I i → AWp P n H0 c (thenA (fun F' H' => H' = H ∧ ∃ i', I i' ∧ μ i' < μ i ∧ Sub H.length F' (Fr i')) Q) (Fr i) H) : AWp P n H0 (.loop c) Q F H := by
  refine AWp_loop I Fr (fun _ => H) μ i0 h0 ⟨⟨[], by simp⟩, hl, hc, hs.ent⟩ fun i hi => (hr i hi).mono fun e F' H' h => ?_
  cases e with
  | normal =>
    obtain ⟨rfl, i', h1, h2, h3⟩ := h
    exact ⟨i', h1, ⟨⟨[], by simp⟩, hl, hc, h3.ent⟩, h2⟩
  | _ => exact h

/-- What an object's cells may lead to. -/
def ObBel (m : Nat) : Ob → Prop
  | .dead => True
  | .row _ _ _ rows => ∀ row, row ∈ rows → ∀ v, v ∈ row → Bel m v
theorem obBel_data (m ver e sz : Nat) (rows : List (List D)) : ObBel m (.row ver e sz (rows.map fun r => r.map V.d)) := by
  intro row hr v hv
  obtain ⟨r, _, rfl⟩ := List.mem_map.1 hr
  obtain ⟨x, _, rfl⟩ := List.mem_map.1 hv
  exact .d x
theorem closed_app {H G : Heap} (h : ∀ ob, ob ∈ G → ObBel (H ++ G).length ob) : Closed H (H ++ G) := by
  intro id ver e sz rows hr
  by_cases hid : id < H.length
  · rw [List.getElem?_append_left hid] at hr
    exact .inl hr
  · rw [List.getElem?_append_right (by omega)] at hr
    exact .inr (h _ (List.mem_of_getElem? hr))

/-- A loop that turns objects of the call's own. -/
theorem AWp_whileH {c : Code} {ι : Type} (I : ι → Prop) (Fr : ι → Frame) (G : ι → Heap) (μ : ι → Nat) (i0 : ι) (h0 : I i0) (hG : H = H0 ++ G i0) (hs : Sub H.length F (Fr i0)) (hc : ∀ i, I i → ∀ ob, ob ∈ G i → ObBel (H0 ++ G i).length ob)
    (hr : ∀ i, I i → AWp P n H0 c (thenA (fun F' H' => ∃ i', I i' ∧ μ i' < μ i ∧ H' = H0 ++ G i' ∧ Sub H'.length F' (Fr i')) Q) (Fr i) (H0 ++ G i)) : AWp P n H0 (.loop c) Q F H := by
  subst hG
  refine AWp_loop I Fr (fun i => H0 ++ G i) μ i0 h0 ⟨⟨[], by simp⟩, by simp, closed_app (hc _ h0), hs.ent⟩ fun i hi => (hr i hi).mono fun e F' H' h => ?_
  cases e with
  | normal =>
    obtain ⟨i', h1, h2, rfl, h3⟩ := h
    exact ⟨i', h1, ⟨⟨[], by simp⟩, by simp, closed_app (hc _ h1), h3.ent⟩, h2⟩
  | _ => exact h

/-- What is returned, where the call's own objects lie behind the first ones and are given up. -/
theorem dropK {H G : Heap} {v v' : V} {K : V → Heap → Prop} (hk : K v' H) (hb : Bel H.length v') (e : v = v') : RetK H K v (H ++ G) :=
  ⟨H, G, v', rfl, Nat.le_refl _, closed_self H, e ▸ .same _, hb, hk⟩
theorem dropD {H G : Heap} {v : V} {x : D} {K : V → Heap → Prop} (hk : K (.d x) H) (e : v = .d x) : RetK H K v (H ++ G) := dropK hk (.d x) e
/-- The same, where what is returned reads as data from now on. -/
theorem dropF {H G : Heap} {v v' : V} {K : V → Heap → Prop} (hk : K v' H) (hf : Fz H.length (H ++ G) v v') (hb : Bel H.length v') : RetK H K v (H ++ G) :=
  ⟨H, G, v', rfl, Nat.le_refl _, closed_self H, hf, hb, hk⟩
/-- Objects that stay the caller's. -/
theorem keepO {H G : Heap} {v : V} {K : V → Heap → Prop} (hk : K v (H ++ G)) (hc : ∀ ob, ob ∈ G → ObBel (H ++ G).length ob) (hb : Bel (H ++ G).length v) : RetK H K v (H ++ G) :=
  ⟨H ++ G, [], v, by simp, by simp, closed_app hc, .same _, hb, hk⟩

/-- The same, where the objects are the call's own first ones. -/
theorem AWp_while0 {c : Code} {ι : Type} (I : ι → Prop) (Fr : ι → Frame) (μ : ι → Nat) (i0 : ι) (h0 : I i0) (hs : Sub H.length F (Fr i0))
    (hr : ∀ i, I i → AWp P n H c (thenA (fun F' H' => H' = H ∧ ∃ i', I i' ∧ μ i' < μ i ∧ Sub H.length F' (Fr i')) Q) (Fr i) H) : AWp P n H (.loop c) Q F H :=
  AWp_while I Fr μ i0 h0 hs (Nat.le_refl _) (closed_self H) hr
end
end Go.Proofs.YtjedhhdkgjchdaaDoor.Ab
