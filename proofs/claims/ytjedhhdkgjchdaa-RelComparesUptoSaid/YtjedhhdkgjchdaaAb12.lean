/- Small rules for walks over the abstract reading. No condition. -/
import Derived.Test.YtjedhhdkgjchdaaAb11
set_option linter.all false
set_option linter.unusedSimpArgs false
set_option linter.unusedVariables false
namespace Go.Proofs.Ytjedhhdkgjchdaa.Ab
open Go

theorem closed_self (H : Heap) : Closed H H := fun _ _ _ _ _ h => .inl h
theorem keepH {H : Heap} {v : V} {K : V → Heap → Prop} (hb : Bel H.length v) (hk : K v H) : ∃ H' G, H = H' ++ G ∧ H.length ≤ H'.length ∧ Closed H H' ∧ Bel H'.length v ∧ K v H' :=
  ⟨H, [], by simp, Nat.le_refl _, closed_self H, hb, hk⟩
theorem keepK {H : Heap} {v v' : V} {K : V → Heap → Prop} (hk : K v' H) (hb : Bel H.length v) (e : v = v') : ∃ H' G, H = H' ++ G ∧ H.length ≤ H'.length ∧ Closed H H' ∧ Bel H'.length v ∧ K v H' :=
  keepH hb (e ▸ hk)

theorem keepD {H : Heap} {v v' : V} {K : V → Heap → Prop} (hk : K v' H) (e : v = v') : ∃ H' G, H = H' ++ G ∧ H.length ≤ H'.length ∧ Closed H H' ∧ K v H' :=
  ⟨H, [], by simp, Nat.le_refl _, closed_self H, e ▸ hk⟩

/-- A contract that is known of the model itself: a settled value, and the world as it was. -/
theorem ACalls_still {P : Program} {f : Nat} {vs : List V} {H : Heap} {K : V → Heap → Prop} (v : V) (hk : K v H)
    (h : ∀ (w : World) (σ : Conc) (args : Array Value), vs.length = args.size → (∀ (j : Nat) (v : V) (u : Value), vs[j]? = some v → args[j]? = some u → VRel w (Own H σ) H σ v u) →
      ∃ val, VRel w (Own H σ) H σ v val ∧ Calls P f args w fun e w' => e = .returned val ∧ w' = w) : ACalls P f vs H K := by
  unfold ACalls
  intro w σ args hw hl hr
  obtain ⟨val, hv, hc⟩ := h w σ args hl hr
  refine hc.mono ?_
  rintro e w' ⟨rfl, rfl⟩
  exact ⟨val, v, H, σ, rfl, hk, hv, hw, Pres.refl _ _ _⟩

theorem map_all {α : Type} (f : α → List D) (xs : List α) (i : Nat) (Q : List D → Prop) : (∀ row, (xs.map f)[i]? = some row → Q row) = (∀ x, xs[i]? = some x → Q (f x)) := by
  apply propext
  constructor
  · intro h x hx
    exact h _ (by rw [List.getElem?_map, hx]; rfl)
  · intro h row hr
    rw [List.getElem?_map] at hr
    cases hx : xs[i]? with
    | none => rw [hx] at hr; cases hr
    | some x =>
      rw [hx] at hr
      obtain rfl : f x = row := by simpa using hr
      exact h x hx
/-- A number alone, as a row. -/
def intRow (x : Int) : List D := [.i .i64 x]
def strRow (x : List UInt8) : List D := [.s x]

/-- The frame F' says no more than F. -/
def Sub (m : Nat) (F F' : Frame) : Prop := ∀ p, p ∈ F' → F.get p.1 = p.2 ∧ Bel m p.2
theorem Sub_nil (m : Nat) (F : Frame) : Sub m F [] = True := eq_true fun _ h => by cases h
theorem Sub_cons (m : Nat) (F F' : Frame) (x : Nat) (v : V) : Sub m F ((x, v) :: F') = (F.get x = v ∧ Bel m v ∧ Sub m F F') := by
  apply propext
  constructor
  · intro h
    have := h (x, v) (by simp)
    exact ⟨this.1, this.2, fun p hp => h p (by simp [hp])⟩
  · rintro ⟨h1, h2, h3⟩ p hp
    rcases List.mem_cons.1 hp with rfl | hp
    · exact ⟨h1, h2⟩
    · exact h3 p hp
theorem Sub.ent {m : Nat} {F F' : Frame} (h : Sub m F F') (x : Nat) : F'.get x = .top ∨ F'.get x = F.get x ∧ Bel m (F'.get x) := by
  unfold Frame.get
  cases hx : F'.lookup x with
  | none => exact .inl rfl
  | some v =>
    refine .inr ?_
    have : (x, v) ∈ F' := by
      clear h
      induction F' with
      | nil => cases hx
      | cons p F' ih =>
        obtain ⟨k, u⟩ := p
        rw [List.lookup_cons] at hx
        split at hx
        · rename_i hk
          have : x = k := by simpa using hk
          cases hx
          simp [this]
        · exact List.mem_cons_of_mem _ (ih hx)
    have := h _ this
    simp only [Frame.get] at this
    exact ⟨this.1.symm, this.2⟩

section
variable {P : Program} {n : Nat} {H0 H : Heap} {Q : Exit → Frame → Heap → Prop} {F : Frame}

/-- A loop that leaves the objects as they are. -/
theorem AWp_while {c : Code} {ι : Type} (I : ι → Prop) (Fr : ι → Frame) (μ : ι → Nat) (i0 : ι) (h0 : I i0) (hs : Sub H.length F (Fr i0)) (hl : H0.length ≤ H.length) (hc : Closed H0 H)
    (hr : ∀ i, I i → AWp P n H0 c (thenA (fun F' H' => H' = H ∧ ∃ i', I i' ∧ μ i' < μ i ∧ Sub H.length F' (Fr i')) Q) (Fr i) H) : AWp P n H0 (.loop c) Q F H := by
  refine AWp_loop I Fr (fun _ => H) μ i0 h0 ⟨⟨[], by simp⟩, hl, hc, hs.ent⟩ fun i hi => (hr i hi).mono fun e F' H' h => ?_
  cases e with
  | normal =>
    obtain ⟨rfl, i', h1, h2, h3⟩ := h
    exact ⟨i', h1, ⟨⟨[], by simp⟩, hl, hc, h3.ent⟩, h2⟩
  | _ => exact h

/-- The same, where the objects are the call's own first ones. -/
theorem AWp_while0 {c : Code} {ι : Type} (I : ι → Prop) (Fr : ι → Frame) (μ : ι → Nat) (i0 : ι) (h0 : I i0) (hs : Sub H.length F (Fr i0))
    (hr : ∀ i, I i → AWp P n H c (thenA (fun F' H' => H' = H ∧ ∃ i', I i' ∧ μ i' < μ i ∧ Sub H.length F' (Fr i')) Q) (Fr i) H) : AWp P n H (.loop c) Q F H :=
  AWp_while I Fr μ i0 h0 hs (Nat.le_refl _) (closed_self H) hr
end
end Go.Proofs.Ytjedhhdkgjchdaa.Ab
