/- Steps that turn nothing in memory: a nil slice in a cell as an object without elements. No condition. -/
import Derived.Test.YtmalccaijjcepaaDoorAb14
set_option linter.all false
set_option linter.unusedSimpArgs false
set_option linter.unusedVariables false
namespace Go.Proofs.YtmalccaijjcepaaDoor.Ab
open Go
variable [Glo]
section
variable {P : Program} {n : Nat} {dfs : List Deferred} {H0 H : Heap} {Q : Exit → Frame → Heap → Prop} {F : Frame}

/-- A nil slice in a cell of the call's own, as an object without elements. -/
theorem AWp_prm {c : Code} (id i j e' sz' : Nat) {ver e sz : Nat} {rows : List (List V)} {row : List V} (hr : H[id]? = some (Ob.row ver e sz rows)) (hi : rows[i]? = some row) (hj : row[j]? = some (.d (.c (.slice none 0 0)))) (hz' : sz' ≠ 0 := by decide)
    (h : AWp P n dfs H0 c Q F (H.set id (.row ver e sz (rows.set i (row.set j (.os H.length 0)))) ++ [.row 0 e' sz' []])) : AWp P n dfs H0 c Q F H := by
  unfold AWp at h ⊢
  intro w0 σ0 w σ a hw hp hs hdf
  have hid := (List.getElem?_eq_some_iff.1 hr).1
  obtain ⟨p1, ok1⟩ := hs.ok.push (w' := w) (ver := 0) (e := e') (sz := sz') (rows := []) (c := .no none) rfl rfl (OutSame.refl w) (Nat.le_refl _) (fun _ _ => rfl) (fun g cap hc => by cases hc) (.inl ⟨⟨none, rfl⟩, rfl⟩)
  have hr1 : (H ++ [Ob.row 0 e' sz' []])[id]? = some (Ob.row ver e sz rows) := by rw [List.getElem?_append_left hid]; exact hr
  have hl := ok1.lies hr1
  have hlies : Lies w (Own (H ++ [Ob.row 0 e' sz' []]) (σ.put H.length (.no none))) (H ++ [Ob.row 0 e' sz' []]) (σ.put H.length (.no none)) (σ.put H.length (.no none) id) w e sz (rows.set i (row.set j (.os H.length 0))) := by
    rcases hl with ⟨_, h2⟩ | ⟨g, cap, cur, h1, h2, h3, h4, h5, h6, h7⟩ | ⟨_, _, _, _, _, _, _, _, _, _, h2, _⟩
    · subst h2; cases hi
    rotate_left
    · subst h2
      have hi0 : i = 0 := by have := (List.getElem?_eq_some_iff.1 hi).1; simp at this; exact this
      subst hi0
      simp at hi
      subst hi
      have hj0 : j = 0 := by have := (List.getElem?_eq_some_iff.1 hj).1; simp at this; exact this
      subst hj0
      simp at hj
    · refine .inr <| .inl ⟨g, cap, cur, h1, h2, by simpa using h3, h4, h5, fun k r hk => ?_, fun k l r v hk hv => ?_⟩
      · rw [List.getElem?_set] at hk
        split at hk
        · rename_i hik
          subst hik
          split at hk
          · cases hk
            simpa using h6 _ _ hi
          · cases hk
        · exact h6 k r hk
      · rw [List.getElem?_set] at hk
        split at hk
        · rename_i hik
          subst hik
          split at hk
          · cases hk
            rw [List.getElem?_set] at hv
            split at hv
            · rename_i hjl
              subst hjl
              split at hv
              · cases hv
                obtain ⟨cv, a1, a2, a3⟩ := h7 _ _ _ _ hi hj
                refine ⟨cv, a1, a2, ?_⟩
                obtain rfl := a3.inv_d.inv_c
                refine .os _ _ _ (by simp) fun v1 e1 s1 r1 hr2 => ?_
                rw [List.getElem?_append_right (Nat.le_refl _)] at hr2
                simp at hr2
                obtain ⟨rfl, rfl, rfl, rfl⟩ := hr2
                exact ⟨Nat.le_refl _, fun _ => ⟨hz', by simp [Conc.put, slv]⟩⟩
              · cases hv
            · exact h7 _ _ _ _ hi hv
          · cases hk
        · exact h7 _ _ _ _ hk hv
  obtain ⟨p2, ok2⟩ := ok1.set (w' := w) (ver' := ver) (e' := e) (sz' := sz) (rows' := rows.set i (row.set j (.os H.length 0))) hr1 (Nat.le_refl _) (fun _ => ⟨rfl, rfl, by simp⟩) rfl rfl (OutSame.refl w) (Nat.le_refl _) (fun _ _ _ => rfl) (fun g cap hc => .inl ⟨cap, hc⟩) hlies
  rw [List.set_append_left _ _ hid] at p2 ok2
  exact h w0 σ0 w _ a hw ((hp.trans p1).trans p2) (hs.pres (p1.trans p2) ok2) hdf
/-- What is returned, with the caller's objects as they were, reads as data. -/
theorem keepFz {H : Heap} {v v' : V} {K : V → Heap → Prop} (hk : K v' H) (hf : Fz H.length H v v') (hb : Bel H.length v') : RetK H K v H :=
  ⟨H, [], v', by simp, Nat.le_refl _, closed_self H, hf, hb, hk⟩
theorem Fz_ag2 {m : Nat} {H : Heap} {a b a' b' : V} (h1 : Fz m H a a') (h2 : Fz m H b b') : Fz m H (.ag [a, b]) (.ag [a', b']) :=
  .ag _ _ rfl fun j c c' h h' => by
    match j, h, h' with
    | 0, h, h' => cases h; cases h'; exact h1
    | 1, h, h' => cases h; cases h'; exact h2
    | j + 2, h, h' => cases h
theorem Fz_tu2 {m : Nat} {H : Heap} {a b a' b' : V} (h1 : Fz m H a a') (h2 : Fz m H b b') : Fz m H (.tu [a, b]) (.tu [a', b']) :=
  .tu _ _ rfl fun j c c' h h' => by
    match j, h, h' with
    | 0, h, h' => cases h; cases h'; exact h1
    | 1, h, h' => cases h; cases h'; exact h2
    | j + 2, h, h' => cases h
theorem Fz_tu3 {m : Nat} {H : Heap} {a b c a' b' c' : V} (h1 : Fz m H a a') (h2 : Fz m H b b') (h3 : Fz m H c c') : Fz m H (.tu [a, b, c]) (.tu [a', b', c']) :=
  .tu _ _ rfl fun j x x' h h' => by
    match j, h, h' with
    | 0, h, h' => cases h; cases h'; exact h1
    | 1, h, h' => cases h; cases h'; exact h2
    | 2, h, h' => cases h; cases h'; exact h3
    | j + 3, h, h' => cases h
theorem set_same {H : Heap} {id : Nat} {ob : Ob} (h : H[id]? = some ob) : H.set id ob = H := by
  apply List.ext_getElem?
  intro j
  rw [List.getElem?_set]
  split
  · rename_i e
    subst e
    rw [h, if_pos (List.getElem?_eq_some_iff.1 h).1]
  · rfl
theorem get_self {H : Heap} {id : Nat} {ob : Ob} (h : H[id]? = some ob) (x : Ob) : (H.set id x)[id]? = some x := by
  rw [List.getElem?_set, if_pos rfl, if_pos (List.getElem?_eq_some_iff.1 h).1]
theorem get_ne {H : Heap} {id id' : Nat} (h : id ≠ id') (x : Ob) : (H.set id x)[id']? = H[id']? := by
  rw [List.getElem?_set, if_neg h]
theorem keepS {H H' : Heap} {v : V} {K : V → Heap → Prop} (hk : K v H') (hl : H.length ≤ H'.length) (hc : Closed H H') (hb : Bel H'.length v) : RetK H K v H' := ⟨H', [], v, by simp, hl, hc, .same _, hb, hk⟩
theorem closed_set {H H' : Heap} {id : Nat} {x : Ob} (h : Closed H H') (hx : ObBel H'.length x) : Closed H (H'.set id x) := by
  intro id' ver e sz rows hr
  rw [List.getElem?_set] at hr
  rw [List.length_set]
  split at hr
  · split at hr
    · cases hr
      exact .inr hx
    · cases hr
  · exact h id' ver e sz rows hr
theorem dropS {H H1 G : Heap} {v : V} {K : V → Heap → Prop} (hk : K v H1) (hl : H.length ≤ H1.length) (hc : Closed H H1) (hb : Bel H1.length v) : RetK H K v (H1 ++ G) := ⟨H1, G, v, rfl, hl, hc, .same _, hb, hk⟩
/-- A loop over whatever heaps. -/
theorem AWp_whileP {c : Code} {ι : Type} (I : ι → Prop) (Fr : ι → Frame) (Hp : ι → Heap) (μ : ι → Nat) (i0 : ι) (h0 : I i0) (hH : H = Hp i0) (hs : Sub (Hp i0).length F (Fr i0)) (hl : ∀ i, I i → H0.length ≤ (Hp i).length) (hc : ∀ i, I i → Closed H0 (Hp i))
    (hr : ∀ i, I i → AWp P n dfs H0 c (thenA (fun F' H' => ∃ i', I i' ∧ μ i' < μ i ∧ H' = Hp i' ∧ Sub H'.length F' (Fr i')) Q) (Fr i) (Hp i)) : AWp P n dfs H0 (.loop c) Q F H := by
  subst hH
  refine AWp_loop I Fr Hp μ i0 h0 ⟨⟨[], by simp⟩, hl _ h0, hc _ h0, hs.ent⟩ fun i hi => (hr i hi).mono fun e F' H' h => ?_
  cases e with
  | normal =>
    obtain ⟨i', h1, h2, rfl, h3⟩ := h
    exact ⟨i', h1, ⟨⟨[], by simp⟩, hl _ h1, hc _ h1, h3.ent⟩, h2⟩
  | _ => exact h
end
end Go.Proofs.YtmalccaijjcepaaDoor.Ab
