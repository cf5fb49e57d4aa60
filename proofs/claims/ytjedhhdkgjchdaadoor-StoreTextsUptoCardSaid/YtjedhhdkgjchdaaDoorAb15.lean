/- Steps that turn nothing in memory: a nil slice in a cell as an object without elements. No condition. -/
import Derived.Test.YtjedhhdkgjchdaaDoorAb14
set_option linter.all false
set_option linter.unusedSimpArgs false
set_option linter.unusedVariables false
namespace Go.Proofs.YtjedhhdkgjchdaaDoor.Ab
open Go
variable [Glo]
section
variable {P : Program} {n : Nat} {H0 H : Heap} {Q : Exit → Frame → Heap → Prop} {F : Frame}

/-- A nil slice in a cell of the call's own, as an object without elements. -/
theorem AWp_prm {c : Code} (id i j e' sz' : Nat) {ver e sz : Nat} {rows : List (List V)} {row : List V} (hr : H[id]? = some (Ob.row ver e sz rows)) (hi : rows[i]? = some row) (hj : row[j]? = some (.d (.c (.slice none 0 0))))
    (h : AWp P n H0 c Q F (H.set id (.row ver e sz (rows.set i (row.set j (.os H.length 0)))) ++ [.row 0 e' sz' []])) : AWp P n H0 c Q F H := by
  unfold AWp at h ⊢
  intro w0 σ0 w σ a hw hp hs hdf
  have hid := (List.getElem?_eq_some_iff.1 hr).1
  obtain ⟨p1, ok1⟩ := hs.ok.push (w' := w) (ver := 0) (e := e') (sz := sz') (rows := []) (c := .no none) rfl rfl (OutSame.refl w) (Nat.le_refl _) (fun _ _ => rfl) (fun g cap hc => by cases hc) (.inl ⟨⟨none, rfl⟩, rfl⟩)
  have hr1 : (H ++ [Ob.row 0 e' sz' []])[id]? = some (Ob.row ver e sz rows) := by rw [List.getElem?_append_left hid]; exact hr
  have hl := ok1.lies hr1
  have hlies : Lies w (Own (H ++ [Ob.row 0 e' sz' []]) (σ.put H.length (.no none))) (H ++ [Ob.row 0 e' sz' []]) (σ.put H.length (.no none)) (σ.put H.length (.no none) id) w e sz (rows.set i (row.set j (.os H.length 0))) := by
    rcases hl with ⟨_, h2⟩ | ⟨g, cap, cur, h1, h2, h3, h4, h5, h6, h7⟩
    · subst h2; cases hi
    · refine .inr ⟨g, cap, cur, h1, h2, by simpa using h3, h4, h5, fun k r hk => ?_, fun k l r v hk hv => ?_⟩
      · rw [List.getElem?_set] at hk
        split at hk
        · rename_i hik
          subst hik
          split at hk
          · cases hk
            simpa using h6 _ _ hi
          · cases hk
        · exact h6 k r hk
      · rw [List.getElem?_set] at hk
        split at hk
        · rename_i hik
          subst hik
          split at hk
          · cases hk
            rw [List.getElem?_set] at hv
            split at hv
            · rename_i hjl
              subst hjl
              split at hv
              · cases hv
                obtain ⟨cv, a1, a2, a3⟩ := h7 _ _ _ _ hi hj
                refine ⟨cv, a1, a2, ?_⟩
                obtain rfl := a3.inv_d.inv_c
                refine .os _ _ _ (by simp) fun v1 e1 s1 r1 hr2 => ?_
                rw [List.getElem?_append_right (Nat.le_refl _)] at hr2
                simp at hr2
                obtain ⟨rfl, rfl, rfl, rfl⟩ := hr2
                exact ⟨Nat.le_refl _, fun _ => by simp [Conc.put, slv]⟩
              · cases hv
            · exact h7 _ _ _ _ hi hv
          · cases hk
        · exact h7 _ _ _ _ hk hv
  obtain ⟨p2, ok2⟩ := ok1.set (w' := w) (ver' := ver) (e' := e) (sz' := sz) (rows' := rows.set i (row.set j (.os H.length 0))) hr1 (Nat.le_refl _) (fun _ => ⟨rfl, rfl, by simp⟩) rfl rfl (OutSame.refl w) (Nat.le_refl _) (fun _ _ _ => rfl) (fun g cap hc => .inl ⟨cap, hc⟩) hlies
  rw [List.set_append_left _ _ hid] at p2 ok2
  exact h w0 σ0 w _ a hw ((hp.trans p1).trans p2) (hs.pres (p1.trans p2) ok2) hdf
/-- What is returned, with the caller's objects as they were, reads as data. -/
theorem keepFz {H : Heap} {v v' : V} {K : V → Heap → Prop} (hk : K v' H) (hf : Fz H.length H v v') (hb : Bel H.length v') : RetK H K v H :=
  ⟨H, [], v', by simp, Nat.le_refl _, closed_self H, hf, hb, hk⟩
theorem Fz_ag2 {m : Nat} {H : Heap} {a b a' b' : V} (h1 : Fz m H a a') (h2 : Fz m H b b') : Fz m H (.ag [a, b]) (.ag [a', b']) :=
  .ag _ _ rfl fun j c c' h h' => by
    match j, h, h' with
    | 0, h, h' => cases h; cases h'; exact h1
    | 1, h, h' => cases h; cases h'; exact h2
    | j + 2, h, h' => cases h
theorem Fz_tu2 {m : Nat} {H : Heap} {a b a' b' : V} (h1 : Fz m H a a') (h2 : Fz m H b b') : Fz m H (.tu [a, b]) (.tu [a', b']) :=
  .tu _ _ rfl fun j c c' h h' => by
    match j, h, h' with
    | 0, h, h' => cases h; cases h'; exact h1
    | 1, h, h' => cases h; cases h'; exact h2
    | j + 2, h, h' => cases h
theorem Fz_tu3 {m : Nat} {H : Heap} {a b c a' b' c' : V} (h1 : Fz m H a a') (h2 : Fz m H b b') (h3 : Fz m H c c') : Fz m H (.tu [a, b, c]) (.tu [a', b', c']) :=
  .tu _ _ rfl fun j x x' h h' => by
    match j, h, h' with
    | 0, h, h' => cases h; cases h'; exact h1
    | 1, h, h' => cases h; cases h'; exact h2
    | 2, h, h' => cases h; cases h'; exact h3
    | j + 3, h, h' => cases h
end
end Go.Proofs.YtjedhhdkgjchdaaDoor.Ab
