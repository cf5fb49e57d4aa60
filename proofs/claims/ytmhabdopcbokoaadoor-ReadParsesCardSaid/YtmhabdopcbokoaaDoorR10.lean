/- Regions that draw their order: operations that leave the objects alone yield the same in every order; what follows them goes in the written order. No condition. -/
import Derived.Test.YtmhabdopcbokoaaDoorR9
set_option linter.all false
set_option linter.unusedSimpArgs false
set_option linter.unusedVariables false
namespace Go.Proofs.YtmhabdopcbokoaaDoor.Ab
open Go
variable [Glo]
section
variable {P : Program} {H : Heap}
theorem ev_congr {F F' : Frame} {y : Operand} (h : ∀ x, y = .tmp x → F.get x = F'.get x) : ev F y = ev F' y := by
  cases y with
  | tmp x => exact h x rfl
  | _ => rfl
theorem evs_congr {F F' : Frame} {ys : Array Operand} (h : ∀ y, y ∈ ys.toList → ev F y = ev F' y) : evs F ys = evs F' ys := List.map_congr_left h
theorem evP_congr {F F' : Frame} {ps : List (Nat × Operand)} (h : ∀ y, y ∈ ps.map (·.2) → ev F y = ev F' y) : evP F ps = evP F' ps :=
  List.map_congr_left fun p hp => by rw [h p.2 (List.mem_map_of_mem hp)]
theorem opt_congr {F F' : Frame} {y : Option Operand} (h : ∀ z, y = some z → ev F z = ev F' z) : y.map (ev F) = y.map (ev F') := by
  cases y with
  | none => rfl
  | some z => simp [h z rfl]
theorem vcOp_congr {M : List Nat} {o : Oper} {F F' : Frame} {K : V → Heap → Prop} (h : ∀ x, Operand.tmp x ∈ o.op.operands.toList → F.get x = F'.get x) (hv : vcOp P M o F H K) : vcOp P M o F' H K := by
  have e : ∀ y, y ∈ o.op.operands.toList → ev F y = ev F' y := fun y hy => ev_congr fun x hx => h x (hx ▸ hy)
  unfold vcOp at hv ⊢
  split at hv
  case h_14 t x lo hi mx ho =>
    simp only [ho, Op.operands] at e
    have e1 := e x (by simp)
    have e2 : lo.map (ev F) = lo.map (ev F') := opt_congr fun z hz => e z (by simp [hz])
    have e3 : hi.map (ev F) = hi.map (ev F') := opt_congr fun z hz => e z (by simp [hz])
    have e4 : mx.map (ev F) = mx.map (ev F') := opt_congr fun z hz => e z (by simp [hz])
    cases lo <;> cases hi <;> cases mx <;> simp_all <;> (generalize ev F' x = q at *; cases q <;> simp_all)
  case h_18 t ps ho =>
    simp only [ho, Op.operands] at e
    rw [← evP_congr fun y hy => e y (by simpa using hy)]
    exact hv
  case h_19 t len ps ho =>
    simp only [ho, Op.operands] at e
    rw [← evP_congr fun y hy => e y (by simpa using hy)]
    exact hv
  case h_21 g first caps ho =>
    simp only [ho, Op.operands] at e
    rw [← evs_congr fun y hy => e y (by simp at hy ⊢; exact .inr hy)]
    exact hv
  case h_22 c ho =>
    simp only [ho, Op.operands] at e
    have ea : evs F c.args = evs F' c.args := evs_congr fun y hy => e y (by unfold Call.operands; simp at hy ⊢; exact .inr hy)
    rw [← ea]
    cases hc : c.callee with
    | value f =>
      have ef : ev F f = ev F' f := e f (by simp [Call.operands, hc])
      rw [hc] at hv
      simp only [← ef]
      exact hv
    | builtin b => rw [hc] at hv; exact hv
    | invoke r m => rw [hc] at hv; exact hv
  all_goals first
    | exact hv.elim
    | (rename_i ho; simp only [ho, Op.operands] at e; simp only [← e _ (by simp : _ ∈ _)]; exact hv)
    | (rename_i ho; simp only [ho, Op.operands] at e; simp at e; simp_all)
theorem binD_det {t : TypeId} {op : BinOp} {x y : D} {K : D → Prop} (h : binD P t op x y K) : ∃ v, binD P t op x y (fun u => u = v) ∧ K v := by
  unfold binD at h ⊢
  split at h
  all_goals first
    | exact h.elim
    | exact ⟨_, rfl, h⟩
    | exact ⟨_, ⟨h.1, rfl⟩, h.2⟩
    | exact ⟨_, ⟨h.1, h.2.1, rfl⟩, h.2.2⟩
    | exact ⟨_, ⟨h.1, h.2.1, h.2.2.1, rfl⟩, h.2.2.2⟩
theorem vcBin_det {op : BinOp} {t : TypeId} {x y : V} {K : V → Prop} (h : vcBin P op t x y K) : ∃ v, vcBin P op t x y (fun u => u = v) ∧ K v := by
  unfold vcBin at h ⊢
  split at h
  · obtain ⟨h1, h2, h3⟩ := h
    split at h3
    · split at h3
      · exact ⟨_, ⟨h1, h2, rfl⟩, h3⟩
      · exact ⟨_, ⟨h1, h2, rfl⟩, h3⟩
    · split at h3
      · exact ⟨_, ⟨h1, h2, rfl⟩, h3⟩
      · exact ⟨_, ⟨h1, h2, rfl⟩, h3⟩
    · exact h3.elim
  · obtain ⟨v, h1, h2⟩ := binD_det h
    refine ⟨.d v, ?_, h2⟩
    simpa using h1
  · split at h
    · rename_i l hl
      try simp only [hl]
      split at h
      · rename_i hq; exact ⟨_, rfl, h⟩
      · exact h.elim
    · rename_i l hl
      try simp only [hl]
      split at h
      · rename_i hq; exact ⟨_, rfl, h⟩
      · exact h.elim
    · exact h.elim
  · exact h.elim
theorem vcBinW_det {op : BinOp} {x y : V} {K : V → Prop} (h : vcBinW op x y K) : ∃ v, vcBinW op x y (fun u => u = v) ∧ K v := by
  unfold vcBinW at h ⊢
  split at h
  case h_4 => exact h.elim
  all_goals exact ⟨_, ⟨h.1, rfl⟩, h.2⟩
theorem vcUn_det {op : UnOp} {x : V} {K : V → Prop} (h : vcUn op x K) : ∃ v, vcUn op x (fun u => u = v) ∧ K v := by
  unfold vcUn at h ⊢
  split at h
  · exact ⟨_, rfl, h⟩
  · exact ⟨_, ⟨h.1, rfl⟩, h.2⟩
  · exact h.elim
theorem vcConv_det {src dst : TypeId} {x : V} {K : V → Prop} (h : vcConv P src dst x K) : ∃ v, vcConv P src dst x (fun u => u = v) ∧ K v := by
  unfold vcConv at h ⊢
  split at h
  · split at h
    · rename_i hk; exact ⟨_, rfl, h⟩
    · exact h.elim
  · exact ⟨_, ⟨h.1, rfl⟩, h.2⟩
  · exact h.elim
theorem vcCells_det {t : TypeId} {cs : List V} {K : V → Prop} (h : vcCells P t cs K) : ∃ v, vcCells P t cs (fun u => u = v) ∧ K v := by
  unfold vcCells at h ⊢
  split at h
  · split at h
    · exact ⟨_, rfl, h⟩
    · exact h.elim
  · split at h
    · rename_i hz; (try simp only [hz]); exact ⟨_, ⟨h.1, rfl⟩, h.2⟩
    · exact h.elim
  · exact h.elim
theorem vcLoad_det {t : TypeId} {a : V} {K : V → Prop} (h : vcLoad P t a H K) : ∃ v, vcLoad P t a H (fun u => u = v) ∧ K v := by
  unfold vcLoad at h ⊢
  split at h
  · exact vcCells_det h
  · split at h
    · rename_i hr
      obtain ⟨h1, h2, h3⟩ := h
      obtain ⟨v, h4, h5⟩ := vcCells_det (h3 _ (List.getElem?_eq_getElem h2))
      refine ⟨v, ?_, h5⟩
      try simp only [hr]
      exact ⟨h1, h2, fun r hr => by rw [List.getElem?_eq_getElem h2] at hr; cases hr; exact h4⟩
    · exact h.elim
  · exact h.elim
theorem vcNil_det {x : V} {K : V → Prop} (h : vcNil x H K) : ∃ v, vcNil x H (fun u => u = v) ∧ K v := by
  unfold vcNil at h ⊢
  split at h
  · exact ⟨_, rfl, h⟩
  · split at h
    · rename_i hr; (try simp only [hr]); exact ⟨_, ⟨h.1, rfl⟩, h.2⟩
    · exact h.elim
  · exact h.elim
theorem vcFAddr_det {t : TypeId} {x : V} {f : Nat} {K : V → Prop} (h : vcFAddr P t x f H K) : ∃ v, vcFAddr P t x f H (fun u => u = v) ∧ K v := by
  unfold vcFAddr at h ⊢
  split at h
  · rename_i hf; (try simp only [hf]); exact ⟨_, ⟨h.1, rfl⟩, h.2⟩
  · rename_i hf; (try simp only [hf])
    split at h
    · rename_i hr; (try simp only [hr]); exact ⟨_, ⟨h.1, rfl⟩, h.2⟩
    · exact h.elim
  · exact h.elim
theorem vcField_det {t : TypeId} {x : V} {f : Nat} {K : V → Prop} (h : vcField P t x f K) : ∃ v, vcField P t x f (fun u => u = v) ∧ K v := by
  unfold vcField at h ⊢
  split at h
  · rename_i hf; (try simp only [hf])
    exact ⟨_, ⟨h.1, fun c hc => by rw [List.getElem?_eq_getElem h.1] at hc; exact (Option.some.inj hc).symm⟩, h.2 _ (List.getElem?_eq_getElem h.1)⟩
  · rename_i hf; (try simp only [hf]); exact ⟨_, ⟨h.1, rfl⟩, h.2⟩
  · exact h.elim
theorem vcIAddr_det {t : TypeId} {x i : V} {K : V → Prop} (h : vcIAddr P t x i H K) : ∃ v, vcIAddr P t x i H (fun u => u = v) ∧ K v := by
  unfold vcIAddr at h ⊢
  split at h
  · rename_i hf; (try simp only [hf])
    split at h
    · rename_i he; (try simp only [he]); exact ⟨_, ⟨h.1, h.2.1, rfl⟩, h.2.2⟩
    · exact h.elim
  · rename_i hf; (try simp only [hf])
    split at h
    · rename_i he; (try simp only [he])
      obtain ⟨h0, h1, h⟩ := h
      split at h
      · rename_i hr; (try simp only [hr]); exact ⟨_, ⟨h0, h1, h.1, rfl⟩, h.2⟩
      · exact h.elim
    · exact h.elim
  · rename_i hf; (try simp only [hf])
    obtain ⟨h1, h2, h3, h4⟩ := h
    refine ⟨_, ⟨h1, h2, h3, fun c hc => ?_⟩, h4 _ (List.getElem?_eq_getElem (by omega))⟩
    rw [List.getElem?_eq_getElem (by omega)] at hc
    rw [(Option.some.inj hc).symm]
  · rename_i hf; (try simp only [hf])
    split at h
    · rename_i hr; (try simp only [hr]); exact ⟨_, ⟨h.1, h.2.1, h.2.2.1, h.2.2.2.1, rfl⟩, h.2.2.2.2⟩
    · exact h.elim
  · exact h.elim
theorem vcIndex_det {t : TypeId} {x i : V} {K : V → Prop} (h : vcIndex P t x i K) : ∃ v, vcIndex P t x i (fun u => u = v) ∧ K v := by
  unfold vcIndex at h ⊢
  split at h
  · obtain ⟨h1, h2, h3, h4⟩ := h
    refine ⟨_, ⟨h1, h2, h3, fun c hc => ?_⟩, h4 _ (List.getElem?_eq_getElem (by omega))⟩
    rw [List.getElem?_eq_getElem (by omega)] at hc
    rw [(Option.some.inj hc).symm]
  · split at h
    · rename_i hm
      (try simp only [hm])
      obtain ⟨h1, h2, h3, h4⟩ := h
      refine ⟨_, ⟨h1, h2, h3, fun c hc => ?_⟩, h4 _ (List.getElem?_eq_getElem (by omega))⟩
      rw [List.getElem?_eq_getElem (by omega)] at hc
      exact (Option.some.inj hc).symm
    · rename_i hm
      (try simp only [hm])
      split at h
      · rename_i he; (try simp only [he]); exact ⟨_, ⟨h.1, h.2.1, h.2.2.1, rfl⟩, h.2.2.2⟩
      · exact h.elim
  · exact h.elim
theorem vcSlice_det {t : TypeId} {x : V} {lo hi mx : Option V} {K : V → Prop} (h : vcSlice P t x lo hi mx K) : ∃ v, vcSlice P t x lo hi mx (fun u => u = v) ∧ K v := by
  unfold vcSlice at h ⊢
  split at h
  · split at h
    · rename_i ha hb; (try simp only [ha, hb]); exact ⟨_, ⟨h.1, h.2.1, h.2.2.1, h.2.2.2.1, rfl⟩, h.2.2.2.2⟩
    · exact h.elim
  · split at h
    · rename_i ha hb; (try simp only [ha, hb]); exact ⟨_, ⟨h.1, h.2.1, h.2.2.1, h.2.2.2.1, rfl⟩, h.2.2.2.2⟩
    · exact h.elim
  · split at h
    · exact ⟨_, ⟨h.1, rfl⟩, h.2⟩
    · exact h.elim
  · split at h
    · rename_i ha hb; (try simp only [ha, hb]); exact ⟨_, ⟨h.1, h.2.1, h.2.2.1, h.2.2.2.1, rfl⟩, h.2.2.2.2⟩
    · exact h.elim
  · split at h
    · exact ⟨_, ⟨h.1, rfl⟩, h.2⟩
    · exact ⟨_, ⟨h.1, h.2.1, h.2.2.1, rfl⟩, h.2.2.2⟩
    · exact h.elim
  · exact h.elim
theorem vcExtract_det {x : V} {i : Nat} {K : V → Prop} (h : vcExtract x i K) : ∃ v, vcExtract x i (fun u => u = v) ∧ K v := by
  unfold vcExtract at h ⊢
  split at h
  · exact ⟨_, ⟨h.1, fun c hc => by rw [List.getElem?_eq_getElem h.1] at hc; exact (Option.some.inj hc).symm⟩, h.2 _ (List.getElem?_eq_getElem h.1)⟩
  · exact h.elim
theorem vcLen_det {t : TypeId} {x : V} {K : V → Prop} (h : vcLen P t x H K) : ∃ v, vcLen P t x H (fun u => u = v) ∧ K v := by
  unfold vcLen at h ⊢
  split at h
  · exact ⟨_, ⟨h.1, rfl⟩, h.2⟩
  · exact ⟨_, ⟨h.1, rfl⟩, h.2⟩
  · exact ⟨_, ⟨h.1, h.2.1, rfl⟩, h.2.2⟩
  · obtain ⟨h1, h2⟩ := h
    split at h2
    · rename_i hr; (try simp only [hr]); exact ⟨_, ⟨h1, h2.1, rfl⟩, h2.2⟩
    · exact h2.elim
  · exact ⟨_, ⟨h.1, rfl⟩, h.2⟩
  · exact h.elim
theorem vcMax_det {b : Builtin} {x y : V} {K : V → Prop} (h : vcMax b x y K) : ∃ v, vcMax b x y (fun u => u = v) ∧ K v := by
  unfold vcMax at h ⊢
  split at h
  · exact ⟨_, rfl, h⟩
  · exact ⟨_, rfl, h⟩
  · exact h.elim
theorem vcBuild_det {t : TypeId} {parts : List (Nat × V)} {K : V → Prop} (h : vcBuild P t parts H K) : ∃ v, vcBuild P t parts H (fun u => u = v) ∧ K v := by
  unfold vcBuild at h ⊢
  split at h
  · rename_i ha hb
    try simp only [ha, hb]
    obtain ⟨h1, h2⟩ := h
    split at h2
    · rename_i hc; (try simp only [hc]); exact ⟨_, ⟨h1, rfl⟩, h2⟩
    · exact h2.elim
  · exact h.elim
theorem vcBSlice_det {t : TypeId} {len : Nat} {parts : List (Nat × V)} {K : V → Prop} (h : vcBSlice P t len parts K) : ∃ v, vcBSlice P t len parts (fun u => u = v) ∧ K v := by
  unfold vcBSlice at h ⊢
  split at h
  · rename_i ha hb
    try simp only [ha, hb]
    exact ⟨_, ⟨h.1, h.2.1, h.2.2.1, rfl⟩, h.2.2.2⟩
  · exact h.elim
def Two (v : V) (H' : Heap) (u : V) (H'' : Heap) : Prop := u = v ∧ H'' = H'
theorem vcBSliceO_det {t : TypeId} {len : Nat} {parts : List (Nat × V)} {K : V → Heap → Prop} (h : vcBSliceO P t len parts H K) : ∃ v H', vcBSliceO P t len parts H (Two v H') ∧ K v H' := by
  unfold vcBSliceO at h ⊢
  split at h
  · rename_i ha hb
    (try simp only [ha, hb])
    exact ⟨_, _, ⟨h.1, h.2.1, h.2.2.1, h.2.2.2.1, rfl, rfl⟩, h.2.2.2.2⟩
  · exact h.elim
theorem vcStore_det {t : TypeId} {a x : V} {K : V → Heap → Prop} (h : vcStore P t a x H K) : ∃ v H', vcStore P t a x H (Two v H') ∧ K v H' := by
  unfold vcStore at h ⊢
  split at h
  · rename_i hz
    try simp only [hz]
    split at h
    · rename_i hr
      try simp only [hr]
      obtain ⟨h1, h2, h3, h4, h5, h6⟩ := h
      refine ⟨_, _, ⟨h1, h2, h3, h4, h5, fun r hr => ?_⟩, h6 _ (List.getElem?_eq_getElem h5)⟩
      rw [List.getElem?_eq_getElem h5] at hr
      cases hr
      exact ⟨rfl, rfl⟩
    · exact h.elim
  · exact h.elim
theorem vcAlloc_det {e : TypeId} {K : V → Heap → Prop} (h : vcAlloc P e H K) : ∃ v H', vcAlloc P e H (Two v H') ∧ K v H' := by
  unfold vcAlloc at h ⊢
  split at h
  · rename_i hz; (try simp only [hz]); exact ⟨_, _, ⟨rfl, rfl⟩, h⟩
  · exact h.elim
theorem vcBox_det {own : Bool} {e : TypeId} {x : V} {K : V → Heap → Prop} (h : vcBox own e x H K) : ∃ v H', vcBox own e x H (Two v H') ∧ K v H' := by
  unfold vcBox at h ⊢
  split at h
  · rename_i hz; (try simp only [hz, if_true]); exact ⟨_, _, ⟨h.1, h.2.1, rfl, rfl⟩, h.2.2⟩
  · rename_i hz; (try simp only [hz])
    split at h
    · rename_i hd; (try simp only [hd]); exact ⟨_, _, ⟨rfl, rfl⟩, h⟩
    · exact h.elim
theorem vcMakeMap_det {t : TypeId} {K : V → Heap → Prop} (h : vcMakeMap P t H K) : ∃ v H', vcMakeMap P t H (Two v H') ∧ K v H' := by
  unfold vcMakeMap at h ⊢
  split at h
  · rename_i hz; (try simp only [hz])
    split at h
    · rename_i hy; (try simp only [hy]); exact ⟨_, _, ⟨rfl, rfl⟩, h⟩
    · exact h.elim
  · exact h.elim
theorem vcLookup_det {t : TypeId} {m k : V} {ok : Bool} {K : V → Prop} (h : vcLookup P t m k ok H K) : ∃ v, vcLookup P t m k ok H (fun u => u = v) ∧ K v := by
  unfold vcLookup at h ⊢
  split at h
  case h_2 => exact h.elim
  rename_i hz; (try simp only [hz])
  split at h
  case h_2 => exact h.elim
  rename_i h1 h2 h3; (try simp only [h1, h2, h3])
  obtain ⟨h4, h⟩ := h
  split at h
  · split at h
    · rename_i hr; (try simp only [hr]); exact ⟨_, ⟨h4, h.1, h.2.1, rfl⟩, h.2.2⟩
    · exact h.elim
  · exact ⟨_, ⟨h4, h.1, rfl⟩, h.2⟩
  · exact h.elim
theorem mapK_det {t : TypeId} {m k : V} {A : (V → Heap → Prop) → (id ver e : Nat) → List Kd → List (List D) → List V → List D → D → Prop} {K : V → Heap → Prop} (hA : ∀ id ver e sh ks vs ds z, A K id ver e sh ks vs ds z → ∃ v H', A (Two v H') id ver e sh ks vs ds z ∧ K v H') (h : mapK P t m k H (A K)) : ∃ v H', mapK P t m k H (A (Two v H')) ∧ K v H' := by
  unfold mapK at h ⊢
  split at h
  case h_2 => exact h.elim
  rename_i hz; (try simp only [hz])
  split at h
  case h_2 => exact h.elim
  rename_i h1 h2 h3; (try simp only [h1, h2, h3])
  obtain ⟨h4, h⟩ := h
  split at h
  case h_2 => exact h.elim
  rename_i hr; (try simp only [hr])
  obtain ⟨v, H', h5, h6⟩ := hA _ _ _ _ _ _ _ _ h.2.2
  exact ⟨v, H', ⟨h4, h.1, h.2.1, h5⟩, h6⟩
theorem vcMapUp_det {t : TypeId} {m k x : V} {K : V → Heap → Prop} (h : vcMapUp P t m k x H K) : ∃ v H', vcMapUp P t m k x H (Two v H') ∧ K v H' :=
  mapK_det (A := fun K id ver e sh ks vs ds _ => K .un (H.set id (.row ver e 0 [[.mp sh (mputK ks ds) (mputV ks vs ds x)]]))) (fun _ _ _ _ _ _ _ _ h => ⟨_, _, ⟨rfl, rfl⟩, h⟩) h
theorem vcMapEnt_det {t : TypeId} {m k : V} {K : V → Heap → Prop} (h : vcMapEnt P t m k H K) : ∃ v H', vcMapEnt P t m k H (Two v H') ∧ K v H' :=
  mapK_det (A := fun K id ver e sh ks vs ds z => K (.tu [mget ks vs ds (.d z), .d (.i .i64 (mat ks ds))]) (H.set id (.row ver e 0 [[.mp sh (mputK ks ds) (mtouchV ks vs ds (.d z))]]))) (fun _ _ _ _ _ _ _ _ h => ⟨_, _, ⟨rfl, rfl⟩, h⟩) h
theorem vcEntSt_det {m s x : V} {K : V → Heap → Prop} (h : vcEntSt m s x H K) : ∃ v H', vcEntSt m s x H (Two v H') ∧ K v H' := by
  unfold vcEntSt at h ⊢
  split at h
  case h_2 => exact h.elim
  split at h
  case h_2 => exact h.elim
  rename_i hr; (try simp only [hr])
  exact ⟨_, _, ⟨h.1, h.2.1, h.2.2.1, rfl, rfl⟩, h.2.2.2⟩
theorem vcBinN_det {op : BinOp} {t : TypeId} {x y : V} {K : V → Prop} (h : vcBinN P op t x y H K) : ∃ v, vcBinN P op t x y H (fun u => u = v) ∧ K v := by
  unfold vcBinN at h ⊢
  split at h
  · split at h
    · exact ⟨_, ⟨h.1, h.2.1, h.2.2.1, h.2.2.2.1, rfl⟩, h.2.2.2.2⟩
    · exact ⟨_, ⟨h.1, h.2.1, h.2.2.1, h.2.2.2.1, rfl⟩, h.2.2.2.2⟩
    · exact h.elim
  · exact vcBin_det h
theorem vcTrunc_det {t : TypeId} {id ver : Nat} {hi : V} {K : V → Heap → Prop} (h : vcTrunc P t id ver hi H K) : ∃ v H', vcTrunc P t id ver hi H (Two v H') ∧ K v H' := by
  unfold vcTrunc at h ⊢
  split at h
  · rename_i ha hb; (try simp only [ha, hb]); exact ⟨_, _, ⟨h.1, h.2.1, h.2.2.1, h.2.2.2.1, rfl, rfl⟩, h.2.2.2.2⟩
  · exact h.elim
theorem vcView_det {t : TypeId} {id ver : Nat} {hi : V} {K : V → Prop} (h : vcView P t id ver hi H K) : ∃ v, vcView P t id ver hi H (fun u => u = v) ∧ K v := by
  unfold vcView at h ⊢
  split at h
  · rename_i ha hb; (try simp only [ha, hb]); exact ⟨_, ⟨h.1, h.2.1, h.2.2.1, h.2.2.2.1, rfl⟩, h.2.2.2.2⟩
  · exact h.elim
theorem vcMake_det {t : TypeId} {l c : V} {K : V → Heap → Prop} (h : vcMake P t l c H K) : ∃ v H', vcMake P t l c H (Two v H') ∧ K v H' := by
  unfold vcMake at h ⊢
  split at h
  · rename_i ha; (try simp only [ha])
    split at h
    · rename_i hd; (try simp only [hd]); exact ⟨_, _, ⟨h.1, h.2.1, h.2.2.1, h.2.2.2.1, rfl, rfl⟩, h.2.2.2.2⟩
    · exact h.elim
  · exact h.elim
theorem fresh_det {own : Bool} {e : TypeId} {z bytes : Nat} {x : V} {K : V → Heap → Prop} (h : if own then (match srcV z x H with
        | some R => R.length ≤ 9223372036854775807 ∧ R.length * bytes ≤ 140737488355328 ∧ K (.os H.length 0) (H ++ [.row 0 e z R])
        | none => False)
      else (match dataOf z x with
        | some R => R.length ≤ 9223372036854775807 ∧ R.length * bytes ≤ 140737488355328 ∧ K (.d (.sl z R)) H
        | none => False)) : ∃ v H', (if own then (match srcV z x H with
        | some R => R.length ≤ 9223372036854775807 ∧ R.length * bytes ≤ 140737488355328 ∧ Two v H' (.os H.length 0) (H ++ [.row 0 e z R])
        | none => False)
      else (match dataOf z x with
        | some R => R.length ≤ 9223372036854775807 ∧ R.length * bytes ≤ 140737488355328 ∧ Two v H' (.d (.sl z R)) H
        | none => False)) ∧ K v H' := by
  split at h
  · rename_i ho
    try simp only [ho, if_true]
    split at h
    · rename_i hr; (try simp only [hr]); exact ⟨_, _, ⟨h.1, h.2.1, rfl, rfl⟩, h.2.2⟩
    · exact h.elim
  · rename_i ho
    try simp only [ho]
    split at h
    · rename_i hr; (try simp only [hr]); exact ⟨_, _, ⟨h.1, h.2.1, rfl, rfl⟩, h.2.2⟩
    · exact h.elim
theorem vcAppend_det {own : Bool} {t : TypeId} {s x : V} {K : V → Heap → Prop} (h : vcAppend P own t s x H K) : ∃ v H', vcAppend P own t s x H (Two v H') ∧ K v H' := by
  unfold vcAppend at h ⊢
  split at h
  · exact h.elim
  rename_i hs
  try simp only [hs]
  split at h
  · split at h
    · rename_i ha hb; (try simp only [ha, hb]); exact ⟨_, _, ⟨h.1, h.2.1, h.2.2.1, h.2.2.2.1, h.2.2.2.2.1, rfl, rfl⟩, h.2.2.2.2.2⟩
    · exact h.elim
  · obtain ⟨v, H', h1, h2⟩ := fresh_det h.2
    exact ⟨v, H', ⟨h.1, h1⟩, h2⟩
  · split at h
    · rename_i ho
      simp only [ho, if_true]
      split at h
      · rename_i hr; (try simp only [hr]); exact ⟨_, _, ⟨h.1, h.2.1, h.2.2.1, rfl, rfl⟩, h.2.2.2⟩
      · exact h.elim
    · rename_i ho
      simp only [ho]
      split at h
      · rename_i hr; (try simp only [hr]); exact ⟨_, _, ⟨h.1, h.2.1, rfl, rfl⟩, h.2.2⟩
      · exact h.elim
  · exact h.elim
theorem vcAssign_det {own : Bool} {t : TypeId} {x : V} {K : V → Heap → Prop} (h : vcAssign P own t x H K) : ∃ v H', vcAssign P own t x H (Two v H') ∧ K v H' := by
  unfold vcAssign at h ⊢
  split at h
  · rename_i hs
    split at h
    · rename_i hn; (try simp only [hs, hn]); exact ⟨_, _, ⟨rfl, rfl⟩, h⟩
    · rename_i hn; (try simp only [hs, hn]); exact ⟨_, _, ⟨rfl, rfl⟩, h⟩
  · exact ⟨_, _, ⟨rfl, rfl⟩, h⟩
theorem vcSData_det {ty : TypeId} {id ver : Nat} {K : V → Prop} (h : vcSData P ty id ver H K) : ∃ v, vcSData P ty id ver H (fun u => u = v) ∧ K v := by
  unfold vcSData at h ⊢
  split at h
  · rename_i ha hb; (try simp only [ha, hb]); exact ⟨_, ⟨h.1, rfl⟩, h.2⟩
  · exact h.elim
theorem vcUStr_det {t : TypeId} {id ver : Nat} {n : Int} {K : V → Heap → Prop} (h : vcUStr P t id ver n H K) : ∃ v H', vcUStr P t id ver n H (Two v H') ∧ K v H' := by
  unfold vcUStr at h ⊢
  split at h
  · rename_i ha hb; (try simp only [ha, hb])
    obtain ⟨h1, h2, h3, h4, h5⟩ := h
    split at h5
    · rename_i hl; (try simp only [hl]); exact ⟨_, _, ⟨h1, h2, h3, h4, rfl, rfl⟩, h5⟩
    · exact h5.elim
  · exact h.elim
theorem vcAppN_det {own : Bool} {t t' : TypeId} {s : V} {n : Int} {K : V → Heap → Prop} (h : vcAppN P own t t' s n H K) : ∃ v H', vcAppN P own t t' s n H (Two v H') ∧ K v H' := by
  unfold vcAppN at h ⊢
  split at h
  · rename_i ha hb; (try simp only [ha, hb])
    obtain ⟨q1, q2, h⟩ := h
    split at h
    · rename_i hd; (try simp only [hd]); exact ⟨_, _, ⟨q1, q2, h.1, h.2.1, h.2.2.1, rfl, rfl⟩, h.2.2.2⟩
    · exact h.elim
  · exact h.elim
theorem vcBuiltin_det {own : Bool} {b : Builtin} {vs : List V} {ts : List TypeId} {ty : TypeId} {K : V → Heap → Prop} (h : vcBuiltin P own b vs ts ty H K) : ∃ v H', vcBuiltin P own b vs ts ty H (Two v H') ∧ K v H' := by
  unfold vcBuiltin at h ⊢
  split at h
  · obtain ⟨v, h1, h2⟩ := vcLen_det h
    exact ⟨v, H, by simpa [Two] using h1, h2⟩
  · exact ⟨_, H, ⟨h.1, h.2.1, rfl, rfl⟩, h.2.2⟩
  · split at h
    · exact vcAppN_det h
    · obtain ⟨v, H', h1, h2⟩ := vcAppend_det h.2
      exact ⟨v, H', ⟨h.1, h1⟩, h2⟩
  · obtain ⟨v, h1, h2⟩ := vcMax_det h
    exact ⟨v, H, by simpa [Two] using h1, h2⟩
  · obtain ⟨v, h1, h2⟩ := vcMax_det h
    exact ⟨v, H, by simpa [Two] using h1, h2⟩
  · obtain ⟨v, h1, h2⟩ := vcSData_det h
    exact ⟨v, H, by simpa [Two] using h1, h2⟩
  · exact vcUStr_det h
  · exact h.elim
end
end Go.Proofs.YtmhabdopcbokoaaDoor.Ab
