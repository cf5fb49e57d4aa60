/- Steps that turn nothing in memory: a nil slice in a cell as an object without elements. No condition. -/
import Derived.Test.YtmhabdopcbokoaaDoorR13
set_option linter.all false
set_option linter.unusedSimpArgs false
set_option linter.unusedVariables false
namespace Go.Proofs.YtmhabdopcbokoaaDoor.Ab
open Go
variable [Glo]
section
variable {P : Program} {n : Nat} {dfs : List Deferred} {H0 H : Heap} {Q : Exit → Frame → Heap → Prop} {F : Frame}
theorem AWp_prm {c : Code} (id i j e' sz' : Nat) {ver e sz : Nat} {rows : List (List V)} {row : List V} (hr : H[id]? = some (Ob.row ver e sz rows)) (hi : rows[i]? = some row) (hj : row[j]? = some (.d (.c (.slice none 0 0)))) (hz' : sz' ≠ 0 := by decide)
    (h : AWp P n dfs H0 c Q F (H.set id (.row ver e sz (rows.set i (row.set j (.os H.length 0)))) ++ [.row 0 e' sz' []])) : AWp P n dfs H0 c Q F H := by
  unfold AWp at h ⊢
  intro w0 σ0 w σ a hw hp hs hdf
  have hid := (List.getElem?_eq_some_iff.1 hr).1
  obtain ⟨p1, ok1⟩ := hs.ok.push (w' := w) (ver := 0) (e := e') (sz := sz') (rows := []) (c := .no none) rfl rfl (OutSame.refl w) (Nat.le_refl _) (fun _ _ => rfl) (fun g cap hc => by cases hc) (.inl ⟨⟨none, rfl⟩, rfl⟩)
  have hr1 : (H ++ [Ob.row 0 e' sz' []])[id]? = some (Ob.row ver e sz rows) := by rw [List.getElem?_append_left hid]; exact hr
  have hl := ok1.lies hr1
  have hlies : Lies w (Own (H ++ [Ob.row 0 e' sz' []]) (σ.put H.length (.no none))) (H ++ [Ob.row 0 e' sz' []]) (σ.put H.length (.no none)) (σ.put H.length (.no none) id) w e sz (rows.set i (row.set j (.os H.length 0))) := by
    rcases hl with ⟨_, h2⟩ | ⟨g, cap, cur, h1, h2, h3, h4, h5, h6, h7⟩ | ⟨_, _, _, _, _, _, _, _, _, _, h2, _⟩
    · subst h2; cases hi
    rotate_left
    · subst h2
      have hi0 : i = 0 := by have := (List.getElem?_eq_some_iff.1 hi).1; simp at this; exact this
      subst hi0
      simp at hi
      subst hi
      have hj0 : j = 0 := by have := (List.getElem?_eq_some_iff.1 hj).1; simp at this; exact this
      subst hj0
      simp at hj
    · refine .inr <| .inl ⟨g, cap, cur, h1, h2, by simpa using h3, h4, h5, fun k r hk => ?_, fun k l r v hk hv => ?_⟩
      · rw [List.getElem?_set] at hk
        split at hk
        · rename_i hik
          subst hik
          split at hk
          · cases hk
            simpa using h6 _ _ hi
          · cases hk
        · exact h6 k r hk
      · rw [List.getElem?_set] at hk
        split at hk
        · rename_i hik
          subst hik
          split at hk
          · cases hk
            rw [List.getElem?_set] at hv
            split at hv
            · rename_i hjl
              subst hjl
              split at hv
              · cases hv
                obtain ⟨cv, a1, a2, a3⟩ := h7 _ _ _ _ hi hj
                refine ⟨cv, a1, a2, ?_⟩
                obtain rfl := a3.inv_d.inv_c
                refine .os _ _ _ (by simp) fun v1 e1 s1 r1 hr2 => ?_
                rw [List.getElem?_append_right (Nat.le_refl _)] at hr2
                simp at hr2
                obtain ⟨rfl, rfl, rfl, rfl⟩ := hr2
                exact ⟨Nat.le_refl _, fun _ => ⟨hz', by simp [Conc.put, slv]⟩⟩
              · cases hv
            · exact h7 _ _ _ _ hi hv
          · cases hk
        · exact h7 _ _ _ _ hk hv
  obtain ⟨p2, ok2⟩ := ok1.set (w' := w) (ver' := ver) (e' := e) (sz' := sz) (rows' := rows.set i (row.set j (.os H.length 0))) hr1 (Nat.le_refl _) (fun _ => ⟨rfl, rfl, by simp⟩) rfl rfl (OutSame.refl w) (Nat.le_refl _) (fun _ _ _ => rfl) (fun g cap hc => .inl ⟨cap, hc⟩) hlies
  rw [List.set_append_left _ _ hid] at p2 ok2
  exact h w0 σ0 w _ a hw ((hp.trans p1).trans p2) (hs.pres (p1.trans p2) ok2) hdf
theorem keepFz {H : Heap} {v v' : V} {K : V → Heap → Prop} (hk : K v' H) (hf : Fz H.length H v v') (hb : Bel H.length v') : RetK H K v H :=
  ⟨H, [], v', by simp, Nat.le_refl _, closed_self H, hf, hb, hk⟩
theorem set_same {H : Heap} {id : Nat} {ob : Ob} (h : H[id]? = some ob) : H.set id ob = H := by
  apply List.ext_getElem?
  intro j
  rw [List.getElem?_set]
  split
  · rename_i e
    subst e
    rw [h, if_pos (List.getElem?_eq_some_iff.1 h).1]
  · rfl
theorem get_self {H : Heap} {id : Nat} {ob : Ob} (h : H[id]? = some ob) (x : Ob) : (H.set id x)[id]? = some x := by
  rw [List.getElem?_set, if_pos rfl, if_pos (List.getElem?_eq_some_iff.1 h).1]
theorem keepS {H H' : Heap} {v : V} {K : V → Heap → Prop} (hk : K v H') (hl : H.length ≤ H'.length) (hc : Closed H H') (hb : Bel H'.length v) : RetK H K v H' := ⟨H', [], v, by simp, hl, hc, .same _, hb, hk⟩
theorem closed_set {H H' : Heap} {id : Nat} {x : Ob} (h : Closed H H') (hx : ObBel H'.length x) : Closed H (H'.set id x) := by
  intro id' ver e sz rows hr
  rw [List.getElem?_set] at hr
  rw [List.length_set]
  split at hr
  · split at hr
    · cases hr
      exact .inr hx
    · cases hr
  · exact h id' ver e sz rows hr
theorem dropS {H H1 G : Heap} {v : V} {K : V → Heap → Prop} (hk : K v H1) (hl : H.length ≤ H1.length) (hc : Closed H H1) (hb : Bel H1.length v) : RetK H K v (H1 ++ G) := ⟨H1, G, v, rfl, hl, hc, .same _, hb, hk⟩
end
end Go.Proofs.YtmhabdopcbokoaaDoor.Ab
namespace Go.Proofs.YtmhabdopcbokoaaDoor.Ab
open Go
variable [Glo]
section
variable {P : Program} {n : Nat} {dfs : List Deferred} {H H1 : Heap}
def freeB (o : Oper) : Bool := o.guard.isNone && match o.op with | .binOp .eql _ _ _ _ | .binOp .neq _ _ _ _ => false | .move _ | .binOp .. | .unOp .. | .index .. | .extract .. | .field .. => true | _ => false
theorem vcBinN_free {op : BinOp} {t : TypeId} {x y : V} {K : V → Prop} (h1 : op ≠ .eql) (h2 : op ≠ .neq) (h : vcBinN P op t x y H K) : vcBinN P op t x y H1 K := by
  unfold vcBinN at h ⊢
  split at h
  · split at h
    · exact absurd rfl h1
    · exact absurd rfl h2
    · exact h.elim
  · exact h
theorem OpOk.free {M : List Nat} {all : List Oper} {o : Oper} {F : Frame} {v : V} (h : OpOk P n M all H o F v) (hf : freeB o = true) : OpOk P n M all H1 o F v := by
  obtain ⟨dst, op, type, pos, after, guard⟩ := o
  cases guard with
  | some g => simp [freeB] at hf
  | none =>
    refine ⟨h.1, ?_⟩
    have h := h.2
    cases op with
    | move x => exact ⟨h.1, rfl⟩
    | binOp op t x y u =>
      have ho : op ≠ .eql ∧ op ≠ .neq := by
        constructor <;> (intro e; subst e; simp [freeB] at hf)
      have h : (match (match dst with | some d => M.contains d | none => false) with | true => vcBinW op (ev F x) (ev F y) (fun u => Two v H u H) | false => vcBinN P op t (ev F x) (ev F y) H (fun u => Two v H u H)) := h
      show (match (match dst with | some d => M.contains d | none => false) with | true => vcBinW op (ev F x) (ev F y) (fun u => Two v H1 u H1) | false => vcBinN P op t (ev F x) (ev F y) H1 (fun u => Two v H1 u H1))
      split at h
      · simpa [Two] using h
      · exact vcBinN_free ho.1 ho.2 (by simpa [Two] using h)
    | unOp op t x =>
      have h : vcUn op (ev F x) (fun u => Two v H u H) := h
      show vcUn op (ev F x) (fun u => Two v H1 u H1)
      simpa [Two] using h
    | index t x i =>
      have h : vcIndex P t (ev F x) (ev F i) (fun u => Two v H u H) := h
      show vcIndex P t (ev F x) (ev F i) (fun u => Two v H1 u H1)
      simpa [Two] using h
    | extract x i =>
      have h : vcExtract (ev F x) i (fun u => Two v H u H) := h
      show vcExtract (ev F x) i (fun u => Two v H1 u H1)
      simpa [Two] using h
    | field t x f =>
      have h : vcField P t (ev F x) f (fun u => Two v H u H) := h
      show vcField P t (ev F x) f (fun u => Two v H1 u H1)
      simpa [Two] using h
    | _ => simp [freeB] at hf
def ancs (ops : Array Oper) (e : Nat) : List Nat := (List.range e).reverse.foldl (fun acc k => if acc.any (fun m => Region.waitsFor .any ops m k) then k :: acc else acc) [e]
theorem ancs_done {ops : Array Oper} {nh : Nat} {listed : Array Bool} (inv : HeadInv .any ops nh listed) {e : Nat} (he : listed.getD e false = true) : ∀ k, k ∈ ancs ops e → listed.getD k false = true := by
  have key : ∀ (l acc : List Nat), (∀ k, k ∈ acc → listed.getD k false = true) → ∀ k, k ∈ l.foldl (fun acc k => if acc.any (fun m => Region.waitsFor .any ops m k) then k :: acc else acc) acc → listed.getD k false = true := by
    intro l
    induction l with
    | nil => intro acc h; exact h
    | cons x l ih =>
      intro acc h
      rw [List.foldl_cons]
      refine ih _ fun k hk => ?_
      split at hk
      · rename_i hx
        rcases List.mem_cons.1 hk with rfl | hk
        · obtain ⟨m, hm, hw⟩ := List.any_eq_true.1 hx
          obtain ⟨oj, hoj, ed, hed, hb, hon⟩ := Region.waitsFor_spec hw
          have := inv.closed m oj hoj (h m hm) ed hed hb
          rwa [hon] at this
        · exact h k hk
      · exact h k hk
  refine key _ _ fun k hk => ?_
  rw [List.mem_singleton] at hk
  rw [hk]; exact he
theorem EOk_run {M : List Nat} {all : List Oper} {o : Oper} {F : Frame} {v : V} {i : Nat} {w : World} {σ : Conc} {a : Act} {Q : Exit → Act → World → Prop} {K : Act → World → Prop} (hg : o.guard = none) (h : vcOp P M o F H (Two v H1)) (hi : all[i]? = some o) (hs : Sat n w H σ F a.tmps)
    (hK : ∀ val w' σ', VRel w' (Own H1 σ') H1 σ' v val → WOk w' H1 σ' → Pres w H σ w' H1 σ' → K (a.put o.dst val) w') : wpOp P all.toArray Q i K a w := by
  have step : o.wp P a w K Q := vcOp_wp h hs fun v' val w' H' σ' hk hv hw' hp' => by
    obtain ⟨rfl, rfl⟩ := hk
    exact hK val w' σ' hv hw' hp'
  unfold wpOp
  rw [List.getElem?_toArray, hi]
  simp only []
  rw [if_pos (by simp [Region.wanted, hg])]
  exact .inl step
def vwP (r : Nat) (F : Frame) (v : V) (H : Heap) (K : Frame → Heap → Prop) : Prop :=
  match v with
  | .vw id ver n => (match H[id]? with | some (.row ver' e sz rows) => ver = ver' ∧ K ((r, .os id (ver + 1)) :: F) (H.set id (.row (ver + 1) e sz (rows.take n))) | _ => False)
  | _ => False
def vwK : List Nat → Frame → Heap → (Frame → Heap → Prop) → Prop
  | [], F, H, K => K F H
  | r :: rs, F, H, K => vwP r F (F.get r) H (lk (fun F' H' => vwK rs F' H' K) .mk)
def vcX3 (P : Program) (n : Nat) (M : List Nat) (H H1 : Heap) (T : Frame → Prop) : List Bool → List Oper → Frame → Prop
  | [], _, F => T F
  | _ :: _, [], _ => False
  | true :: bs, o :: rest, F => o.guard = none ∧ dstOk n o.dst ∧ vcQ P M o F H1 fun v => vcX3 P n M H H1 T bs rest (F.put o.dst v)
  | false :: bs, o :: rest, F => o.guard = none ∧ dstOk n o.dst ∧ vcQ P M o F H fun v => vcQ P M o F H1 fun v' => v = v' ∧ vcX3 P n M H H1 T bs rest (F.put o.dst v)
def vcX2 (P : Program) (n : Nat) (M : List Nat) (H : Heap) (bs : List Bool) (T : Heap → Frame → Prop) : List Oper → Frame → Prop
  | [], _ => False
  | o :: rest, F => o.guard = none ∧ dstOk n o.dst ∧ vcE P M o F H fun v H1 => vcX3 P n M H H1 (T H1) bs rest (F.put o.dst v)
variable {H0 : Heap} {Q : Exit → Frame → Heap → Prop} {F : Frame}
theorem vcX3_nil {M : List Nat} {T : Frame → Prop} {l : List Oper} : vcX3 P n M H H1 T [] l F = T F := Eq.trans rfl rfl
theorem vcX3_t {M : List Nat} {T : Frame → Prop} {bs : List Bool} {d : Option Tmp} {op : Op} {ty : TypeId} {ps : String} {af : Array Edge} {rest : List Oper} : vcX3 P n M H H1 T (true :: bs) (⟨d, op, ty, ps, af, none⟩ :: rest) F = (dstOk n d ∧ vcQ P M ⟨d, op, ty, ps, af, none⟩ F H1 fun v => vcX3 P n M H H1 T bs rest (F.put d v)) := by simp [vcX3]
theorem vcX3_f {M : List Nat} {T : Frame → Prop} {bs : List Bool} {d : Option Tmp} {op : Op} {ty : TypeId} {ps : String} {af : Array Edge} {rest : List Oper} : vcX3 P n M H H1 T (false :: bs) (⟨d, op, ty, ps, af, none⟩ :: rest) F = (dstOk n d ∧ vcQ P M ⟨d, op, ty, ps, af, none⟩ F H fun v => vcQ P M ⟨d, op, ty, ps, af, none⟩ F H1 fun v' => v = v' ∧ vcX3 P n M H H1 T bs rest (F.put d v)) := by simp [vcX3]
theorem vcX2_c {M : List Nat} {T : Heap → Frame → Prop} {bs : List Bool} {d : Option Tmp} {op : Op} {ty : TypeId} {ps : String} {af : Array Edge} {rest : List Oper} : vcX2 P n M H bs T (⟨d, op, ty, ps, af, none⟩ :: rest) F = (dstOk n d ∧ vcE P M ⟨d, op, ty, ps, af, none⟩ F H fun v H1 => vcX3 P n M H H1 (T H1) bs rest (F.put d v)) := by simp [vcX2]
end
attribute [go_sem ↓] vcX3_nil vcX3_t vcX3_f vcX2_c vcE
theorem roP_z (r : Nat) (F : Frame) (ver e sz : Nat) (cells : List V) (K : Frame → Heap → Prop) : roP r F (.pt 0 ver 0 0) [] [Ob.row ver e sz [cells]] K =
    (othB 0 r F ∧ (match dsOf cells with | some ds => K (rpl r ds F) [] | none => False)) := roP_0 r F [] ver e sz cells K
attribute [go_sem] vwP vwK vcView Bel_vw roP_z
end Go.Proofs.YtmhabdopcbokoaaDoor.Ab
namespace Go.Proofs.YtmhabdopcbokoaaDoor.Ab
open Go
variable [Glo]
section
variable {P : Program} {n : Nat} {dfs : List Deferred} {H Ha H1 : Heap}
def vcA1 (P : Program) (n : Nat) (M : List Nat) (H Ha : Heap) (va : V) (T : Frame → Prop) : List Nat → List Oper → Frame → Prop
  | [], _, F => T F
  | _ :: _, [], _ => False
  | c :: cs, o :: rest, F => o.guard = none ∧ dstOk n o.dst ∧ match c with
    | 0 => vcQ P M o F H fun v => vcQ P M o F Ha fun v' => v = v' ∧ vcA1 P n M H Ha va T cs rest (F.put o.dst v)
    | 1 => vcQ P M o F Ha fun v => vcA1 P n M H Ha va T cs rest (F.put o.dst v)
    | 2 => vcA1 P n M H Ha va T cs rest (F.put o.dst va)
    | _ => vcQ P M o F H fun v => vcA1 P n M H Ha va T cs rest (F.put o.dst v)
def vcA2 (P : Program) (n : Nat) (M : List Nat) (H : Heap) (T : Heap → Frame → Prop) : List Oper → Frame → Prop
  | [], _ => False
  | o :: _, F => o.guard = none ∧ dstOk n o.dst ∧ vcE P M o F H fun v H1 => T H1 (F.put o.dst v)
def vcA0 (P : Program) (n : Nat) (M : List Nat) (H : Heap) (T : V → Heap → Prop) : List Oper → Frame → Prop
  | [], _ => False
  | o :: _, F => (match o.op with | .alloc _ => True | _ => False) ∧ o.guard = none ∧ dstOk n o.dst ∧ vcE P M o F H T
variable {H0 : Heap} {Q : Exit → Frame → Heap → Prop} {F : Frame}
theorem vcA1_nil {M : List Nat} {Ha : Heap} {va : V} {T : Frame → Prop} {l : List Oper} : vcA1 P n M H Ha va T [] l F = T F := Eq.trans rfl rfl
theorem vcA1_0 {M : List Nat} {Ha : Heap} {va : V} {T : Frame → Prop} {cs : List Nat} {d : Option Tmp} {op : Op} {ty : TypeId} {ps : String} {af : Array Edge} {rest : List Oper} : vcA1 P n M H Ha va T (0 :: cs) (⟨d, op, ty, ps, af, none⟩ :: rest) F = (dstOk n d ∧ vcQ P M ⟨d, op, ty, ps, af, none⟩ F H fun v => vcQ P M ⟨d, op, ty, ps, af, none⟩ F Ha fun v' => v = v' ∧ vcA1 P n M H Ha va T cs rest (F.put d v)) := by simp [vcA1]
theorem vcA1_1 {M : List Nat} {Ha : Heap} {va : V} {T : Frame → Prop} {cs : List Nat} {d : Option Tmp} {op : Op} {ty : TypeId} {ps : String} {af : Array Edge} {rest : List Oper} : vcA1 P n M H Ha va T (1 :: cs) (⟨d, op, ty, ps, af, none⟩ :: rest) F = (dstOk n d ∧ vcQ P M ⟨d, op, ty, ps, af, none⟩ F Ha fun v => vcA1 P n M H Ha va T cs rest (F.put d v)) := by simp [vcA1]
theorem vcA1_2 {M : List Nat} {Ha : Heap} {va : V} {T : Frame → Prop} {cs : List Nat} {d : Option Tmp} {op : Op} {ty : TypeId} {ps : String} {af : Array Edge} {rest : List Oper} : vcA1 P n M H Ha va T (2 :: cs) (⟨d, op, ty, ps, af, none⟩ :: rest) F = (dstOk n d ∧ vcA1 P n M H Ha va T cs rest (F.put d va)) := by simp [vcA1]
theorem vcA1_3 {M : List Nat} {Ha : Heap} {va : V} {T : Frame → Prop} {cs : List Nat} {d : Option Tmp} {op : Op} {ty : TypeId} {ps : String} {af : Array Edge} {rest : List Oper} : vcA1 P n M H Ha va T (3 :: cs) (⟨d, op, ty, ps, af, none⟩ :: rest) F = (dstOk n d ∧ vcQ P M ⟨d, op, ty, ps, af, none⟩ F H fun v => vcA1 P n M H Ha va T cs rest (F.put d v)) := by simp [vcA1]
theorem vcA2_c {M : List Nat} {T : Heap → Frame → Prop} {d : Option Tmp} {op : Op} {ty : TypeId} {ps : String} {af : Array Edge} {rest : List Oper} : vcA2 P n M H T (⟨d, op, ty, ps, af, none⟩ :: rest) F = (dstOk n d ∧ vcE P M ⟨d, op, ty, ps, af, none⟩ F H fun v H1 => T H1 (F.put d v)) := by simp [vcA2]
theorem vcA0_c {M : List Nat} {T : V → Heap → Prop} {d : Option Tmp} {t : TypeId} {ty : TypeId} {ps : String} {af : Array Edge} {rest : List Oper} : vcA0 P n M H T (⟨d, .alloc t, ty, ps, af, none⟩ :: rest) F = (dstOk n d ∧ vcE P M ⟨d, .alloc t, ty, ps, af, none⟩ F H T) := by simp [vcA0]
end
attribute [go_sem ↓] vcA1_nil vcA1_0 vcA1_1 vcA1_2 vcA1_3 vcA2_c vcA0_c
end Go.Proofs.YtmhabdopcbokoaaDoor.Ab
namespace Go.Proofs.YtmhabdopcbokoaaDoor.Ab
open Go
variable [Glo]
theorem vcD_0 {P : Program} {n : Nat} {M : List Nat} {all l : List Oper} {H : Heap} {T : Frame → Prop} {F : Frame} : vcD P n M all H T 0 l F = T F := by
  unfold vcD; rfl
theorem vcD_n {P : Program} {n k : Nat} {M : List Nat} {all rest : List Oper} {d : Option Tmp} {op : Op} {ty : TypeId} {ps : String} {af : Array Edge} {H : Heap} {T : Frame → Prop} {F : Frame} : vcD P n M all H T (k + 1) (⟨d, op, ty, ps, af, none⟩ :: rest) F = (dstOk n d ∧ vcQ P M ⟨d, op, ty, ps, af, none⟩ F H (lk (fun v => vcD P n M all H T k rest (F.put d v)) .mk)) := by
  rw [vcD]; rfl
def vcDg (P : Program) (n : Nat) (M : List Nat) (all : List Oper) (H : Heap) (T : Frame → Prop) (k : Nat) (o : Oper) (rest : List Oper) (want : Bool) (d : Nat) (F : Frame) (x : V) : Prop :=
  match x with
  | .d (.b t) => d < n ∧ dstOk n o.dst ∧ (match want with
      | true => onB t (vcQ P M o (F.put (some d) (.d (.b true))) H (lk (fun v => vcD P n M all H T k rest ((F.put (some d) (.d (.b true))).put o.dst v)) .mk))
          (vcD P n M all H T k rest ((F.put (some d) (.d (.b false))).put o.dst .un))
      | false => onB t (vcD P n M all H T k rest ((F.put (some d) (.d (.b true))).put o.dst .un))
          (vcQ P M o (F.put (some d) (.d (.b false))) H (lk (fun v => vcD P n M all H T k rest ((F.put (some d) (.d (.b false))).put o.dst v)) .mk)))
  | .un => dstOk n o.dst ∧ vcD P n M all H T k rest (F.put o.dst .un)
  | _ => False
theorem vcD_s {P : Program} {n k j : Nat} {M : List Nat} {all rest : List Oper} {d : Option Tmp} {op : Op} {ty : TypeId} {ps : String} {af : Array Edge} {want : Bool} {H : Heap} {T : Frame → Prop} {F : Frame} : vcD P n M all H T (k + 1) (⟨d, op, ty, ps, af, some (j, want)⟩ :: rest) F = (match (all[j]?).bind (·.dst) with | some e => vcDg P n M all H T k ⟨d, op, ty, ps, af, some (j, want)⟩ rest want e F (F.get e) | none => False) := by
  rw [vcD]
  simp only []
  cases (all[j]?).bind (·.dst) <;> rfl
theorem vcDg_un {P : Program} {n k : Nat} {M : List Nat} {all rest : List Oper} {o : Oper} {want : Bool} {e : Nat} {H : Heap} {T : Frame → Prop} {F : Frame} : vcDg P n M all H T k o rest want e F .un = (dstOk n o.dst ∧ vcD P n M all H T k rest (F.put o.dst .un)) := rfl
theorem vcDg_t {P : Program} {n k : Nat} {M : List Nat} {all rest : List Oper} {o : Oper} {e : Nat} {t : Bool} {H : Heap} {T : Frame → Prop} {F : Frame} : vcDg P n M all H T k o rest true e F (.d (.b t)) = (e < n ∧ dstOk n o.dst ∧ onB t (vcQ P M o (F.put (some e) (.d (.b true))) H (lk (fun v => vcD P n M all H T k rest ((F.put (some e) (.d (.b true))).put o.dst v)) .mk)) (vcD P n M all H T k rest ((F.put (some e) (.d (.b false))).put o.dst .un))) := rfl
theorem vcDg_f {P : Program} {n k : Nat} {M : List Nat} {all rest : List Oper} {o : Oper} {e : Nat} {t : Bool} {H : Heap} {T : Frame → Prop} {F : Frame} : vcDg P n M all H T k o rest false e F (.d (.b t)) = (e < n ∧ dstOk n o.dst ∧ onB t (vcD P n M all H T k rest ((F.put (some e) (.d (.b true))).put o.dst .un)) (vcQ P M o (F.put (some e) (.d (.b false))) H (lk (fun v => vcD P n M all H T k rest ((F.put (some e) (.d (.b false))).put o.dst v)) .mk))) := rfl
attribute [go_sem ↓ 2000] vcD_0 vcD_n vcD_s
attribute [go_sem ↓] vcDg_un vcDg_t vcDg_f
end Go.Proofs.YtmhabdopcbokoaaDoor.Ab
