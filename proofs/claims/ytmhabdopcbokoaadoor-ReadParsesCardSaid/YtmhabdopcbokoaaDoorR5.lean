/- The operations that make or turn memory, over the abstract reading: a store, a new variable, a slice's literal, an append, a shorter slice, a made slice. No condition. -/
import Derived.Test.YtmhabdopcbokoaaDoorR4
set_option linter.all false
set_option linter.unusedSimpArgs false
set_option linter.unusedVariables false
namespace Go.Proofs.YtmhabdopcbokoaaDoor.Ab
open Go
variable [Glo]
section
variable {P : Program} {w : World} {H : Heap} {σ : Conc}
def vcStore (P : Program) (t : TypeId) (a x : V) (H : Heap) (K : V → Heap → Prop) : Prop :=
  match a, szI P t with
  | .pt id ver i c, some z =>
    (match H[id]? with
    | some (.row ver' e sz rows) => ver = ver' ∧ (∀ v ∈ cellsV x, okCell H v) ∧ (cellsV x).length = z ∧ c + z ≤ sz ∧ i < rows.length ∧
        (∀ r, rows[i]? = some r → K .un (H.set id (.row ver' e sz (rows.set i (r.take c ++ cellsV x ++ r.drop (c + z))))))
    | _ => False)
  | _, _ => False
theorem vcStore_run {t : TypeId} {a x : V} {K : V → Heap → Prop} {va vx : Value} (h : vcStore P t a x H K) (hw : WOk w H σ) (ha : VRel w (Own H σ) H σ a va) (hx : VRel w (Own H σ) H σ x vx) :
    ∃ w' H' σ', (Instr.storeAt t va vx).run P w = .ok () w' ∧ Pres w H σ w' H' σ' ∧ WOk w' H' σ' ∧ K .un H' := by
  unfold vcStore at h
  split at h
  case h_2 => exact h.elim
  rename_i id ver i c z hz
  split at h
  case h_2 => exact h.elim
  rename_i ver' e sz rows hr
  obtain ⟨rfl, hok, hlen, hfit, hi, hk⟩ := h
  obtain ⟨_, hv⟩ := ha.inv_pt hr
  obtain ⟨g, cap, hs, rfl⟩ := hv rfl
  obtain ⟨hsz, hcells⟩ := cells_rel hx hok
  rcases hw.objs hr (ha.nz_pt hr) with ⟨⟨_, hn⟩, _⟩ | ⟨g', cap', cur, hg, hh, h3, h4, h5, h6, h7⟩
  · rw [hn] at hs; cases hs
  rw [hg] at hs
  cases hs
  have hri : rows[i]? = some rows[i] := by simp [hi]
  have hrow := h6 i _ hri
  have hin : i * sz + sz ≤ cur.size := by
    rw [h5]
    have : (i + 1) * sz ≤ cap * sz := Nat.mul_le_mul_right _ (by omega)
    rw [Nat.add_mul, Nat.one_mul] at this
    exact this
  have h1 : ∀ v ∈ vx.cells.toList, v.oneCell' = true := fun v hv => by
    obtain ⟨j, hj, rfl⟩ := List.getElem_of_mem hv
    have hj' : j < (cellsV x).length := by rw [← hsz]; simpa using hj
    obtain ⟨cv, hcv, ho, _⟩ := hcells j _ (List.getElem?_eq_getElem hj')
    have : cv = vx.cells.toList[j] := by
      rw [← Array.getElem?_toList, List.getElem?_eq_getElem hj] at hcv
      exact (Option.some.inj hcv).symm
    exact this ▸ ho
  have hvl : vx.cells.toList.length = z := by simpa [hlen] using hsz
  have hst := run_storeCells_at P g (i * sz + c) e vx.cells.toList 0 cur w hh (by rw [hvl]; omega) h1
  simp only [Nat.add_zero] at hst
  rw [hvl] at hst
  generalize hcs : (cur.toList.take (i * sz + c) ++ vx.cells.toList ++ cur.toList.drop (i * sz + c + z)).toArray = cs at hst
  have hsize : cs.size = cur.size := by
    subst hcs
    simp only [List.size_toArray, List.length_append, List.length_take, List.length_drop, hvl, Array.length_toList]
    omega
  have hget : ∀ q, cs[q]? = if q < i * sz + c then cur[q]? else if q < i * sz + c + z then vx.cells[q - (i * sz + c)]? else cur[q]? := fun q => by
    subst hcs
    rw [List.getElem?_toArray, List.append_assoc, List.getElem?_append, List.getElem?_append]
    simp only [List.length_take, Array.length_toList, hvl]
    have hm : min (i * sz + c) cur.size = i * sz + c := by omega
    rw [hm]
    split
    · rename_i hq
      rw [List.getElem?_take_of_lt hq]; simp
    · rename_i hq
      split
      · rename_i hq2
        rw [if_pos (by omega)]; simp
      · rename_i hq2
        rw [if_neg (by omega), List.getElem?_drop]
        rw [show i * sz + c + z + (q - (i * sz + c) - z) = q by omega]
        simp
  have hup := hw.set (w' := w.setRow g cs) (c := σ id) (e' := e) (sz' := sz) (rows' := rows.set i (rows[i].take c ++ cellsV x ++ rows[i].drop (c + z))) hr (Nat.le_refl _)
    (fun _ => ⟨rfl, rfl, by simp⟩) rfl rfl (outSame_setRow w g cs) (by simp) (fun k hk hne => setRow_other w g k cs (fun e => hne cap (e ▸ hg)))
    (fun g' cap' hc => .inl ⟨cap', hc⟩)
    (by
      refine .inr <| .inl ⟨g, cap, cs, hg, setRow_heap w g cur cs e _ hh, by simpa using h3, h4, by rw [hsize]; exact h5, ?_, ?_⟩
      · intro k row hk
        rw [List.getElem?_set] at hk
        split at hk
        · obtain rfl := Option.some.inj hk
          simp only [List.length_append, List.length_take, List.length_drop, hlen]
          omega
        · exact h6 k row hk
      · intro k j row v hk hj
        rw [List.getElem?_set] at hk
        split at hk
        · rename_i hki
          subst hki
          obtain rfl := Option.some.inj hk
          rw [hget]
          rw [List.append_assoc, List.getElem?_append] at hj
          simp only [List.length_take] at hj
          have hm : min c rows[i].length = c := by omega
          rw [hm] at hj
          split at hj
          · rename_i hjc
            rw [if_pos (by omega)]
            rw [List.getElem?_take_of_lt hjc] at hj
            exact h7 i j _ v hri hj
          · rename_i hjc
            rw [List.getElem?_append, hlen] at hj
            split at hj
            · rename_i hjz
              rw [if_neg (by omega), if_pos (by omega)]
              obtain ⟨cv, a, b, d⟩ := hcells (j - c) v hj
              exact ⟨cv, by rw [← a]; congr 1; omega, b, d⟩
            · rename_i hjz
              rw [if_neg (by omega), if_neg (by omega)]
              rw [List.getElem?_drop] at hj
              rw [show c + z + (j - c - z) = j by omega] at hj
              exact h7 i j _ v hri hj
        · rename_i hki
          obtain ⟨cv, a, b, d⟩ := h7 k j row v hk hj
          refine ⟨cv, ?_, b, d⟩
          rw [hget]
          have hjs : j < sz := by
            have := (List.getElem?_eq_some_iff.1 hj).1
            have := h6 k row hk
            omega
          have hneq : k ≠ i := fun e => hki e.symm
          rcases Nat.lt_or_ge k i with hlt | hge
          · have : (k + 1) * sz ≤ i * sz := Nat.mul_le_mul_right _ hlt
            rw [Nat.add_mul, Nat.one_mul] at this
            rw [if_pos (by omega)]
            exact a
          · have : (i + 1) * sz ≤ k * sz := Nat.mul_le_mul_right _ (by omega)
            rw [Nat.add_mul, Nat.one_mul] at this
            rw [if_neg (by omega), if_neg (by omega)]
            exact a)
  refine ⟨w.setRow g cs, _, _, ?_, hup.1, hup.2, hk _ hri⟩
  simp [Instr.storeAt, Instr.sureAddr, storeVar, run_sizeOf hz w, hsz, hlen, hst]
def cD (v : Value) : Option D := asD (cV v)
def csD : List Value → Option (List D)
  | [] => some []
  | v :: r => match cD v, csD r with | some x, some l => some (x :: l) | _, _ => none
def zrI (P : Program) (t : TypeId) : Option (List D) :=
  match P.info? t with
  | some i => match i.zero with
    | some z => match csD z.cells.toList with | some (x :: l) => some (x :: l) | _ => none
    | none => none
  | none => none
theorem cD_rel {v : Value} {x : D} (h : cD v = some x) (w : World) (o : Nat → Prop) : DRel w o x v := by
  unfold cD asD at h
  split at h
  · rename_i y hy
    cases h
    have := cV_rel w o [] (fun _ => .no none) v
    rw [hy] at this
    exact this.inv_d
  · cases h
theorem csD_rel : ∀ {vs : List Value} {ds : List D}, csD vs = some ds → vs.length = ds.length ∧ ∀ (j : Nat) (x : D), ds[j]? = some x → ∃ v, vs[j]? = some v ∧ ∀ w o, DRel w o x v
  | [], ds, h => by simp [csD] at h; subst h; simp
  | v :: r, ds, h => by
    unfold csD at h
    split at h
    · rename_i x l hx hl
      cases h
      obtain ⟨h1, h2⟩ := csD_rel hl
      refine ⟨by simp [h1], fun j y hj => ?_⟩
      cases j with
      | zero =>
        obtain rfl : x = y := by simpa using hj
        exact ⟨v, rfl, fun w o => cD_rel hx w o⟩
      | succ j =>
        simp only [List.getElem?_cons_succ] at hj ⊢
        exact h2 j y hj
    · cases h
theorem zrI_spec {t : TypeId} {ds : List D} (h : zrI P t = some ds) : ∃ i z, ds ≠ [] ∧ P.info? t = some i ∧ i.zero = some z ∧ z.cells.size = ds.length ∧
    ∀ (j : Nat) (x : D), ds[j]? = some x → ∃ v, z.cells[j]? = some v ∧ ∀ w o, DRel w o x v := by
  unfold zrI at h
  split at h
  · rename_i i hi
    split at h
    · rename_i z hz
      split at h
      · rename_i x l hl
        cases h
        obtain ⟨h1, h2⟩ := csD_rel hl
        exact ⟨i, z, by simp, hi, hz, by simpa using h1, fun j x hj => by simpa using h2 j x hj⟩
      · cases h
    · cases h
  · cases h
theorem slv_some (g cap n : Nat) : slv (.blk g cap) n = .slice (some ⟨g, 0, none⟩) n cap := rfl
theorem new_own (hw : WOk w H σ) (vals : Array Value) (row : List V) (hne : row ≠ []) (e : TypeId) (hsz : vals.size = row.length)
    (hrel : ∀ (j : Nat) (c : V), row[j]? = some c → ∃ cv, vals[j]? = some cv ∧ cv.oneCell' = true ∧ VRel w (Own H σ) H σ c cv) :
    ∃ σ', Pres w H σ (w.alloc (.cells vals e)) (H ++ [.row 0 e row.length [row]]) σ' ∧ WOk (w.alloc (.cells vals e)) (H ++ [.row 0 e row.length [row]]) σ' ∧
      VRel (w.alloc (.cells vals e)) (Own (H ++ [.row 0 e row.length [row]]) σ') (H ++ [.row 0 e row.length [row]]) σ' (.pt H.length 0 0 0) (.pointer (some ⟨w.heap.size, 0, none⟩)) := by
  have hup := hw.push (w' := w.alloc (.cells vals e)) (ver := 0) (e := e) (sz := row.length) (rows := [row]) (c := .blk w.heap.size 1) rfl rfl (OutSame.alloc w _ _) (by simp)
    (fun k hk => RowKit.Below.heap_alloc w _ k hk) (fun g cap hc => by cases hc; exact Nat.le_refl _)
    (.inr <| .inl ⟨w.heap.size, 1, vals, rfl, Go.heap_alloc_new w _, by simp, by simp [maxLen], by simpa using hsz,
      fun i r hi => by
        cases i with
        | zero => simp at hi; simp [hi]
        | succ i => simp at hi,
      fun i j r v hi hj => by
        cases i with
        | zero =>
          obtain rfl : row = r := by simpa using hi
          simpa using hrel j v hj
        | succ i => simp at hi⟩)
  refine ⟨_, hup.1, hup.2, .pt _ _ _ _ _ (by simp) fun v1 e1 s1 r1 hr => ?_⟩
  rw [List.getElem?_append_right (Nat.le_refl _)] at hr
  simp at hr
  obtain ⟨rfl, rfl, rfl, rfl⟩ := hr
  exact ⟨Nat.le_refl _, fun _ => ⟨fun e => hne (List.length_eq_zero_iff.1 e), w.heap.size, 1, by simp [Conc.put], by simp⟩⟩
theorem new_ro (hw : WOk w H σ) (vals : Array Value) (ds : List D) (e : TypeId)
    (hrel : ∀ (j : Nat) (x : D), ds[j]? = some x → ∃ cv, vals[j]? = some cv ∧ DRel w (Own H σ) x cv) :
    VRel (w.alloc (.cells vals e)) (Own H σ) H σ (.rp ds) (.pointer (some ⟨w.heap.size, 0, none⟩)) := by
  refine .rp ds w.heap.size 0 (fun j => vals.getD j undef) (by simp) (fun ho => by have := hw.lt ho; omega) (fun j x hj => ?_) (fun j x hj => ?_)
  · obtain ⟨cv, h1, _⟩ := hrel j x hj
    rw [Nat.zero_add, World.cell?_alloc_new, Array.getD_eq_getD_getElem?, h1]
    rfl
  · obtain ⟨cv, h1, h2⟩ := hrel j x hj
    rw [Array.getD_eq_getD_getElem?, h1]
    exact h2.pres (Pres.alloc w H σ _ _)
def vcAlloc (P : Program) (e : TypeId) (H : Heap) (K : V → Heap → Prop) : Prop :=
  match zrI P e with
  | some ds => K (.pt H.length 0 0 0) (H ++ [.row 0 e ds.length [ds.map .d]])
  | none => False
theorem vcAlloc_run {e : TypeId} {old : Value} {K : V → Heap → Prop} (h : vcAlloc P e H K) (hw : WOk w H σ) :
    ∃ v val w' H' σ', (Instr.alloc e true old).run P w = .ok val w' ∧ Pres w H σ w' H' σ' ∧ WOk w' H' σ' ∧ VRel w' (Own H' σ') H' σ' v val ∧ K v H' := by
  unfold vcAlloc at h
  split at h
  · rename_i ds hds
    obtain ⟨i, z, hne, hi, hz, hsz, hrel⟩ := zrI_spec hds
    have hlen : (ds.map V.d).length = ds.length := by simp
    obtain ⟨σ', h1, h2, h3⟩ := new_own hw z.cells (ds.map .d) (by simpa using hne) e (by simpa using hsz) (fun j c hj => by
      rw [List.getElem?_map] at hj
      cases hd : ds[j]? with
      | none => rw [hd] at hj; cases hj
      | some x =>
        rw [hd] at hj
        obtain rfl : V.d x = c := by simpa using hj
        obtain ⟨v, hv, hr⟩ := hrel j x hd
        exact ⟨v, hv, (hr w (fun _ => False)).one, .d _ _ (hr _ _)⟩)
    rw [hlen] at h1 h2 h3
    refine ⟨_, _, _, _, σ', ?_, h1, h2, h3, h⟩
    simp [Instr.alloc, zeroValue, typeInfo, hi, hz, newVar, newRow]
  · exact h.elim
def vcBox (own : Bool) (e : TypeId) (x : V) (H : Heap) (K : V → Heap → Prop) : Prop :=
  if own then (cellsV x).isEmpty = false ∧ (∀ v ∈ cellsV x, okCell H v) ∧ K (.pt H.length 0 0 0) (H ++ [.row 0 e (cellsV x).length [cellsV x]])
  else match dsOf (cellsV x) with
    | some ds => K (.rp ds) H
    | none => False
theorem vcBox_run {own : Bool} {e : TypeId} {x : V} {vx : Value} {K : V → Heap → Prop} (h : vcBox own e x H K) (hw : WOk w H σ) (hx : VRel w (Own H σ) H σ x vx) :
    ∃ v val w' H' σ', (Instr.box e vx).run P w = .ok val w' ∧ Pres w H σ w' H' σ' ∧ WOk w' H' σ' ∧ VRel w' (Own H' σ') H' σ' v val ∧ K v H' := by
  unfold vcBox at h
  split at h
  · obtain ⟨hne, hok, hk⟩ := h
    obtain ⟨hsz, hcells⟩ := cells_rel hx hok
    obtain ⟨σ', h1, h2, h3⟩ := new_own hw vx.cells (cellsV x) (fun e => by rw [e] at hne; cases hne) e hsz hcells
    exact ⟨_, _, _, _, σ', by simp [Instr.box, newVar, newRow], h1, h2, h3, hk⟩
  · split at h
    · rename_i ds hds
      have heq := dsOf_eq hds
      obtain ⟨hsz, hcells⟩ := cells_rel hx (fun c hc => by
        rw [heq] at hc
        obtain ⟨y, _, rfl⟩ := List.mem_map.1 hc
        trivial)
      refine ⟨_, _, _, H, σ, by simp [Instr.box, newVar, newRow], Pres.alloc w H σ _ _, hw.alloc _ _, new_ro hw vx.cells ds e (fun j y hj => ?_), h⟩
      obtain ⟨cv, a, _, b⟩ := hcells j (.d y) (by rw [heq, List.getElem?_map, hj]; rfl)
      exact ⟨cv, a, b.inv_d⟩
    · exact h.elim
theorem foldl_set (off : Nat) : ∀ (vs : List Value) (k : Nat) (cs : Array Value), off + k + vs.length ≤ cs.size →
    ((vs.zipIdx k).foldl (fun cs (x : Value × Nat) => cs.setIfInBounds (off + x.2) x.1) cs).size = cs.size ∧
    ∀ q, ((vs.zipIdx k).foldl (fun cs (x : Value × Nat) => cs.setIfInBounds (off + x.2) x.1) cs)[q]? = if off + k ≤ q ∧ q < off + k + vs.length then vs[q - (off + k)]? else cs[q]?
  | [], k, cs, _ => by
    simp
    intro q h1 h2
    omega
  | v :: r, k, cs, h => by
    simp only [List.zipIdx_cons, List.foldl_cons]
    have h' : off + (k + 1) + r.length ≤ (cs.setIfInBounds (off + k) v).size := by simp at h ⊢; omega
    obtain ⟨h1, h2⟩ := foldl_set off r (k + 1) (cs.setIfInBounds (off + k) v) h'
    refine ⟨by rw [h1]; simp, fun q => ?_⟩
    rw [h2, Array.getElem?_setIfInBounds]
    have hk : off + k < cs.size := by simp at h; omega
    by_cases hq : q = off + k
    · subst hq
      rw [if_neg (by omega), if_pos rfl, if_pos (by simpa using hk), if_pos (by simp)]
      simp
    · by_cases hin : off + (k + 1) ≤ q ∧ q < off + (k + 1) + r.length
      · rw [if_pos hin, if_pos (by simp; omega)]
        rw [show q - (off + k) = (q - (off + (k + 1))) + 1 by omega, List.getElem?_cons_succ]
      · rw [if_neg hin, if_neg (fun e => hq e.symm), if_neg (by simp; omega)]
def fillV (pl : Nat → Option (Nat × Nat)) : List V → List (Nat × V) → Option (List V)
  | cs, [] => some cs
  | cs, (i, v) :: r => match pl i with
    | some (off, z) => if (cellsV v).length = z ∧ off + z ≤ cs.length then fillV pl (cs.take off ++ cellsV v ++ cs.drop (off + z)) r else none
    | none => none
theorem fillV_run {pl : Nat → Option (Nat × Nat)} : ∀ (parts : List (Nat × V)) (vals : List (Nat × Value)) (cs : List V) (arr : Array Value) (out : List V),
    parts.length = vals.length → (∀ (k i : Nat) (v : V), parts[k]? = some (i, v) → ∃ u, vals[k]? = some (i, u) ∧ (∀ c ∈ cellsV v, okCell H c) ∧ VRel w (Own H σ) H σ v u) →
    arr.size = cs.length → (∀ (j : Nat) (c : V), cs[j]? = some c → ∃ cv, arr[j]? = some cv ∧ cv.oneCell' = true ∧ VRel w (Own H σ) H σ c cv) → fillV pl cs parts = some out →
    ∃ arr', Instr.fill pl arr vals = some arr' ∧ arr'.size = out.length ∧ ∀ (j : Nat) (c : V), out[j]? = some c → ∃ cv, arr'[j]? = some cv ∧ cv.oneCell' = true ∧ VRel w (Own H σ) H σ c cv
  | [], vals, cs, arr, out, hl, _, hsz, hrel, hf => by
    obtain rfl : vals = [] := List.eq_nil_of_length_eq_zero (by simpa using hl.symm)
    simp only [fillV, Option.some.injEq] at hf
    subst hf
    exact ⟨arr, by simp [Instr.fill], hsz, hrel⟩
  | (i, v) :: parts, vals, cs, arr, out, hl, hp, hsz, hrel, hf => by
    obtain ⟨u, hu, hok, hv⟩ := hp 0 i v rfl
    cases vals with
    | nil => simp at hu
    | cons x vals =>
      obtain rfl : x = (i, u) := by simpa using hu
      unfold fillV at hf
      split at hf
      case h_2 => cases hf
      rename_i off z hpl
      split at hf
      case isFalse => cases hf
      rename_i hc
      obtain ⟨hz, hfit⟩ := hc
      obtain ⟨hus, hcells⟩ := cells_rel hv hok
      obtain ⟨h1, h2⟩ := foldl_set off u.cells.toList 0 arr (by simp; omega)
      have hconv : Array.foldl (fun (cs : Array Value) (x : Value × Nat) => match x with | (c, j) => cs.setIfInBounds (off + j) c) arr u.cells.zipIdx = (u.cells.toList.zipIdx 0).foldl (fun cs (x : Value × Nat) => cs.setIfInBounds (off + x.2) x.1) arr := by
        rw [← Array.foldl_toList, Array.toList_zipIdx]
      have hlen : u.cells.toList.length = z := by simp; omega
      rw [hlen] at h2
      simp only [Nat.add_zero] at h1 h2
      obtain ⟨arr', ha, hb, hd⟩ := fillV_run parts vals (cs.take off ++ cellsV v ++ cs.drop (off + z)) ((u.cells.toList.zipIdx 0).foldl (fun cs (x : Value × Nat) => cs.setIfInBounds (off + x.2) x.1) arr) out (by simpa using hl)
        (fun k i' v' hk => by have := hp (k + 1) i' v' (by simpa using hk); simpa using this) (by
          rw [h1, hsz]; simp; omega) (fun j c hj => by
          rw [h2]
          rw [List.append_assoc, List.getElem?_append] at hj
          simp only [List.length_take] at hj
          have hm : min off cs.length = off := by omega
          rw [hm] at hj
          split at hj
          · rename_i hjo
            rw [if_neg (by omega)]
            rw [List.getElem?_take_of_lt hjo] at hj
            exact hrel j c hj
          · rename_i hjo
            rw [List.getElem?_append, hz] at hj
            split at hj
            · rename_i hjz
              rw [if_pos (by omega)]
              obtain ⟨cv, a, b, d⟩ := hcells (j - off) c hj
              exact ⟨cv, by simpa using a, b, d⟩
            · rename_i hjz
              rw [if_neg (by omega)]
              rw [List.getElem?_drop] at hj
              rw [show off + z + (j - off - z) = j by omega] at hj
              exact hrel j c hj) hf
      refine ⟨arr', ?_, hb, hd⟩
      unfold Instr.fill
      rw [hpl]
      simp only []
      rw [if_neg (by simp; omega)]
      rw [← ha, hconv]
def plS (P : Program) : List Field → Option (List (Nat × Nat))
  | [] => some []
  | f :: fs => match szI P f.type, plS P fs with | some z, some r => some ((f.offset, z) :: r) | _, _ => none
def plI (P : Program) (t : TypeId) : Option (List (Nat × Nat)) :=
  match P.underlying t with
  | some (.struct fs) => plS P fs.toList
  | _ => none
theorem plS_run (w : World) : ∀ {fs : List Field} {l : List (Nat × Nat)}, plS P fs = some l → (fs.mapM fun f => (do pure (f.offset, ← sizeOf f.type) : Sem (Nat × Nat))).run P w = .ok l w
  | [], l, h => by simp [plS] at h; subst h; simp
  | f :: fs, l, h => by
    unfold plS at h
    split at h
    · rename_i z r hz hr
      cases h
      have ih := plS_run w hr
      simp only [List.mapM_cons, Sem.run_bind, run_sizeOf hz w, Result.andThen_ok, Sem.run_pure] at ih ⊢
      rw [ih]
      simp
    · cases h
def evP (F : Frame) (parts : List (Nat × Operand)) : List (Nat × V) := parts.map fun x => (x.1, ev F x.2)
def vcBuild (P : Program) (t : TypeId) (parts : List (Nat × V)) (H : Heap) (K : V → Prop) : Prop :=
  match zrI P t, plI P t with
  | some ds, some pl => (∀ p ∈ parts, ∀ c ∈ cellsV p.2, okCell H c) ∧ (match fillV (pl[·]?) (ds.map .d) parts with | some cs => K (.ag cs) | none => False)
  | _, _ => False
theorem vcBuild_run {t : TypeId} {parts : List (Nat × V)} {vals : List (Nat × Value)} {K : V → Prop} (h : vcBuild P t parts H K) (hl : parts.length = vals.length)
    (hp : ∀ (k i : Nat) (v : V), parts[k]? = some (i, v) → ∃ u, vals[k]? = some (i, u) ∧ VRel w (Own H σ) H σ v u) :
    ∃ v val, (Instr.build t vals.toArray).run P w = .ok val w ∧ VRel w (Own H σ) H σ v val ∧ K v := by
  unfold vcBuild at h
  split at h
  case h_2 => exact h.elim
  rename_i ds pl hds hpl
  obtain ⟨hok, h⟩ := h
  split at h
  case h_2 => exact h.elim
  rename_i cs hcs
  obtain ⟨i, z, hne0, hi, hz, hsz, hrel⟩ := zrI_spec hds
  obtain ⟨arr, ha, hb, hd⟩ := fillV_run (w := w) (H := H) (σ := σ) parts vals (ds.map .d) z.cells cs hl
    (fun k i v hk => by
      obtain ⟨u, a, b⟩ := hp k i v hk
      exact ⟨u, a, hok _ (List.mem_of_getElem? hk), b⟩) (by simpa using hsz)
    (fun j c hj => by
      rw [List.getElem?_map] at hj
      cases hd : ds[j]? with
      | none => rw [hd] at hj; cases hj
      | some x =>
        rw [hd] at hj
        obtain rfl : V.d x = c := by simpa using hj
        obtain ⟨v, hv, hr⟩ := hrel j x hd
        exact ⟨v, hv, (hr w (fun _ => False)).one, .d _ _ (hr _ _)⟩) hcs
  refine ⟨_, .agg arr, ?_, .ag _ _ hb.symm (fun j c v hj hv => ?_), h⟩
  · unfold plI at hpl
    split at hpl
    · rename_i fs hu
      have hm := plS_run w hpl
      have hm' : (fs.mapM fun f => (do pure (f.offset, ← sizeOf f.type) : Sem (Nat × Nat))).run P w = .ok pl.toArray w := by
        rw [Array.mapM_eq_mapM_toList]
        simp only [Sem.run_map, hm, Result.andThen_ok]
      have hfill : Instr.fill (fun x : Nat => pl.toArray[x]?) z.cells vals = some arr := by
        have : (fun x : Nat => pl.toArray[x]?) = (fun x : Nat => pl[x]?) := by funext x; simp
        rw [this]; exact ha
      simp only [Instr.build, Sem.run_bind, zeroValue, typeInfo, run_program, Result.andThen_ok, hi, hz, Sem.run_pure, run_underlying hu, hm', hfill]
    · cases hpl
  · obtain ⟨cv, a, _, b⟩ := hd j c hj
    rw [a] at hv
    exact Option.some.inj hv ▸ b
end
end Go.Proofs.YtmhabdopcbokoaaDoor.Ab
