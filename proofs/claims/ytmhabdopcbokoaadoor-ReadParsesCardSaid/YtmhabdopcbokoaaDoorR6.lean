/- The operations that make or turn memory, over the abstract reading, second part: a slice's literal, an append, a shorter slice, a made slice. No condition. -/
import Derived.Test.YtmhabdopcbokoaaDoorR5
import Derived.Lib.AppendStr
set_option linter.all false
set_option linter.unusedSimpArgs false
set_option linter.unusedVariables false
namespace Go.Proofs.YtmhabdopcbokoaaDoor.Ab
open Go
variable [Glo]
section
variable {P : Program} {w : World} {H : Heap} {σ : Conc}
theorem rows_ro (hw : WOk w H σ) {w' : World} (hp : Pres w H σ w' H σ) (g : Nat) (vals : Array Value) (e : TypeId) (hg : w'.heap[g]? = some (.cells vals e (0, 0))) (hno : ¬ Own H σ g) (sz : Nat) (rows : List (List D)) (cap : Nat) (hcap : rows.length ≤ cap)
    (hlen : ∀ (i : Nat) (row : List D), rows[i]? = some row → row.length = sz)
    (hrel : ∀ (i j : Nat) (row : List D) (x : D), rows[i]? = some row → row[j]? = some x → ∃ cv, vals[i * sz + j]? = some cv ∧ DRel w (Own H σ) x cv) :
    DRel w' (Own H σ) (.sl sz rows) (.slice (some ⟨g, 0, none⟩) rows.length cap) := by
  have hlt : g < w'.heap.size := (Array.getElem?_eq_some_iff.1 hg).1
  refine .sl sz rows g 0 cap (fun i j => vals.getD (i * sz + j) undef) hcap hlt hno hlen (fun i j row x hi hj => ?_) (fun i j row x hi hj => ?_)
  · obtain ⟨cv, h1, _⟩ := hrel i j row x hi hj
    rw [cell_of_row w' g _ vals e (0, 0) hg, Nat.zero_add, Array.getD_eq_getD_getElem?, h1]
    rfl
  · obtain ⟨cv, h1, h2⟩ := hrel i j row x hi hj
    rw [Array.getD_eq_getD_getElem?, h1]
    exact h2.pres hp
def dsAll : List V → Option (List (List D))
  | [] => some []
  | v :: r => match dsOf (cellsV v), dsAll r with | some x, some l => some (x :: l) | _, _ => none
theorem dsAll_len : ∀ {vs : List V} {rows : List (List D)}, dsAll vs = some rows → vs.length = rows.length ∧ ∀ (k : Nat) (v : V), vs[k]? = some v → ∃ row, rows[k]? = some row ∧ dsOf (cellsV v) = some row
  | [], rows, h => by simp [dsAll] at h; subst h; simp
  | v :: r, rows, h => by
    unfold dsAll at h
    split at h
    · rename_i x l hx hl
      cases h
      obtain ⟨h1, h2⟩ := dsAll_len hl
      refine ⟨by simp [h1], fun k u hk => ?_⟩
      cases k with
      | zero =>
        obtain rfl : v = u := by simpa using hk
        exact ⟨x, rfl, hx⟩
      | succ k => simpa using h2 k u (by simpa using hk)
    · cases h
def vcBSlice (P : Program) (t : TypeId) (len : Nat) (parts : List (Nat × V)) (K : V → Prop) : Prop :=
  match slI P t, dsAll (parts.map (·.2)) with
  | some (_, z, _), some rows => parts.map (·.1) = List.range len ∧ (∀ r ∈ rows, r.length = z) ∧ len * z ≤ 16777216 ∧ K (.d (.sl z rows))
  | _, _ => False
theorem fill_rows (z : Nat) : ∀ (vals : List (Nat × Value)) (k : Nat) (arr : Array Value) (n : Nat), vals.map (·.1) = List.range' k n → arr.size = (k + n) * z → (∀ p ∈ vals, p.2.cells.size = z) →
    ∃ arr', Instr.fill (fun i => some (i * z, z)) arr vals = some arr' ∧ arr'.size = arr.size ∧ (∀ q, q < k * z → arr'[q]? = arr[q]?) ∧
      ∀ (i j : Nat) (u : Value), (vals.map (·.2))[i]? = some u → j < z → arr'[(k + i) * z + j]? = u.cells[j]?
  | [], k, arr, n, _, _, _ => ⟨arr, by simp [Instr.fill], rfl, fun _ _ => rfl, by simp⟩
  | (i, u) :: r, k, arr, n, hk, hsz, hc => by
    cases n with
    | zero => simp at hk
    | succ n =>
      simp only [List.map_cons, List.range'_succ, List.cons.injEq] at hk
      obtain ⟨rfl, hk⟩ := hk
      have hu : u.cells.size = z := hc (i, u) (by simp)
      have hfit : i * z + z ≤ arr.size := by
        rw [hsz]
        have : (i + 1) * z ≤ (i + (n + 1)) * z := Nat.mul_le_mul_right _ (by omega)
        rw [Nat.add_mul i 1, Nat.one_mul] at this
        exact this
      have hlen : u.cells.toList.length = z := by simpa using hu
      obtain ⟨h1, h2⟩ := foldl_set (i * z) u.cells.toList 0 arr (by rw [hlen]; omega)
      rw [hlen] at h2
      simp only [Nat.add_zero] at h1 h2
      have hconv : Array.foldl (fun (cs : Array Value) (x : Value × Nat) => match x with | (c, j) => cs.setIfInBounds (i * z + j) c) arr u.cells.zipIdx = (u.cells.toList.zipIdx 0).foldl (fun cs (x : Value × Nat) => cs.setIfInBounds (i * z + x.2) x.1) arr := by
        rw [← Array.foldl_toList, Array.toList_zipIdx]
      obtain ⟨arr', ha, hb, hold, hnew⟩ := fill_rows z r (i + 1) _ n hk (h1.trans (by rw [hsz]; congr 1; omega)) (fun p hp => hc p (by simp [hp]))
      refine ⟨arr', ?_, hb.trans h1, fun q hq => ?_, fun k' j u' hk' hj => ?_⟩
      · unfold Instr.fill
        simp only []
        rw [if_neg (by simp; omega), ← ha, hconv]
      · rw [hold q (by rw [Nat.add_mul, Nat.one_mul]; omega), h2, if_neg (by omega)]
      · cases k' with
        | zero =>
          obtain rfl : u = u' := by simpa using hk'
          rw [Nat.add_zero, hold _ (by rw [Nat.add_mul, Nat.one_mul]; omega), h2, if_pos (by omega)]
          rw [show i * z + j - i * z = j by omega]
          simp
        | succ k' =>
          have := hnew k' j u' (by simpa using hk') hj
          rw [← this, show i + (k' + 1) = i + 1 + k' by omega]
theorem bslice_core {t e : TypeId} {z bytes len : Nat} {parts : List (Nat × V)} {vals : List (Nat × Value)} {rows : List (List D)} (hs : slI P t = some (e, z, bytes)) (hrows : dsAll (parts.map (·.2)) = some rows)
    (hidx : parts.map (·.1) = List.range len) (hz : ∀ r ∈ rows, r.length = z) (hfit : len * z ≤ 16777216) (hl : parts.length = vals.length)
    (hp : ∀ (k i : Nat) (v : V), parts[k]? = some (i, v) → ∃ u, vals[k]? = some (i, u) ∧ VRel w (Own H σ) H σ v u) :
    ∃ arr', (Instr.buildSlice t len vals.toArray).run P w = .ok (.slice (some ⟨w.heap.size, 0, none⟩) len len) (w.alloc (.cells arr' e)) ∧ arr'.size = len * z ∧ rows.length = len ∧
      ∀ (i j : Nat) (row : List D) (x : D), rows[i]? = some row → row[j]? = some x → ∃ cv, arr'[i * z + j]? = some cv ∧ DRel w (Own H σ) x cv := by
  obtain ⟨hu, hz0, i, zv, hi, hzv, hsize, _, hzs⟩ := slI_spec hs
  have hsz := slI_size hs
  obtain ⟨hlr, hget⟩ := dsAll_len hrows
  have hplen : parts.length = len := by have := congrArg List.length hidx; simpa using this
  have hrlen : rows.length = len := by rw [← hlr]; simpa using hplen
  -- each part's value: its cells
  have hval : ∀ (k : Nat) (u : Value), (vals.map (·.2))[k]? = some u → ∃ row, rows[k]? = some row ∧ u.cells.size = row.length ∧ ∀ (j : Nat) (x : D), row[j]? = some x → ∃ cv, u.cells[j]? = some cv ∧ DRel w (Own H σ) x cv := by
    intro k u hku
    rw [List.getElem?_map] at hku
    have hklt : k < vals.length := by
      by_cases hlt : k < vals.length
      · exact hlt
      · rw [List.getElem?_eq_none (by omega)] at hku; cases hku
    have hpk : parts[k]? = some parts[k] := by simp [hl, hklt]
    obtain ⟨u', hu', hrel⟩ := hp k parts[k].1 parts[k].2 (by rw [hpk])
    rw [hu'] at hku
    obtain rfl : u' = u := by simpa using hku
    obtain ⟨row, hrow, hds⟩ := hget k parts[k].2 (by rw [List.getElem?_map, hpk]; rfl)
    have heq := dsOf_eq hds
    obtain ⟨h1, h2⟩ := cells_rel hrel (fun c hc => by
      rw [heq] at hc
      obtain ⟨y, _, rfl⟩ := List.mem_map.1 hc
      trivial)
    rw [heq] at h1
    refine ⟨row, hrow, by simpa using h1, fun j x hj => ?_⟩
    obtain ⟨cv, a, _, b⟩ := h2 j (.d x) (by rw [heq, List.getElem?_map, hj]; rfl)
    exact ⟨cv, a, b.inv_d⟩
  have hcs : ∀ p ∈ vals, p.2.cells.size = z := by
    intro p hpm
    obtain ⟨k, hk', rfl⟩ := List.getElem_of_mem hpm
    obtain ⟨row, hrow, hsz', _⟩ := hval k vals[k].2 (by simp [hk'])
    rw [hsz']
    exact hz row (List.mem_of_getElem? hrow)
  have hvidx : vals.map (·.1) = List.range' 0 len := by
    rw [← List.range_eq_range', ← hidx]
    apply List.ext_getElem?
    intro k
    rw [List.getElem?_map, List.getElem?_map]
    by_cases hkl : k < vals.length
    · have hpk : parts[k]? = some parts[k] := by simp [hl, hkl]
      obtain ⟨u', hu', _⟩ := hp k parts[k].1 parts[k].2 (by rw [hpk])
      rw [hu', hpk]; rfl
    · rw [List.getElem?_eq_none (by omega), List.getElem?_eq_none (by omega)]; rfl
  obtain ⟨arr', ha, hb, _, hnew⟩ := fill_rows z vals 0 ((Array.range (len * z)).map (fun q => (if len * z = 0 then #[] else zv.cells)[q % (if len * z = 0 then (#[] : Array Value) else zv.cells).size]!)) len hvidx (by simp) hcs
  have hrun : (Instr.buildSlice t len vals.toArray).run P w = .ok (.slice (some ⟨w.heap.size, 0, none⟩) len len) (w.alloc (.cells arr' e)) := by
    have hno : ¬ (len * z > 2 ^ 24) := by omega
    by_cases h0 : len * z = 0
    · simp only [h0, if_true] at ha
      simp [Instr.buildSlice, run_underlying hu, run_sizeOf hsz w, h0, newRow]
      rw [show (Array.range 0) = #[] from rfl] at ha
      simp at ha
      rw [show (Array.map (fun _ => (default : Value)) (Array.range 0)) = #[] from (by apply Array.ext <;> simp), ha]
      simp
    · simp only [h0, if_false] at ha
      simp [Instr.buildSlice, run_underlying hu, run_sizeOf hsz w, hno, h0, newRow, zeroValue, typeInfo, hi, hzv]
      rw [ha]
      simp
  refine ⟨arr', hrun, by rw [hb]; simp, hrlen, fun i j row x hi hj => ?_⟩
  have hilt : i < vals.length := by
    have := (List.getElem?_eq_some_iff.1 hi).1
    omega
  obtain ⟨row', hrow', hsz', hcell⟩ := hval i vals[i].2 (by simp [hilt])
  rw [hi] at hrow'
  obtain rfl := Option.some.inj hrow'
  obtain ⟨cv, a, b⟩ := hcell j x hj
  have hjz : j < z := by
    have h1 := (List.getElem?_eq_some_iff.1 hj).1
    have h2 := hz row (List.mem_of_getElem? hi)
    omega
  have h3 := hnew i j vals[i].2 (by simp [hilt]) hjz
  rw [Nat.zero_add] at h3
  exact ⟨cv, h3.trans a, b⟩
theorem vcBSlice_run {t : TypeId} {len : Nat} {parts : List (Nat × V)} {vals : List (Nat × Value)} {K : V → Prop} (h : vcBSlice P t len parts K) (hw : WOk w H σ) (hl : parts.length = vals.length)
    (hp : ∀ (k i : Nat) (v : V), parts[k]? = some (i, v) → ∃ u, vals[k]? = some (i, u) ∧ VRel w (Own H σ) H σ v u) :
    ∃ v val w', (Instr.buildSlice t len vals.toArray).run P w = .ok val w' ∧ Pres w H σ w' H σ ∧ WOk w' H σ ∧ VRel w' (Own H σ) H σ v val ∧ K v := by
  unfold vcBSlice at h
  split at h
  case h_2 => exact h.elim
  rename_i e z bytes rows hs hrows
  obtain ⟨hidx, hz, hfit, hk⟩ := h
  obtain ⟨arr', hrun, _, hrlen, hcell⟩ := bslice_core hs hrows hidx hz hfit hl hp
  have hno : ¬ Own H σ w.heap.size := fun ho => by have := hw.lt ho; omega
  refine ⟨_, _, _, hrun, Pres.alloc w H σ _ _, hw.alloc _ _, .d _ _ ?_, hk⟩
  have := rows_ro hw (Pres.alloc w H σ arr' e) w.heap.size arr' e (Go.heap_alloc_new w _) hno z rows len (by omega) (fun i row hi => hz row (List.mem_of_getElem? hi)) hcell
  rw [hrlen] at this
  exact this
def vcBSliceO (P : Program) (t : TypeId) (len : Nat) (parts : List (Nat × V)) (H : Heap) (K : V → Heap → Prop) : Prop :=
  match slI P t, dsAll (parts.map (·.2)) with
  | some (e, z, _), some rows => parts.map (·.1) = List.range len ∧ (∀ r ∈ rows, r.length = z) ∧ len * z ≤ 16777216 ∧ len ≤ 16777216 ∧ K (.os H.length 0) (H ++ [.row 0 e z (rows.map fun r => r.map .d)])
  | _, _ => False
theorem vcBSliceO_run {t : TypeId} {len : Nat} {parts : List (Nat × V)} {vals : List (Nat × Value)} {K : V → Heap → Prop} (h : vcBSliceO P t len parts H K) (hw : WOk w H σ) (hl : parts.length = vals.length)
    (hp : ∀ (k i : Nat) (v : V), parts[k]? = some (i, v) → ∃ u, vals[k]? = some (i, u) ∧ VRel w (Own H σ) H σ v u) :
    ∃ v val w' H' σ', (Instr.buildSlice t len vals.toArray).run P w = .ok val w' ∧ Pres w H σ w' H' σ' ∧ WOk w' H' σ' ∧ VRel w' (Own H' σ') H' σ' v val ∧ K v H' := by
  unfold vcBSliceO at h
  split at h
  case h_2 => exact h.elim
  rename_i e z bytes rows hs hrows
  obtain ⟨hidx, hz, hfit, hfit2, hk⟩ := h
  obtain ⟨arr', hrun, hsize, hrlen, hcell⟩ := bslice_core hs hrows hidx hz hfit hl hp
  have hup := hw.push (w' := w.alloc (.cells arr' e)) (ver := 0) (e := e) (sz := z) (rows := rows.map fun r => r.map V.d) (c := .blk w.heap.size len) rfl rfl (OutSame.alloc w _ _) (by simp)
    (fun k hk => RowKit.Below.heap_alloc w _ k hk) (fun g cap hc => by cases hc; exact Nat.le_refl _)
    (.inr <| .inl ⟨w.heap.size, len, _, rfl, Go.heap_alloc_new w _, by simp; omega, by simp only [maxLen]; omega, hsize, (fun i row hi => by
      rw [List.getElem?_map] at hi
      cases hr : rows[i]? with
      | none => rw [hr] at hi; cases hi
      | some r =>
        rw [hr] at hi
        obtain rfl : r.map V.d = row := by simpa using hi
        simpa using hz r (List.mem_of_getElem? hr)), fun i j row v hi hj => by
      rw [List.getElem?_map] at hi
      cases hr : rows[i]? with
      | none => rw [hr] at hi; cases hi
      | some r =>
        rw [hr] at hi
        obtain rfl : r.map V.d = row := by simpa using hi
        rw [List.getElem?_map] at hj
        cases hx : r[j]? with
        | none => rw [hx] at hj; cases hj
        | some x =>
          rw [hx] at hj
          obtain rfl : V.d x = v := by simpa using hj
          obtain ⟨cv, h1, h2⟩ := hcell i j r x hr hx
          exact ⟨cv, h1, h2.one, .d _ _ h2⟩⟩)
  refine ⟨_, _, _, _, _, hrun, hup.1, hup.2, .os _ _ _ (by simp) fun v1 e1 s1 r1 hr1 => ?_, hk⟩
  rw [List.getElem?_append_right (Nat.le_refl _)] at hr1
  simp at hr1
  obtain ⟨rfl, rfl, rfl, rfl⟩ := hr1
  exact ⟨Nat.le_refl _, fun _ => ⟨by have := (slI_spec hs).2.1; omega, by simp [Conc.put, slv, hrlen]⟩⟩
theorem run_append_none {t e : TypeId} {z bytes : Nat} (hs : slI P t = some (e, z, bytes)) (ty : TypeId) (a : Option Addr) (n cap : Nat) (b : Option Addr) (mc : Nat) (hn : n ≤ cap) :
    (Builtin.append_ #[t, t] ty #[.slice a n cap, .slice b 0 mc]).run P w = .ok (.slice a n cap) w := by
  obtain ⟨hu, _⟩ := slI_spec hs
  have hz := slI_size hs
  have hf : (Builtin.firstCells z 0 (.slice b 0 mc)).run P w = .ok #[] w := by
    cases b <;> simp [Builtin.firstCells, loadCells, loadCellsFrom]
  cases a <;> simp [Builtin.append_, run_underlying hu, run_sizeOf hz w, Builtin.lenOf, hn, hf, storeCells]
structure Sr (P : Program) (w : World) (t tx ty e : TypeId) (z : Nat) (x : Value) (m : Nat) (news : List Value) : Prop where
  len : news.length = m * z
  one : ∀ u ∈ news, u.oneCell' = true
  zero : m = 0 → ∀ (a : Option Addr) (n cap : Nat), n ≤ cap → (Builtin.append_ #[t, tx] ty #[.slice a n cap, x]).run P w = .ok (.slice a n cap) w
  nil : ∀ (i : TypeInfo) (zv : Value), P.info? e = some i → i.zero = some zv → i.size = z → 0 < m → (m : Int) ≤ 9223372036854775807 → m * i.bytes ≤ 281474976710656 →
    (Builtin.append_ #[t, tx] ty #[.slice none 0 0, x]).run P w = .ok (.slice (some ⟨w.heap.size, 0, none⟩) m (grownCap w m 0 e)) (w.drew.alloc (.cells (news.toArray ++ Builtin.zeroCells zv.cells (grownCap w m 0 e - m)) e))
  grow : ∀ (i : TypeInfo) (zv : Value), P.info? e = some i → i.zero = some zv → i.size = z → 0 < m → ∀ (b : Addr) (sLen sCap : Nat) (olds : List Value), olds.length = sLen * z → (∀ j v, olds[j]? = some v → w.cell? (b.add j) = some v) →
    sCap < sLen + m → ((sLen + m : Nat) : Int) ≤ 9223372036854775807 → Builtin.nextslicecap (sLen + m) sCap * i.bytes ≤ 281474976710656 →
    (Builtin.append_ #[t, tx] ty #[.slice (some b) sLen sCap, x]).run P w = .ok (.slice (some ⟨w.heap.size, 0, none⟩) (sLen + m) (grownCap w (sLen + m) sCap e))
        (w.drew.alloc (.cells (olds.toArray ++ news.toArray ++ Builtin.zeroCells zv.cells (grownCap w (sLen + m) sCap e - (sLen + m))) e))
  room : ∀ (i : TypeInfo), P.info? e = some i → i.size = z → 0 < m → ∀ (g sLen sCap : Nat) (cur : Array Value), w.heap[g]? = some (.cells cur e (0, 0)) → sLen + m ≤ sCap → sLen * z + news.length ≤ cur.size →
    (Builtin.append_ #[t, tx] ty #[.slice (some ⟨g, 0, none⟩) sLen sCap, x]).run P w =
      .ok (.slice (some ⟨g, 0, none⟩) (sLen + m) sCap) (w.setRow g (cur.toList.take (sLen * z) ++ news ++ cur.toList.drop (sLen * z + news.length)).toArray)
theorem Sr.ofSlice {t e : TypeId} {z bytes : Nat} (hs : slI P t = some (e, z, bytes)) (ty : TypeId) (a : Option Addr) (m mc : Nat) (news : List Value) (hl : news.length = m * z) (hsrc : m = 0 ∨ ∃ ad, a = some ad ∧ ∀ j u, news[j]? = some u → w.cell? (ad.add j) = some u)
    (h1 : ∀ u ∈ news, u.oneCell' = true) : Sr P w t t ty e z (.slice a m mc) m news := by
  obtain ⟨hu, _⟩ := slI_spec hs
  refine ⟨hl, h1, fun hm b n cap hn => by subst hm; exact run_append_none hs ty b n cap a mc hn, fun i zv hi hzv hz hm h63 h48 => ?_, fun i zv hi hzv hz hm b sLen sCap olds hlo ho hg h63 hfit => ?_, fun i hi hz hm g sLen sCap cur hg hroom hfit => ?_⟩
  all_goals
    rcases hsrc with h0 | ⟨ad, rfl, hnews⟩
    · omega
    subst hz
  · exact run_append_nil (P := P) w t ty e i zv hu hi hzv ad m mc news hl hnews hm h63 h48
  · exact run_append_grow (P := P) w t ty e i zv hu hi hzv b sLen sCap olds hlo ho ad m mc news hl hnews hg h63 hfit
  · exact run_append_room (P := P) w t ty e i hu hi g sLen sCap cur hg ad m mc news hl hnews h1 hroom hfit
def byteV (c : UInt8) : Value := .int .u8 c.toNat
theorem strCells_mk (l : List UInt8) : Lib.strCells ⟨l.toArray⟩ = l.map byteV := by simp [Lib.strCells, byteV]
theorem Sr.ofString {t tx e : TypeId} {bytes : Nat} (hs : slI P t = some (e, 1, bytes)) (hx : P.underlying tx = some .string) (ty : TypeId) (l : List UInt8) : Sr P w t tx ty e 1 (.string ⟨l.toArray⟩) l.length (l.map byteV) := by
  obtain ⟨hu, _⟩ := slI_spec hs
  have hz := slI_size hs
  have hsz : (⟨l.toArray⟩ : ByteArray).size = l.length := size_mk l
  refine ⟨by simp, fun u hu => ?_, fun hm b n cap hn => ?_, fun i zv hi hzv hz hm h63 h48 => ?_, fun i zv hi hzv hz hm b sLen sCap olds hlo ho hg h63 hfit => ?_, fun i hi hz hm g sLen sCap cur hg hroom hfit => ?_⟩
  · obtain ⟨c, _, rfl⟩ := List.mem_map.1 hu
    rfl
  · obtain rfl : l = [] := List.eq_nil_of_length_eq_zero hm
    have hf : (Builtin.firstCells 1 0 (.string (⟨([] : List UInt8).toArray⟩ : ByteArray))).run P w = .ok #[] w := by
      exact Lib.run_firstCells_string (P := P) w 1 (⟨([] : List UInt8).toArray⟩ : ByteArray)
    have hsz0 : (⟨([] : List UInt8).toArray⟩ : ByteArray).size = 0 := rfl
    cases b <;> simp [Builtin.append_, run_underlying hu, run_underlying hx, run_sizeOf hz w, Builtin.lenOf, hn, hf, hsz0, storeCells]
  · have := run_append_nil_string (P := P) w t tx ty e i zv hu hx hi hzv ⟨l.toArray⟩ (by rw [hsz]; exact hm) (by rw [hsz]; exact h63) (by rw [hsz]; exact h48)
    rw [hsz] at this
    rw [this]
    simp only [List.map_toArray]
    rfl
  · have := Lib.run_append_grow_string (P := P) w t tx ty e i zv hu hx hi hzv b sLen sCap olds (by rw [hz]; exact hlo) ho ⟨l.toArray⟩ (by rw [hsz]; exact hg) (by rw [hsz]; exact h63) (by rw [hsz]; exact hfit)
    rw [hsz, strCells_mk] at this
    exact this
  · have := Lib.run_append_room_string (P := P) w t tx ty e i hu hx hi hz g sLen sCap cur hg ⟨l.toArray⟩ (by rw [hsz]; exact hroom) (by rw [hsz]; simpa using hfit)
    rw [hsz, strCells_mk] at this
    simpa using this
theorem run_append_core {t e : TypeId} {z bytes : Nat} (hs : slI P t = some (e, z, bytes)) (ty : TypeId) (c : Co) (n : Nat) (xs : List Value) (hxs : xs.length = n * z)
    (hbase : ((∃ a, c = .no a) ∧ n = 0) ∨ ∃ g cap cur, c = .blk g cap ∧ w.heap[g]? = some (.cells cur e (0, 0)) ∧ n ≤ cap ∧ cap ≤ maxLen ∧ cur.size = cap * z ∧ cur.toList.take (n * z) = xs)
    {tx : TypeId} {x : Value} (m : Nat) (news : List Value) (hsr : Sr P w t tx ty e z x m news) (h63 : n + m ≤ maxLen) (hb : (n + m) * bytes ≤ 140737488355328) :
    ∃ c' w', (Builtin.append_ #[t, tx] ty #[slv c n, x]).run P w = .ok (slv c' (n + m)) w' ∧ w'.os = w.os ∧ w'.tape = w.tape ∧ OutSame w w' ∧ w.heap.size ≤ w'.heap.size ∧
      ((c' = c ∧ m = 0 ∧ w' = w) ∨
        ∃ g cap cur, c' = .blk g cap ∧ w'.heap[g]? = some (.cells cur e (0, 0)) ∧ n + m ≤ cap ∧ cap ≤ maxLen ∧ cur.size = cap * z ∧ cur.toList.take ((n + m) * z) = xs ++ news ∧
          (((∃ cap0, c = .blk g cap0) ∧ ∀ k, k ≠ g → w'.heap[k]? = w.heap[k]?) ∨ (g = w.heap.size ∧ ∀ k, k < w.heap.size → w'.heap[k]? = w.heap[k]?))) := by
  obtain ⟨hu, hz0, i, zv, hi, hzv, hsize, hby, hzs⟩ := slI_spec hs
  subst hsize hby
  by_cases hm : m = 0
  · subst hm
    refine ⟨c, w, ?_, rfl, rfl, OutSame.refl w, Nat.le_refl _, .inl ⟨rfl, rfl, rfl⟩⟩
    rcases hbase with ⟨⟨b, rfl⟩, rfl⟩ | ⟨g, cap, cur, rfl, _, hn, _⟩
    · exact hsr.zero rfl b 0 0 (Nat.le_refl _)
    · exact hsr.zero rfl _ n cap hn
  have hm0 : 0 < m := by omega
  have hl := hsr.len
  have h63' : n + m ≤ 9223372036854775807 := by simpa [maxLen] using h63
  have hlen : (xs ++ news).length = (n + m) * i.size := by rw [List.length_append, hxs, hl, Nat.add_mul]
  have fresh : ∀ old, (slv (.blk w.heap.size (grownCap w (n + m) old e)) (n + m)) = .slice (some ⟨w.heap.size, 0, none⟩) (n + m) (grownCap w (n + m) old e) := fun _ => rfl
  have post : ∀ old, ∃ g cap cur, Co.blk w.heap.size (grownCap w (n + m) old e) = .blk g cap ∧
      (w.drew.alloc (.cells (xs.toArray ++ news.toArray ++ Builtin.zeroCells zv.cells (grownCap w (n + m) old e - (n + m))) e)).heap[g]? = some (.cells cur e (0, 0)) ∧ n + m ≤ cap ∧ cap ≤ maxLen ∧ cur.size = cap * i.size ∧
      cur.toList.take ((n + m) * i.size) = xs ++ news ∧
      (((∃ cap0, c = .blk g cap0) ∧ ∀ k, k ≠ g → (w.drew.alloc (.cells (xs.toArray ++ news.toArray ++ Builtin.zeroCells zv.cells (grownCap w (n + m) old e - (n + m))) e)).heap[k]? = w.heap[k]?) ∨
        (g = w.heap.size ∧ ∀ k, k < w.heap.size → (w.drew.alloc (.cells (xs.toArray ++ news.toArray ++ Builtin.zeroCells zv.cells (grownCap w (n + m) old e - (n + m))) e)).heap[k]? = w.heap[k]?)) := fun old => by
    have hge := grownCap_ge w (n + m) old e
    refine ⟨w.heap.size, _, _, rfl, Go.heap_alloc_new w.drew _, hge, grownCap_le_maxLen w _ _ _ h63, ?_, ?_, .inr ⟨rfl, fun k hk => RowKit.Below.heap_alloc w.drew _ k hk⟩⟩
    · simp only [Array.size_append, List.size_toArray, size_zeroCells, hzs, hxs, hl, ← Nat.add_mul]
      congr 1
      omega
    · simp only [Array.toList_append, List.append_assoc]
      rw [← List.append_assoc, ← hlen]
      exact List.take_left
  rcases hbase with ⟨⟨b, rfl⟩, rfl⟩ | ⟨g, cap, cur, rfl, hg, hn, hcm, hcs, htake⟩
  · obtain rfl : xs = [] := List.eq_nil_of_length_eq_zero (by simpa using hxs)
    have hb' : m * i.bytes ≤ 140737488355328 := by simpa using hb
    cases b with
    | none =>
      have hr := hsr.nil i zv hi hzv rfl hm0 (by omega) (by omega)
      have hp := post 0
      simp only [Nat.zero_add, List.nil_append, Array.empty_append] at hp hr ⊢
      exact ⟨.blk w.heap.size (grownCap w m 0 e), _, hr, rfl, rfl, OutSame.drewAlloc w _ _, by simp, .inr hp⟩
    | some b =>
      have hr := hsr.grow i zv hi hzv rfl hm0 b 0 0 [] (by simp) (by simp) (by omega) (by omega) (growslice_fits (by omega) hb)
      exact ⟨.blk w.heap.size (grownCap w (0 + m) 0 e), _, hr, rfl, rfl, OutSame.drewAlloc w _ _, by simp, .inr (post 0)⟩
  · by_cases hroom : n + m ≤ cap
    · have hfit : n * i.size + news.length ≤ cur.size := by rw [hl, hcs, ← Nat.add_mul]; exact Nat.mul_le_mul_right _ hroom
      have hr := hsr.room i hi rfl hm0 g n cap cur hg hroom hfit
      refine ⟨.blk g cap, _, hr, rfl, rfl, outSame_setRow _ _ _, by simp, .inr ⟨g, cap, _, rfl, setRow_heap w g cur _ e _ hg, hroom, hcm, ?_, ?_, .inl ⟨⟨cap, rfl⟩, fun k hk => setRow_other w g k _ hk⟩⟩⟩
      · simp only [List.size_toArray, List.length_append, List.length_take, List.length_drop, Array.length_toList]
        omega
      · rw [htake, ← hlen]
        exact List.take_left
    · have holds : ∀ j u, xs[j]? = some u → w.cell? ((⟨g, 0, none⟩ : Addr).add j) = some u := fun j u hu => by
        rw [Addr.add_lit, Nat.zero_add, cell_of_row w g j cur e (0, 0) hg, ← Array.getElem?_toList]
        rw [← htake, List.getElem?_take] at hu
        split at hu
        · exact hu
        · cases hu
      have hr := hsr.grow i zv hi hzv rfl hm0 ⟨g, 0, none⟩ n cap xs hxs holds (by omega) (by omega) (growslice_fits (by omega) hb)
      exact ⟨.blk w.heap.size (grownCap w (n + m) cap e), _, hr, rfl, rfl, OutSame.drewAlloc w _ _, by simp, .inr (post cap)⟩
def srcV (z : Nat) (x : V) (H : Heap) : Option (List (List V)) :=
  match x with
  | .d (.sl sz rows) => if sz = z then some (rows.map fun r => r.map .d) else none
  | .os id ver => (match H[id]? with | some (.row ver' _ sz rows) => if ver = ver' ∧ sz = z then some rows else none | _ => none)
  | .em => some []
  | .d (.c v) => if isNil v = true then some [] else none
  | .d (.s l) => if z = 1 then some (l.map fun c => [V.d (.i .u8 c.toNat)]) else none
  | _ => none
def srcOk (P : Program) (t t' : TypeId) (x : V) : Prop := match x with | .d (.s _) => stB P t' = true | _ => t = t'
def flat (f : Nat → Nat → Value) (z : Nat) : Nat → List Value
  | 0 => []
  | n + 1 => flat f z n ++ (List.range z).map (f n)
theorem flat_len (f : Nat → Nat → Value) (z : Nat) : ∀ n, (flat f z n).length = n * z
  | 0 => by simp [flat]
  | n + 1 => by simp [flat, flat_len f z n, Nat.add_mul]
theorem flat_get (f : Nat → Nat → Value) (z : Nat) : ∀ n i j, i < n → j < z → (flat f z n)[i * z + j]? = some (f i j)
  | 0, i, j, h, _ => by omega
  | n + 1, i, j, h, hj => by
    simp only [flat]
    rcases Nat.lt_or_ge i n with hi | hi
    · have : (i + 1) * z ≤ n * z := Nat.mul_le_mul_right _ hi
      rw [Nat.add_mul, Nat.one_mul] at this
      rw [List.getElem?_append_left (by rw [flat_len]; omega)]
      exact flat_get f z n i j hi hj
    · obtain rfl : i = n := by omega
      rw [List.getElem?_append_right (by rw [flat_len]; omega), flat_len]
      rw [show i * z + j - i * z = j by omega]
      simp [hj]
theorem flat_inv (f : Nat → Nat → Value) (z n q : Nat) (u : Value) (h : (flat f z n)[q]? = some u) : ∃ i j, i < n ∧ j < z ∧ q = i * z + j ∧ u = f i j := by
  have hq := (List.getElem?_eq_some_iff.1 h).1
  rw [flat_len] at hq
  have hz : 0 < z := by
    rcases Nat.eq_zero_or_pos z with h0 | h0
    · subst h0; simp at hq
    · exact h0
  have hi : q / z < n := Nat.div_lt_of_lt_mul (by rw [Nat.mul_comm]; exact hq)
  have hj : q % z < z := Nat.mod_lt _ hz
  have he : q = q / z * z + q % z := by rw [Nat.mul_comm]; exact (Nat.div_add_mod q z).symm
  refine ⟨q / z, q % z, hi, hj, he, ?_⟩
  have := flat_get f z n _ _ hi hj
  rw [← he, h] at this
  exact Option.some.inj this
theorem srcV_run0 {z : Nat} {x : V} {vx : Value} {R : List (List V)} (hns : ∀ l, x ≠ .d (.s l)) (h : srcV z x H = some R) (hw : WOk w H σ) (hx : VRel w (Own H σ) H σ x vx) :
    ∃ (a : Option Addr) (mc : Nat) (news : List Value), vx = .slice a R.length mc ∧ news.length = R.length * z ∧ (R.length = 0 ∨ ∃ ad, a = some ad ∧ ∀ j u, news[j]? = some u → w.cell? (ad.add j) = some u) ∧ (∀ u ∈ news, u.oneCell' = true) ∧
      (∀ (i : Nat) (row : List V), R[i]? = some row → row.length = z) ∧
      (∀ (i j : Nat) (row : List V) (v : V), R[i]? = some row → row[j]? = some v → ∃ u, news[i * z + j]? = some u ∧ u.oneCell' = true ∧ VRel w (Own H σ) H σ v u) := by
  unfold srcV at h
  split at h
  · rename_i sz rows
    split at h
    case isFalse => cases h
    rename_i hz
    subst hz
    cases h
    obtain ⟨a, cap, rfl, ha⟩ := hx.inv_d.inv_sl
    by_cases hne : rows = []
    · subst hne
      exact ⟨a, cap, [], by simp, by simp, .inl (by simp), by simp, by simp, by simp⟩
    · obtain ⟨b, off, f, rfl, _, _, _, hlen, hc, hd⟩ := ha hne
      have hrow : ∀ i j, i < rows.length → j < sz → ∃ row x, rows[i]? = some row ∧ row[j]? = some x := fun i j hi hj => by
        have h1 : rows[i]? = some rows[i] := by simp [hi]
        have h2 := hlen i _ h1
        exact ⟨rows[i], rows[i][j], h1, by simp [h2, hj]⟩
      refine ⟨some ⟨b, off, none⟩, cap, flat f sz rows.length, by rw [List.length_map], by simp [flat_len], .inr ⟨_, rfl, fun q u hu => ?_⟩, fun u hu => ?_, fun i row hi => ?_, fun i j row v hi hj => ?_⟩
      · obtain ⟨i, j, hi, hj, rfl, rfl⟩ := flat_inv f sz _ q u hu
        obtain ⟨row, x, h1, h2⟩ := hrow i j hi hj
        rw [Addr.add_lit, ← Nat.add_assoc]
        exact hc i j row x h1 h2
      · obtain ⟨q, hq, rfl⟩ := List.getElem_of_mem hu
        obtain ⟨i, j, hi, hj, _, he⟩ := flat_inv f sz _ q _ (List.getElem?_eq_getElem hq)
        obtain ⟨row, x, h1, h2⟩ := hrow i j hi hj
        rw [he]
        exact (hd i j row x h1 h2).one
      · rw [List.getElem?_map] at hi
        cases hr : rows[i]? with
        | none => rw [hr] at hi; cases hi
        | some r =>
          rw [hr] at hi
          obtain rfl : r.map V.d = row := by simpa using hi
          simpa using hlen i r hr
      · rw [List.getElem?_map] at hi
        cases hr : rows[i]? with
        | none => rw [hr] at hi; cases hi
        | some r =>
          rw [hr] at hi
          obtain rfl : r.map V.d = row := by simpa using hi
          rw [List.getElem?_map] at hj
          cases hx' : r[j]? with
          | none => rw [hx'] at hj; cases hj
          | some x =>
            rw [hx'] at hj
            obtain rfl : V.d x = v := by simpa using hj
            have hi' := (List.getElem?_eq_some_iff.1 hr).1
            have hj' := (List.getElem?_eq_some_iff.1 hx').1
            rw [hlen i r hr] at hj'
            exact ⟨f i j, flat_get f sz _ i j hi' hj', (hd i j r x hr hx').one, .d _ _ (hd i j r x hr hx')⟩
  · rename_i id ver
    split at h
    case h_2 => cases h
    rename_i ver' e sz rows hr
    split at h
    case isFalse => cases h
    rename_i hc
    obtain ⟨rfl, rfl⟩ := hc
    cases h
    obtain ⟨_, hv⟩ := hx.inv_os hr
    have hv := hv rfl
    rcases hw.objs hr (hx.nz_os hr) with ⟨⟨a, hn⟩, hR⟩ | ⟨g, cap, cur, hg, hh, h3, h4, h5, h6, h7⟩
    · subst hR
      rw [hn] at hv
      exact ⟨a, 0, [], hv, by simp, .inl rfl, by simp, by simp, by simp⟩
    · rw [hg] at hv
      have hrow : ∀ i j, i < R.length → j < sz → ∃ row v, R[i]? = some row ∧ row[j]? = some v := fun i j hi hj => by
        have h1 : R[i]? = some R[i] := by simp [hi]
        have h2 := h6 i _ h1
        exact ⟨R[i], R[i][j], h1, by simp [h2, hj]⟩
      refine ⟨some ⟨g, 0, none⟩, cap, flat (fun i j => cur.getD (i * sz + j) undef) sz R.length, hv, flat_len _ _ _, .inr ⟨_, rfl, fun q u hu => ?_⟩, fun u hu => ?_, h6, fun i j row v hi hj => ?_⟩
      · obtain ⟨i, j, hi, hj, rfl, rfl⟩ := flat_inv _ sz _ q u hu
        obtain ⟨row, v, a, b⟩ := hrow i j hi hj
        obtain ⟨cv, c1, _⟩ := h7 i j row v a b
        rw [Addr.add_lit, Nat.zero_add, cell_of_row w g _ cur e (0, 0) hh, Array.getD_eq_getD_getElem?, c1]
        rfl
      · obtain ⟨q, hq, rfl⟩ := List.getElem_of_mem hu
        obtain ⟨i, j, hi, hj, _, he⟩ := flat_inv _ sz _ q _ (List.getElem?_eq_getElem hq)
        obtain ⟨row, v, a, b⟩ := hrow i j hi hj
        obtain ⟨cv, c1, c2, _⟩ := h7 i j row v a b
        rw [he, Array.getD_eq_getD_getElem?, c1]
        exact c2
      · obtain ⟨cv, c1, c2, c3⟩ := h7 i j row v hi hj
        have hi' := (List.getElem?_eq_some_iff.1 hi).1
        have hj' := (List.getElem?_eq_some_iff.1 hj).1
        rw [h6 i row hi] at hj'
        refine ⟨cv, ?_, c2, c3⟩
        rw [flat_get _ sz _ i j hi' hj', Array.getD_eq_getD_getElem?, c1]
        rfl
  · cases h
    cases hx with | em a => exact ⟨a, 0, [], rfl, by simp, .inl rfl, by simp, by simp, by simp⟩
  · split at h
    · rename_i hn
      cases h
      obtain rfl := isNil_eq hn
      obtain rfl := hx.inv_d.inv_c
      exact ⟨none, 0, [], rfl, by simp, .inl rfl, by simp, by simp, by simp⟩
    · cases h
  · exact absurd rfl (hns _)
  · cases h
theorem stB_spec' {t : TypeId} (h : stB P t = true) : P.underlying t = some .string := by
  unfold stB at h
  split at h <;> simp_all
theorem srcV_run {t tx e : TypeId} {z bytes : Nat} (hs : slI P t = some (e, z, bytes)) (ty : TypeId) {x : V} {vx : Value} {R : List (List V)} (hk : srcOk P t tx x) (h : srcV z x H = some R) (hw : WOk w H σ) (hx : VRel w (Own H σ) H σ x vx) :
    ∃ (news : List Value), Sr P w t tx ty e z vx R.length news ∧
      (∀ (i : Nat) (row : List V), R[i]? = some row → row.length = z) ∧
      (∀ (i j : Nat) (row : List V) (v : V), R[i]? = some row → row[j]? = some v → ∃ u, news[i * z + j]? = some u ∧ u.oneCell' = true ∧ VRel w (Own H σ) H σ v u) := by
  by_cases hns : ∀ l, x ≠ .d (.s l)
  · have htt : t = tx := by
      unfold srcOk at hk
      split at hk
      · exact absurd rfl (hns _)
      · exact hk
    subst htt
    obtain ⟨a, mc, news, rfl, hnl, hsrc, hone, k6, k7⟩ := srcV_run0 hns h hw hx
    exact ⟨news, .ofSlice hs ty a R.length mc news hnl hsrc hone, k6, k7⟩
  · obtain ⟨l, rfl⟩ : ∃ l, x = .d (.s l) := Classical.byContradiction fun hn => hns fun l e => hn ⟨l, e⟩
    simp only [srcV] at h
    split at h
    case isFalse => cases h
    rename_i hz
    subst hz
    cases h
    obtain rfl := hx.inv_d.inv_s
    refine ⟨l.map byteV, by simpa using Sr.ofString hs (stB_spec' hk) ty l, fun i row hi => ?_, fun i j row v hi hj => ?_⟩
    · rw [List.getElem?_map] at hi
      obtain ⟨c, _, rfl⟩ := Option.map_eq_some_iff.1 hi
      rfl
    · rw [List.getElem?_map] at hi
      obtain ⟨c, hc, rfl⟩ := Option.map_eq_some_iff.1 hi
      cases j with
      | zero =>
        obtain rfl : V.d (.i .u8 c.toNat) = v := by simpa using hj
        exact ⟨byteV c, by rw [List.getElem?_map, Nat.mul_one, Nat.add_zero, hc]; rfl, rfl, .d _ _ (.i _ _)⟩
      | succ j => simp at hj
theorem Lies.cells {c : Co} {e z : Nat} {rows : List (List V)} (h : Lies w (Own H σ) H σ c w e z rows) (hz : 0 < z) :
    ∃ xs : List Value, xs.length = rows.length * z ∧
      (((∃ a, c = .no a) ∧ rows.length = 0) ∨ ∃ g cap cur, c = .blk g cap ∧ w.heap[g]? = some (.cells cur e (0, 0)) ∧ rows.length ≤ cap ∧ cap ≤ maxLen ∧ cur.size = cap * z ∧ cur.toList.take (rows.length * z) = xs) ∧
      (∀ (i : Nat) (row : List V), rows[i]? = some row → row.length = z) ∧
      (∀ (i j : Nat) (row : List V) (v : V), rows[i]? = some row → row[j]? = some v → ∃ u, xs[i * z + j]? = some u ∧ u.oneCell' = true ∧ VRel w (Own H σ) H σ v u) := by
  rcases h with ⟨hn, rfl⟩ | ⟨g, cap, cur, hg, hh, h3, h4, h5, h6, h7⟩ | ⟨_, _, _, _, _, _, _, _, _, h0, _⟩
  · exact ⟨[], by simp, .inl ⟨hn, rfl⟩, by simp, by simp⟩
  rotate_left
  · omega
  · have hle : rows.length * z ≤ cur.size := by rw [h5]; exact Nat.mul_le_mul_right _ h3
    refine ⟨cur.toList.take (rows.length * z), by simp; omega, .inr ⟨g, cap, cur, hg, hh, h3, h4, h5, rfl⟩, h6, fun i j row v hi hj => ?_⟩
    obtain ⟨u, a, b, d⟩ := h7 i j row v hi hj
    have hi' := (List.getElem?_eq_some_iff.1 hi).1
    have hj' := (List.getElem?_eq_some_iff.1 hj).1
    rw [h6 i row hi] at hj'
    have : (i + 1) * z ≤ rows.length * z := Nat.mul_le_mul_right _ hi'
    rw [Nat.add_mul, Nat.one_mul] at this
    exact ⟨u, by rw [List.getElem?_take_of_lt (by omega), Array.getElem?_toList]; exact a, b, d⟩
theorem rows_append {z : Nat} {rows R : List (List V)} {xs news : List Value} {cur : Array Value} (hxl : xs.length = rows.length * z) (htake : cur.toList.take ((rows.length + R.length) * z) = xs ++ news) (hnl : news.length = R.length * z)
    (h6 : ∀ (i : Nat) (row : List V), rows[i]? = some row → row.length = z)
    (h7 : ∀ (i j : Nat) (row : List V) (v : V), rows[i]? = some row → row[j]? = some v → ∃ u, xs[i * z + j]? = some u ∧ u.oneCell' = true ∧ VRel w (Own H σ) H σ v u)
    (k6 : ∀ (i : Nat) (row : List V), R[i]? = some row → row.length = z)
    (k7 : ∀ (i j : Nat) (row : List V) (v : V), R[i]? = some row → row[j]? = some v → ∃ u, news[i * z + j]? = some u ∧ u.oneCell' = true ∧ VRel w (Own H σ) H σ v u) :
    (∀ (i : Nat) (row : List V), (rows ++ R)[i]? = some row → row.length = z) ∧
    (∀ (i j : Nat) (row : List V) (v : V), (rows ++ R)[i]? = some row → row[j]? = some v → ∃ u, cur[i * z + j]? = some u ∧ u.oneCell' = true ∧ VRel w (Own H σ) H σ v u) := by
  have hcur : ∀ q u, (xs ++ news)[q]? = some u → cur[q]? = some u := fun q u hq => by
    rw [← htake, List.getElem?_take] at hq
    split at hq
    · rw [← Array.getElem?_toList]; exact hq
    · cases hq
  refine ⟨fun i row hi => ?_, fun i j row v hi hj => ?_⟩
  · rw [List.getElem?_append] at hi
    split at hi
    · exact h6 i row hi
    · exact k6 _ row hi
  · rw [List.getElem?_append] at hi
    split at hi
    · rename_i hlt
      obtain ⟨u, a, b, d⟩ := h7 i j row v hi hj
      exact ⟨u, hcur _ u (by rw [List.getElem?_append_left (List.getElem?_eq_some_iff.1 a).1]; exact a), b, d⟩
    · rename_i hge
      obtain ⟨u, a, b, d⟩ := k7 _ j row v hi hj
      refine ⟨u, hcur _ u ?_, b, d⟩
      have hle : rows.length * z ≤ i * z := Nat.mul_le_mul_right _ (by omega)
      rw [List.getElem?_append_right (by rw [hxl]; omega), hxl, ← a]
      congr 1
      rw [Nat.sub_mul]
      omega
def dsRows : List (List V) → Option (List (List D))
  | [] => some []
  | r :: rs => match dsOf r, dsRows rs with | some x, some l => some (x :: l) | _, _ => none
theorem dsRows_eq : ∀ {R : List (List V)} {l : List (List D)}, dsRows R = some l → R = l.map fun r => r.map .d
  | [], l, h => by simp [dsRows] at h; subst h; rfl
  | r :: rs, l, h => by
    unfold dsRows at h
    split at h
    · rename_i x l' h1 h2
      cases h
      rw [dsOf_eq h1, dsRows_eq h2]
      rfl
    · cases h
def dataOf (z : Nat) (x : V) : Option (List (List D)) :=
  match x with
  | .d (.sl sz rows) => if sz = z then some rows else none
  | .em => some []
  | .d (.c v) => if isNil v = true then some [] else none
  | .d (.s l) => if z = 1 then some (l.map fun c => [D.i .u8 c.toNat]) else none
  | _ => none
theorem dataOf_src {z : Nat} {x : V} {rows : List (List D)} (h : dataOf z x = some rows) : srcV z x H = some (rows.map fun r => r.map .d) := by
  unfold dataOf at h
  split at h
  · split at h
    · cases h; rename_i hz; simp [srcV, hz]
    · cases h
  · cases h; rfl
  · split at h
    · cases h; rename_i hn; simp [srcV, hn]
    · cases h
  · split at h
    · cases h; rename_i hn; simp [srcV, hn]
    · cases h
  · cases h
def vcAppend (P : Program) (own : Bool) (t : TypeId) (s x : V) (H : Heap) (K : V → Heap → Prop) : Prop :=
  match slI P t with
  | none => False
  | some (e, z, bytes) =>
    match s with
    | .os id ver =>
      (match H[id]?, srcV z x H with
      | some (.row ver' e' sz rows), some R => ver = ver' ∧ e' = e ∧ sz = z ∧ rows.length + R.length ≤ 9223372036854775807 ∧ (rows.length + R.length) * bytes ≤ 140737488355328 ∧
          K (.os id (ver + 1)) (H.set id (.row (ver + 1) e z (rows ++ R)))
      | _, _ => False)
    | .d (.c v) => isNil v = true ∧
      (if own then (match srcV z x H with
        | some R => R.length ≤ 9223372036854775807 ∧ R.length * bytes ≤ 140737488355328 ∧ K (.os H.length 0) (H ++ [.row 0 e z R])
        | none => False)
      else (match dataOf z x with
        | some R => R.length ≤ 9223372036854775807 ∧ R.length * bytes ≤ 140737488355328 ∧ K (.d (.sl z R)) H
        | none => False))
    | .em =>
      (if own then (match srcV z x H with
        | some R => R ≠ [] ∧ R.length ≤ 9223372036854775807 ∧ R.length * bytes ≤ 140737488355328 ∧ K (.os H.length 0) (H ++ [.row 0 e z R])
        | none => False)
      else (match dataOf z x with
        | some R => R.length ≤ 9223372036854775807 ∧ R.length * bytes ≤ 140737488355328 ∧ K (.d (.sl z R)) H
        | none => False))
    | _ => False
theorem append_fresh {own : Bool} {t tx ty e : TypeId} {z bytes : Nat} {x : V} {K : V → Heap → Prop} {vx : Value} (hs : slI P t = some (e, z, bytes)) (hkk : srcOk P t tx x) (hw : WOk w H σ) (hx : VRel w (Own H σ) H σ x vx) (a0 : Option Addr) (ha0 : own = true → a0 = none ∨ ∀ R, srcV z x H = some R → R ≠ [])
    (h : if own then (match srcV z x H with
        | some R => R.length ≤ 9223372036854775807 ∧ R.length * bytes ≤ 140737488355328 ∧ K (.os H.length 0) (H ++ [.row 0 e z R])
        | none => False)
      else (match dataOf z x with
        | some R => R.length ≤ 9223372036854775807 ∧ R.length * bytes ≤ 140737488355328 ∧ K (.d (.sl z R)) H
        | none => False)) :
    ∃ v val w' H' σ', (Builtin.append_ #[t, tx] ty #[.slice a0 0 0, vx]).run P w = .ok val w' ∧ Pres w H σ w' H' σ' ∧ WOk w' H' σ' ∧ VRel w' (Own H' σ') H' σ' v val ∧ K v H' := by
  have core : ∀ R, srcV z x H = some R → R.length ≤ 9223372036854775807 → R.length * bytes ≤ 140737488355328 →
      ∃ c' w', (Builtin.append_ #[t, tx] ty #[.slice a0 0 0, vx]).run P w = .ok (slv c' R.length) w' ∧ w'.os = w.os ∧ w'.tape = w.tape ∧ OutSame w w' ∧ w.heap.size ≤ w'.heap.size ∧
        (∀ k, k < w.heap.size → w'.heap[k]? = w.heap[k]?) ∧ (∀ g cap, c' = .blk g cap → w.heap.size ≤ g) ∧ Lies w (Own H σ) H σ c' w' e z R ∧ (∀ a, c' = .no a → a = a0) := by
    intro R hR h63 hb
    obtain ⟨news, hsr, k6, k7⟩ := srcV_run hs ty hkk hR hw hx
    have hnl := hsr.len
    have hr := run_append_core (w := w) hs ty (.no a0) 0 [] (by simp) (.inl ⟨⟨a0, rfl⟩, rfl⟩) R.length news hsr (by simpa [maxLen] using h63) (by simpa using hb)
    obtain ⟨c', w', hrun, h1, h2, h3, h4, h5⟩ := hr
    rw [Nat.zero_add] at hrun
    refine ⟨c', w', hrun, h1, h2, h3, h4, ?_⟩
    rcases h5 with ⟨rfl, hm, rfl⟩ | ⟨g, cap, cur, rfl, hg, hn, hcm, hcs, htake, hin⟩
    · obtain rfl : R = [] := List.eq_nil_of_length_eq_zero hm
      exact ⟨fun _ _ => rfl, (fun _ _ h => by cases h), .inl ⟨⟨a0, rfl⟩, rfl⟩, fun a h => by cases h; rfl⟩
    · rcases hin with ⟨⟨_, h⟩, _⟩ | ⟨rfl, hblk⟩
      · cases h
      · have hra := rows_append (w := w) (H := H) (σ := σ) (z := z) (rows := []) (R := R) (xs := []) (news := news) (cur := cur) (by simp) (by simpa using htake) hnl (by simp) (by simp) k6 k7
        exact ⟨hblk, (fun g' cap' h => by cases h; exact Nat.le_refl _), .inr <| .inl ⟨_, cap, cur, rfl, hg, by simpa using hn, hcm, hcs, by simpa using hra.1, by simpa using hra.2⟩, fun a h => by cases h⟩
  split at h
  · split at h
    case h_2 => exact h.elim
    rename_i R hR
    obtain ⟨h63, hb, hk⟩ := h
    obtain ⟨c', w', hrun, h1, h2, h3, h4, h5, h6, h7, hcn⟩ := core R hR h63 hb
    have hup := hw.push (ver := 0) h1 h2 h3 h4 h5 h6 h7 (fun a ha => by
      rcases h7 with ⟨_, hR0⟩ | ⟨g, _, _, hg, _⟩ | ⟨g, _, _, _, _, _, _, hg, _⟩
      · rcases ha0 (by assumption) with h0 | h0
        · exact (hcn a ha).trans h0
        · exact absurd hR0 (h0 R hR)
      · rw [hg] at ha; cases ha
      · rw [hg] at ha; cases ha)
    refine ⟨_, _, w', _, _, hrun, hup.1, hup.2, .os _ _ _ (by simp) fun v1 e1 s1 r1 hr => ?_, hk⟩
    rw [List.getElem?_append_right (Nat.le_refl _)] at hr
    simp at hr
    obtain ⟨rfl, rfl, rfl, rfl⟩ := hr
    exact ⟨Nat.le_refl _, fun _ => ⟨by have := (slI_spec hs).2.1; omega, by simp [Conc.put]⟩⟩
  · split at h
    case h_2 => exact h.elim
    rename_i R hR
    obtain ⟨h63, hb, hk⟩ := h
    obtain ⟨c', w', hrun, h1, h2, h3, h4, h5, h6, h7, hcn⟩ := core _ (dataOf_src hR) (by simpa using h63) (by simpa using hb)
    -- nobody owns what has been made
    have hp : Pres w H σ w' H σ := ⟨h1, h2, h3, h4, fun b hb _ => h5 b hb, fun _ _ h => h, Nat.le_refl _, fun _ v e sz rows _ h => ⟨v, e, sz, rows, h, Nat.le_refl _, fun _ => ⟨rfl, rfl, rfl⟩⟩⟩
    refine ⟨_, _, w', H, σ, hrun, hp, hw.same hp fun b hb => h5 b (hw.lt hb), .d _ _ ?_, hk⟩
    rcases h7 with ⟨⟨a, rfl⟩, hnil⟩ | ⟨g, cap, cur, rfl, hg, hn, _, _, h8, h9⟩ | ⟨_, _, _, _, _, _, _, _, _, h0, _⟩
    rotate_right
    · have := (slI_spec hs).2.1; omega
    · have : R = [] := by simpa using hnil
      subst this
      exact .nil _ _ _
    · have hno : ¬ Own H σ g := fun ho => by have := hw.lt ho; have := h6 g cap rfl; omega
      simp only [List.length_map] at hn ⊢
      refine rows_ro hw hp g cur e hg hno z R cap hn (fun i row hi => ?_) (fun i j row x hi hj => ?_)
      · have := h8 i (row.map .d) (by rw [List.getElem?_map, hi]; rfl)
        simpa using this
      · obtain ⟨cv, a, _, b⟩ := h9 i j (row.map .d) (.d x) (by rw [List.getElem?_map, hi]; rfl) (by rw [List.getElem?_map, hj]; rfl)
        exact ⟨cv, a, b.inv_d⟩
theorem vcAppend_run {own : Bool} {t tx ty : TypeId} {s x : V} {K : V → Heap → Prop} {vs vx : Value} (hkk : srcOk P t tx x) (h : vcAppend P own t s x H K) (hw : WOk w H σ) (hs : VRel w (Own H σ) H σ s vs) (hx : VRel w (Own H σ) H σ x vx) :
    ∃ v val w' H' σ', (Builtin.append_ #[t, tx] ty #[vs, vx]).run P w = .ok val w' ∧ Pres w H σ w' H' σ' ∧ WOk w' H' σ' ∧ VRel w' (Own H' σ') H' σ' v val ∧ K v H' := by
  unfold vcAppend at h
  split at h
  · exact h.elim
  rename_i e z bytes hsl
  split at h
  · rename_i id ver
    split at h
    case h_2 => exact h.elim
    rename_i ver' e' sz rows R hr hR
    obtain ⟨rfl, rfl, rfl, h63, hb, hk⟩ := h
    obtain ⟨_, hv⟩ := hs.inv_os hr
    have hv := hv rfl
    subst hv
    obtain ⟨xs, hxl, hbase, b6, b7⟩ := (hw.lies hr).cells (slI_spec hsl).2.1
    obtain ⟨news, hsr, k6, k7⟩ := srcV_run hsl ty hkk hR hw hx
    have hnl := hsr.len
    obtain ⟨c', w', hrun, h1, h2, h3, h4, h5⟩ := run_append_core (w := w) hsl ty (σ id) rows.length xs hxl hbase R.length news hsr (by simpa [maxLen] using h63) hb
    have hall : (∀ k, k < w.heap.size → (∀ cap, σ id ≠ .blk k cap) → w'.heap[k]? = w.heap[k]?) ∧ (∀ g cap, c' = .blk g cap → (∃ cap0, σ id = .blk g cap0) ∨ w.heap.size ≤ g) ∧ Lies w (Own H σ) H σ c' w' e' sz (rows ++ R) ∧ (∀ a, c' = .no a → a = none) := by
      rcases h5 with ⟨rfl, hm, rfl⟩ | ⟨g, cap, cur, rfl, hg, hn, hcm, hcs, htake, hin⟩
      · obtain rfl : R = [] := List.eq_nil_of_length_eq_zero hm
        rw [List.append_nil]
        exact ⟨fun _ _ _ => rfl, fun g cap h => .inl ⟨cap, h⟩, hw.lies hr, fun a h => hw.nil _ a h⟩
      · have hra := rows_append hxl htake hnl b6 b7 k6 k7
        refine ⟨fun k hk hne => ?_, fun g' cap' h => ?_, .inr <| .inl ⟨g, cap, cur, rfl, hg, by simpa using hn, hcm, hcs, hra.1, hra.2⟩, fun a h => by cases h⟩
        · rcases hin with ⟨⟨cap0, h0⟩, hblk⟩ | ⟨_, hblk⟩
          · exact hblk k fun e => hne cap0 (e ▸ h0)
          · exact hblk k hk
        · cases h
          rcases hin with ⟨h0, _⟩ | ⟨rfl, _⟩
          · exact .inl h0
          · exact .inr (Nat.le_refl _)
    have hup := hw.set (ver' := ver + 1) hr (by omega) (fun he => by omega) h1 h2 h3 h4 hall.1 hall.2.1 hall.2.2.1 hall.2.2.2
    refine ⟨_, _, w', _, _, hrun, hup.1, hup.2, .os _ _ _ (by simpa using (List.getElem?_eq_some_iff.1 hr).1) fun v1 e1 s1 r1 hr1 => ?_, hk⟩
    have hid := (List.getElem?_eq_some_iff.1 hr).1
    rw [List.getElem?_set, if_pos rfl, if_pos hid] at hr1
    cases hr1
    exact ⟨Nat.le_refl _, fun _ => ⟨by have := (slI_spec hsl).2.1; omega, by simp [Conc.put]⟩⟩
  · obtain ⟨hn, h⟩ := h
    obtain rfl := isNil_eq hn
    obtain rfl := hs.inv_d.inv_c
    exact append_fresh hsl hkk hw hx none (fun _ => .inl rfl) h
  · cases hs with
    | em a =>
      cases own with
      | true =>
        simp only [if_true] at h
        split at h
        case h_2 => exact h.elim
        rename_i R hR
        refine append_fresh (own := true) hsl hkk hw hx a (fun _ => .inr fun R' hR' => ?_) ?_
        · rw [hR] at hR'
          cases hR'
          exact h.1
        · rw [hR]
          exact h.2
      | false => exact append_fresh (own := false) hsl hkk hw hx a (fun e => by cases e) (by simpa using h)
  · exact h.elim
def vcTrunc (P : Program) (t : TypeId) (id ver : Nat) (hi : V) (H : Heap) (K : V → Heap → Prop) : Prop :=
  match H[id]?, hi, slI P t with
  | some (.row ver' e sz rows), .d (.i _ n), some (_, z, _) => ver = ver' ∧ sz = z ∧ 0 ≤ n ∧ n ≤ rows.length ∧ K (.os id (ver + 1)) (H.set id (.row (ver + 1) e sz (rows.take n.toNat)))
  | _, _, _ => False
theorem vcTrunc_run {t : TypeId} {id ver : Nat} {hi : V} {K : V → Heap → Prop} {vs vh : Value} (h : vcTrunc P t id ver hi H K) (hw : WOk w H σ) (hs : VRel w (Own H σ) H σ (.os id ver) vs) (hh : VRel w (Own H σ) H σ hi vh) :
    ∃ v val H' σ', (Instr.sliceAt t vs none (some vh) none).run P w = .ok val w ∧ Pres w H σ w H' σ' ∧ WOk w H' σ' ∧ VRel w (Own H' σ') H' σ' v val ∧ K v H' := by
  unfold vcTrunc at h
  split at h
  case h_2 => exact h.elim
  rename_i ver' e sz rows k n e' z bytes hr hsl
  obtain ⟨rfl, rfl, h0, h1, hk⟩ := h
  obtain ⟨hu, _⟩ := slI_spec hsl
  have hz := slI_size hsl
  obtain rfl := hh.inv_d.inv_i
  obtain ⟨_, hv⟩ := hs.inv_os hr
  have hv := hv rfl
  subst hv
  have hid := (List.getElem?_eq_some_iff.1 hr).1
  have hlen : (rows.take n.toNat).length = n.toNat := by simp; omega
  have hl : Lies w (Own H σ) H σ (σ id) w e sz (rows.take n.toNat) := by
    rcases hw.lies2 hr (by have := (slI_spec hsl).2.1; omega) with ⟨hn, rfl⟩ | ⟨g, cap, cur, hg, hh, h3, h4, h5, h6, h7⟩
    · exact .inl ⟨hn, by simp⟩
    · refine .inr <| .inl ⟨g, cap, cur, hg, hh, by omega, h4, h5, fun i row hi => ?_, fun i j row v hi hj => ?_⟩
      · rw [List.getElem?_take] at hi
        split at hi
        · exact h6 i row hi
        · cases hi
      · rw [List.getElem?_take] at hi
        split at hi
        · exact h7 i j row v hi hj
        · cases hi
  have hup := hw.set (w' := w) (ver' := ver + 1) (c := σ id) hr (by omega) (fun he => by omega) rfl rfl (OutSame.refl w) (Nat.le_refl _) (fun _ _ _ => rfl) (fun g cap hc => .inl ⟨cap, hc⟩) hl
  have hrun : (Instr.sliceAt t (slv (σ id) rows.length) none (some (.int k n)) none).run P w = .ok (slv (σ id) n.toNat) w := by
    rcases hw.lies2 hr (by have := (slI_spec hsl).2.1; omega) with ⟨⟨a, hn⟩, rfl⟩ | ⟨g, cap, cur, hg, _, h3, _⟩
    · obtain rfl : n = 0 := by simp at h1; omega
      rw [hn]
      simp [slv, Instr.sliceAt, Instr.slice, run_underlying hu, Instr.sliceBounds, Instr.sliceBound, asIntOf, run_sizeOf hz w]
    · rw [hg]
      have hcap : n ≤ (cap : Int) := by omega
      have hbd := run_bounds (P := P) (w := w) true rows.length cap none (some (.int k n)) 0 n (by omega) h0 hcap (.inl ⟨rfl, rfl⟩) (.inr ⟨k, rfl⟩)
      simp only [slv, Instr.sliceAt, Instr.slice, Sem.run_bind, run_underlying hu, Result.andThen_ok, Sem.run_pure, hbd, run_sizeOf hz w]
      simp [Addr.add]
  refine ⟨_, _, _, _, hrun, hup.1, hup.2, .os _ _ _ (by simpa using hid) fun v1 e1 s1 r1 hr1 => ?_, hk⟩
  rw [List.getElem?_set, if_pos rfl, if_pos hid] at hr1
  cases hr1
  exact ⟨Nat.le_refl _, fun _ => ⟨by have := (slI_spec hsl).2.1; omega, by simp only [Conc.put, if_true, hlen]⟩⟩
def vcView (P : Program) (t : TypeId) (id ver : Nat) (hi : V) (H : Heap) (K : V → Prop) : Prop :=
  match H[id]?, hi, slI P t with
  | some (.row ver' e sz rows), .d (.i _ n), some (_, z, _) => ver = ver' ∧ sz = z ∧ 0 ≤ n ∧ n ≤ rows.length ∧ K (.vw id ver n.toNat)
  | _, _, _ => False
theorem vcView_run {t : TypeId} {id ver : Nat} {hi : V} {K : V → Prop} {vs vh : Value} (h : vcView P t id ver hi H K) (hw : WOk w H σ) (hs : VRel w (Own H σ) H σ (.os id ver) vs) (hh : VRel w (Own H σ) H σ hi vh) :
    ∃ v val, (Instr.sliceAt t vs none (some vh) none).run P w = .ok val w ∧ VRel w (Own H σ) H σ v val ∧ K v := by
  unfold vcView at h
  split at h
  case h_2 => exact h.elim
  rename_i ver' e sz rows k n e' z bytes hr hsl
  obtain ⟨rfl, rfl, h0, h1, hk⟩ := h
  obtain ⟨hu, _⟩ := slI_spec hsl
  have hz := slI_size hsl
  obtain rfl := hh.inv_d.inv_i
  obtain ⟨_, hv⟩ := hs.inv_os hr
  have hv := hv rfl
  subst hv
  have hid := (List.getElem?_eq_some_iff.1 hr).1
  have hrun : (Instr.sliceAt t (slv (σ id) rows.length) none (some (.int k n)) none).run P w = .ok (slv (σ id) n.toNat) w := by
    rcases hw.lies2 hr (by have := (slI_spec hsl).2.1; omega) with ⟨⟨a, hn⟩, rfl⟩ | ⟨g, cap, cur, hg, _, h3, _⟩
    · obtain rfl : n = 0 := by simp at h1; omega
      rw [hn]
      simp [slv, Instr.sliceAt, Instr.slice, run_underlying hu, Instr.sliceBounds, Instr.sliceBound, asIntOf, run_sizeOf hz w]
    · rw [hg]
      have hcap : n ≤ (cap : Int) := by omega
      have hbd := run_bounds (P := P) (w := w) true rows.length cap none (some (.int k n)) 0 n (by omega) h0 hcap (.inl ⟨rfl, rfl⟩) (.inr ⟨k, rfl⟩)
      simp only [slv, Instr.sliceAt, Instr.slice, Sem.run_bind, run_underlying hu, Result.andThen_ok, Sem.run_pure, hbd, run_sizeOf hz w]
      simp [Addr.add]
  refine ⟨_, _, hrun, .vw _ _ _ _ hid fun v1 e1 s1 r1 hr1 => ?_, hk⟩
  rw [hr] at hr1
  cases hr1
  exact ⟨Nat.le_refl _, fun _ => ⟨by have := (slI_spec hsl).2.1; omega, by omega, rfl⟩⟩
end
end Go.Proofs.YtmhabdopcbokoaaDoor.Ab
