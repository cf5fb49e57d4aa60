/- (with the reach of slices) A law's contract without a bound of the bulk: what its reading gives. No condition. -/
import Derived.Test.YtmalccaijjcepaaDoorLw
import Derived.SizedLaws
set_option linter.all false
set_option linter.unusedSimpArgs false
set_option linter.unusedVariables false
namespace Go.Proofs.YtmalccaijjcepaaDoor.Ab
open Go Go.RowKit Go.ChangeShapes Go.WideShapes Go.ChangeAt
variable [Glo]
set_option maxHeartbeats 1000000
theorem typed_s2 {ds : List D} {m : Nat} (h : Typed .s ds m) : ∃ l, ds = [.s l] ∧ l.length ≤ 9223372036854775807 := by
  unfold Typed at h
  split at h <;> simp_all [maxLen]
section
variable {H : Type} {enc : TypeId × Value → H} {P : Program}
theorem law_contractS {k n : Nat} {fn : Func} {spec : ChangeSpec} {Ts : List Ty} {bt : TypeId} (hvars : spec.vars = []) (hres : fn.resultTypes = #[bt]) (hbt : P.underlying bt = some .bool) (hl : laidOutB P = true) (hB : tysB P n fn.params.toList Ts = true)
    (hspec : ∀ (ds : List (DataW H)), ds.length = Ts.length → spec.fn H ds = { results := [.lit (.bool true)], args := ds })
    (hlaw : ∀ m dss, TypedAll Ts dss m → ACalls P k (argsV Ts dss) [] fun v _ => v = .d (.b true))
    (W : World) (hglob : Globs W) (args : Array Value) (ds gs : List (DataW H)) (before : List MemPlace) (b0 : Nat)
    (hval : ∀ (j : Nat) t v, fn.params[j]? = some t → args[j]? = some v → Value.okWide P W .any b0 t v)
    (hW : DataW.Whole enc P fn.params.toList spec.vars false W args.toList ds gs before) :
    Calls P k args W fun e W' => ∃ v, e = .returned v ∧ spec.post enc P fn false true false false W args v W' := by
  have hW' := hW
  obtain ⟨p, q, hA, hV, rfl, hfz, hnd⟩ := hW
  rw [hvars] at hV
  obtain ⟨rfl, rfl⟩ := trodVars_none hV
  obtain ⟨dss, h1, h2⟩ := args_open hB (fun j t v ht hv => hval j t v (by simpa using ht) (by simpa using hv)) hA
  have hcall := hlaw _ dss h1
  have hargs : args.toList.toArray = args := by simp
  obtain ⟨hl0, hv0⟩ := rel0_spec h2
  unfold ACalls at hcall
  refine (hcall W σ0 args (wok0 hglob) (by simpa using hl0) (fun j v u h3 h4 => hv0 j v u h3 (by simpa using h4))).mono ?_
  rintro e W' ⟨val, v, H', σ', rfl, rfl, hval', _, hp⟩
  obtain rfl := hval'.inv_d.inv_b
  have hg := hp.still
  have hlt : ∀ q ∈ p ++ [], q.block < W.heap.size := fun q hq => hW'.lt q hq
  have hsame : ∀ q ∈ p ++ [], W.sameAt W' q := fun q hq => by
    exact Below.same ⟨hp.os, hp.tape, hp.output, hp.size, fun b hb => hp.blk b hb (no0 _)⟩ (hlt q hq)
  have hs := hspec ds (by rw [trodAll_len hA, tysB_len hB])
  refine ⟨_, rfl, ds, [], p ++ [], [], p, [], hW', ?_, ?_, ?_, World.keptBut_mono (fun q hq => hq.elim) hg.kept, fun h => by cases h⟩
  · rw [List.append_nil, hs, hres]
    exact ⟨[], [], ⟨1, by simp [DataW.trod, Value.cells, hbt]⟩, rfl, rfl⟩
  · rw [List.append_nil, hs]
    exact args_stay hl hB hA (fun q hq => hsame q (by simpa using hq)) (fun q hq => by
      have := hlt q (by simpa using hq)
      simpa using this)
  · rw [List.append_nil, hs, hvars]
    exact rfl
theorem sl_len {w : World} {o : Nat → Prop} {z : Nat} {rows : List (List D)} {v : Value} (h : DRel w o (.sl z rows) v) : ∃ a cap, v = .slice a rows.length cap := by
  cases h with
  | nil sz a cap => exact ⟨a, cap, rfl⟩
  | sl sz rows b off cap f h1 h2 h3 h4 h5 h6 => exact ⟨_, cap, rfl⟩
theorem trod_len {w : World} {base : Nat} {spare : Nat → Bool} {held : Bool} {t e : TypeId} (hu : P.underlying t = some (.slice e)) {v : Value} {d : DataW H} {p : List MemPlace} (h : DataW.Trod enc P w base spare held t v d p) {o : Nat → Prop} {z : Nat} {rows : List (List D)} (hv : DRel w o (.sl z rows) v) (hw : ∀ n, n ∈ d.weights P t → n ≤ reachBytes) : rows.length * P.bytesOf e ≤ reachBytes := by
  obtain ⟨a, cap, rfl⟩ := sl_len hv
  obtain ⟨fuel, hf⟩ := h
  rcases DataW.trod_slice hu hf with ⟨hx, _⟩ | ⟨a', len, cap', elems, rest, n', _, hcs, hx, hb, hl, hm, hlen, _⟩
  · have hx2 : Value.slice a rows.length cap = .slice none 0 0 := (List.cons.inj hx).1
    have : rows.length = 0 := by injection hx2
    rw [this, Nat.zero_mul]
    exact Nat.zero_le _
  · obtain ⟨rfl, _⟩ := Prod.mk.inj hx
    have hx2 : Value.slice a rows.length cap = .slice (some a') len cap' := (List.cons.inj hcs).1
    have hq : rows.length = len := by injection hx2
    have h1 := hw (((elems.map (·.1)).length + (rest.map (·.1)).length) * P.bytesOf e) (by simp [DataW.weights, hu])
    refine Nat.le_trans (Nat.mul_le_mul_right _ ?_) h1
    rw [List.length_map, hlen, hq]
    exact Nat.le_add_right _ _
theorem trodAll_at {w : World} {base : Nat} {spare : Nat → Bool} {held : Bool} : ∀ {ts : List TypeId} {vs : List Value} {ds : List (DataW H)} {p : List MemPlace}, DataW.TrodAll enc P w base spare held ts vs ds p → ∀ (j : Nat) (t : TypeId) (v : Value), ts[j]? = some t → vs[j]? = some v → ∃ d q, ds[j]? = some d ∧ DataW.Trod enc P w base spare held t v d q
  | [], vs, ds, p, h, j, t, v, ht, hv => by simp at ht
  | t0 :: ts, vs, ds, p, h, j, t, v, ht, hv => by
    obtain ⟨v0, vs', d0, ds', p1, p2, rfl, rfl, rfl, h1, h2⟩ := trodAll_cons h
    cases j with
    | zero =>
      simp at ht hv
      subst ht hv
      exact ⟨d0, p1, rfl, h1⟩
    | succ j =>
      obtain ⟨d, q, h3, h4⟩ := trodAll_at h2 j t v (by simpa using ht) (by simpa using hv)
      exact ⟨d, q, by simpa using h3, h4⟩
/-- No argument that is a slice takes more bytes than the form reaches. -/
def SizedV (P : Program) (ts : List TypeId) (vs : List V) : Prop := ∀ (j : Nat) (t e : TypeId) (z : Nat) (rows : List (List D)), ts[j]? = some t → P.underlying t = some (.slice e) → vs[j]? = some (.d (.sl z rows)) → rows.length * P.bytesOf e ≤ 140737488351232
theorem law_contractS2 {k n : Nat} {fn : Func} {spec : ChangeSpec} {Ts : List Ty} {bt : TypeId} {X : List TypeId} (hvars : spec.vars = []) (hres : fn.resultTypes = #[bt]) (hbt : P.underlying bt = some .bool) (hl : laidOutB P = true) (hB : tysB P n fn.params.toList Ts = true)
    (hspec : ∀ (ds : List (DataW H)), ds.length = Ts.length → spec.fn H ds = { results := [.lit (.bool true)], args := ds })
    (hlaw : ∀ m dss, TypedAll Ts dss m → SizedV P fn.params.toList (argsV Ts dss) → ACalls P k (argsV Ts dss) [] fun v _ => v = .d (.b true))
    (W : World) (hglob : Globs W) (args : Array Value) (ds gs : List (DataW H)) (before : List MemPlace) (b0 : Nat)
    (hval : ∀ (j : Nat) t v, fn.params[j]? = some t → args[j]? = some v → Value.okWide P W .any b0 t v)
    (hW : DataW.Whole enc P fn.params.toList spec.vars false W args.toList ds gs before)
    (hz : (DataW.weightsEach P (fn.params.toList ++ X) (ds ++ gs)).all (· ≤ reachBytes) = true) :
    Calls P k args W fun e W' => ∃ v, e = .returned v ∧ spec.post enc P fn false true false false W args v W' := by
  have hW' := hW
  obtain ⟨p, q, hA, hV, rfl, hfz, hnd⟩ := hW
  rw [hvars] at hV
  obtain ⟨rfl, rfl⟩ := trodVars_none hV
  obtain ⟨dss, h1, h2⟩ := args_open hB (fun j t v ht hv => hval j t v (by simpa using ht) (by simpa using hv)) hA
  have hargs : args.toList.toArray = args := by simp
  obtain ⟨hl0, hv0⟩ := rel0_spec h2
  have hsz : SizedV P fn.params.toList (argsV Ts dss) := fun j t e z rows ht hu hr => by
    have hj : j < (argsV Ts dss).length := (List.getElem?_eq_some_iff.1 hr).1
    have hja : j < args.toList.length := by
      have : (argsV Ts dss).length = args.size := by simpa using hl0
      simp only [Array.length_toList]
      omega
    have hva : args.toList[j]? = some args.toList[j] := List.getElem?_eq_getElem hja
    obtain ⟨d, q, hd, htr⟩ := trodAll_at hA j t _ ht hva
    have hvr := hv0 j _ _ hr hva
    refine trod_len (enc := enc) hu htr hvr.inv_d fun n hn => ?_
    have hjt : j < fn.params.toList.length := (List.getElem?_eq_some_iff.1 ht).1
    have hjd : j < ds.length := (List.getElem?_eq_some_iff.1 hd).1
    have := List.all_eq_true.1 hz n (DataW.weights_mem_each (by rw [List.getElem?_append_left hjt]; exact ht) (by rw [List.getElem?_append_left hjd]; exact hd) n hn)
    simpa using this
  have hcall := hlaw _ dss h1 hsz
  unfold ACalls at hcall
  refine (hcall W σ0 args (wok0 hglob) (by simpa using hl0) (fun j v u h3 h4 => hv0 j v u h3 (by simpa using h4))).mono ?_
  rintro e W' ⟨val, v, H', σ', rfl, rfl, hval', _, hp⟩
  obtain rfl := hval'.inv_d.inv_b
  have hg := hp.still
  have hlt : ∀ q ∈ p ++ [], q.block < W.heap.size := fun q hq => hW'.lt q hq
  have hsame : ∀ q ∈ p ++ [], W.sameAt W' q := fun q hq => by
    exact Below.same ⟨hp.os, hp.tape, hp.output, hp.size, fun b hb => hp.blk b hb (no0 _)⟩ (hlt q hq)
  have hs := hspec ds (by rw [trodAll_len hA, tysB_len hB])
  refine ⟨_, rfl, ds, [], p ++ [], [], p, [], hW', ?_, ?_, ?_, World.keptBut_mono (fun q hq => hq.elim) hg.kept, fun h => by cases h⟩
  · rw [List.append_nil, hs, hres]
    exact ⟨[], [], ⟨1, by simp [DataW.trod, Value.cells, hbt]⟩, rfl, rfl⟩
  · rw [List.append_nil, hs]
    exact args_stay hl hB hA (fun q hq => hsame q (by simpa using hq)) (fun q hq => by
      have := hlt q (by simpa using hq)
      simpa using this)
  · rw [List.append_nil, hs, hvars]
    exact rfl
end
end Go.Proofs.YtmalccaijjcepaaDoor.Ab
