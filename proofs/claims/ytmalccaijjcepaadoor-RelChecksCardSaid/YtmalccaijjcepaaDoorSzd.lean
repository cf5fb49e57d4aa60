/- What the form's own reach says of data: no slice in it, at any depth, takes more bytes than it reaches. No condition. -/
import Derived.Test.YtmalccaijjcepaaDoorLwT
set_option linter.all false
set_option linter.unusedSimpArgs false
set_option linter.unusedVariables false
namespace Go.Proofs.YtmalccaijjcepaaDoor.Ab
open Go Go.RowKit Go.ChangeShapes Go.WideShapes Go.ChangeAt
variable [Glo]
set_option maxHeartbeats 1000000
/-- So many bytes a value of the shape takes at least. -/
def Ty.bytes : Ty → Nat
  | .i .i64 => 8
  | .i _ => 1
  | .b => 1
  | .s => 16
  | .sl _ => 24
  | .nil => 0
  | .cons h t => h.bytes + t.bytes
def SizedD : Ty → List D → Prop
  | .sl e, [.sl _ rows] => rows.length * e.bytes ≤ 140737488351232 ∧ ∀ row, row ∈ rows → SizedD e row
  | .cons h t, ds => ∃ a c, ds = a ++ c ∧ a.length = h.size ∧ SizedD h a ∧ SizedD t c
  | _, _ => True
/-- The shapes of what slices hold take no more bytes than the types. -/
def bytB (P : Program) : Nat → TypeId → Bool
  | 0, _ => false
  | n + 1, t => match P.underlying t with
    | some (.slice e) => (match tyB P n e with | some T => decide (T.bytes ≤ P.bytesOf e) | none => false) && bytB P n e
    | some (.struct fs) => fs.toList.all fun f => bytB P n f.type
    | _ => true
section
variable {H : Type} {enc : TypeId × Value → H} {P : Program} {w : World} {base : Nat} {spare : Nat → Bool} {held : Bool} {o : Nat → Prop}
theorem weightsAll_mem {e : TypeId} : ∀ {l : List (DataW H)} {d : DataW H}, d ∈ l → ∀ n, n ∈ d.weights P e → n ∈ DataW.weightsAll P e l
  | x :: l, d, h, n, hn => by
    simp only [DataW.weightsAll, List.mem_append]
    rcases List.mem_cons.1 h with rfl | h
    · exact .inl hn
    · exact .inr (weightsAll_mem h n hn)
theorem trod_sized : ∀ (n : Nat) (t : TypeId) (T : Ty), tyB P n t = some T → bytB P n t = true → ∀ (fuel : Nat) (cs : List Value) (x : DataW H × List MemPlace), DataW.trod enc P w base spare held fuel t cs = some x →
    ∀ (ds : List D) (m : Nat), Typed T ds m → Cells w o ds cs → (∀ z, z ∈ x.1.weights P t → z ≤ reachBytes) → SizedD T ds
  | 0, t, T, hT, _, _, _, _, _, _, _, _, _, _ => by cases hT
  | n + 1, t, T, hT, hb, fuel, cs, x, h, ds, m, ht, hc, hw => by
    have ih := trod_sized n
    unfold tyB at hT
    unfold bytB at hb
    split at hT
    · cases hT; trivial
    · cases hT; trivial
    · cases hT; trivial
    · rename_i e hu
      rw [hu] at hb
      simp only [Bool.and_eq_true] at hb
      split at hT
      case h_2 => cases hT
      rename_i E hE
      split at hT
      case isFalse => cases hT
      rename_i hsz
      cases hT
      rw [hE] at hb
      have hby : E.bytes ≤ P.bytesOf e := of_decide_eq_true hb.1
      obtain ⟨rows, rfl, ws, h1, h2, h3⟩ := typed_sl ht
      have hl1 := hc.1
      obtain ⟨v, rfl⟩ : ∃ v, cs = [v] := by
        cases cs with
        | nil => simp at hl1
        | cons v cs =>
          cases cs with
          | nil => exact ⟨v, rfl⟩
          | cons _ _ => simp at hl1
      have hd := hc.2 0 _ v rfl rfl
      have hlen := trod_len (enc := enc) (p := x.2) hu (v := v) (d := x.1) (base := base) (spare := spare) (held := held) ⟨fuel, by
        cases hd <;> exact h⟩ hd hw
      refine ⟨Nat.le_trans (Nat.mul_le_mul_left _ hby) hlen, fun row hrow => ?_⟩
      obtain ⟨i, hi, rfl⟩ := List.mem_iff_getElem.1 hrow
      have hri : rows[i]? = some rows[i] := List.getElem?_eq_getElem hi
      obtain ⟨wi, hwi⟩ : ∃ wi, ws[i]? = some wi := ⟨ws[i]'(by omega), List.getElem?_eq_getElem (by omega)⟩
      have hty := h3 i _ wi hri hwi
      generalize hre : rows[i] = r at hri hty
      clear hre hrow
      cases hd with
      | nil sz a cap => simp at hi
      | sl sz rows b off cap f q1 q2 q3 q4 q5 q6 =>
        rcases DataW.trod_slice hu h with ⟨hx, _⟩ | ⟨a', len, cap', elems, rest, n', _, hcs, hx, _, _, _, hel, hels, _⟩
        · have := (List.cons.inj hx).1
          injection this with g1 g2 g3
          cases g1
        · have hv2 := (List.cons.inj hcs).1
          injection hv2 with g1 g2 g3
          injection g1 with g1
          subst g1
          subst hx
          have hie : i < elems.length := by omega
          have h0 := hels i (by omega)
          rw [List.getElem?_eq_getElem hie, Option.bind_eq_some_iff] at h0
          obtain ⟨cs', k1, k2⟩ := h0
          obtain ⟨_, k4, k5⟩ := World.cells?_some k1
          have hrl := hty.len
          refine ih e E hE hb.2 n' cs' _ k2 r wi hty ⟨by omega, fun j d c hd hc' => ?_⟩ fun z hz => ?_
          · have hj : j < r.length := (List.getElem?_eq_some_iff.1 hd).1
            have e1 := q5 i j r d hri hd
            have e2 := q6 i j r d hri hd
            have e3 := k5 j (by omega)
            have hadd : ((⟨b, off, none⟩ : Addr).add (i * P.cellsOf e)).add j = ⟨b, off + i * E.size + j, none⟩ := by
              rw [hsz.1]
              unfold Addr.add
              split <;> split <;> simp_all
            rw [hadd, e1, hc'] at e3
            rw [← Option.some.inj e3]
            exact e2
          · refine hw z ?_
            simp only [DataW.weights, hu, List.mem_cons, List.mem_append]
            exact .inr (.inl (weightsAll_mem (List.mem_map.2 ⟨elems[i], List.getElem_mem hie, rfl⟩) z hz))
    · rename_i fs hu
      rw [hu] at hb
      simp only [] at hb
      split at hT
      case h_2 => cases hT
      rename_i T' hT'
      split at hT
      case isFalse => cases hT
      rename_i hsz
      cases hT
      obtain ⟨xs, n', rfl, rfl, hcl, hxl, hfs⟩ := DataW.trod_struct hu h
      have fields : ∀ (l : List Field) (k off : Nat) (R : Ty), tyFs P (tyB P n) off l = some R → (∀ i, l[i]? = fs[k + i]?) → k + l.length = fs.size → off + R.size = cs.length → ∀ (ds : List D) (m : Nat), Typed R ds m → Cells w o ds (cs.drop off) → SizedD R ds := by
        intro l
        induction l with
        | nil =>
          intro k off R hR _ _ _ ds m _ _
          simp only [tyFs, Option.some.injEq] at hR
          subst hR
          trivial
        | cons f l ihl =>
          intro k off R hR hl hk hoff ds m htd hcd
          simp only [tyFs] at hR
          split at hR
          case h_2 => cases hR
          rename_i F hF
          split at hR
          case isFalse => cases hR
          rename_i hfo
          obtain ⟨hfo, hfc⟩ := hfo
          split at hR
          case h_2 => cases hR
          rename_i R' hR'
          cases hR
          simp only [Ty.size] at hoff
          have h0 : fs[k]? = some f := by simpa using (hl 0).symm
          obtain ⟨a, c, m1, m2, rfl, _, t1, t2⟩ := typed_cons htd
          have l1 := t1.len
          have l2 := t2.len
          have hlt : k < xs.length := by
            rw [hxl]
            simp only [List.length_cons] at hk
            omega
          have hx := hfs k f h0
          rw [List.getElem?_eq_getElem hlt] at hx
          have hfm : f ∈ fs.toList := List.mem_of_getElem? (i := k) (by rw [Array.getElem?_toList]; exact h0)
          refine ⟨a, c, rfl, l1, ih f.type F hF (List.all_eq_true.1 hb f hfm) n' _ _ hx a m1 t1 ⟨?_, fun j d u hd hu' => ?_⟩ fun z hz => hw z ?_, ihl (k + 1) (off + F.size) R' hR' (fun i => by
            have := hl (i + 1)
            rw [List.getElem?_cons_succ] at this
            rw [this]; congr 1; omega) (by simp only [List.length_cons] at hk; omega) (by omega) c m2 t2 ⟨?_, fun j d u hd hu' => ?_⟩⟩
          · rw [List.length_take, List.length_drop]
            omega
          · have hj : j < a.length := (List.getElem?_eq_some_iff.1 hd).1
            refine hcd.2 j d u (by rw [List.getElem?_append_left hj]; exact hd) ?_
            rw [List.getElem?_take_of_lt (by omega), List.getElem?_drop, hfo] at hu'
            rw [List.getElem?_drop]
            exact hu'
          · simp only [DataW.weights, hu]
            exact DataW.weights_mem_each (j := k) (t := f.type) (d := xs[k].1) (by rw [List.getElem?_map, Array.getElem?_toList, h0]; rfl) (by rw [List.getElem?_map, List.getElem?_eq_getElem hlt]; rfl) z hz
          · have := hcd.1
            rw [List.length_append, List.length_drop] at this
            rw [List.length_drop]
            omega
          · have hj : j < c.length := (List.getElem?_eq_some_iff.1 hd).1
            refine hcd.2 (a.length + j) d u (by rw [List.getElem?_append_right (by omega)]; simpa using hd) ?_
            rw [List.getElem?_drop] at hu' ⊢
            rw [← hu']
            congr 1
            omega
      exact fields fs.toList 0 0 T hT' (fun i => by rw [Array.getElem?_toList]; congr 1; omega) (by simp) (by rw [hcl, hsz]; omega) ds m ht (by simpa using hc)
    · cases hT
theorem arg_open3 {n : Nat} {t : TypeId} {T : Ty} {v : Value} {d : DataW H} {p : List MemPlace} {r : Reach} {b0 : Nat} (hT : tyB P n t = some T) (hby : bytB P n t = true) (hv : Value.okWide P w r b0 t v) (h : DataW.Trod enc P w base spare held t v d p) (hw : ∀ z, z ∈ d.weights P t → z ≤ reachBytes) :
    ∃ ds, Typed T ds (Rows.uptoBulk d) ∧ SizedD T ds ∧ VRel w (Own [] σ0) [] σ0 (argV T ds) v := by
  obtain ⟨fuel, hf⟩ := h
  obtain ⟨ds, h1, h2⟩ := trod_typed (o := Own [] σ0) no0 n t T hT fuel _ _ hf
  refine ⟨ds, h1, trod_sized (o := Own [] σ0) n t T hT hby fuel _ _ hf ds _ h1 h2 hw, ?_⟩
  have one : ∀ {c : Value} {T : Ty}, T.size = 1 → ds.length = 1 → (∀ x, argV T [x] = .d x) → v = c → c.cells = #[c] → VRel w (Own [] σ0) [] σ0 (argV T ds) v := by
    rintro c T _ hl ha rfl hc
    obtain ⟨x, rfl⟩ := List.length_eq_one_iff.1 hl
    rw [ha]
    exact .d _ _ (h2.2 0 x v rfl (by rw [hc]; rfl))
  have hlen := h1.len
  cases n with
  | zero => cases hT
  | succ n =>
    unfold tyB at hT
    split at hT
    · rename_i hu
      cases hT
      obtain ⟨b, rfl⟩ := okWide_bool hu hv
      exact one (T := .b) rfl hlen (fun _ => rfl) rfl rfl
    · rename_i k hu
      cases hT
      obtain ⟨m, rfl⟩ := okWide_int hu hv
      exact one (T := .i k) rfl hlen (fun _ => rfl) rfl rfl
    · rename_i hu
      cases hT
      obtain ⟨s, rfl⟩ := okWide_string hu hv
      exact one (T := .s) rfl hlen (fun _ => rfl) rfl rfl
    · rename_i e hu
      split at hT
      case h_2 => cases hT
      split at hT
      case isFalse => cases hT
      cases hT
      obtain ⟨a, len, cap, rfl⟩ := okWide_slice hu hv
      rename_i E _ _
      exact one (T := .sl E) rfl hlen (fun _ => rfl) rfl rfl
    · rename_i fs hu
      split at hT
      case h_2 => cases hT
      rename_i T' hT'
      split at hT
      case isFalse => cases hT
      cases hT
      obtain ⟨cs, rfl, _⟩ := okWide_struct hu hv
      have hag : argV T ds = .ag (ds.map .d) := by
        cases hfs : fs.toList with
        | nil => rw [hfs] at hT'; simp only [tyFs, Option.some.injEq] at hT'; subst hT'; rfl
        | cons f l =>
          rw [hfs] at hT'
          simp only [tyFs] at hT'
          split at hT'
          case h_2 => cases hT'
          split at hT'
          case isFalse => cases hT'
          split at hT'
          case h_2 => cases hT'
          cases hT'
          rfl
      rw [hag]
      refine .ag _ _ ?_ fun j c u hc hu' => ?_
      · have := h2.1
        simpa [Value.cells] using this
      · rw [List.getElem?_map] at hc
        cases hx : ds[j]? with
        | none => rw [hx] at hc; cases hc
        | some x =>
          rw [hx] at hc
          obtain rfl : V.d x = c := by simpa using hc
          exact .d _ _ (h2.2 j x u hx (by simpa [Value.cells] using hu'))
    · cases hT

def SizedAll : List Ty → List (List D) → Prop
  | T :: Ts, d :: ds => SizedD T d ∧ SizedAll Ts ds
  | _, _ => True
theorem args_open3 {n : Nat} {r : Reach} {b0 : Nat} : ∀ {ts : List TypeId} {Ts : List Ty} {vs : List Value} {ds : List (DataW H)} {p : List MemPlace}, tysB P n ts Ts = true → ts.all (bytB P n) = true → (∀ (j : Nat) (t : TypeId) (v : Value), ts[j]? = some t → vs[j]? = some v → Value.okWide P w r b0 t v) →
    DataW.TrodAll enc P w base spare held ts vs ds p → (∀ z, z ∈ DataW.weightsEach P ts ds → z ≤ reachBytes) → ∃ dss, TypedAll Ts dss (Rows.uptoBulkAll ds) ∧ SizedAll Ts dss ∧ rel0 w (argsV Ts dss) vs
  | [], [], vs, ds, p, _, _, _, h, _ => by
    obtain ⟨rfl, rfl, rfl⟩ := trodAll_nil h
    exact ⟨[], trivial, trivial, trivial⟩
  | t :: ts, T :: Ts, vs, ds, p, hB, hby, hv, h, hw => by
    obtain ⟨v, vs', d, ds', p1, p2, rfl, rfl, rfl, h1, h2⟩ := trodAll_cons h
    simp only [tysB, Bool.and_eq_true, decide_eq_true_eq] at hB
    simp only [List.all_cons, Bool.and_eq_true] at hby
    simp only [DataW.weightsEach, List.mem_append] at hw
    obtain ⟨ds1, h3, h7, h4⟩ := arg_open3 hB.1.1.1 hby.1 (hv 0 t v rfl rfl) h1 fun z hz => hw z (.inl hz)
    obtain ⟨dss, h5, h8, h6⟩ := args_open3 hB.2 hby.2 (fun j t v ht hv' => hv (j + 1) t v ht hv') h2 fun z hz => hw z (.inr hz)
    exact ⟨ds1 :: dss, ⟨_, _, Nat.le_refl _, h3, h5⟩, ⟨h7, h8⟩, h4, h6⟩
  | [], _ :: _, _, _, _, hB, _, _, _, _ => by cases hB
  | _ :: _, [], _, _, _, hB, _, _, _, _ => by cases hB
theorem weights_app : ∀ {ts X : List TypeId} {ds gs : List (DataW H)} {z : Nat}, z ∈ DataW.weightsEach P ts ds → z ∈ DataW.weightsEach P (ts ++ X) (ds ++ gs)
  | [], X, ds, gs, z, h => by simp [DataW.weightsEach] at h
  | t :: ts, X, [], gs, z, h => by simp [DataW.weightsEach] at h
  | t :: ts, X, d :: ds, gs, z, h => by
    simp only [DataW.weightsEach, List.cons_append, List.mem_append] at h ⊢
    exact h.imp id weights_app
theorem law_contractS3 {k n : Nat} {fn : Func} {spec : ChangeSpec} {Ts : List Ty} {bt : TypeId} {X : List TypeId} (hvars : spec.vars = []) (hres : fn.resultTypes = #[bt]) (hbt : P.underlying bt = some .bool) (hl : laidOutB P = true) (hB : tysB P n fn.params.toList Ts = true) (hby : fn.params.toList.all (bytB P n) = true)
    (hspec : ∀ (ds : List (DataW H)), ds.length = Ts.length → spec.fn H ds = { results := [.lit (.bool true)], args := ds })
    (hlaw : ∀ m dss, TypedAll Ts dss m → SizedAll Ts dss → ACalls P k (argsV Ts dss) [] fun v _ => v = .d (.b true))
    (W : World) (hglob : Globs W) (args : Array Value) (ds gs : List (DataW H)) (before : List MemPlace) (b0 : Nat)
    (hval : ∀ (j : Nat) t v, fn.params[j]? = some t → args[j]? = some v → Value.okWide P W .any b0 t v)
    (hW : DataW.Whole enc P fn.params.toList spec.vars false W args.toList ds gs before)
    (hz : (DataW.weightsEach P (fn.params.toList ++ X) (ds ++ gs)).all (· ≤ reachBytes) = true) :
    Calls P k args W fun e W' => ∃ v, e = .returned v ∧ spec.post enc P fn false true false false W args v W' := by
  have hW' := hW
  obtain ⟨p, q, hA, hV, rfl, hfz, hnd⟩ := hW
  rw [hvars] at hV
  obtain ⟨rfl, rfl⟩ := trodVars_none hV
  obtain ⟨dss, h1, hsz, h2⟩ := args_open3 hB hby (fun j t v ht hv => hval j t v (by simpa using ht) (by simpa using hv)) hA fun z h => by
    have := List.all_eq_true.1 hz z (weights_app h)
    simpa using this
  have hargs : args.toList.toArray = args := by simp
  obtain ⟨hl0, hv0⟩ := rel0_spec h2
  have hcall := hlaw _ dss h1 hsz
  unfold ACalls at hcall
  refine (hcall W σ0 args (wok0 hglob) (by simpa using hl0) (fun j v u h3 h4 => hv0 j v u h3 (by simpa using h4))).mono ?_
  rintro e W' ⟨val, v, H', σ', rfl, rfl, hval', _, hp⟩
  obtain rfl := hval'.inv_d.inv_b
  have hg := hp.still
  have hlt : ∀ q ∈ p ++ [], q.block < W.heap.size := fun q hq => hW'.lt q hq
  have hsame : ∀ q ∈ p ++ [], W.sameAt W' q := fun q hq => by
    exact Below.same ⟨hp.os, hp.tape, hp.output, hp.size, fun b hb => hp.blk b hb (no0 _)⟩ (hlt q hq)
  have hs := hspec ds (by rw [trodAll_len hA, tysB_len hB])
  refine ⟨_, rfl, ds, [], p ++ [], [], p, [], hW', ?_, ?_, ?_, World.keptBut_mono (fun q hq => hq.elim) hg.kept, fun h => by cases h⟩
  · rw [List.append_nil, hs, hres]
    exact ⟨[], [], ⟨1, by simp [DataW.trod, Value.cells, hbt]⟩, rfl, rfl⟩
  · rw [List.append_nil, hs]
    exact args_stay hl hB hA (fun q hq => hsame q (by simpa using hq)) (fun q hq => by
      have := hlt q (by simpa using hq)
      simpa using this)
  · rw [List.append_nil, hs, hvars]
    exact rfl
end
end Go.Proofs.YtmalccaijjcepaaDoor.Ab
