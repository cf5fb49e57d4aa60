/- A law's row, of a function whose arguments are plain data: what is left is that it returns true. No condition. -/
import Derived.Test.YtmhabdopcbokoaaDoorR19
import Derived.Lib.LaidU8T
import Derived.SizedLaws
set_option linter.all false
set_option linter.unusedSimpArgs false
set_option linter.unusedVariables false
namespace Go.Proofs.YtmhabdopcbokoaaDoor.Ab
open Go Go.RowKit Go.ChangeShapes Go.WideShapes Go.ChangeAt
variable [Glo]
def argV : Ty → List D → V
  | .nil, ds => .ag (ds.map .d)
  | .cons _ _, ds => .ag (ds.map .d)
  | _, [x] => .d x
  | _, _ => .top
def argsV : List Ty → List (List D) → List V
  | T :: Ts, ds :: dss => argV T ds :: argsV Ts dss
  | _, _ => []
def TypedAll : List Ty → List (List D) → Nat → Prop
  | [], [], _ => True
  | T :: Ts, ds :: dss, m => ∃ m1 m2, m1 + m2 ≤ m ∧ Typed T ds m1 ∧ TypedAll Ts dss m2
  | _, _, _ => False
def tysB (P : Program) (n : Nat) : List TypeId → List Ty → Bool
  | [], [] => true
  | t :: ts, T :: Ts => decide (tyB P n t = some T) && P.readableRec t && decide (t < P.types.size) && tysB P n ts Ts
  | _, _ => false
section
variable {H : Type} {enc : TypeId × Value → H} {P : Program} {w : World} {base : Nat} {spare : Nat → Bool} {held : Bool}
theorem no0 (b : Nat) : ¬ Own [] σ0 b := fun ⟨id, ver, e, sz, rows, cap, h, _⟩ => by simp at h
theorem arg_open {n : Nat} {t : TypeId} {T : Ty} {v : Value} {d : DataW H} {p : List MemPlace} {r : Reach} {b0 : Nat} (hT : tyB P n t = some T) (hv : Value.okWide P w r b0 t v) (h : DataW.Trod enc P w base spare held t v d p) :
    ∃ ds, Typed T ds (Rows.uptoBulk d) ∧ VRel w (Own [] σ0) [] σ0 (argV T ds) v := by
  obtain ⟨fuel, hf⟩ := h
  obtain ⟨ds, h1, h2⟩ := trod_typed (o := Own [] σ0) no0 n t T hT fuel _ _ hf
  refine ⟨ds, h1, ?_⟩
  have one : ∀ {c : Value} {T : Ty}, T.size = 1 → ds.length = 1 → (∀ x, argV T [x] = .d x) → v = c → c.cells = #[c] → VRel w (Own [] σ0) [] σ0 (argV T ds) v := by
    rintro c T _ hl ha rfl hc
    obtain ⟨x, rfl⟩ := List.length_eq_one_iff.1 hl
    rw [ha]
    exact .d _ _ (h2.2 0 x v rfl (by rw [hc]; rfl))
  have hlen := h1.len
  cases n with
  | zero => cases hT
  | succ n =>
    unfold tyB at hT
    split at hT
    · rename_i hu
      cases hT
      obtain ⟨b, rfl⟩ := okWide_bool hu hv
      exact one (T := .b) rfl hlen (fun _ => rfl) rfl rfl
    · rename_i k hu
      cases hT
      obtain ⟨m, rfl⟩ := okWide_int hu hv
      exact one (T := .i k) rfl hlen (fun _ => rfl) rfl rfl
    · rename_i hu
      cases hT
      obtain ⟨s, rfl⟩ := okWide_string hu hv
      exact one (T := .s) rfl hlen (fun _ => rfl) rfl rfl
    · rename_i e hu
      split at hT
      case h_2 => cases hT
      split at hT
      case isFalse => cases hT
      cases hT
      obtain ⟨a, len, cap, rfl⟩ := okWide_slice hu hv
      rename_i E _ _
      exact one (T := .sl E) rfl hlen (fun _ => rfl) rfl rfl
    · rename_i fs hu
      split at hT
      case h_2 => cases hT
      rename_i T' hT'
      split at hT
      case isFalse => cases hT
      cases hT
      obtain ⟨cs, rfl, _⟩ := okWide_struct hu hv
      have hag : argV T ds = .ag (ds.map .d) := by
        cases hfs : fs.toList with
        | nil => rw [hfs] at hT'; simp only [tyFs, Option.some.injEq] at hT'; subst hT'; rfl
        | cons f l =>
          rw [hfs] at hT'
          simp only [tyFs] at hT'
          split at hT'
          case h_2 => cases hT'
          split at hT'
          case isFalse => cases hT'
          split at hT'
          case h_2 => cases hT'
          cases hT'
          rfl
      rw [hag]
      refine .ag _ _ ?_ fun j c u hc hu' => ?_
      · have := h2.1
        simpa [Value.cells] using this
      · rw [List.getElem?_map] at hc
        cases hx : ds[j]? with
        | none => rw [hx] at hc; cases hc
        | some x =>
          rw [hx] at hc
          obtain rfl : V.d x = c := by simpa using hc
          exact .d _ _ (h2.2 j x u hx (by simpa [Value.cells] using hu'))
    · cases hT
theorem args_open {n : Nat} {r : Reach} {b0 : Nat} : ∀ {ts : List TypeId} {Ts : List Ty} {vs : List Value} {ds : List (DataW H)} {p : List MemPlace}, tysB P n ts Ts = true → (∀ (j : Nat) (t : TypeId) (v : Value), ts[j]? = some t → vs[j]? = some v → Value.okWide P w r b0 t v) →
    DataW.TrodAll enc P w base spare held ts vs ds p → ∃ dss, TypedAll Ts dss (Rows.uptoBulkAll ds) ∧ rel0 w (argsV Ts dss) vs
  | [], [], vs, ds, p, _, _, h => by
    obtain ⟨rfl, rfl, rfl⟩ := trodAll_nil h
    exact ⟨[], trivial, trivial⟩
  | t :: ts, T :: Ts, vs, ds, p, hB, hv, h => by
    obtain ⟨v, vs', d, ds', p1, p2, rfl, rfl, rfl, h1, h2⟩ := trodAll_cons h
    simp only [tysB, Bool.and_eq_true, decide_eq_true_eq] at hB
    obtain ⟨ds1, h3, h4⟩ := arg_open hB.1.1.1 (hv 0 t v rfl rfl) h1
    obtain ⟨dss, h5, h6⟩ := args_open hB.2 (fun j t v ht hv' => hv (j + 1) t v ht hv') h2
    exact ⟨ds1 :: dss, ⟨_, _, Nat.le_refl _, h3, h5⟩, h4, h6⟩
  | [], _ :: _, _, _, _, hB, _, _ => by cases hB
  | _ :: _, [], _, _, _, hB, _, _ => by cases hB
theorem args_stay {n : Nat} (hl : laidOutB P = true) {W W' : World} {sp : Nat → Bool} : ∀ {ts : List TypeId} {Ts : List Ty} {vs : List Value} {ds : List (DataW H)} {p : List MemPlace}, tysB P n ts Ts = true →
    DataW.TrodAll enc P W base (fun _ => true) true ts vs ds p → (∀ q ∈ p, W.sameAt W' q) → (∀ q ∈ p, sp q.block = true) → DataW.TrodAll enc P W' base sp true ts vs ds p
  | [], [], vs, ds, p, _, h, _, _ => by
    obtain ⟨rfl, rfl, rfl⟩ := trodAll_nil h
    exact rfl
  | t :: ts, T :: Ts, vs, ds, p, hB, h, hs, hp => by
    obtain ⟨v, vs', d, ds', p1, p2, rfl, rfl, rfl, h1, h2⟩ := trodAll_cons h
    simp only [tysB, Bool.and_eq_true, decide_eq_true_eq] at hB
    exact ⟨p1, p2, WideElems.Trod_stays hl hB.1.1.2 hB.1.2 h1 (fun q hq => hs q (by simp [hq])) (fun q hq => hp q (by simp [hq])), args_stay hl hB.2 h2 (fun q hq => hs q (by simp [hq])) (fun q hq => hp q (by simp [hq])), rfl⟩
  | [], _ :: _, _, _, _, hB, _, _, _ => by cases hB
  | _ :: _, [], _, _, _, hB, _, _, _ => by cases hB
theorem tysB_len {n : Nat} : ∀ {ts : List TypeId} {Ts : List Ty}, tysB P n ts Ts = true → ts.length = Ts.length
  | [], [], _ => rfl
  | t :: ts, T :: Ts, h => by
    simp only [tysB, Bool.and_eq_true] at h
    rw [List.length_cons, List.length_cons, tysB_len h.2]
  | [], _ :: _, h => by cases h
  | _ :: _, [], h => by cases h
theorem trodAll_len : ∀ {ts : List TypeId} {vs : List Value} {ds : List (DataW H)} {p : List MemPlace}, DataW.TrodAll enc P w base spare held ts vs ds p → ds.length = ts.length
  | [], vs, ds, p, h => by
    obtain ⟨rfl, rfl, rfl⟩ := trodAll_nil h
    rfl
  | t :: ts, vs, ds, p, h => by
    obtain ⟨v, vs', d, ds', p1, p2, rfl, rfl, rfl, h1, h2⟩ := trodAll_cons h
    rw [List.length_cons, List.length_cons, trodAll_len h2]
theorem law_contract {k n : Nat} {fn : Func} {spec : ChangeSpec} {Ts : List Ty} {bt : TypeId} (hvars : spec.vars = []) (hres : fn.resultTypes = #[bt]) (hbt : P.underlying bt = some .bool) (hl : laidOutB P = true) (hB : tysB P n fn.params.toList Ts = true)
    (hspec : ∀ (ds : List (DataW H)), ds.length = Ts.length → spec.fn H ds = { results := [.lit (.bool true)], args := ds })
    (hlaw : ∀ dss, TypedAll Ts dss 1048576 → ACalls P k (argsV Ts dss) [] fun v _ => v = .d (.b true))
    (W : World) (hglob : Globs W) (args : Array Value) (ds gs : List (DataW H)) (before : List MemPlace) (b0 : Nat)
    (hval : ∀ (j : Nat) t v, fn.params[j]? = some t → args[j]? = some v → Value.okWide P W .any b0 t v)
    (hW : DataW.Whole enc P fn.params.toList spec.vars false W args.toList ds gs before) (hk : Rows.uptoSmall H (ds ++ gs) = true) :
    Calls P k args W fun e W' => ∃ v, e = .returned v ∧ spec.post enc P fn false true false false W args v W' := by
  have hW' := hW
  obtain ⟨p, q, hA, hV, rfl, hfz, hnd⟩ := hW
  rw [hvars] at hV
  obtain ⟨rfl, rfl⟩ := trodVars_none hV
  rw [List.append_nil] at hk
  have hbulk : Rows.uptoBulkAll ds ≤ 1048576 := of_decide_eq_true hk
  obtain ⟨dss, h1, h2⟩ := args_open hB (fun j t v ht hv => hval j t v (by simpa using ht) (by simpa using hv)) hA
  have hmono : ∀ {Ts : List Ty} {dss : List (List D)} {m m' : Nat}, m ≤ m' → TypedAll Ts dss m → TypedAll Ts dss m' := fun {Ts dss m m'} hm h => by
    cases Ts <;> cases dss <;> first | exact h | (obtain ⟨a, b, h3, h4⟩ := h; exact ⟨a, b, by omega, h4⟩)
  have hcall := hlaw dss (hmono hbulk h1)
  have hargs : args.toList.toArray = args := by simp
  obtain ⟨hl0, hv0⟩ := rel0_spec h2
  unfold ACalls at hcall
  refine (hcall W σ0 args (wok0 hglob) (by simpa using hl0) (fun j v u h3 h4 => hv0 j v u h3 (by simpa using h4))).mono ?_
  rintro e W' ⟨val, v, H', σ', rfl, rfl, hval', _, hp⟩
  obtain rfl := hval'.inv_d.inv_b
  have hg := hp.still
  have hlt : ∀ q ∈ p ++ [], q.block < W.heap.size := fun q hq => hW'.lt q hq
  have hsame : ∀ q ∈ p ++ [], W.sameAt W' q := fun q hq => by
    exact Below.same ⟨hp.os, hp.tape, hp.output, hp.size, fun b hb => hp.blk b hb (no0 _)⟩ (hlt q hq)
  have hs := hspec ds (by rw [trodAll_len hA, tysB_len hB])
  refine ⟨_, rfl, ds, [], p ++ [], [], p, [], hW', ?_, ?_, ?_, World.keptBut_mono (fun q hq => hq.elim) hg.kept, fun h => by cases h⟩
  · rw [List.append_nil, hs, hres]
    exact ⟨[], [], ⟨1, by simp [DataW.trod, Value.cells, hbt]⟩, rfl, rfl⟩
  · rw [List.append_nil, hs]
    exact args_stay hl hB hA (fun q hq => hsame q (by simpa using hq)) (fun q hq => by
      have := hlt q (by simpa using hq)
      simpa using this)
  · rw [List.append_nil, hs, hvars]
    exact rfl
end
end Go.Proofs.YtmhabdopcbokoaaDoor.Ab
namespace Go.Proofs.YtmhabdopcbokoaaDoor.Ab
open Go Go.RowKit Go.ChangeShapes Go.WideShapes Go.ChangeAt
variable [Glo]
set_option maxHeartbeats 1000000
def dsParts (g : TypeId → DataW Unit → Option (List D)) : List TypeId → List (DataW Unit) → Option (List (List D))
  | [], [] => some []
  | t :: ts, d :: ds => match g t d, dsParts g ts ds with | some x, some r => some (x :: r) | _, _ => none
  | _, _ => none
def offsB (P : Program) : Nat → List Field → Bool
  | _, [] => true
  | off, f :: fs => f.offset == off && offsB P (off + P.cellsOf f.type) fs
def fitB (P : Program) : List TypeId → List (List D) → Bool
  | [], [] => true
  | t :: ts, d :: ds => d.length == P.cellsOf t && fitB P ts ds
  | _, _ => false
def dsT (P : Program) : Nat → TypeId → DataW Unit → Option (List D)
  | 0, _, _ => none
  | n + 1, t, d => match P.underlying t, d with
    | some .bool, .lit (.bool b) => some [.b b]
    | some (.int _), .lit (.int k m) => some [.i k m]
    | some .string, .lit (.string l) => some [.s l]
    | some (.struct fs), .agg ds => (match dsParts (dsT P n) (fs.toList.map (·.type)) ds with
      | some dss => if offsB P 0 fs.toList = true ∧ fitB P (fs.toList.map (·.type)) dss = true ∧ dss.flatten.length = P.cellsOf t then some dss.flatten else none
      | none => none)
    | some (.array m e), .agg ds => (match dsParts (dsT P n) (List.replicate m e) ds with
      | some dss => if fitB P (List.replicate m e) dss = true ∧ dss.flatten.length = P.cellsOf t then some dss.flatten else none
      | none => none)
    | some (.slice e), .slice ds [] => (match dsParts (dsT P n) (List.replicate ds.length e) ds with
      | some dss => if fitB P (List.replicate ds.length e) dss = true ∧ 0 < P.cellsOf e ∧ 0 < ds.length then some [.sl (P.cellsOf e) dss] else none
      | none => none)
    | _, _ => none
theorem dsParts_get {g : TypeId → DataW Unit → Option (List D)} : ∀ {ts : List TypeId} {ds : List (DataW Unit)} {dss : List (List D)}, dsParts g ts ds = some dss →
    ds.length = ts.length ∧ dss.length = ts.length ∧ ∀ (k : Nat) (t : TypeId) (d : DataW Unit) (x : List D), ts[k]? = some t → ds[k]? = some d → dss[k]? = some x → g t d = some x
  | [], [], dss, h => by simp [dsParts] at h; subst h; simp
  | t :: ts, d :: ds, dss, h => by
    simp only [dsParts] at h
    split at h
    · rename_i x r hx hr
      cases h
      obtain ⟨h1, h2, h3⟩ := dsParts_get hr
      refine ⟨by simp [h1], by simp [h2], fun k t' d' x' ht hd hx' => ?_⟩
      cases k with
      | zero => simp at ht hd hx'; subst ht hd hx'; exact hx
      | succ k => exact h3 k t' d' x' (by simpa using ht) (by simpa using hd) (by simpa using hx')
    · cases h
  | [], _ :: _, _, h => by cases h
  | _ :: _, [], _, h => by cases h
theorem fitB_get {P : Program} : ∀ {ts : List TypeId} {dss : List (List D)}, fitB P ts dss = true → ∀ (k : Nat) (t : TypeId) (x : List D), ts[k]? = some t → dss[k]? = some x → x.length = P.cellsOf t
  | [], [], _, k, t, x, ht, _ => by simp at ht
  | t :: ts, d :: ds, h, k, t', x, ht, hx => by
    simp only [fitB, Bool.and_eq_true, beq_iff_eq] at h
    cases k with
    | zero => simp at ht hx; subst ht hx; exact h.1
    | succ k => exact fitB_get h.2 k t' x (by simpa using ht) (by simpa using hx)
  | [], _ :: _, h, _, _, _, _, _ => by cases h
  | _ :: _, [], h, _, _, _, _, _ => by cases h
section
variable {P : Program} {w : World} {o : Nat → Prop}
theorem cells_join (cs : List Value) : ∀ (dss : List (List D)) (offs : Nat → Nat) (off : Nat), (dss ≠ [] → offs 0 = off) → (∀ (k : Nat) (x y : List D), dss[k]? = some x → dss[k + 1]? = some y → offs (k + 1) = offs k + x.length) → (∀ (k : Nat) (x : List D), dss[k]? = some x → Cells w o x ((cs.drop (offs k)).take x.length)) →
    Cells w o dss.flatten ((cs.drop off).take dss.flatten.length)
  | [], offs, off, _, _, _ => ⟨by simp, by simp⟩
  | d :: dss, offs, off, h0, hs, hc => by
    have h0 := h0 (by simp)
    have c0 := hc 0 d rfl
    rw [h0] at c0
    have ih := cells_join cs dss (fun k => offs (k + 1)) (off + d.length) (fun hne => by
      cases dss with
      | nil => exact absurd rfl hne
      | cons y r => have := hs 0 d y rfl rfl; simp only [Nat.zero_add] at this ⊢; omega) (fun k x y hx hy => hs (k + 1) x y (by simpa using hx) (by simpa using hy)) (fun k x hx => hc (k + 1) x (by simpa using hx))
    have l0 := c0.1
    rw [List.length_take, List.length_drop] at l0
    have l1 := ih.1
    rw [List.length_take, List.length_drop] at l1
    refine ⟨?_, fun j x c hx hcj => ?_⟩
    · rw [List.flatten_cons, List.length_append, List.length_take, List.length_drop]
      omega
    · rw [List.flatten_cons, List.getElem?_append] at hx
      rw [List.flatten_cons, List.length_append, List.getElem?_take, List.getElem?_drop] at hcj
      split at hcj
      case isFalse => cases hcj
      rename_i hlt
      split at hx
      · rename_i hj
        refine c0.2 j x c hx ?_
        rw [List.getElem?_take, if_pos hj, List.getElem?_drop]
        exact hcj
      · rename_i hj
        refine ih.2 (j - d.length) x c hx ?_
        rw [List.getElem?_take, if_pos (by omega), List.getElem?_drop, ← hcj]
        congr 1
        omega
theorem cells_one {d : D} {c : Value} (h : DRel w o d c) : Cells w o [d] [c] := ⟨rfl, fun j x u hx hu => by
  cases j with
  | zero => simp at hx hu; subst hx hu; exact h
  | succ j => simp at hx⟩
theorem trod_data {enc : TypeId × Value → Unit} {base : Nat} {spare : Nat → Bool} {held : Bool} (ho : ∀ b, ¬ o b) : ∀ (n : Nat) (t : TypeId) (d : DataW Unit) (ds : List D), dsT P n t d = some ds → ∀ (fuel : Nat) (cs : List Value) (ps : List MemPlace), DataW.trod enc P w base spare held fuel t cs = some (d, ps) → Cells w o ds cs
  | 0, _, _, _, h, _, _, _, _ => by cases h
  | n + 1, t, d, ds, h, fuel, cs, ps, hr => by
    have ih := trod_data (enc := enc) (base := base) (spare := spare) (held := held) ho n
    unfold dsT at h
    split at h
    · rename_i hu
      cases h
      obtain ⟨b, rfl, hb⟩ := DataW.trod_bool hu hr
      cases hb
      exact cells_one (.b _)
    · rename_i k' k m hu
      cases h
      obtain ⟨m', rfl, hm, _⟩ := DataW.trod_int hu hr
      cases hm
      exact cells_one (.i _ _)
    · rename_i hu
      cases h
      obtain ⟨s, rfl, hs, _⟩ := DataW.trod_string hu hr
      cases hs
      refine cells_one ?_
      simpa using DRel.s (w := w) (o := o) s.data.toList
    · rename_i fs parts hu
      split at h
      case h_2 => cases h
      rename_i dss hp
      split at h
      case isFalse => cases h
      rename_i hc
      cases h
      obtain ⟨xs, n', rfl, hx, hcl, hxl, hfs⟩ := DataW.trod_struct hu hr
      obtain ⟨hx1, _⟩ := Prod.mk.inj hx
      cases hx1
      obtain ⟨g1, g2, g3⟩ := dsParts_get hp
      simp only [List.length_map] at g1 g2
      have hoff : ∀ (l : List Field) (a k : Nat), offsB P a l = true → (∀ f, l[0]? = some f → f.offset = a) ∧ (∀ f f', l[k]? = some f → l[k + 1]? = some f' → f'.offset = f.offset + P.cellsOf f.type) := by
        intro l
        induction l with
        | nil => intro a k _; simp
        | cons f l ih' =>
          intro a k hb
          simp only [offsB, Bool.and_eq_true, beq_iff_eq] at hb
          refine ⟨fun f' hf' => by simp at hf'; subst hf'; exact hb.1, fun f1 f2 h1 h2 => ?_⟩
          cases k with
          | zero =>
            simp at h1 h2
            subst h1
            have := (ih' _ 0 hb.2).1 f2 h2
            omega
          | succ k => exact (ih' _ k hb.2).2 f1 f2 (by simpa using h1) (by simpa using h2)
      have hfk : ∀ (k : Nat) (x : List D), dss[k]? = some x → ∃ f, fs.toList[k]? = some f ∧ x.length = P.cellsOf f.type ∧ Cells w o x ((cs.drop f.offset).take x.length) := fun k x hx => by
        have hk : k < fs.toList.length := by have := (List.getElem?_eq_some_iff.1 hx).1; simp only [Array.length_toList]; omega
        have hf : fs.toList[k]? = some fs.toList[k] := List.getElem?_eq_getElem hk
        have ht : (fs.toList.map (·.type))[k]? = some fs.toList[k].type := by rw [List.getElem?_map, hf]; rfl
        have hxl' : k < xs.length := by rw [hxl]; simpa using hk
        have hp1 : (xs.map (·.1))[k]? = some xs[k].1 := by rw [List.getElem?_map, List.getElem?_eq_getElem hxl']; rfl
        have hl := fitB_get hc.2.1 k _ x ht hx
        have h0 := hfs k _ (by rw [← Array.getElem?_toList]; exact hf)
        rw [List.getElem?_eq_getElem hxl'] at h0
        have := ih _ _ x (g3 k _ _ x ht hp1 hx) n' _ xs[k].2 h0
        rw [← hl] at this
        exact ⟨_, hf, hl, this⟩
      have hall := cells_join (w := w) (o := o) cs dss (fun k => ((fs.toList[k]?).map (·.offset)).getD 0) 0 (fun hne => by
        cases dss with
        | nil => exact absurd rfl hne
        | cons y r =>
          obtain ⟨f, hf, _⟩ := hfk 0 y rfl
          have := (hoff fs.toList 0 0 hc.1).1 f hf
          simp only [hf, Option.map_some, Option.getD_some, this]) (fun k x y hx hy => by
        obtain ⟨f, hf, hl, _⟩ := hfk k x hx
        obtain ⟨f', hf', _, _⟩ := hfk (k + 1) y hy
        have := (hoff fs.toList 0 k hc.1).2 f f' hf hf'
        simp only [hf, hf', Option.map_some, Option.getD_some, this, hl]) (fun k x hx => by
        obtain ⟨f, hf, _, hcx⟩ := hfk k x hx
        simp only [hf, Option.map_some, Option.getD_some]
        exact hcx)
      rw [List.drop_zero, List.take_of_length_le (by omega)] at hall
      exact hall
    · rename_i m e parts hu
      split at h
      case h_2 => cases h
      rename_i dss hp
      split at h
      case isFalse => cases h
      rename_i hc
      cases h
      obtain ⟨xs, n', rfl, hx, hcl, hxl, hfs⟩ := DataW.trod_array hu hr
      obtain ⟨hx1, _⟩ := Prod.mk.inj hx
      cases hx1
      obtain ⟨g1, g2, g3⟩ := dsParts_get hp
      simp only [List.length_replicate] at g1 g2
      have hfk : ∀ (k : Nat) (x : List D), dss[k]? = some x → x.length = P.cellsOf e ∧ Cells w o x ((cs.drop (k * P.cellsOf e)).take x.length) := fun k x hx => by
        have hk : k < m := by have := (List.getElem?_eq_some_iff.1 hx).1; omega
        have ht : (List.replicate m e)[k]? = some e := by rw [List.getElem?_replicate, if_pos hk]
        have hxl' : k < xs.length := by omega
        have hp1 : (xs.map (·.1))[k]? = some xs[k].1 := by rw [List.getElem?_map, List.getElem?_eq_getElem hxl']; rfl
        have hl := fitB_get hc.1 k _ x ht hx
        have h0 := hfs k hk
        rw [List.getElem?_eq_getElem hxl'] at h0
        have := ih _ _ x (g3 k _ _ x ht hp1 hx) n' _ xs[k].2 h0
        rw [← hl] at this ⊢
        exact ⟨rfl, this⟩
      have hall := cells_join (w := w) (o := o) cs dss (fun k => k * P.cellsOf e) 0 (fun _ => by simp) (fun k x y hx _ => by
        have := (hfk k x hx).1
        rw [Nat.add_mul, Nat.one_mul, this]) (fun k x hx => (hfk k x hx).2)
      rw [List.drop_zero, List.take_of_length_le (by omega)] at hall
      exact hall
    · rename_i e parts hu
      split at h
      case h_2 => cases h
      rename_i dss hp
      split at h
      case isFalse => cases h
      rename_i hc
      cases h
      obtain ⟨g1, g2, g3⟩ := dsParts_get hp
      simp only [List.length_replicate] at g1 g2
      rcases DataW.trod_slice hu hr with ⟨_, hx⟩ | ⟨a, len, cap, elems, rest, n', _, hcs, hx, hb, hl, hm, hlen, hel, _, _⟩
      · simp at hx
      · obtain ⟨hx1, _⟩ := Prod.mk.inj hx
        injection hx1 with e1 e2
        subst hcs
        have hpl : parts.length = len := by rw [e1, List.length_map, hlen]
        have hrow : ∀ (i : Nat) (r : List D), dss[i]? = some r → r.length = P.cellsOf e ∧ ∃ cs', w.cells? base (a.add (i * P.cellsOf e)) (P.cellsOf e) = some cs' ∧ Cells w o r cs' := fun i r hr' => by
          have hi : i < len := by have := (List.getElem?_eq_some_iff.1 hr').1; omega
          have ht : (List.replicate parts.length e)[i]? = some e := by rw [List.getElem?_replicate, if_pos (by omega)]
          have hei : i < elems.length := by omega
          have h0 := hel i hi
          rw [List.getElem?_eq_getElem hei, Option.bind_eq_some_iff] at h0
          obtain ⟨cs', h1, h2⟩ := h0
          have hpi : parts[i]? = some elems[i].1 := by rw [e1, List.getElem?_map, List.getElem?_eq_getElem hei]; rfl
          exact ⟨fitB_get hc.1 i _ r ht hr', cs', h1, ih _ _ r (g3 i _ _ r ht hpi hr') n' cs' elems[i].2 h2⟩
        have hcell : ∀ (i : Nat) (r : List D), dss[i]? = some r → ∀ (j : Nat) (x : D), r[j]? = some x → ∃ v, w.cell? ((a.add (i * P.cellsOf e)).add j) = some v ∧ DRel w o x v := fun i r hr' j x hx => by
          obtain ⟨hrl, cs', h1, h3⟩ := hrow i r hr'
          obtain ⟨_, h4, h5⟩ := World.cells?_some h1
          have hj : j < cs'.length := by rw [← h3.1]; exact (List.getElem?_eq_some_iff.1 hx).1
          have hv : cs'[j]? = some cs'[j] := List.getElem?_eq_getElem hj
          exact ⟨_, (h5 j (by omega)).trans hv, h3.2 j x _ hx hv⟩
        have hd0 : 0 < dss.length := by omega
        have hg0 : dss[0]? = some dss[0] := List.getElem?_eq_getElem hd0
        have hr0 : 0 < dss[0].length := by rw [(hrow 0 _ hg0).1]; exact hc.2.1
        obtain ⟨v0, hv0, _⟩ := hcell 0 _ hg0 0 dss[0][0] (List.getElem?_eq_getElem hr0)
        have ha : a.spot = none := by
          simp only [Nat.zero_mul, Addr.add, if_true] at hv0
          unfold World.cell? at hv0
          split at hv0
          · split at hv0
            · cases hv0
            · rename_i hsp; simpa using hsp
          · cases hv0
        obtain ⟨ab, aoff, asp⟩ := a
        simp only at ha
        subst ha
        have hadd : ∀ i j, ((⟨ab, aoff, none⟩ : Addr).add (i * P.cellsOf e)).add j = ⟨ab, aoff + i * P.cellsOf e + j, none⟩ := fun i j => by
          unfold Addr.add
          split <;> split <;> simp_all
        have hl' : dss.length = len := by omega
        refine cells_one ?_
        have hres : DRel w o (.sl (P.cellsOf e) dss) (.slice (some ⟨ab, aoff, none⟩) dss.length cap) :=
          .sl (P.cellsOf e) dss ab aoff cap (fun i j => (w.cell? ⟨ab, aoff + i * P.cellsOf e + j, none⟩).getD undef) (by omega)
            (by
              have := hv0
              rw [hadd] at this
              exact cell_lt this) (ho ab)
            (fun i r hr' => (hrow i r hr').1)
            (fun i j r x hr' hx => by
              obtain ⟨v, h1, _⟩ := hcell i r hr' j x hx
              rw [hadd] at h1
              rw [h1]; rfl)
            (fun i j r x hr' hx => by
              obtain ⟨v, h1, h2⟩ := hcell i r hr' j x hx
              rw [hadd] at h1
              rw [h1]; exact h2)
        rw [hl'] at hres
        exact hres
    · cases h
theorem var_row {n : Nat} {name : String} {d : DataW Unit} {g : Nat} {t : TypeId} {ds : List D} (hg : P.globalNamed name = some g) (ht : (P.globals[g]?).map (·.type) = some t) (hd : dsT P n t d = some ds) (hpos : 0 < ds.length)
    (hr : Lib.VarReads P w name d) (ho : ∀ b, ¬ o b) : GRow w o g ds := by
  obtain ⟨g', t', cs, fuel, p, hg', ht', hv, htr⟩ := hr
  obtain rfl := Option.some.inj (hg.symm.trans hg')
  obtain rfl := Option.some.inj (ht.symm.trans ht')
  have hc := trod_data (w := w) ho n _ _ _ hd fuel cs.toList p htr
  have hcell : ∀ (j : Nat) (x : D), ds[j]? = some x → w.cell? ⟨g, j, none⟩ = some (cs.toList[j]?.getD undef) := fun j x hx => by
    have hj : j < cs.toList.length := by rw [← hc.1]; exact (List.getElem?_eq_some_iff.1 hx).1
    rw [World.var?_cell hg hv j, List.getElem?_eq_getElem hj]
    simp
  refine ⟨?_, ho g, fun j => cs.toList[j]?.getD undef, hcell, fun j x hx => ?_⟩
  · have := hcell 0 _ (List.getElem?_eq_getElem hpos)
    exact cell_lt this
  · have hj : j < cs.toList.length := by rw [← hc.1]; exact (List.getElem?_eq_some_iff.1 hx).1
    refine hc.2 j x _ hx ?_
    show cs.toList[j]? = some (cs.toList[j]?.getD undef)
    rw [List.getElem?_eq_getElem hj, Option.getD_some]
end
def valD : D → Value
  | .i k n => .int k n
  | .b t => .bool t
  | .s l => .string ⟨l.toArray⟩
  | .c v => v
  | .sl _ _ => undef
  | .m _ _ _ => undef
def putRow (h : Array Obj) (g : Nat) (row : List D) : Array Obj := h.modify g fun
  | .cells _ t frozen => .cells (row.map valD).toArray t frozen
  | o => o
def valS (b : Nat) (x : D × Nat) : Value := match x.1 with
  | .sl _ rows => .slice (some ⟨b + x.2, 0, none⟩) rows.length rows.length
  | d => valD d
def blkS (e : TypeId) : D → Obj
  | .sl _ rows => .cells (rows.flatten.map valD).toArray e (0, 0)
  | _ => .cells #[] e (0, 0)
def putRowS (h : Array Obj) (g : Nat) (e : TypeId) (row : List D) : Array Obj := (h.modify g fun
  | .cells _ t frozen => .cells (row.zipIdx.map (valS h.size)).toArray t frozen
  | o => o) ++ (row.map (blkS e)).toArray
end Go.Proofs.YtmhabdopcbokoaaDoor.Ab
namespace Go.Proofs.YtmhabdopcbokoaaDoor.Ab
open Go Go.RowKit Go.ChangeShapes Go.WideShapes Go.ChangeAt
variable [Glo]
set_option maxHeartbeats 1000000
theorem typed_s2 {ds : List D} {m : Nat} (h : Typed .s ds m) : ∃ l, ds = [.s l] ∧ l.length ≤ 9223372036854775807 := by
  unfold Typed at h
  split at h <;> simp_all [maxLen]
section
variable {H : Type} {enc : TypeId × Value → H} {P : Program}
theorem law_contractS {k n : Nat} {fn : Func} {spec : ChangeSpec} {Ts : List Ty} {bt : TypeId} (hvars : spec.vars = []) (hres : fn.resultTypes = #[bt]) (hbt : P.underlying bt = some .bool) (hl : laidOutB P = true) (hB : tysB P n fn.params.toList Ts = true)
    (hspec : ∀ (ds : List (DataW H)), ds.length = Ts.length → spec.fn H ds = { results := [.lit (.bool true)], args := ds })
    (hlaw : ∀ m dss, TypedAll Ts dss m → ACalls P k (argsV Ts dss) [] fun v _ => v = .d (.b true))
    (W : World) (hglob : Globs W) (args : Array Value) (ds gs : List (DataW H)) (before : List MemPlace) (b0 : Nat)
    (hval : ∀ (j : Nat) t v, fn.params[j]? = some t → args[j]? = some v → Value.okWide P W .any b0 t v)
    (hW : DataW.Whole enc P fn.params.toList spec.vars false W args.toList ds gs before) :
    Calls P k args W fun e W' => ∃ v, e = .returned v ∧ spec.post enc P fn false true false false W args v W' := by
  have hW' := hW
  obtain ⟨p, q, hA, hV, rfl, hfz, hnd⟩ := hW
  rw [hvars] at hV
  obtain ⟨rfl, rfl⟩ := trodVars_none hV
  obtain ⟨dss, h1, h2⟩ := args_open hB (fun j t v ht hv => hval j t v (by simpa using ht) (by simpa using hv)) hA
  have hcall := hlaw _ dss h1
  have hargs : args.toList.toArray = args := by simp
  obtain ⟨hl0, hv0⟩ := rel0_spec h2
  unfold ACalls at hcall
  refine (hcall W σ0 args (wok0 hglob) (by simpa using hl0) (fun j v u h3 h4 => hv0 j v u h3 (by simpa using h4))).mono ?_
  rintro e W' ⟨val, v, H', σ', rfl, rfl, hval', _, hp⟩
  obtain rfl := hval'.inv_d.inv_b
  have hg := hp.still
  have hlt : ∀ q ∈ p ++ [], q.block < W.heap.size := fun q hq => hW'.lt q hq
  have hsame : ∀ q ∈ p ++ [], W.sameAt W' q := fun q hq => by
    exact Below.same ⟨hp.os, hp.tape, hp.output, hp.size, fun b hb => hp.blk b hb (no0 _)⟩ (hlt q hq)
  have hs := hspec ds (by rw [trodAll_len hA, tysB_len hB])
  refine ⟨_, rfl, ds, [], p ++ [], [], p, [], hW', ?_, ?_, ?_, World.keptBut_mono (fun q hq => hq.elim) hg.kept, fun h => by cases h⟩
  · rw [List.append_nil, hs, hres]
    exact ⟨[], [], ⟨1, by simp [DataW.trod, Value.cells, hbt]⟩, rfl, rfl⟩
  · rw [List.append_nil, hs]
    exact args_stay hl hB hA (fun q hq => hsame q (by simpa using hq)) (fun q hq => by
      have := hlt q (by simpa using hq)
      simpa using this)
  · rw [List.append_nil, hs, hvars]
    exact rfl
theorem sl_len {w : World} {o : Nat → Prop} {z : Nat} {rows : List (List D)} {v : Value} (h : DRel w o (.sl z rows) v) : ∃ a cap, v = .slice a rows.length cap := by
  cases h with
  | nil sz a cap => exact ⟨a, cap, rfl⟩
  | sl sz rows b off cap f h1 h2 h3 h4 h5 h6 => exact ⟨_, cap, rfl⟩
theorem trod_len {w : World} {base : Nat} {spare : Nat → Bool} {held : Bool} {t e : TypeId} (hu : P.underlying t = some (.slice e)) {v : Value} {d : DataW H} {p : List MemPlace} (h : DataW.Trod enc P w base spare held t v d p) {o : Nat → Prop} {z : Nat} {rows : List (List D)} (hv : DRel w o (.sl z rows) v) (hw : ∀ n, n ∈ d.weights P t → n ≤ reachBytes) : rows.length * P.bytesOf e ≤ reachBytes := by
  obtain ⟨a, cap, rfl⟩ := sl_len hv
  obtain ⟨fuel, hf⟩ := h
  rcases DataW.trod_slice hu hf with ⟨hx, _⟩ | ⟨a', len, cap', elems, rest, n', _, hcs, hx, hb, hl, hm, hlen, _⟩
  · have hx2 : Value.slice a rows.length cap = .slice none 0 0 := (List.cons.inj hx).1
    have : rows.length = 0 := by injection hx2
    rw [this, Nat.zero_mul]
    exact Nat.zero_le _
  · obtain ⟨rfl, _⟩ := Prod.mk.inj hx
    have hx2 : Value.slice a rows.length cap = .slice (some a') len cap' := (List.cons.inj hcs).1
    have hq : rows.length = len := by injection hx2
    have h1 := hw (((elems.map (·.1)).length + (rest.map (·.1)).length) * P.bytesOf e) (by simp [DataW.weights, hu])
    refine Nat.le_trans (Nat.mul_le_mul_right _ ?_) h1
    rw [List.length_map, hlen, hq]
    exact Nat.le_add_right _ _
theorem trodAll_at {w : World} {base : Nat} {spare : Nat → Bool} {held : Bool} : ∀ {ts : List TypeId} {vs : List Value} {ds : List (DataW H)} {p : List MemPlace}, DataW.TrodAll enc P w base spare held ts vs ds p → ∀ (j : Nat) (t : TypeId) (v : Value), ts[j]? = some t → vs[j]? = some v → ∃ d q, ds[j]? = some d ∧ DataW.Trod enc P w base spare held t v d q
  | [], vs, ds, p, h, j, t, v, ht, hv => by simp at ht
  | t0 :: ts, vs, ds, p, h, j, t, v, ht, hv => by
    obtain ⟨v0, vs', d0, ds', p1, p2, rfl, rfl, rfl, h1, h2⟩ := trodAll_cons h
    cases j with
    | zero =>
      simp at ht hv
      subst ht hv
      exact ⟨d0, p1, rfl, h1⟩
    | succ j =>
      obtain ⟨d, q, h3, h4⟩ := trodAll_at h2 j t v (by simpa using ht) (by simpa using hv)
      exact ⟨d, q, by simpa using h3, h4⟩
def SizedV (P : Program) (ts : List TypeId) (vs : List V) : Prop := ∀ (j : Nat) (t e : TypeId) (z : Nat) (rows : List (List D)), ts[j]? = some t → P.underlying t = some (.slice e) → vs[j]? = some (.d (.sl z rows)) → rows.length * P.bytesOf e ≤ 140737488351232
theorem law_contractS2 {k n : Nat} {fn : Func} {spec : ChangeSpec} {Ts : List Ty} {bt : TypeId} {X : List TypeId} (hvars : spec.vars = []) (hres : fn.resultTypes = #[bt]) (hbt : P.underlying bt = some .bool) (hl : laidOutB P = true) (hB : tysB P n fn.params.toList Ts = true)
    (hspec : ∀ (ds : List (DataW H)), ds.length = Ts.length → spec.fn H ds = { results := [.lit (.bool true)], args := ds })
    (hlaw : ∀ m dss, TypedAll Ts dss m → SizedV P fn.params.toList (argsV Ts dss) → ACalls P k (argsV Ts dss) [] fun v _ => v = .d (.b true))
    (W : World) (hglob : Globs W) (args : Array Value) (ds gs : List (DataW H)) (before : List MemPlace) (b0 : Nat)
    (hval : ∀ (j : Nat) t v, fn.params[j]? = some t → args[j]? = some v → Value.okWide P W .any b0 t v)
    (hW : DataW.Whole enc P fn.params.toList spec.vars false W args.toList ds gs before)
    (hz : (DataW.weightsEach P (fn.params.toList ++ X) (ds ++ gs)).all (· ≤ reachBytes) = true) :
    Calls P k args W fun e W' => ∃ v, e = .returned v ∧ spec.post enc P fn false true false false W args v W' := by
  have hW' := hW
  obtain ⟨p, q, hA, hV, rfl, hfz, hnd⟩ := hW
  rw [hvars] at hV
  obtain ⟨rfl, rfl⟩ := trodVars_none hV
  obtain ⟨dss, h1, h2⟩ := args_open hB (fun j t v ht hv => hval j t v (by simpa using ht) (by simpa using hv)) hA
  have hargs : args.toList.toArray = args := by simp
  obtain ⟨hl0, hv0⟩ := rel0_spec h2
  have hsz : SizedV P fn.params.toList (argsV Ts dss) := fun j t e z rows ht hu hr => by
    have hj : j < (argsV Ts dss).length := (List.getElem?_eq_some_iff.1 hr).1
    have hja : j < args.toList.length := by
      have : (argsV Ts dss).length = args.size := by simpa using hl0
      simp only [Array.length_toList]
      omega
    have hva : args.toList[j]? = some args.toList[j] := List.getElem?_eq_getElem hja
    obtain ⟨d, q, hd, htr⟩ := trodAll_at hA j t _ ht hva
    have hvr := hv0 j _ _ hr hva
    refine trod_len (enc := enc) hu htr hvr.inv_d fun n hn => ?_
    have hjt : j < fn.params.toList.length := (List.getElem?_eq_some_iff.1 ht).1
    have hjd : j < ds.length := (List.getElem?_eq_some_iff.1 hd).1
    have := List.all_eq_true.1 hz n (DataW.weights_mem_each (by rw [List.getElem?_append_left hjt]; exact ht) (by rw [List.getElem?_append_left hjd]; exact hd) n hn)
    simpa using this
  have hcall := hlaw _ dss h1 hsz
  unfold ACalls at hcall
  refine (hcall W σ0 args (wok0 hglob) (by simpa using hl0) (fun j v u h3 h4 => hv0 j v u h3 (by simpa using h4))).mono ?_
  rintro e W' ⟨val, v, H', σ', rfl, rfl, hval', _, hp⟩
  obtain rfl := hval'.inv_d.inv_b
  have hg := hp.still
  have hlt : ∀ q ∈ p ++ [], q.block < W.heap.size := fun q hq => hW'.lt q hq
  have hsame : ∀ q ∈ p ++ [], W.sameAt W' q := fun q hq => by
    exact Below.same ⟨hp.os, hp.tape, hp.output, hp.size, fun b hb => hp.blk b hb (no0 _)⟩ (hlt q hq)
  have hs := hspec ds (by rw [trodAll_len hA, tysB_len hB])
  refine ⟨_, rfl, ds, [], p ++ [], [], p, [], hW', ?_, ?_, ?_, World.keptBut_mono (fun q hq => hq.elim) hg.kept, fun h => by cases h⟩
  · rw [List.append_nil, hs, hres]
    exact ⟨[], [], ⟨1, by simp [DataW.trod, Value.cells, hbt]⟩, rfl, rfl⟩
  · rw [List.append_nil, hs]
    exact args_stay hl hB hA (fun q hq => hsame q (by simpa using hq)) (fun q hq => by
      have := hlt q (by simpa using hq)
      simpa using this)
  · rw [List.append_nil, hs, hvars]
    exact rfl
end
end Go.Proofs.YtmhabdopcbokoaaDoor.Ab
