/- A law's row, of a function whose arguments are plain data: what is left is that it returns true. No condition. -/
import Derived.Test.YtppalmoicjogaaaDoorC16
import Derived.Lib.LaidU8T
import Derived.WideKeyMaps
set_option linter.all false
set_option linter.unusedSimpArgs false
set_option linter.unusedVariables false
namespace Go.Proofs.YtppalmoicjogaaaDoor.Ab
open Go Go.RowKit Go.ChangeShapes Go.WideShapes Go.ChangeAt
variable [Glo]
def argV : Ty → List D → V
  | .nil, ds => .ag (ds.map .d)
  | .cons _ _, ds => .ag (ds.map .d)
  | _, [x] => .d x
  | _, _ => .top
def argsV : List Ty → List (List D) → List V
  | T :: Ts, ds :: dss => argV T ds :: argsV Ts dss
  | _, _ => []
def TypedAll : List Ty → List (List D) → Nat → Prop
  | [], [], _ => True
  | T :: Ts, ds :: dss, m => ∃ m1 m2, m1 + m2 ≤ m ∧ Typed T ds m1 ∧ TypedAll Ts dss m2
  | _, _, _ => False
def tysB (P : Program) (n : Nat) : List TypeId → List Ty → Bool
  | [], [] => true
  | t :: ts, T :: Ts => decide (tyB P n t = some T) && P.readableRec t && decide (t < P.types.size) && tysB P n ts Ts
  | _, _ => false
section
variable {H : Type} {enc : TypeId × Value → H} {P : Program} {w : World} {base : Nat} {spare : Nat → Bool} {held : Bool}
theorem no0 (b : Nat) : ¬ Own [] σ0 b := fun ⟨id, ver, e, sz, rows, cap, h, _⟩ => by simp at h
theorem arg_open {n : Nat} {t : TypeId} {T : Ty} {v : Value} {d : DataW H} {p : List MemPlace} {r : Reach} {b0 : Nat} (hT : tyB P n t = some T) (hv : Value.okWide P w r b0 t v) (h : DataW.Trod enc P w base spare held t v d p) :
    ∃ ds, Typed T ds (Rows.uptoBulk d) ∧ VRel w (Own [] σ0) [] σ0 (argV T ds) v := by
  obtain ⟨fuel, hf⟩ := h
  obtain ⟨ds, h1, h2⟩ := trod_typed (o := Own [] σ0) no0 n t T hT fuel _ _ hf
  refine ⟨ds, h1, ?_⟩
  have one : ∀ {c : Value} {T : Ty}, T.size = 1 → ds.length = 1 → (∀ x, argV T [x] = .d x) → v = c → c.cells = #[c] → VRel w (Own [] σ0) [] σ0 (argV T ds) v := by
    rintro c T _ hl ha rfl hc
    obtain ⟨x, rfl⟩ := List.length_eq_one_iff.1 hl
    rw [ha]
    exact .d _ _ (h2.2 0 x v rfl (by rw [hc]; rfl))
  have hlen := h1.len
  cases n with
  | zero => cases hT
  | succ n =>
    unfold tyB at hT
    split at hT
    · rename_i hu
      cases hT
      obtain ⟨b, rfl⟩ := okWide_bool hu hv
      exact one (T := .b) rfl hlen (fun _ => rfl) rfl rfl
    · rename_i k hu
      cases hT
      obtain ⟨m, rfl⟩ := okWide_int hu hv
      exact one (T := .i k) rfl hlen (fun _ => rfl) rfl rfl
    · rename_i hu
      cases hT
      obtain ⟨s, rfl⟩ := okWide_string hu hv
      exact one (T := .s) rfl hlen (fun _ => rfl) rfl rfl
    · rename_i e hu
      split at hT
      case h_2 => cases hT
      split at hT
      case isFalse => cases hT
      cases hT
      obtain ⟨a, len, cap, rfl⟩ := okWide_slice hu hv
      rename_i E _ _
      exact one (T := .sl E) rfl hlen (fun _ => rfl) rfl rfl
    · rename_i fs hu
      split at hT
      case h_2 => cases hT
      rename_i T' hT'
      split at hT
      case isFalse => cases hT
      cases hT
      obtain ⟨cs, rfl, _⟩ := okWide_struct hu hv
      have hag : argV T ds = .ag (ds.map .d) := by
        cases hfs : fs.toList with
        | nil => rw [hfs] at hT'; simp only [tyFs, Option.some.injEq] at hT'; subst hT'; rfl
        | cons f l =>
          rw [hfs] at hT'
          simp only [tyFs] at hT'
          split at hT'
          case h_2 => cases hT'
          split at hT'
          case isFalse => cases hT'
          split at hT'
          case h_2 => cases hT'
          cases hT'
          rfl
      rw [hag]
      refine .ag _ _ ?_ fun j c u hc hu' => ?_
      · have := h2.1
        simpa [Value.cells] using this
      · rw [List.getElem?_map] at hc
        cases hx : ds[j]? with
        | none => rw [hx] at hc; cases hc
        | some x =>
          rw [hx] at hc
          obtain rfl : V.d x = c := by simpa using hc
          exact .d _ _ (h2.2 j x u hx (by simpa [Value.cells] using hu'))
    · cases hT
theorem args_open {n : Nat} {r : Reach} {b0 : Nat} : ∀ {ts : List TypeId} {Ts : List Ty} {vs : List Value} {ds : List (DataW H)} {p : List MemPlace}, tysB P n ts Ts = true → (∀ (j : Nat) (t : TypeId) (v : Value), ts[j]? = some t → vs[j]? = some v → Value.okWide P w r b0 t v) →
    DataW.TrodAll enc P w base spare held ts vs ds p → ∃ dss, TypedAll Ts dss (Rows.uptoBulkAll ds) ∧ rel0 w (argsV Ts dss) vs
  | [], [], vs, ds, p, _, _, h => by
    obtain ⟨rfl, rfl, rfl⟩ := trodAll_nil h
    exact ⟨[], trivial, trivial⟩
  | t :: ts, T :: Ts, vs, ds, p, hB, hv, h => by
    obtain ⟨v, vs', d, ds', p1, p2, rfl, rfl, rfl, h1, h2⟩ := trodAll_cons h
    simp only [tysB, Bool.and_eq_true, decide_eq_true_eq] at hB
    obtain ⟨ds1, h3, h4⟩ := arg_open hB.1.1.1 (hv 0 t v rfl rfl) h1
    obtain ⟨dss, h5, h6⟩ := args_open hB.2 (fun j t v ht hv' => hv (j + 1) t v ht hv') h2
    exact ⟨ds1 :: dss, ⟨_, _, Nat.le_refl _, h3, h5⟩, h4, h6⟩
  | [], _ :: _, _, _, _, hB, _, _ => by cases hB
  | _ :: _, [], _, _, _, hB, _, _ => by cases hB
theorem args_stay {n : Nat} (hl : laidOutB P = true) {W W' : World} {sp : Nat → Bool} : ∀ {ts : List TypeId} {Ts : List Ty} {vs : List Value} {ds : List (DataW H)} {p : List MemPlace}, tysB P n ts Ts = true →
    DataW.TrodAll enc P W base (fun _ => true) true ts vs ds p → (∀ q ∈ p, W.sameAt W' q) → (∀ q ∈ p, sp q.block = true) → DataW.TrodAll enc P W' base sp true ts vs ds p
  | [], [], vs, ds, p, _, h, _, _ => by
    obtain ⟨rfl, rfl, rfl⟩ := trodAll_nil h
    exact rfl
  | t :: ts, T :: Ts, vs, ds, p, hB, h, hs, hp => by
    obtain ⟨v, vs', d, ds', p1, p2, rfl, rfl, rfl, h1, h2⟩ := trodAll_cons h
    simp only [tysB, Bool.and_eq_true, decide_eq_true_eq] at hB
    exact ⟨p1, p2, WideElems.Trod_stays hl hB.1.1.2 hB.1.2 h1 (fun q hq => hs q (by simp [hq])) (fun q hq => hp q (by simp [hq])), args_stay hl hB.2 h2 (fun q hq => hs q (by simp [hq])) (fun q hq => hp q (by simp [hq])), rfl⟩
  | [], _ :: _, _, _, _, hB, _, _, _ => by cases hB
  | _ :: _, [], _, _, _, hB, _, _, _ => by cases hB
theorem tysB_len {n : Nat} : ∀ {ts : List TypeId} {Ts : List Ty}, tysB P n ts Ts = true → ts.length = Ts.length
  | [], [], _ => rfl
  | t :: ts, T :: Ts, h => by
    simp only [tysB, Bool.and_eq_true] at h
    rw [List.length_cons, List.length_cons, tysB_len h.2]
  | [], _ :: _, h => by cases h
  | _ :: _, [], h => by cases h
theorem trodAll_len : ∀ {ts : List TypeId} {vs : List Value} {ds : List (DataW H)} {p : List MemPlace}, DataW.TrodAll enc P w base spare held ts vs ds p → ds.length = ts.length
  | [], vs, ds, p, h => by
    obtain ⟨rfl, rfl, rfl⟩ := trodAll_nil h
    rfl
  | t :: ts, vs, ds, p, h => by
    obtain ⟨v, vs', d, ds', p1, p2, rfl, rfl, rfl, h1, h2⟩ := trodAll_cons h
    rw [List.length_cons, List.length_cons, trodAll_len h2]
theorem law_contract {k n : Nat} {fn : Func} {spec : ChangeSpec} {Ts : List Ty} {bt : TypeId} (hvars : spec.vars = []) (hres : fn.resultTypes = #[bt]) (hbt : P.underlying bt = some .bool) (hl : laidOutB P = true) (hB : tysB P n fn.params.toList Ts = true)
    (hspec : ∀ (ds : List (DataW H)), ds.length = Ts.length → spec.fn H ds = { results := [.lit (.bool true)], args := ds })
    (hlaw : ∀ dss, TypedAll Ts dss 1048576 → ACalls P k (argsV Ts dss) [] fun v _ => v = .d (.b true))
    (W : World) (hglob : Globs W) (args : Array Value) (ds gs : List (DataW H)) (before : List MemPlace) (b0 : Nat)
    (hval : ∀ (j : Nat) t v, fn.params[j]? = some t → args[j]? = some v → Value.okWide P W .any b0 t v)
    (hW : DataW.Whole enc P fn.params.toList spec.vars false W args.toList ds gs before) (hk : Rows.uptoSmall H (ds ++ gs) = true) :
    Calls P k args W fun e W' => ∃ v, e = .returned v ∧ spec.post enc P fn false true false false W args v W' := by
  have hW' := hW
  obtain ⟨p, q, hA, hV, rfl, hfz, hnd⟩ := hW
  rw [hvars] at hV
  obtain ⟨rfl, rfl⟩ := trodVars_none hV
  rw [List.append_nil] at hk
  have hbulk : Rows.uptoBulkAll ds ≤ 1048576 := of_decide_eq_true hk
  obtain ⟨dss, h1, h2⟩ := args_open hB (fun j t v ht hv => hval j t v (by simpa using ht) (by simpa using hv)) hA
  have hmono : ∀ {Ts : List Ty} {dss : List (List D)} {m m' : Nat}, m ≤ m' → TypedAll Ts dss m → TypedAll Ts dss m' := fun {Ts dss m m'} hm h => by
    cases Ts <;> cases dss <;> first | exact h | (obtain ⟨a, b, h3, h4⟩ := h; exact ⟨a, b, by omega, h4⟩)
  have hcall := hlaw dss (hmono hbulk h1)
  have hargs : args.toList.toArray = args := by simp
  obtain ⟨hl0, hv0⟩ := rel0_spec h2
  unfold ACalls at hcall
  refine (hcall W σ0 args (wok0 hglob) (by simpa using hl0) (fun j v u h3 h4 => hv0 j v u h3 (by simpa using h4))).mono ?_
  rintro e W' ⟨val, v, H', σ', rfl, rfl, hval', _, hp⟩
  obtain rfl := hval'.inv_d.inv_b
  have hg := hp.still
  have hlt : ∀ q ∈ p ++ [], q.block < W.heap.size := fun q hq => hW'.lt q hq
  have hsame : ∀ q ∈ p ++ [], W.sameAt W' q := fun q hq => by
    exact Below.same ⟨hp.os, hp.tape, hp.output, hp.size, fun b hb => hp.blk b hb (no0 _)⟩ (hlt q hq)
  have hs := hspec ds (by rw [trodAll_len hA, tysB_len hB])
  refine ⟨_, rfl, ds, [], p ++ [], [], p, [], hW', ?_, ?_, ?_, World.keptBut_mono (fun q hq => hq.elim) hg.kept, fun h => by cases h⟩
  · rw [List.append_nil, hs, hres]
    exact ⟨[], [], ⟨1, by simp [DataW.trod, Value.cells, hbt]⟩, rfl, rfl⟩
  · rw [List.append_nil, hs]
    exact args_stay hl hB hA (fun q hq => hsame q (by simpa using hq)) (fun q hq => by
      have := hlt q (by simpa using hq)
      simpa using this)
  · rw [List.append_nil, hs, hvars]
    exact rfl
end
end Go.Proofs.YtppalmoicjogaaaDoor.Ab
namespace Go.Proofs.YtppalmoicjogaaaDoor.Ab
open Go Go.RowKit Go.ChangeShapes Go.WideShapes Go.ChangeAt
variable [Glo]
set_option maxHeartbeats 1000000
def dsParts (g : TypeId → DataW Unit → Option (List D)) : List TypeId → List (DataW Unit) → Option (List (List D))
  | [], [] => some []
  | t :: ts, d :: ds => match g t d, dsParts g ts ds with | some x, some r => some (x :: r) | _, _ => none
  | _, _ => none
def offsB (P : Program) : Nat → List Field → Bool
  | _, [] => true
  | off, f :: fs => f.offset == off && offsB P (off + P.cellsOf f.type) fs
def fitB (P : Program) : List TypeId → List (List D) → Bool
  | [], [] => true
  | t :: ts, d :: ds => d.length == P.cellsOf t && fitB P ts ds
  | _, _ => false
def dsT (P : Program) : Nat → TypeId → DataW Unit → Option (List D)
  | 0, _, _ => none
  | n + 1, t, d => match P.underlying t, d with
    | some .bool, .lit (.bool b) => some [.b b]
    | some (.int _), .lit (.int k m) => some [.i k m]
    | some .string, .lit (.string l) => some [.s l]
    | some (.struct fs), .agg ds => (match dsParts (dsT P n) (fs.toList.map (·.type)) ds with
      | some dss => if offsB P 0 fs.toList = true ∧ fitB P (fs.toList.map (·.type)) dss = true ∧ dss.flatten.length = P.cellsOf t then some dss.flatten else none
      | none => none)
    | some (.array m e), .agg ds => (match dsParts (dsT P n) (List.replicate m e) ds with
      | some dss => if fitB P (List.replicate m e) dss = true ∧ dss.flatten.length = P.cellsOf t then some dss.flatten else none
      | none => none)
    | _, _ => none
theorem dsParts_get {g : TypeId → DataW Unit → Option (List D)} : ∀ {ts : List TypeId} {ds : List (DataW Unit)} {dss : List (List D)}, dsParts g ts ds = some dss →
    ds.length = ts.length ∧ dss.length = ts.length ∧ ∀ (k : Nat) (t : TypeId) (d : DataW Unit) (x : List D), ts[k]? = some t → ds[k]? = some d → dss[k]? = some x → g t d = some x
  | [], [], dss, h => by simp [dsParts] at h; subst h; simp
  | t :: ts, d :: ds, dss, h => by
    simp only [dsParts] at h
    split at h
    · rename_i x r hx hr
      cases h
      obtain ⟨h1, h2, h3⟩ := dsParts_get hr
      refine ⟨by simp [h1], by simp [h2], fun k t' d' x' ht hd hx' => ?_⟩
      cases k with
      | zero => simp at ht hd hx'; subst ht hd hx'; exact hx
      | succ k => exact h3 k t' d' x' (by simpa using ht) (by simpa using hd) (by simpa using hx')
    · cases h
  | [], _ :: _, _, h => by cases h
  | _ :: _, [], _, h => by cases h
theorem fitB_get {P : Program} : ∀ {ts : List TypeId} {dss : List (List D)}, fitB P ts dss = true → ∀ (k : Nat) (t : TypeId) (x : List D), ts[k]? = some t → dss[k]? = some x → x.length = P.cellsOf t
  | [], [], _, k, t, x, ht, _ => by simp at ht
  | t :: ts, d :: ds, h, k, t', x, ht, hx => by
    simp only [fitB, Bool.and_eq_true, beq_iff_eq] at h
    cases k with
    | zero => simp at ht hx; subst ht hx; exact h.1
    | succ k => exact fitB_get h.2 k t' x (by simpa using ht) (by simpa using hx)
  | [], _ :: _, h, _, _, _, _, _ => by cases h
  | _ :: _, [], h, _, _, _, _, _ => by cases h
section
variable {P : Program} {w : World} {o : Nat → Prop}
theorem cells_join (cs : List Value) : ∀ (dss : List (List D)) (offs : Nat → Nat) (off : Nat), (dss ≠ [] → offs 0 = off) → (∀ (k : Nat) (x y : List D), dss[k]? = some x → dss[k + 1]? = some y → offs (k + 1) = offs k + x.length) → (∀ (k : Nat) (x : List D), dss[k]? = some x → Cells w o x ((cs.drop (offs k)).take x.length)) →
    Cells w o dss.flatten ((cs.drop off).take dss.flatten.length)
  | [], offs, off, _, _, _ => ⟨by simp, by simp⟩
  | d :: dss, offs, off, h0, hs, hc => by
    have h0 := h0 (by simp)
    have c0 := hc 0 d rfl
    rw [h0] at c0
    have ih := cells_join cs dss (fun k => offs (k + 1)) (off + d.length) (fun hne => by
      cases dss with
      | nil => exact absurd rfl hne
      | cons y r => have := hs 0 d y rfl rfl; simp only [Nat.zero_add] at this ⊢; omega) (fun k x y hx hy => hs (k + 1) x y (by simpa using hx) (by simpa using hy)) (fun k x hx => hc (k + 1) x (by simpa using hx))
    have l0 := c0.1
    rw [List.length_take, List.length_drop] at l0
    have l1 := ih.1
    rw [List.length_take, List.length_drop] at l1
    refine ⟨?_, fun j x c hx hcj => ?_⟩
    · rw [List.flatten_cons, List.length_append, List.length_take, List.length_drop]
      omega
    · rw [List.flatten_cons, List.getElem?_append] at hx
      rw [List.flatten_cons, List.length_append, List.getElem?_take, List.getElem?_drop] at hcj
      split at hcj
      case isFalse => cases hcj
      rename_i hlt
      split at hx
      · rename_i hj
        refine c0.2 j x c hx ?_
        rw [List.getElem?_take, if_pos hj, List.getElem?_drop]
        exact hcj
      · rename_i hj
        refine ih.2 (j - d.length) x c hx ?_
        rw [List.getElem?_take, if_pos (by omega), List.getElem?_drop, ← hcj]
        congr 1
        omega
theorem cells_one {d : D} {c : Value} (h : DRel w o d c) : Cells w o [d] [c] := ⟨rfl, fun j x u hx hu => by
  cases j with
  | zero => simp at hx hu; subst hx hu; exact h
  | succ j => simp at hx⟩
theorem trod_data {enc : TypeId × Value → Unit} {base : Nat} {spare : Nat → Bool} {held : Bool} (ho : ∀ b, ¬ o b) : ∀ (n : Nat) (t : TypeId) (d : DataW Unit) (ds : List D), dsT P n t d = some ds → ∀ (fuel : Nat) (cs : List Value) (ps : List MemPlace), DataW.trod enc P w base spare held fuel t cs = some (d, ps) → Cells w o ds cs
  | 0, _, _, _, h, _, _, _, _ => by cases h
  | n + 1, t, d, ds, h, fuel, cs, ps, hr => by
    have ih := trod_data (enc := enc) (base := base) (spare := spare) (held := held) ho n
    unfold dsT at h
    split at h
    · rename_i hu
      cases h
      obtain ⟨b, rfl, hb⟩ := DataW.trod_bool hu hr
      cases hb
      exact cells_one (.b _)
    · rename_i k' k m hu
      cases h
      obtain ⟨m', rfl, hm, _⟩ := DataW.trod_int hu hr
      cases hm
      exact cells_one (.i _ _)
    · rename_i hu
      cases h
      obtain ⟨s, rfl, hs, _⟩ := DataW.trod_string hu hr
      cases hs
      refine cells_one ?_
      simpa using DRel.s (w := w) (o := o) s.data.toList
    · rename_i fs parts hu
      split at h
      case h_2 => cases h
      rename_i dss hp
      split at h
      case isFalse => cases h
      rename_i hc
      cases h
      obtain ⟨xs, n', rfl, hx, hcl, hxl, hfs⟩ := DataW.trod_struct hu hr
      obtain ⟨hx1, _⟩ := Prod.mk.inj hx
      cases hx1
      obtain ⟨g1, g2, g3⟩ := dsParts_get hp
      simp only [List.length_map] at g1 g2
      have hoff : ∀ (l : List Field) (a k : Nat), offsB P a l = true → (∀ f, l[0]? = some f → f.offset = a) ∧ (∀ f f', l[k]? = some f → l[k + 1]? = some f' → f'.offset = f.offset + P.cellsOf f.type) := by
        intro l
        induction l with
        | nil => intro a k _; simp
        | cons f l ih' =>
          intro a k hb
          simp only [offsB, Bool.and_eq_true, beq_iff_eq] at hb
          refine ⟨fun f' hf' => by simp at hf'; subst hf'; exact hb.1, fun f1 f2 h1 h2 => ?_⟩
          cases k with
          | zero =>
            simp at h1 h2
            subst h1
            have := (ih' _ 0 hb.2).1 f2 h2
            omega
          | succ k => exact (ih' _ k hb.2).2 f1 f2 (by simpa using h1) (by simpa using h2)
      have hfk : ∀ (k : Nat) (x : List D), dss[k]? = some x → ∃ f, fs.toList[k]? = some f ∧ x.length = P.cellsOf f.type ∧ Cells w o x ((cs.drop f.offset).take x.length) := fun k x hx => by
        have hk : k < fs.toList.length := by have := (List.getElem?_eq_some_iff.1 hx).1; simp only [Array.length_toList]; omega
        have hf : fs.toList[k]? = some fs.toList[k] := List.getElem?_eq_getElem hk
        have ht : (fs.toList.map (·.type))[k]? = some fs.toList[k].type := by rw [List.getElem?_map, hf]; rfl
        have hxl' : k < xs.length := by rw [hxl]; simpa using hk
        have hp1 : (xs.map (·.1))[k]? = some xs[k].1 := by rw [List.getElem?_map, List.getElem?_eq_getElem hxl']; rfl
        have hl := fitB_get hc.2.1 k _ x ht hx
        have h0 := hfs k _ (by rw [← Array.getElem?_toList]; exact hf)
        rw [List.getElem?_eq_getElem hxl'] at h0
        have := ih _ _ x (g3 k _ _ x ht hp1 hx) n' _ xs[k].2 h0
        rw [← hl] at this
        exact ⟨_, hf, hl, this⟩
      have hall := cells_join (w := w) (o := o) cs dss (fun k => ((fs.toList[k]?).map (·.offset)).getD 0) 0 (fun hne => by
        cases dss with
        | nil => exact absurd rfl hne
        | cons y r =>
          obtain ⟨f, hf, _⟩ := hfk 0 y rfl
          have := (hoff fs.toList 0 0 hc.1).1 f hf
          simp only [hf, Option.map_some, Option.getD_some, this]) (fun k x y hx hy => by
        obtain ⟨f, hf, hl, _⟩ := hfk k x hx
        obtain ⟨f', hf', _, _⟩ := hfk (k + 1) y hy
        have := (hoff fs.toList 0 k hc.1).2 f f' hf hf'
        simp only [hf, hf', Option.map_some, Option.getD_some, this, hl]) (fun k x hx => by
        obtain ⟨f, hf, _, hcx⟩ := hfk k x hx
        simp only [hf, Option.map_some, Option.getD_some]
        exact hcx)
      rw [List.drop_zero, List.take_of_length_le (by omega)] at hall
      exact hall
    · rename_i m e parts hu
      split at h
      case h_2 => cases h
      rename_i dss hp
      split at h
      case isFalse => cases h
      rename_i hc
      cases h
      obtain ⟨xs, n', rfl, hx, hcl, hxl, hfs⟩ := DataW.trod_array hu hr
      obtain ⟨hx1, _⟩ := Prod.mk.inj hx
      cases hx1
      obtain ⟨g1, g2, g3⟩ := dsParts_get hp
      simp only [List.length_replicate] at g1 g2
      have hfk : ∀ (k : Nat) (x : List D), dss[k]? = some x → x.length = P.cellsOf e ∧ Cells w o x ((cs.drop (k * P.cellsOf e)).take x.length) := fun k x hx => by
        have hk : k < m := by have := (List.getElem?_eq_some_iff.1 hx).1; omega
        have ht : (List.replicate m e)[k]? = some e := by rw [List.getElem?_replicate, if_pos hk]
        have hxl' : k < xs.length := by omega
        have hp1 : (xs.map (·.1))[k]? = some xs[k].1 := by rw [List.getElem?_map, List.getElem?_eq_getElem hxl']; rfl
        have hl := fitB_get hc.1 k _ x ht hx
        have h0 := hfs k hk
        rw [List.getElem?_eq_getElem hxl'] at h0
        have := ih _ _ x (g3 k _ _ x ht hp1 hx) n' _ xs[k].2 h0
        rw [← hl] at this ⊢
        exact ⟨rfl, this⟩
      have hall := cells_join (w := w) (o := o) cs dss (fun k => k * P.cellsOf e) 0 (fun _ => by simp) (fun k x y hx _ => by
        have := (hfk k x hx).1
        rw [Nat.add_mul, Nat.one_mul, this]) (fun k x hx => (hfk k x hx).2)
      rw [List.drop_zero, List.take_of_length_le (by omega)] at hall
      exact hall
    · cases h
theorem var_row {n : Nat} {name : String} {d : DataW Unit} {g : Nat} {t : TypeId} {ds : List D} (hg : P.globalNamed name = some g) (ht : (P.globals[g]?).map (·.type) = some t) (hd : dsT P n t d = some ds) (hpos : 0 < ds.length)
    (hr : Lib.VarReads P w name d) (ho : ∀ b, ¬ o b) : GRow w o g ds := by
  obtain ⟨g', t', cs, fuel, p, hg', ht', hv, htr⟩ := hr
  obtain rfl := Option.some.inj (hg.symm.trans hg')
  obtain rfl := Option.some.inj (ht.symm.trans ht')
  have hc := trod_data (w := w) ho n _ _ _ hd fuel cs.toList p htr
  have hcell : ∀ (j : Nat) (x : D), ds[j]? = some x → w.cell? ⟨g, j, none⟩ = some (cs.toList[j]?.getD undef) := fun j x hx => by
    have hj : j < cs.toList.length := by rw [← hc.1]; exact (List.getElem?_eq_some_iff.1 hx).1
    rw [World.var?_cell hg hv j, List.getElem?_eq_getElem hj]
    simp
  refine ⟨?_, ho g, fun j => cs.toList[j]?.getD undef, hcell, fun j x hx => ?_⟩
  · have := hcell 0 _ (List.getElem?_eq_getElem hpos)
    exact cell_lt this
  · have hj : j < cs.toList.length := by rw [← hc.1]; exact (List.getElem?_eq_some_iff.1 hx).1
    refine hc.2 j x _ hx ?_
    show cs.toList[j]? = some (cs.toList[j]?.getD undef)
    rw [List.getElem?_eq_getElem hj, Option.getD_some]
end
def valD : D → Value
  | .i k n => .int k n
  | .b t => .bool t
  | .s l => .string ⟨l.toArray⟩
  | .c v => v
  | .sl _ _ => undef
  | .m _ _ _ => undef
def putRow (h : Array Obj) (g : Nat) (row : List D) : Array Obj := h.modify g fun
  | .cells _ t frozen => .cells (row.map valD).toArray t frozen
  | o => o
end Go.Proofs.YtppalmoicjogaaaDoor.Ab
namespace Go.Proofs.YtppalmoicjogaaaDoor.Ab
open Go Go.RowKit Go.ChangeShapes Go.WideShapes Go.ChangeAt Go.WideMaps
def mapW (E : List (List UInt8 × Int)) : List (Lit × DataW Unit) := E.map fun p => (.string p.1, .lit (.int .i64 p.2))
def mapKs (L : List (List UInt8 × Int)) : List (List D) := L.map fun p => [.s p.1]
def mapVs (L : List (List UInt8 × Int)) : List D := L.map fun p => .i .i64 p.2
def mapRow (L : List (List UInt8 × Int)) : List D := [.m [.s] (mapKs L) (mapVs L)]
def backW : Lit × DataW Unit → List UInt8 × Int
  | (.string s, .lit (.int _ n)) => (s, n)
  | _ => ([], 0)
variable [Glo]
theorem back_mapW (E : List (List UInt8 × Int)) : (mapW E).map backW = E := by
  simp [mapW, backW, Function.comp_def]
theorem map_var {P : Program} {w : World} {o : Nat → Prop} {name : String} {E : List (List UInt8 × Int)} {g : Nat} {t k e : TypeId} (hg : P.globalNamed name = some g) (ht : (P.globals[g]?).map (·.type) = some t) (hu : P.underlying t = some (.map k e))
    (hk : P.underlying k = some .string) (he : P.underlying e = some (.int .i64)) (hr : Lib.VarReads P w name (.map (mapW E))) (ho : ∀ b, ¬ o b) : ∃ L : List (List UInt8 × Int), L.Perm E ∧ GRow w o g (mapRow L) := by
  obtain ⟨g', t', cs, fuel, p, hg', ht', hv, htr⟩ := hr
  obtain rfl := Option.some.inj (hg.symm.trans hg')
  obtain rfl := Option.some.inj (ht.symm.trans ht')
  rcases open_map hu he htr with ⟨_, hx⟩ | ⟨b, es, clock, hcs, hb, _, F, hx⟩
  · cases hx
  obtain ⟨hx1, _⟩ := Prod.mk.inj hx
  have hS : mapW E = (es.toList.map (rg Unit P k .i64)).foldr DataW.insert [] := by injection hx1
  have hp : (es.toList.map (rg Unit P k .i64)).Perm (mapW E) := by rw [hS]; exact (sorted_perm _).symm
  have hent : ∀ x, x ∈ es.toList → ∃ (s : List UInt8) (n : Int), x.key = .string ⟨s.toArray⟩ ∧ x.val = .int .i64 n ∧ backW (rg Unit P k .i64 x) = (s, n) := fun x hx => by
    obtain ⟨y, hy⟩ := F.reads x hx
    have h1 := rd_key hy
    obtain ⟨n, h2, h3, _⟩ := rd_val hy
    rw [rg_of hy]
    simp only [_root_.Go.keyOf, hk, _root_.Go.mapKey] at h1
    split at h1
    · rename_i b' e1 e2; cases e1
    · rename_i q q' n' e1 e2; cases e1
    · rename_i s e1 e2
      split at h1
      · obtain ⟨y1, y2⟩ := y
        have h4 : Lit.string s.data.toList = y1 := Option.some.inj h1
        have h3 : y2 = .lit (.int .i64 n) := h3
        subst h4 h3
        exact ⟨s.data.toList, n, by rw [e2], h2, rfl⟩
      · cases h1
    · cases h1
  refine ⟨(es.toList.map (rg Unit P k .i64)).map backW, by have := hp.map backW; rwa [back_mapW] at this, ?_⟩
  have hcell : w.cell? ⟨g, 0, none⟩ = some (.map (some b)) := by
    have hj : 0 < cs.toList.length := by rw [hcs]; simp
    rw [World.var?_cell hg hv 0]
    have : cs.toList[0]? = some (Value.map (some b)) := by rw [hcs]; rfl
    simpa using this
  refine ⟨cell_lt hcell, ho g, fun _ => .map (some b), fun j x hx => ?_, fun j x hx => ?_⟩
  · match j, hx with
    | 0, _ => exact hcell
  · match j, hx with
    | 0, hx =>
      cases hx
      refine DRel.m _ _ _ b clock es (Array.getElem?_eq_some_iff.1 hb).1 (ho b) hb (fun k' hk' => ?_) ?_ ?_ fun i x e' hi he' => ?_
      · simp only [mapKs, List.mem_map] at hk'
        obtain ⟨p', _, rfl⟩ := hk'
        rfl
      · simp only [mapKs, List.map_map]
        refine List.map_congr_left fun x hx => ?_
        obtain ⟨s, n, h1, h2, h3⟩ := hent x hx
        simp only [Function.comp_apply, h3, h1, keyVal, keyC]
      · simp [mapVs]
      · have hx := (Array.getElem?_eq_some_iff.1 he')
        obtain ⟨hlt, rfl⟩ := hx
        obtain ⟨s, n, h1, h2, h3⟩ := hent es[i] (by simp)
        simp only [mapVs, List.getElem?_map, Array.getElem?_toList, he', Option.map_some, Option.some.injEq, h3] at hi
        subst hi
        rw [h2]
        exact .i _ _
def lookE (E : List (List UInt8 × Int)) (z : List UInt8) : Option Int := (E.find? fun p => decide (p.1 = z)).map (·.2)
theorem mapGet (z : List UInt8) (d : D) : ∀ L : List (List UInt8 × Int), mget (mapKs L) (mapVs L) [.s z] d = ((lookE L z).map fun n => D.i .i64 n).getD d ∧ mhas (mapKs L) [.s z] = (lookE L z).isSome
  | [] => ⟨rfl, rfl⟩
  | p :: L => by
    obtain ⟨i1, i2⟩ := mapGet z d L
    by_cases h : p.1 = z
    · subst h
      simp only [mapKs, mapVs, List.map_cons, mget, mhas, mix_hit, lookE, List.find?_cons, decide_true]
      exact ⟨rfl, rfl⟩
    · have hne : ([D.s p.1] : List D) ≠ [.s z] := by simpa using h
      have hl : lookE (p :: L) z = lookE L z := by simp [lookE, List.find?_cons, h]
      rw [hl]
      simp only [mapKs, mapVs, List.map_cons, mget, mhas] at i1 i2 ⊢
      rw [mix_skip _ hne]
      refine ⟨?_, by rw [← i2]; simp⟩
      rw [← i1]
      cases mix (L.map fun p => [D.s p.1]) [.s z] <;> simp
theorem lookE_iff {L : List (List UInt8 × Int)} (hn : (L.map (·.1)).Nodup) {z : List UInt8} {n : Int} : lookE L z = some n ↔ (z, n) ∈ L := by
  induction L with
  | nil => simp [lookE]
  | cons p L ih =>
    rw [List.map_cons, List.nodup_cons] at hn
    have ih := ih hn.2
    by_cases h : p.1 = z
    · subst h
      have h0 : lookE (p :: L) p.1 = some p.2 := by simp [lookE, List.find?_cons]
      rw [h0]
      constructor
      · intro e; cases e; exact .head _
      · intro e
        rcases List.mem_cons.1 e with e | e
        · rw [← e]
        · exact absurd (List.mem_map.2 ⟨_, e, rfl⟩) hn.1
    · have hl : lookE (p :: L) z = lookE L z := by simp [lookE, List.find?_cons, h]
      rw [hl, ih]
      constructor
      · exact .tail _
      · intro e
        rcases List.mem_cons.1 e with e | e
        · rw [← e] at h; exact absurd rfl h
        · exact e
theorem lookE_perm {L E : List (List UInt8 × Int)} (hp : L.Perm E) (hn : (E.map (·.1)).Nodup) (z : List UInt8) : lookE L z = lookE E z := by
  have hn' : (L.map (·.1)).Nodup := (hp.map (·.1)).nodup_iff.2 hn
  refine Option.ext fun n => ?_
  rw [lookE_iff hn', lookE_iff hn, hp.mem_iff]
theorem mapGetE {L E : List (List UInt8 × Int)} (hp : L.Perm E) (hn : (E.map (·.1)).Nodup) (z : List UInt8) (d : D) : mget (mapKs L) (mapVs L) [.s z] d = ((lookE E z).map fun n => D.i .i64 n).getD d ∧ mhas (mapKs L) [.s z] = (lookE E z).isSome := by
  rw [← lookE_perm hp hn]
  exact mapGet z d L
def putMap (h : Array Obj) (g : Nat) (E : List (List UInt8 × Int)) : Array Obj :=
  (putRow h g [.c (.map (some h.size))]).push (.map (E.zipIdx.map fun p => ⟨.string ⟨p.1.1.toArray⟩, .int .i64 p.1.2, p.2⟩).toArray E.length)
end Go.Proofs.YtppalmoicjogaaaDoor.Ab
