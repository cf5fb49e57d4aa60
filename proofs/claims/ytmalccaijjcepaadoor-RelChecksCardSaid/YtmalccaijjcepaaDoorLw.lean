/- A law's row, of a function whose arguments are plain data: what is left is that it returns true. No condition. -/
import Derived.Test.YtmalccaijjcepaaDoorOp
set_option linter.all false
set_option linter.unusedSimpArgs false
set_option linter.unusedVariables false
namespace Go.Proofs.YtmalccaijjcepaaDoor.Ab
open Go Go.RowKit Go.ChangeShapes Go.WideShapes Go.ChangeAt
variable [Glo]

/-- An argument, as what is known of it. -/
def argV : Ty → List D → V
  | .nil, ds => .ag (ds.map .d)
  | .cons _ _, ds => .ag (ds.map .d)
  | _, [x] => .d x
  | _, _ => .top
def argsV : List Ty → List (List D) → List V
  | T :: Ts, ds :: dss => argV T ds :: argsV Ts dss
  | _, _ => []
def TypedAll : List Ty → List (List D) → Nat → Prop
  | [], [], _ => True
  | T :: Ts, ds :: dss, m => ∃ m1 m2, m1 + m2 ≤ m ∧ Typed T ds m1 ∧ TypedAll Ts dss m2
  | _, _, _ => False
def tysB (P : Program) (n : Nat) : List TypeId → List Ty → Bool
  | [], [] => true
  | t :: ts, T :: Ts => decide (tyB P n t = some T) && P.readableRec t && decide (t < P.types.size) && tysB P n ts Ts
  | _, _ => false

section
variable {H : Type} {enc : TypeId × Value → H} {P : Program} {w : World} {base : Nat} {spare : Nat → Bool} {held : Bool}

theorem no0 (b : Nat) : ¬ Own [] σ0 b := fun ⟨id, ver, e, sz, rows, cap, h, _⟩ => by simp at h

theorem arg_open {n : Nat} {t : TypeId} {T : Ty} {v : Value} {d : DataW H} {p : List MemPlace} {r : Reach} {b0 : Nat} (hT : tyB P n t = some T) (hv : Value.okWide P w r b0 t v) (h : DataW.Trod enc P w base spare held t v d p) :
    ∃ ds, Typed T ds (Rows.uptoBulk d) ∧ VRel w (Own [] σ0) [] σ0 (argV T ds) v := by
  obtain ⟨fuel, hf⟩ := h
  obtain ⟨ds, h1, h2⟩ := trod_typed (o := Own [] σ0) no0 n t T hT fuel _ _ hf
  refine ⟨ds, h1, ?_⟩
  have one : ∀ {c : Value} {T : Ty}, T.size = 1 → ds.length = 1 → (∀ x, argV T [x] = .d x) → v = c → c.cells = #[c] → VRel w (Own [] σ0) [] σ0 (argV T ds) v := by
    rintro c T _ hl ha rfl hc
    obtain ⟨x, rfl⟩ := List.length_eq_one_iff.1 hl
    rw [ha]
    exact .d _ _ (h2.2 0 x v rfl (by rw [hc]; rfl))
  have hlen := h1.len
  cases n with
  | zero => cases hT
  | succ n =>
    unfold tyB at hT
    split at hT
    · rename_i hu
      cases hT
      obtain ⟨b, rfl⟩ := okWide_bool hu hv
      exact one (T := .b) rfl hlen (fun _ => rfl) rfl rfl
    · rename_i k hu
      cases hT
      obtain ⟨m, rfl⟩ := okWide_int hu hv
      exact one (T := .i k) rfl hlen (fun _ => rfl) rfl rfl
    · rename_i hu
      cases hT
      obtain ⟨s, rfl⟩ := okWide_string hu hv
      exact one (T := .s) rfl hlen (fun _ => rfl) rfl rfl
    · rename_i e hu
      split at hT
      case h_2 => cases hT
      split at hT
      case isFalse => cases hT
      cases hT
      obtain ⟨a, len, cap, rfl⟩ := okWide_slice hu hv
      rename_i E _ _
      exact one (T := .sl E) rfl hlen (fun _ => rfl) rfl rfl
    · rename_i fs hu
      split at hT
      case h_2 => cases hT
      rename_i T' hT'
      split at hT
      case isFalse => cases hT
      cases hT
      obtain ⟨cs, rfl, _⟩ := okWide_struct hu hv
      have hag : argV T ds = .ag (ds.map .d) := by
        cases hfs : fs.toList with
        | nil => rw [hfs] at hT'; simp only [tyFs, Option.some.injEq] at hT'; subst hT'; rfl
        | cons f l =>
          rw [hfs] at hT'
          simp only [tyFs] at hT'
          split at hT'
          case h_2 => cases hT'
          split at hT'
          case isFalse => cases hT'
          split at hT'
          case h_2 => cases hT'
          cases hT'
          rfl
      rw [hag]
      refine .ag _ _ ?_ fun j c u hc hu' => ?_
      · have := h2.1
        simpa [Value.cells] using this
      · rw [List.getElem?_map] at hc
        cases hx : ds[j]? with
        | none => rw [hx] at hc; cases hc
        | some x =>
          rw [hx] at hc
          obtain rfl : V.d x = c := by simpa using hc
          exact .d _ _ (h2.2 j x u hx (by simpa [Value.cells] using hu'))
    · cases hT

theorem args_open {n : Nat} {r : Reach} {b0 : Nat} : ∀ {ts : List TypeId} {Ts : List Ty} {vs : List Value} {ds : List (DataW H)} {p : List MemPlace}, tysB P n ts Ts = true → (∀ (j : Nat) (t : TypeId) (v : Value), ts[j]? = some t → vs[j]? = some v → Value.okWide P w r b0 t v) →
    DataW.TrodAll enc P w base spare held ts vs ds p → ∃ dss, TypedAll Ts dss (Rows.uptoBulkAll ds) ∧ rel0 w (argsV Ts dss) vs
  | [], [], vs, ds, p, _, _, h => by
    obtain ⟨rfl, rfl, rfl⟩ := trodAll_nil h
    exact ⟨[], trivial, trivial⟩
  | t :: ts, T :: Ts, vs, ds, p, hB, hv, h => by
    obtain ⟨v, vs', d, ds', p1, p2, rfl, rfl, rfl, h1, h2⟩ := trodAll_cons h
    simp only [tysB, Bool.and_eq_true, decide_eq_true_eq] at hB
    obtain ⟨ds1, h3, h4⟩ := arg_open hB.1.1.1 (hv 0 t v rfl rfl) h1
    obtain ⟨dss, h5, h6⟩ := args_open hB.2 (fun j t v ht hv' => hv (j + 1) t v ht hv') h2
    exact ⟨ds1 :: dss, ⟨_, _, Nat.le_refl _, h3, h5⟩, h4, h6⟩
  | [], _ :: _, _, _, _, hB, _, _ => by cases hB
  | _ :: _, [], _, _, _, hB, _, _ => by cases hB

theorem args_stay {n : Nat} (hl : laidOutB P = true) {W W' : World} {sp : Nat → Bool} : ∀ {ts : List TypeId} {Ts : List Ty} {vs : List Value} {ds : List (DataW H)} {p : List MemPlace}, tysB P n ts Ts = true →
    DataW.TrodAll enc P W base (fun _ => true) true ts vs ds p → (∀ q ∈ p, W.sameAt W' q) → (∀ q ∈ p, sp q.block = true) → DataW.TrodAll enc P W' base sp true ts vs ds p
  | [], [], vs, ds, p, _, h, _, _ => by
    obtain ⟨rfl, rfl, rfl⟩ := trodAll_nil h
    exact rfl
  | t :: ts, T :: Ts, vs, ds, p, hB, h, hs, hp => by
    obtain ⟨v, vs', d, ds', p1, p2, rfl, rfl, rfl, h1, h2⟩ := trodAll_cons h
    simp only [tysB, Bool.and_eq_true, decide_eq_true_eq] at hB
    exact ⟨p1, p2, WideElems.Trod_stays hl hB.1.1.2 hB.1.2 h1 (fun q hq => hs q (by simp [hq])) (fun q hq => hp q (by simp [hq])), args_stay hl hB.2 h2 (fun q hq => hs q (by simp [hq])) (fun q hq => hp q (by simp [hq])), rfl⟩
  | [], _ :: _, _, _, _, hB, _, _, _ => by cases hB
  | _ :: _, [], _, _, _, hB, _, _, _ => by cases hB

theorem tysB_len {n : Nat} : ∀ {ts : List TypeId} {Ts : List Ty}, tysB P n ts Ts = true → ts.length = Ts.length
  | [], [], _ => rfl
  | t :: ts, T :: Ts, h => by
    simp only [tysB, Bool.and_eq_true] at h
    rw [List.length_cons, List.length_cons, tysB_len h.2]
  | [], _ :: _, h => by cases h
  | _ :: _, [], h => by cases h
theorem trodAll_len : ∀ {ts : List TypeId} {vs : List Value} {ds : List (DataW H)} {p : List MemPlace}, DataW.TrodAll enc P w base spare held ts vs ds p → ds.length = ts.length
  | [], vs, ds, p, h => by
    obtain ⟨rfl, rfl, rfl⟩ := trodAll_nil h
    rfl
  | t :: ts, vs, ds, p, h => by
    obtain ⟨v, vs', d, ds', p1, p2, rfl, rfl, rfl, h1, h2⟩ := trodAll_cons h
    rw [List.length_cons, List.length_cons, trodAll_len h2]

/-- What a law's walk gives its row. -/
theorem law_contract {k n : Nat} {fn : Func} {spec : ChangeSpec} {Ts : List Ty} {bt : TypeId} (hvars : spec.vars = []) (hres : fn.resultTypes = #[bt]) (hbt : P.underlying bt = some .bool) (hl : laidOutB P = true) (hB : tysB P n fn.params.toList Ts = true)
    (hspec : ∀ (ds : List (DataW H)), ds.length = Ts.length → spec.fn H ds = { results := [.lit (.bool true)], args := ds })
    (hlaw : ∀ dss, TypedAll Ts dss 1048576 → ACalls P k (argsV Ts dss) [] fun v _ => v = .d (.b true))
    (W : World) (hglob : Globs W) (args : Array Value) (ds gs : List (DataW H)) (before : List MemPlace) (b0 : Nat)
    (hval : ∀ (j : Nat) t v, fn.params[j]? = some t → args[j]? = some v → Value.okWide P W .any b0 t v)
    (hW : DataW.Whole enc P fn.params.toList spec.vars false W args.toList ds gs before) (hk : Rows.uptoSmall H (ds ++ gs) = true) :
    Calls P k args W fun e W' => ∃ v, e = .returned v ∧ spec.post enc P fn false true false false W args v W' := by
  have hW' := hW
  obtain ⟨p, q, hA, hV, rfl, hfz, hnd⟩ := hW
  rw [hvars] at hV
  obtain ⟨rfl, rfl⟩ := trodVars_none hV
  rw [List.append_nil] at hk
  have hbulk : Rows.uptoBulkAll ds ≤ 1048576 := of_decide_eq_true hk
  obtain ⟨dss, h1, h2⟩ := args_open hB (fun j t v ht hv => hval j t v (by simpa using ht) (by simpa using hv)) hA
  have hmono : ∀ {Ts : List Ty} {dss : List (List D)} {m m' : Nat}, m ≤ m' → TypedAll Ts dss m → TypedAll Ts dss m' := fun {Ts dss m m'} hm h => by
    cases Ts <;> cases dss <;> first | exact h | (obtain ⟨a, b, h3, h4⟩ := h; exact ⟨a, b, by omega, h4⟩)
  have hcall := hlaw dss (hmono hbulk h1)
  have hargs : args.toList.toArray = args := by simp
  obtain ⟨hl0, hv0⟩ := rel0_spec h2
  unfold ACalls at hcall
  refine (hcall W σ0 args (wok0 hglob) (by simpa using hl0) (fun j v u h3 h4 => hv0 j v u h3 (by simpa using h4))).mono ?_
  rintro e W' ⟨val, v, H', σ', rfl, rfl, hval', _, hp⟩
  obtain rfl := hval'.inv_d.inv_b
  have hg := hp.still
  have hlt : ∀ q ∈ p ++ [], q.block < W.heap.size := fun q hq => hW'.lt q hq
  have hsame : ∀ q ∈ p ++ [], W.sameAt W' q := fun q hq => by
    exact Below.same ⟨hp.os, hp.tape, hp.output, hp.size, fun b hb => hp.blk b hb (no0 _)⟩ (hlt q hq)
  have hs := hspec ds (by rw [trodAll_len hA, tysB_len hB])
  refine ⟨_, rfl, ds, [], p ++ [], [], p, [], hW', ?_, ?_, ?_, World.keptBut_mono (fun q hq => hq.elim) hg.kept, fun h => by cases h⟩
  · rw [List.append_nil, hs, hres]
    exact ⟨[], [], ⟨1, by simp [DataW.trod, Value.cells, hbt]⟩, rfl, rfl⟩
  · rw [List.append_nil, hs]
    exact args_stay hl hB hA (fun q hq => hsame q (by simpa using hq)) (fun q hq => by
      have := hlt q (by simpa using hq)
      simpa using this)
  · rw [List.append_nil, hs, hvars]
    exact rfl
end
end Go.Proofs.YtmalccaijjcepaaDoor.Ab
