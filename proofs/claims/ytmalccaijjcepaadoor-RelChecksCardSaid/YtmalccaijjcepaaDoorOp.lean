/- What a row's reading of an argument says, as data: numbers, truth values, texts, structs, slices of these. No condition. -/
import Derived.Test.YtmalccaijjcepaaDoorBr
import Derived.Deep.Slices
import Derived.ChangeArms
import Derived.WideKeyArgs
set_option linter.all false
set_option linter.unusedSimpArgs false
set_option linter.unusedVariables false
namespace Go.Proofs.YtmalccaijjcepaaDoor.Ab
open Go Go.RowKit Go.ChangeShapes Go.WideShapes
variable [Glo]

/-- The shape of a type whose values are plain data; a struct is a list of its fields. -/
inductive Ty : Type where
  | i (k : IntKind)
  | b
  | s
  | sl (e : Ty)
  | nil
  | cons (h t : Ty)
  deriving DecidableEq

def Ty.size : Ty → Nat
  | .i _ | .b | .s | .sl _ => 1
  | .nil => 0
  | .cons h t => h.size + t.size

def tyFs (P : Program) (g : TypeId → Option Ty) : Nat → List Field → Option Ty
  | _, [] => some .nil
  | off, f :: fs => match g f.type with
    | some T => if f.offset = off ∧ P.cellsOf f.type = T.size then (match tyFs P g (off + T.size) fs with | some R => some (.cons T R) | none => none) else none
    | none => none
def tyB (P : Program) : Nat → TypeId → Option Ty
  | 0, _ => none
  | n + 1, t => match P.underlying t with
    | some .bool => some .b
    | some (.int k) => some (.i k)
    | some .string => some .s
    | some (.slice e) => (match tyB P n e with | some T => if P.cellsOf e = T.size ∧ 0 < T.size then some (.sl T) else none | none => none)
    | some (.struct fs) => (match tyFs P (tyB P n) 0 fs.toList with | some T => if P.cellsOf t = T.size then some T else none | none => none)
    | _ => none

/-- Data of such a shape, of no more than so many values and letters. -/
def Typed : Ty → List D → Nat → Prop
  | .i k, [.i k' n], m => k' = k ∧ inR k n ∧ 1 ≤ m
  | .b, [.b _], m => 1 ≤ m
  | .s, [.s l], m => l.length + 1 ≤ m ∧ l.length ≤ maxLen
  | .sl e, [.sl z rows], m => z = e.size ∧ ∃ ws : List Nat, ws.length = rows.length ∧ ws.sum + 1 ≤ m ∧ ∀ (i : Nat) (row : List D) (w : Nat), rows[i]? = some row → ws[i]? = some w → Typed e row w
  | .nil, [], _ => True
  | .cons h t, ds, m => ∃ a c m1 m2, ds = a ++ c ∧ m1 + m2 ≤ m ∧ Typed h a m1 ∧ Typed t c m2
  | _, _, _ => False

theorem Typed.len : ∀ {T : Ty} {ds : List D} {m : Nat}, Typed T ds m → ds.length = T.size
  | .i k, ds, m, h => by
    unfold Typed at h
    split at h <;> simp_all [Ty.size]
  | .b, ds, m, h => by
    unfold Typed at h
    split at h <;> simp_all [Ty.size]
  | .s, ds, m, h => by
    unfold Typed at h
    split at h <;> simp_all [Ty.size]
  | .sl e, ds, m, h => by
    unfold Typed at h
    split at h <;> simp_all [Ty.size]
  | .nil, ds, m, h => by
    unfold Typed at h
    split at h <;> simp_all [Ty.size]
  | .cons x y, ds, m, h => by
    unfold Typed at h
    obtain ⟨a, c, m1, m2, rfl, _, h1, h2⟩ := h
    rw [List.length_append, h1.len, h2.len, Ty.size]
theorem typed_i {k : IntKind} {ds : List D} {m : Nat} (h : Typed (.i k) ds m) : ∃ n, ds = [.i k n] ∧ inR k n ∧ 1 ≤ m := by
  unfold Typed at h
  split at h <;> simp_all
theorem typed_b {ds : List D} {m : Nat} (h : Typed .b ds m) : ∃ t, ds = [.b t] ∧ 1 ≤ m := by
  unfold Typed at h
  split at h <;> simp_all
theorem typed_s {ds : List D} {m : Nat} (h : Typed .s ds m) : ∃ l, ds = [.s l] ∧ l.length + 1 ≤ m := by
  unfold Typed at h
  split at h <;> simp_all
theorem typed_nil {ds : List D} {m : Nat} (h : Typed .nil ds m) : ds = [] := by
  unfold Typed at h
  split at h <;> simp_all
theorem typed_cons {x y : Ty} {ds : List D} {m : Nat} (h : Typed (.cons x y) ds m) : ∃ a c m1 m2, ds = a ++ c ∧ m1 + m2 ≤ m ∧ Typed x a m1 ∧ Typed y c m2 := by
  unfold Typed at h
  exact h
theorem typed_sl {e : Ty} {ds : List D} {m : Nat} (h : Typed (.sl e) ds m) : ∃ rows, ds = [.sl e.size rows] ∧ ∃ ws : List Nat, ws.length = rows.length ∧ ws.sum + 1 ≤ m ∧ ∀ (i : Nat) (row : List D) (w : Nat), rows[i]? = some row → ws[i]? = some w → Typed e row w := by
  cases ds with
  | nil => exact h.elim
  | cons d ds =>
    cases ds with
    | cons d' ds => cases d <;> exact h.elim
    | nil =>
      cases d with
      | sl z rows =>
        obtain ⟨h1, ws, h2, h3, h4⟩ := h
        exact ⟨rows, by rw [h1], ws, h2, h3, h4⟩
      | _ => exact h.elim
theorem Typed.mono : ∀ {T : Ty} {ds : List D} {m m' : Nat}, m ≤ m' → Typed T ds m → Typed T ds m'
  | .i k, ds, m, m', hm, h => by
    unfold Typed at h ⊢
    split at h <;> first | (simp_all; omega) | simp_all
  | .b, ds, m, m', hm, h => by
    unfold Typed at h ⊢
    split at h <;> first | (simp_all; omega) | simp_all
  | .s, ds, m, m', hm, h => by
    unfold Typed at h ⊢
    split at h <;> first | (simp_all; omega) | simp_all
  | .sl e, ds, m, m', hm, h => by
    cases ds with
    | nil => exact h.elim
    | cons d ds =>
      cases ds with
      | cons d' ds => cases d <;> exact h.elim
      | nil =>
        cases d with
        | sl z rows =>
          obtain ⟨h1, ws, h2, h3, h4⟩ := h
          exact ⟨h1, ws, h2, by omega, h4⟩
        | _ => exact h.elim
  | .nil, ds, m, m', hm, h => by
    unfold Typed at h ⊢
    split at h <;> simp_all
  | .cons x y, ds, m, m', hm, h => by
    unfold Typed at h ⊢
    obtain ⟨a, c, m1, m2, h0, h3, h1, h2⟩ := h
    exact ⟨a, c, m1, m2, h0, by omega, h1, h2⟩

section
variable {H : Type} {enc : TypeId × Value → H} {P : Program} {w : World} {base : Nat} {spare : Nat → Bool} {held : Bool} {o : Nat → Prop}

theorem bulk_range (D' : Nat → DataW H) (len : Nat) : ((List.range len).map fun i => Rows.uptoBulk (D' i)).sum = Rows.uptoBulkAll ((List.range len).map D') := by
  induction List.range len with
  | nil => rfl
  | cons x l ih => simp only [List.map_cons, List.sum_cons, Rows.uptoBulkAll, ih]

def Cells (w : World) (o : Nat → Prop) (ds : List D) (cs : List Value) : Prop := ds.length = cs.length ∧ ∀ (j : Nat) (d : D) (c : Value), ds[j]? = some d → cs[j]? = some c → DRel w o d c

theorem trod_typed (ho : ∀ b, ¬ o b) : ∀ (n : Nat) (t : TypeId) (T : Ty), tyB P n t = some T → ∀ (fuel : Nat) (cs : List Value) (x : DataW H × List MemPlace), DataW.trod enc P w base spare held fuel t cs = some x →
    ∃ ds, Typed T ds (Rows.uptoBulk x.1) ∧ Cells w o ds cs
  | 0, t, T, hT, _, _, _, _ => by cases hT
  | n + 1, t, T, hT, fuel, cs, x, h => by
    have ih := trod_typed ho n
    unfold tyB at hT
    split at hT
    · rename_i hu
      cases hT
      obtain ⟨b, rfl, rfl⟩ := DataW.trod_bool hu h
      refine ⟨[.b b], by simp [Typed, Rows.uptoBulk], rfl, fun j d c hd hc => ?_⟩
      cases j with
      | zero => simp at hd hc; subst hd hc; exact .b b
      | succ j => simp at hd
    · rename_i k hu
      cases hT
      obtain ⟨m, rfl, rfl, hwf⟩ := DataW.trod_int hu h
      refine ⟨[.i k m], ?_, rfl, fun j d c hd hc => ?_⟩
      · refine ⟨rfl, ?_, by simp [Rows.uptoBulk]⟩
        simpa [Lit.wf, inR] using hwf
      · cases j with
        | zero => simp at hd hc; subst hd hc; exact .i k m
        | succ j => simp at hd
    · rename_i hu
      cases hT
      obtain ⟨s, rfl, rfl, hs⟩ := DataW.trod_string hu h
      refine ⟨[.s s.data.toList], ?_, rfl, fun j d c hd hc => ?_⟩
      · refine ⟨by simp [Rows.uptoBulk], ?_⟩
        have : s.data.toList.length = s.size := by rw [Array.length_toList]; rfl
        omega
      · cases j with
        | zero => simp at hd hc; subst hd hc; simpa using DRel.s (w := w) (o := o) s.data.toList
        | succ j => simp at hd
    · rename_i e hu
      split at hT
      case h_2 => cases hT
      rename_i E hE
      split at hT
      case isFalse => cases hT
      rename_i hsz
      obtain ⟨hsz, hpos⟩ := hsz
      cases hT
      rcases Deep.open_slice hu h with ⟨rfl, rfl⟩ | ⟨a, len, cap, m, n', D', Pl, rfl, hb, hlc, hcap, hm, rfl, hel⟩
      · refine ⟨[.sl E.size []], ?_, rfl, fun j d c hd hc => ?_⟩
        · exact ⟨rfl, [], rfl, by simp [Rows.uptoBulk], by simp⟩
        · cases j with
          | zero => simp at hd hc; subst hd hc; exact .nil _ _ _
          | succ j => simp at hd
      · have hlm : len ≤ m := by rw [hm]; split <;> omega
        have hex : ∀ i, ∃ row : List D, i < len → ∃ cs', w.cells? base (a.add (i * P.cellsOf e)) (P.cellsOf e) = some cs' ∧ Typed E row (Rows.uptoBulk (D' i)) ∧ Cells w o row cs' := fun i => by
          by_cases hi : i < len
          · obtain ⟨cs', h1, h2⟩ := hel i (by omega)
            obtain ⟨ds, h3, h4⟩ := ih e E hE n' cs' _ h2
            exact ⟨ds, fun _ => ⟨cs', h1, h3, h4⟩⟩
          · exact ⟨[], fun hi' => absurd hi' hi⟩
        let row : Nat → List D := fun i => Classical.choose (hex i)
        have hrow : ∀ i, i < len → ∃ cs', w.cells? base (a.add (i * P.cellsOf e)) (P.cellsOf e) = some cs' ∧ Typed E (row i) (Rows.uptoBulk (D' i)) ∧ Cells w o (row i) cs' := fun i => Classical.choose_spec (hex i)
        have hget : ∀ (i : Nat) (r : List D), ((List.range len).map row)[i]? = some r → i < len ∧ r = row i := fun i r hr => by
          rw [List.getElem?_map] at hr
          by_cases hi : i < len
          · rw [List.getElem?_range hi] at hr
            simp at hr
            exact ⟨hi, hr.symm⟩
          · rw [List.getElem?_eq_none (by simpa using hi)] at hr
            cases hr
        refine ⟨[.sl E.size ((List.range len).map row)], ?_, rfl, fun j d c hd hc => ?_⟩
        · refine ⟨rfl, (List.range len).map fun i => Rows.uptoBulk (D' i), by simp, ?_, fun i r m' hr hw' => ?_⟩
          · rw [bulk_range, Rows.uptoBulk]
            omega
          · obtain ⟨hi, rfl⟩ := hget i r hr
            rw [List.getElem?_map, List.getElem?_range hi] at hw'
            obtain rfl : Rows.uptoBulk (D' i) = m' := by simpa using hw'
            exact (hrow i hi).choose_spec.2.1
        · cases j with
          | succ j => simp at hd
          | zero =>
            simp at hd hc
            subst hd hc
            by_cases h0 : len = 0
            · subst h0
              exact .nil _ _ _
            · -- a place in memory
              have hcell : ∀ i, i < len → ∀ (j : Nat) (x : D), (row i)[j]? = some x → ∃ v, w.cell? ((a.add (i * E.size)).add j) = some v ∧ DRel w o x v := fun i hi j x hx => by
                obtain ⟨cs', h1, h2, h3⟩ := hrow i hi
                obtain ⟨_, h4, h5⟩ := World.cells?_some h1
                have hj : j < cs'.length := by rw [← h3.1]; exact (List.getElem?_eq_some_iff.1 hx).1
                have hv : cs'[j]? = some cs'[j] := List.getElem?_eq_getElem hj
                rw [hsz] at h5
                exact ⟨_, (h5 j (by omega)).trans hv, h3.2 j x _ hx hv⟩
              have hlen : ∀ i, i < len → (row i).length = E.size := fun i hi => (hrow i hi).choose_spec.2.1.len
              have hr0 : 0 < (row 0).length := by rw [hlen 0 (by omega)]; exact hpos
              obtain ⟨v0, hv0, _⟩ := hcell 0 (by omega) 0 (row 0)[0] (List.getElem?_eq_getElem hr0)
              have ha : a.spot = none := by
                simp only [Nat.zero_mul, Addr.add, if_true] at hv0
                unfold World.cell? at hv0
                split at hv0
                · split at hv0
                  · cases hv0
                  · rename_i hsp; simpa using hsp
                · cases hv0
              obtain ⟨ab, aoff, asp⟩ := a
              simp only at ha
              subst ha
              have hadd : ∀ i j, ((⟨ab, aoff, none⟩ : Addr).add (i * E.size)).add j = ⟨ab, aoff + i * E.size + j, none⟩ := fun i j => by
                unfold Addr.add
                split <;> split <;> simp_all
              have hl' : ((List.range len).map row).length = len := by simp
              have hres : DRel w o (.sl E.size ((List.range len).map row)) (.slice (some ⟨ab, aoff, none⟩) ((List.range len).map row).length cap) :=
                .sl E.size _ ab aoff cap (fun i j => (w.cell? ⟨ab, aoff + i * E.size + j, none⟩).getD undef) (by rw [hl']; exact hlc)
                  (by
                    have := hv0
                    rw [hadd] at this
                    exact cell_lt this) (ho ab)
                  (fun i r hr => by obtain ⟨hi, rfl⟩ := hget i r hr; exact hlen i hi)
                  (fun i j r x hr hx => by
                    obtain ⟨hi, rfl⟩ := hget i r hr
                    obtain ⟨v, h1, _⟩ := hcell i hi j x hx
                    rw [hadd] at h1
                    rw [h1]; rfl)
                  (fun i j r x hr hx => by
                    obtain ⟨hi, rfl⟩ := hget i r hr
                    obtain ⟨v, h1, h2⟩ := hcell i hi j x hx
                    rw [hadd] at h1
                    rw [h1]; exact h2)
              rw [hl'] at hres
              exact hres
    · rename_i fs hu
      split at hT
      case h_2 => cases hT
      rename_i T' hT'
      split at hT
      case isFalse => cases hT
      rename_i hsz
      cases hT
      obtain ⟨xs, n', rfl, rfl, hcl, hxl, hfs⟩ := DataW.trod_struct hu h
      -- field by field
      have fields : ∀ (l : List Field) (k off : Nat) (R : Ty), tyFs P (tyB P n) off l = some R → (∀ i, l[i]? = fs[k + i]?) → k + l.length = fs.size → off + R.size = cs.length →
          ∃ ds, Typed R ds (Rows.uptoBulkAll ((xs.drop k).map (·.1))) ∧ Cells w o ds (cs.drop off) := by
        intro l
        induction l with
        | nil =>
          intro k off R hR _ _ hoff
          simp only [tyFs, Option.some.injEq] at hR
          subst hR
          refine ⟨[], trivial, ?_, by simp⟩
          simp [Ty.size] at hoff
          simp [hoff]
        | cons f l ihl =>
          intro k off R hR hl hk hoff
          simp only [tyFs] at hR
          split at hR
          case h_2 => cases hR
          rename_i F hF
          split at hR
          case isFalse => cases hR
          rename_i hfo
          obtain ⟨hfo, hfc⟩ := hfo
          split at hR
          case h_2 => cases hR
          rename_i R' hR'
          cases hR
          simp only [Ty.size] at hoff
          have h0 : fs[k]? = some f := by simpa using (hl 0).symm
          obtain ⟨ds2, t2, c2⟩ := ihl (k + 1) (off + F.size) R' hR' (fun i => by
            have := hl (i + 1)
            rw [List.getElem?_cons_succ] at this
            rw [this]; congr 1; omega) (by simp only [List.length_cons] at hk; omega) (by omega)
          have hlt : k < xs.length := by
            rw [hxl]
            simp only [List.length_cons] at hk
            omega
          have hx := hfs k f h0
          rw [List.getElem?_eq_getElem hlt] at hx
          obtain ⟨ds1, t1, c1⟩ := ih f.type F hF n' _ _ hx
          have e1 : (xs.drop k) = xs[k] :: xs.drop (k + 1) := List.drop_eq_getElem_cons hlt
          refine ⟨ds1 ++ ds2, ⟨ds1, ds2, _, _, rfl, ?_, t1, t2⟩, ?_⟩
          · rw [e1, List.map_cons, Rows.uptoBulkAll]
            exact Nat.le_refl _
          · have l1 := t1.len
            have l2 := c2.1
            rw [List.length_drop] at l2
            refine ⟨by rw [List.length_append, List.length_drop]; omega, fun j d c hd hc => ?_⟩
            rw [List.getElem?_append] at hd
            rw [List.getElem?_drop] at hc
            split at hd
            · rename_i hj
              refine c1.2 j d c hd ?_
              rw [List.getElem?_take_of_lt (by omega), List.getElem?_drop, hfo]
              exact hc
            · rename_i hj
              refine c2.2 (j - ds1.length) d c hd ?_
              rw [List.getElem?_drop, ← hc]
              congr 1
              omega
      obtain ⟨ds, h1, h2⟩ := fields fs.toList 0 0 T hT' (fun i => by simp) (by simp) (by omega)
      refine ⟨ds, h1.mono ?_, by simpa using h2⟩
      simp [Rows.uptoBulk]
    · cases hT
end
end Go.Proofs.YtmalccaijjcepaaDoor.Ab
