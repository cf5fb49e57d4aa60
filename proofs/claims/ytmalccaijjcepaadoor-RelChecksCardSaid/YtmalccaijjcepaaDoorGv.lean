/- What a row's list of package variables says, as rows of known cells. No condition. -/
import Derived.Test.YtmalccaijjcepaaDoorLw
import Derived.Lib.LaidU8T
set_option linter.all false
set_option linter.unusedSimpArgs false
set_option linter.unusedVariables false
namespace Go.Proofs.YtmalccaijjcepaaDoor.Ab
open Go Go.RowKit Go.ChangeShapes Go.WideShapes Go.ChangeAt
variable [Glo]
set_option maxHeartbeats 1000000

/-- A datum's cells, at a type. -/
def dsParts (g : TypeId → DataW Unit → Option (List D)) : List TypeId → List (DataW Unit) → Option (List (List D))
  | [], [] => some []
  | t :: ts, d :: ds => match g t d, dsParts g ts ds with | some x, some r => some (x :: r) | _, _ => none
  | _, _ => none
def offsB (P : Program) : Nat → List Field → Bool
  | _, [] => true
  | off, f :: fs => f.offset == off && offsB P (off + P.cellsOf f.type) fs
def fitB (P : Program) : List TypeId → List (List D) → Bool
  | [], [] => true
  | t :: ts, d :: ds => d.length == P.cellsOf t && fitB P ts ds
  | _, _ => false
def dsT (P : Program) : Nat → TypeId → DataW Unit → Option (List D)
  | 0, _, _ => none
  | n + 1, t, d => match P.underlying t, d with
    | some .bool, .lit (.bool b) => some [.b b]
    | some (.int _), .lit (.int k m) => some [.i k m]
    | some .string, .lit (.string l) => some [.s l]
    | some (.struct fs), .agg ds => (match dsParts (dsT P n) (fs.toList.map (·.type)) ds with
      | some dss => if offsB P 0 fs.toList = true ∧ fitB P (fs.toList.map (·.type)) dss = true ∧ dss.flatten.length = P.cellsOf t then some dss.flatten else none
      | none => none)
    | some (.array m e), .agg ds => (match dsParts (dsT P n) (List.replicate m e) ds with
      | some dss => if fitB P (List.replicate m e) dss = true ∧ dss.flatten.length = P.cellsOf t then some dss.flatten else none
      | none => none)
    | some (.slice e), .slice ds [] => (match dsParts (dsT P n) (List.replicate ds.length e) ds with
      | some dss => if fitB P (List.replicate ds.length e) dss = true ∧ 0 < P.cellsOf e ∧ 0 < ds.length then some [.sl (P.cellsOf e) dss] else none
      | none => none)
    | _, _ => none

theorem dsParts_get {g : TypeId → DataW Unit → Option (List D)} : ∀ {ts : List TypeId} {ds : List (DataW Unit)} {dss : List (List D)}, dsParts g ts ds = some dss →
    ds.length = ts.length ∧ dss.length = ts.length ∧ ∀ (k : Nat) (t : TypeId) (d : DataW Unit) (x : List D), ts[k]? = some t → ds[k]? = some d → dss[k]? = some x → g t d = some x
  | [], [], dss, h => by simp [dsParts] at h; subst h; simp
  | t :: ts, d :: ds, dss, h => by
    simp only [dsParts] at h
    split at h
    · rename_i x r hx hr
      cases h
      obtain ⟨h1, h2, h3⟩ := dsParts_get hr
      refine ⟨by simp [h1], by simp [h2], fun k t' d' x' ht hd hx' => ?_⟩
      cases k with
      | zero => simp at ht hd hx'; subst ht hd hx'; exact hx
      | succ k => exact h3 k t' d' x' (by simpa using ht) (by simpa using hd) (by simpa using hx')
    · cases h
  | [], _ :: _, _, h => by cases h
  | _ :: _, [], _, h => by cases h
theorem fitB_get {P : Program} : ∀ {ts : List TypeId} {dss : List (List D)}, fitB P ts dss = true → ∀ (k : Nat) (t : TypeId) (x : List D), ts[k]? = some t → dss[k]? = some x → x.length = P.cellsOf t
  | [], [], _, k, t, x, ht, _ => by simp at ht
  | t :: ts, d :: ds, h, k, t', x, ht, hx => by
    simp only [fitB, Bool.and_eq_true, beq_iff_eq] at h
    cases k with
    | zero => simp at ht hx; subst ht hx; exact h.1
    | succ k => exact fitB_get h.2 k t' x (by simpa using ht) (by simpa using hx)
  | [], _ :: _, h, _, _, _, _, _ => by cases h
  | _ :: _, [], h, _, _, _, _, _ => by cases h

section
variable {P : Program} {w : World} {o : Nat → Prop}

/-- Cells part by part. -/
theorem cells_join (cs : List Value) : ∀ (dss : List (List D)) (offs : Nat → Nat) (off : Nat), (dss ≠ [] → offs 0 = off) → (∀ (k : Nat) (x y : List D), dss[k]? = some x → dss[k + 1]? = some y → offs (k + 1) = offs k + x.length) → (∀ (k : Nat) (x : List D), dss[k]? = some x → Cells w o x ((cs.drop (offs k)).take x.length)) →
    Cells w o dss.flatten ((cs.drop off).take dss.flatten.length)
  | [], offs, off, _, _, _ => ⟨by simp, by simp⟩
  | d :: dss, offs, off, h0, hs, hc => by
    have h0 := h0 (by simp)
    have c0 := hc 0 d rfl
    rw [h0] at c0
    have ih := cells_join cs dss (fun k => offs (k + 1)) (off + d.length) (fun hne => by
      cases dss with
      | nil => exact absurd rfl hne
      | cons y r => have := hs 0 d y rfl rfl; simp only [Nat.zero_add] at this ⊢; omega) (fun k x y hx hy => hs (k + 1) x y (by simpa using hx) (by simpa using hy)) (fun k x hx => hc (k + 1) x (by simpa using hx))
    have l0 := c0.1
    rw [List.length_take, List.length_drop] at l0
    have l1 := ih.1
    rw [List.length_take, List.length_drop] at l1
    refine ⟨?_, fun j x c hx hcj => ?_⟩
    · rw [List.flatten_cons, List.length_append, List.length_take, List.length_drop]
      omega
    · rw [List.flatten_cons, List.getElem?_append] at hx
      rw [List.flatten_cons, List.length_append, List.getElem?_take, List.getElem?_drop] at hcj
      split at hcj
      case isFalse => cases hcj
      rename_i hlt
      split at hx
      · rename_i hj
        refine c0.2 j x c hx ?_
        rw [List.getElem?_take, if_pos hj, List.getElem?_drop]
        exact hcj
      · rename_i hj
        refine ih.2 (j - d.length) x c hx ?_
        rw [List.getElem?_take, if_pos (by omega), List.getElem?_drop, ← hcj]
        congr 1
        omega

theorem cells_one {d : D} {c : Value} (h : DRel w o d c) : Cells w o [d] [c] := ⟨rfl, fun j x u hx hu => by
  cases j with
  | zero => simp at hx hu; subst hx hu; exact h
  | succ j => simp at hx⟩

theorem trod_data {enc : TypeId × Value → Unit} {base : Nat} {spare : Nat → Bool} {held : Bool} (ho : ∀ b, ¬ o b) : ∀ (n : Nat) (t : TypeId) (d : DataW Unit) (ds : List D), dsT P n t d = some ds → ∀ (fuel : Nat) (cs : List Value) (ps : List MemPlace), DataW.trod enc P w base spare held fuel t cs = some (d, ps) → Cells w o ds cs
  | 0, _, _, _, h, _, _, _, _ => by cases h
  | n + 1, t, d, ds, h, fuel, cs, ps, hr => by
    have ih := trod_data (enc := enc) (base := base) (spare := spare) (held := held) ho n
    unfold dsT at h
    split at h
    · rename_i hu
      cases h
      obtain ⟨b, rfl, hb⟩ := DataW.trod_bool hu hr
      cases hb
      exact cells_one (.b _)
    · rename_i k' k m hu
      cases h
      obtain ⟨m', rfl, hm, _⟩ := DataW.trod_int hu hr
      cases hm
      exact cells_one (.i _ _)
    · rename_i hu
      cases h
      obtain ⟨s, rfl, hs, _⟩ := DataW.trod_string hu hr
      cases hs
      refine cells_one ?_
      simpa using DRel.s (w := w) (o := o) s.data.toList
    · rename_i fs parts hu
      split at h
      case h_2 => cases h
      rename_i dss hp
      split at h
      case isFalse => cases h
      rename_i hc
      cases h
      obtain ⟨xs, n', rfl, hx, hcl, hxl, hfs⟩ := DataW.trod_struct hu hr
      obtain ⟨hx1, _⟩ := Prod.mk.inj hx
      cases hx1
      obtain ⟨g1, g2, g3⟩ := dsParts_get hp
      simp only [List.length_map] at g1 g2
      have hoff : ∀ (l : List Field) (a k : Nat), offsB P a l = true → (∀ f, l[0]? = some f → f.offset = a) ∧ (∀ f f', l[k]? = some f → l[k + 1]? = some f' → f'.offset = f.offset + P.cellsOf f.type) := by
        intro l
        induction l with
        | nil => intro a k _; simp
        | cons f l ih' =>
          intro a k hb
          simp only [offsB, Bool.and_eq_true, beq_iff_eq] at hb
          refine ⟨fun f' hf' => by simp at hf'; subst hf'; exact hb.1, fun f1 f2 h1 h2 => ?_⟩
          cases k with
          | zero =>
            simp at h1 h2
            subst h1
            have := (ih' _ 0 hb.2).1 f2 h2
            omega
          | succ k => exact (ih' _ k hb.2).2 f1 f2 (by simpa using h1) (by simpa using h2)
      have hfk : ∀ (k : Nat) (x : List D), dss[k]? = some x → ∃ f, fs.toList[k]? = some f ∧ x.length = P.cellsOf f.type ∧ Cells w o x ((cs.drop f.offset).take x.length) := fun k x hx => by
        have hk : k < fs.toList.length := by have := (List.getElem?_eq_some_iff.1 hx).1; simp only [Array.length_toList]; omega
        have hf : fs.toList[k]? = some fs.toList[k] := List.getElem?_eq_getElem hk
        have ht : (fs.toList.map (·.type))[k]? = some fs.toList[k].type := by rw [List.getElem?_map, hf]; rfl
        have hxl' : k < xs.length := by rw [hxl]; simpa using hk
        have hp1 : (xs.map (·.1))[k]? = some xs[k].1 := by rw [List.getElem?_map, List.getElem?_eq_getElem hxl']; rfl
        have hl := fitB_get hc.2.1 k _ x ht hx
        have h0 := hfs k _ (by rw [← Array.getElem?_toList]; exact hf)
        rw [List.getElem?_eq_getElem hxl'] at h0
        have := ih _ _ x (g3 k _ _ x ht hp1 hx) n' _ xs[k].2 h0
        rw [← hl] at this
        exact ⟨_, hf, hl, this⟩
      have hall := cells_join (w := w) (o := o) cs dss (fun k => ((fs.toList[k]?).map (·.offset)).getD 0) 0 (fun hne => by
        cases dss with
        | nil => exact absurd rfl hne
        | cons y r =>
          obtain ⟨f, hf, _⟩ := hfk 0 y rfl
          have := (hoff fs.toList 0 0 hc.1).1 f hf
          simp only [hf, Option.map_some, Option.getD_some, this]) (fun k x y hx hy => by
        obtain ⟨f, hf, hl, _⟩ := hfk k x hx
        obtain ⟨f', hf', _, _⟩ := hfk (k + 1) y hy
        have := (hoff fs.toList 0 k hc.1).2 f f' hf hf'
        simp only [hf, hf', Option.map_some, Option.getD_some, this, hl]) (fun k x hx => by
        obtain ⟨f, hf, _, hcx⟩ := hfk k x hx
        simp only [hf, Option.map_some, Option.getD_some]
        exact hcx)
      rw [List.drop_zero, List.take_of_length_le (by omega)] at hall
      exact hall
    · rename_i m e parts hu
      split at h
      case h_2 => cases h
      rename_i dss hp
      split at h
      case isFalse => cases h
      rename_i hc
      cases h
      obtain ⟨xs, n', rfl, hx, hcl, hxl, hfs⟩ := DataW.trod_array hu hr
      obtain ⟨hx1, _⟩ := Prod.mk.inj hx
      cases hx1
      obtain ⟨g1, g2, g3⟩ := dsParts_get hp
      simp only [List.length_replicate] at g1 g2
      have hfk : ∀ (k : Nat) (x : List D), dss[k]? = some x → x.length = P.cellsOf e ∧ Cells w o x ((cs.drop (k * P.cellsOf e)).take x.length) := fun k x hx => by
        have hk : k < m := by have := (List.getElem?_eq_some_iff.1 hx).1; omega
        have ht : (List.replicate m e)[k]? = some e := by rw [List.getElem?_replicate, if_pos hk]
        have hxl' : k < xs.length := by omega
        have hp1 : (xs.map (·.1))[k]? = some xs[k].1 := by rw [List.getElem?_map, List.getElem?_eq_getElem hxl']; rfl
        have hl := fitB_get hc.1 k _ x ht hx
        have h0 := hfs k hk
        rw [List.getElem?_eq_getElem hxl'] at h0
        have := ih _ _ x (g3 k _ _ x ht hp1 hx) n' _ xs[k].2 h0
        rw [← hl] at this ⊢
        exact ⟨rfl, this⟩
      have hall := cells_join (w := w) (o := o) cs dss (fun k => k * P.cellsOf e) 0 (fun _ => by simp) (fun k x y hx _ => by
        have := (hfk k x hx).1
        rw [Nat.add_mul, Nat.one_mul, this]) (fun k x hx => (hfk k x hx).2)
      rw [List.drop_zero, List.take_of_length_le (by omega)] at hall
      exact hall
    · rename_i e parts hu
      split at h
      case h_2 => cases h
      rename_i dss hp
      split at h
      case isFalse => cases h
      rename_i hc
      cases h
      obtain ⟨g1, g2, g3⟩ := dsParts_get hp
      simp only [List.length_replicate] at g1 g2
      rcases DataW.trod_slice hu hr with ⟨_, hx⟩ | ⟨a, len, cap, elems, rest, n', _, hcs, hx, hb, hl, hm, hlen, hel, _, _⟩
      · simp at hx
      · obtain ⟨hx1, _⟩ := Prod.mk.inj hx
        injection hx1 with e1 e2
        subst hcs
        have hpl : parts.length = len := by rw [e1, List.length_map, hlen]
        have hrow : ∀ (i : Nat) (r : List D), dss[i]? = some r → r.length = P.cellsOf e ∧ ∃ cs', w.cells? base (a.add (i * P.cellsOf e)) (P.cellsOf e) = some cs' ∧ Cells w o r cs' := fun i r hr' => by
          have hi : i < len := by have := (List.getElem?_eq_some_iff.1 hr').1; omega
          have ht : (List.replicate parts.length e)[i]? = some e := by rw [List.getElem?_replicate, if_pos (by omega)]
          have hei : i < elems.length := by omega
          have h0 := hel i hi
          rw [List.getElem?_eq_getElem hei, Option.bind_eq_some_iff] at h0
          obtain ⟨cs', h1, h2⟩ := h0
          have hpi : parts[i]? = some elems[i].1 := by rw [e1, List.getElem?_map, List.getElem?_eq_getElem hei]; rfl
          exact ⟨fitB_get hc.1 i _ r ht hr', cs', h1, ih _ _ r (g3 i _ _ r ht hpi hr') n' cs' elems[i].2 h2⟩
        have hcell : ∀ (i : Nat) (r : List D), dss[i]? = some r → ∀ (j : Nat) (x : D), r[j]? = some x → ∃ v, w.cell? ((a.add (i * P.cellsOf e)).add j) = some v ∧ DRel w o x v := fun i r hr' j x hx => by
          obtain ⟨hrl, cs', h1, h3⟩ := hrow i r hr'
          obtain ⟨_, h4, h5⟩ := World.cells?_some h1
          have hj : j < cs'.length := by rw [← h3.1]; exact (List.getElem?_eq_some_iff.1 hx).1
          have hv : cs'[j]? = some cs'[j] := List.getElem?_eq_getElem hj
          exact ⟨_, (h5 j (by omega)).trans hv, h3.2 j x _ hx hv⟩
        have hd0 : 0 < dss.length := by omega
        have hg0 : dss[0]? = some dss[0] := List.getElem?_eq_getElem hd0
        have hr0 : 0 < dss[0].length := by rw [(hrow 0 _ hg0).1]; exact hc.2.1
        obtain ⟨v0, hv0, _⟩ := hcell 0 _ hg0 0 dss[0][0] (List.getElem?_eq_getElem hr0)
        have ha : a.spot = none := by
          simp only [Nat.zero_mul, Addr.add, if_true] at hv0
          unfold World.cell? at hv0
          split at hv0
          · split at hv0
            · cases hv0
            · rename_i hsp; simpa using hsp
          · cases hv0
        obtain ⟨ab, aoff, asp⟩ := a
        simp only at ha
        subst ha
        have hadd : ∀ i j, ((⟨ab, aoff, none⟩ : Addr).add (i * P.cellsOf e)).add j = ⟨ab, aoff + i * P.cellsOf e + j, none⟩ := fun i j => by
          unfold Addr.add
          split <;> split <;> simp_all
        have hl' : dss.length = len := by omega
        refine cells_one ?_
        have hres : DRel w o (.sl (P.cellsOf e) dss) (.slice (some ⟨ab, aoff, none⟩) dss.length cap) :=
          .sl (P.cellsOf e) dss ab aoff cap (fun i j => (w.cell? ⟨ab, aoff + i * P.cellsOf e + j, none⟩).getD undef) (by omega)
            (by
              have := hv0
              rw [hadd] at this
              exact cell_lt this) (ho ab)
            (fun i r hr' => (hrow i r hr').1)
            (fun i j r x hr' hx => by
              obtain ⟨v, h1, _⟩ := hcell i r hr' j x hx
              rw [hadd] at h1
              rw [h1]; rfl)
            (fun i j r x hr' hx => by
              obtain ⟨v, h1, h2⟩ := hcell i r hr' j x hx
              rw [hadd] at h1
              rw [h1]; exact h2)
        rw [hl'] at hres
        exact hres
    · cases h

/-- A listed variable's row. -/
theorem var_row {n : Nat} {name : String} {d : DataW Unit} {g : Nat} {t : TypeId} {ds : List D} (hg : P.globalNamed name = some g) (ht : (P.globals[g]?).map (·.type) = some t) (hd : dsT P n t d = some ds) (hpos : 0 < ds.length)
    (hr : Lib.VarReads P w name d) (ho : ∀ b, ¬ o b) : GRow w o g ds := by
  obtain ⟨g', t', cs, fuel, p, hg', ht', hv, htr⟩ := hr
  obtain rfl := Option.some.inj (hg.symm.trans hg')
  obtain rfl := Option.some.inj (ht.symm.trans ht')
  have hc := trod_data (w := w) ho n _ _ _ hd fuel cs.toList p htr
  have hcell : ∀ (j : Nat) (x : D), ds[j]? = some x → w.cell? ⟨g, j, none⟩ = some (cs.toList[j]?.getD undef) := fun j x hx => by
    have hj : j < cs.toList.length := by rw [← hc.1]; exact (List.getElem?_eq_some_iff.1 hx).1
    rw [World.var?_cell hg hv j, List.getElem?_eq_getElem hj]
    simp
  refine ⟨?_, ho g, fun j => cs.toList[j]?.getD undef, hcell, fun j x hx => ?_⟩
  · have := hcell 0 _ (List.getElem?_eq_getElem hpos)
    exact cell_lt this
  · have hj : j < cs.toList.length := by rw [← hc.1]; exact (List.getElem?_eq_some_iff.1 hx).1
    refine hc.2 j x _ hx ?_
    show cs.toList[j]? = some (cs.toList[j]?.getD undef)
    rw [List.getElem?_eq_getElem hj, Option.getD_some]
end

/-- A row's cells as they lie in memory; a world in which variables hold such rows. -/
def valD : D → Value
  | .i k n => .int k n
  | .b t => .bool t
  | .s l => .string ⟨l.toArray⟩
  | .c v => v
  | .sl _ _ => undef
  | .m _ _ _ => undef
def putRow (h : Array Obj) (g : Nat) (row : List D) : Array Obj := h.modify g fun
  | .cells _ t frozen => .cells (row.map valD).toArray t frozen
  | o => o
/-- The same, where a row holds slices: each lies in a block of its own, behind the others. -/
def valS (b : Nat) (x : D × Nat) : Value := match x.1 with
  | .sl _ rows => .slice (some ⟨b + x.2, 0, none⟩) rows.length rows.length
  | d => valD d
def blkS (e : TypeId) : D → Obj
  | .sl _ rows => .cells (rows.flatten.map valD).toArray e (0, 0)
  | _ => .cells #[] e (0, 0)
def putRowS (h : Array Obj) (g : Nat) (e : TypeId) (row : List D) : Array Obj := (h.modify g fun
  | .cells _ t frozen => .cells (row.zipIdx.map (valS h.size)).toArray t frozen
  | o => o) ++ (row.map (blkS e)).toArray
end Go.Proofs.YtmalccaijjcepaaDoor.Ab
