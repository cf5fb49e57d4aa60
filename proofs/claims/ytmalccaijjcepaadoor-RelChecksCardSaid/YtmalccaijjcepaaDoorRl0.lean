/- Relations: what the program and the reference check of them, in plain words. No condition. -/
import Derived.Test.YtmalccaijjcepaaDoorRel2
import Derived.Test.YtmalccaijjcepaaDoorRn
set_option linter.all false
set_option linter.unusedSimpArgs false
set_option linter.unusedVariables false
namespace Go.Proofs.YtmalccaijjcepaaDoor
open Go Go.Proofs.YtmalccaijjcepaaDoor.Ab
variable [Glo]
/-- A relation: names of columns, and rows of items. -/
structure Rl where
  cols : List (List UInt8)
  rows : List (List It)
  deriving DecidableEq
def rowD (l : List It) : List D := [.sl 3 (l.map itD)]
def rlV (r : Rl) : V := .ag [.d (.sl 1 (r.cols.map strRow)), .d (.sl 1 (r.rows.map rowD))]
def rlD (r : Rl) : List D := [.sl 1 (r.cols.map strRow), .sl 1 (r.rows.map rowD)]
def rl0 : Rl := ⟨[], []⟩

def rowFault (n : Nat) (row : List It) : Int := if row.length = n then (if row.all itemB = true then 0 else 12) else 9
def rowsFault (n : Nat) : List (List It) → Int
  | [] => 0
  | row :: rest => if rowFault n row = 0 then rowsFault n rest else rowFault n row
def relFault (r : Rl) : Int := if colsFault r.cols = 0 then (if r.rows.length ≤ 1000000 then rowsFault r.cols.length r.rows else 1) else colsFault r.cols
theorem rowsFault_next {n : Nat} {l : List (List It)} {i : Nat} {row : List It} (h : l[i]? = some row) : rowsFault n (l.drop i) = if rowFault n row = 0 then rowsFault n (l.drop (i + 1)) else rowFault n row := by
  rw [drop_of_get h, rowsFault]
theorem relFault_ok {r : Rl} (h : relFault r = 0) : colsFault r.cols = 0 ∧ r.rows.length ≤ 1000000 ∧ ∀ row, row ∈ r.rows → row.length = r.cols.length ∧ row.all itemB = true := by
  unfold relFault at h
  split at h
  · rename_i h1
    split at h
    · rename_i h2
      refine ⟨h1, h2, ?_⟩
      clear h1 h2
      generalize r.cols.length = n at h ⊢
      generalize r.rows = l at h ⊢
      induction l with
      | nil => intro row hr; cases hr
      | cons x l ih =>
        rw [rowsFault] at h
        split at h
        · rename_i h0
          intro row hr
          rcases List.mem_cons.1 hr with rfl | hr
          · unfold rowFault at h0
            split at h0
            · rename_i hl
              split at h0
              · rename_i ha
                exact ⟨hl, ha⟩
              · omega
            · omega
          · exact ih h row hr
        · contradiction
    · omega
  · contradiction
/-- Texts and lists within are no longer than memory. -/
structure ShR (r : Rl) : Prop where
  ncols : r.cols.length * 16 ≤ 140737488351232
  nrows : r.rows.length * 24 ≤ 140737488351232
  col : ∀ s, s ∈ r.cols → s.length ≤ 9223372036854775807
  row : ∀ row, row ∈ r.rows → row.length * 32 ≤ 140737488351232
  it : ∀ row, row ∈ r.rows → ∀ x, x ∈ row → x.s.length ≤ 9223372036854775807
abbrev tyRl : Ty := .cons (.sl .s) (.cons (.sl (.sl tyIt)) .nil)
theorem typed_strs {ds : List D} {m : Nat} (h : Typed (.sl .s) ds m) : ∃ l : List (List UInt8), ds = [.sl 1 (l.map strRow)] ∧ l.length ≤ m ∧ ∀ s, s ∈ l → s.length ≤ m := by
  obtain ⟨xs, ws, rfl, h1, h2, h3⟩ := typed_list (f := strRow) (p := fun (x : List UInt8) m => x.length + 1 ≤ m) (fun ds m h => by
    obtain ⟨s, rfl, hs⟩ := typed_s h
    exact ⟨s, rfl, by omega⟩) h
  have hw : ∀ (i : Nat) (x : List UInt8), xs[i]? = some x → ∃ w, ws[i]? = some w ∧ x.length + 1 ≤ w := fun i x hx => by
    have := lt_of_get hx
    obtain ⟨w, hw⟩ : ∃ w, ws[i]? = some w := ⟨ws[i]'(by omega), List.getElem?_eq_getElem (by omega)⟩
    exact ⟨w, hw, h3 i x w hx hw⟩
  refine ⟨xs, rfl, ?_, fun s hs => ?_⟩
  · have := len_sum (ws := ws) 1 fun i w hw' => by
      have hi : i < ws.length := lt_of_get hw'
      have := h3 i _ w (List.getElem?_eq_getElem (by omega)) hw'
      omega
    omega
  · obtain ⟨i, hi, rfl⟩ := List.mem_iff_getElem.1 hs
    obtain ⟨w, hw', h⟩ := hw i _ (List.getElem?_eq_getElem hi)
    have := le_sum hw'
    omega
theorem typed_its {ds : List D} {m : Nat} (h : Typed (.sl tyIt) ds m) : ∃ l : List It, ds = rowD l ∧ l.length + 1 ≤ m ∧ ∀ x, x ∈ l → x.s.length ≤ m ∧ inR .i64 x.n ∧ inR .i64 x.k := by
  obtain ⟨xs, ws, rfl, h1, h2, h3⟩ := typed_list (f := itD) (p := fun (x : It) m => x.s.length + 3 ≤ m ∧ inR .i64 x.n ∧ inR .i64 x.k) (fun ds m h => typed_it h) h
  refine ⟨xs, rfl, ?_, fun s hs => ?_⟩
  · have := len_sum (ws := ws) 1 fun i w hw' => by
      have hi : i < ws.length := lt_of_get hw'
      have := h3 i _ w (List.getElem?_eq_getElem (by omega)) hw'
      omega
    omega
  · obtain ⟨i, hi, rfl⟩ := List.mem_iff_getElem.1 hs
    obtain ⟨w, hw'⟩ : ∃ w, ws[i]? = some w := ⟨ws[i]'(by omega), List.getElem?_eq_getElem (by omega)⟩
    have g := h3 i _ w (List.getElem?_eq_getElem hi) hw'
    have := le_sum hw'
    exact ⟨by omega, g.2⟩
theorem typed_rl {ds : List D} {m : Nat} (hm : m ≤ 1048576) (h : Typed tyRl ds m) : ∃ r : Rl, ds = rlD r ∧ ShR r := by
  obtain ⟨_, _, _, _, rfl, e1, h1, g1⟩ := typed_cons h
  obtain ⟨_, _, _, _, rfl, e2, h2, g2⟩ := typed_cons g1
  obtain rfl := typed_nil g2
  obtain ⟨cols, rfl, c1, c2⟩ := typed_strs h1
  obtain ⟨rows, ws, rfl, k1, k2, k3⟩ := typed_list (f := rowD) (p := fun (l : List It) m => l.length + 1 ≤ m ∧ ∀ x, x ∈ l → x.s.length ≤ m) (fun ds m h => by
    obtain ⟨l, rfl, h1, h2⟩ := typed_its h
    exact ⟨l, rfl, h1, fun x hx => (h2 x hx).1⟩) h2
  have hw : ∀ row, row ∈ rows → ∃ w, w ≤ ws.sum ∧ row.length + 1 ≤ w ∧ ∀ x, x ∈ row → x.s.length ≤ w := fun row hr => by
    obtain ⟨i, hi, rfl⟩ := List.mem_iff_getElem.1 hr
    obtain ⟨w, hw⟩ : ∃ w, ws[i]? = some w := ⟨ws[i]'(by omega), List.getElem?_eq_getElem (by omega)⟩
    exact ⟨w, le_sum hw, k3 i _ w (List.getElem?_eq_getElem hi) hw⟩
  refine ⟨⟨cols, rows⟩, rfl, ⟨by simp only []; omega, ?_, fun s hs => ?_, fun row hr => ?_, fun row hr x hx => ?_⟩⟩
  · have := len_sum (ws := ws) 1 fun i w hw' => by
      have hi : i < ws.length := lt_of_get hw'
      have := (k3 i _ w (List.getElem?_eq_getElem (by omega)) hw').1
      omega
    simp only []
    omega
  · have := c2 s hs; omega
  · obtain ⟨w, a, b, c⟩ := hw row hr; omega
  · obtain ⟨w, a, b, c⟩ := hw row hr
    have := c x hx; omega
theorem ShR.get {r : Rl} (h : ShR r) {i : Nat} {row : List It} (hr : r.rows[i]? = some row) : row.length * 32 ≤ 140737488351232 ∧ ∀ x, x ∈ row → x.s.length ≤ 9223372036854775807 := ⟨h.row row (List.mem_of_getElem? hr), h.it row (List.mem_of_getElem? hr)⟩
end Go.Proofs.YtmalccaijjcepaaDoor
