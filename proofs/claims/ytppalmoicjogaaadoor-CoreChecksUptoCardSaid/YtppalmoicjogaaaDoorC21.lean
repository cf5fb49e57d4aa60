/- Relations: what the program and the reference check of them, in plain words. No condition. -/
import Derived.Test.YtppalmoicjogaaaDoorC19
import Derived.Test.YtppalmoicjogaaaDoorC20
import Derived.Test.YtppalmoicjogaaaDoorC17
set_option linter.all false
set_option linter.unusedSimpArgs false
set_option linter.unusedVariables false
namespace Go.Proofs.YtppalmoicjogaaaDoor
open Go Go.Proofs.YtppalmoicjogaaaDoor.Ab
variable [Glo]
structure Rl where
  cols : List (List UInt8)
  rows : List (List It)
  deriving DecidableEq
def rowD (l : List It) : List D := [.sl 3 (l.map itD)]
def rlV (r : Rl) : V := .ag [.d (.sl 1 (r.cols.map strRow)), .d (.sl 1 (r.rows.map rowD))]
def rlD (r : Rl) : List D := [.sl 1 (r.cols.map strRow), .sl 1 (r.rows.map rowD)]
def rl0 : Rl := ⟨[], []⟩
def rowFault (n : Nat) (row : List It) : Int := if row.length = n then (if row.all itemB = true then 0 else 12) else 9
def rowsFault (n : Nat) : List (List It) → Int
  | [] => 0
  | row :: rest => if rowFault n row = 0 then rowsFault n rest else rowFault n row
def relFault (r : Rl) : Int := if colsFault r.cols = 0 then (if r.rows.length ≤ 1000000 then rowsFault r.cols.length r.rows else 1) else colsFault r.cols
theorem rowsFault_next {n : Nat} {l : List (List It)} {i : Nat} {row : List It} (h : l[i]? = some row) : rowsFault n (l.drop i) = if rowFault n row = 0 then rowsFault n (l.drop (i + 1)) else rowFault n row := by
  rw [drop_of_get h, rowsFault]
theorem relFault_ok {r : Rl} (h : relFault r = 0) : colsFault r.cols = 0 ∧ r.rows.length ≤ 1000000 ∧ ∀ row, row ∈ r.rows → row.length = r.cols.length ∧ row.all itemB = true := by
  unfold relFault at h
  split at h
  · rename_i h1
    split at h
    · rename_i h2
      refine ⟨h1, h2, ?_⟩
      clear h1 h2
      generalize r.cols.length = n at h ⊢
      generalize r.rows = l at h ⊢
      induction l with
      | nil => intro row hr; cases hr
      | cons x l ih =>
        rw [rowsFault] at h
        split at h
        · rename_i h0
          intro row hr
          rcases List.mem_cons.1 hr with rfl | hr
          · unfold rowFault at h0
            split at h0
            · rename_i hl
              split at h0
              · rename_i ha
                exact ⟨hl, ha⟩
              · omega
            · omega
          · exact ih h row hr
        · contradiction
    · omega
  · contradiction
structure ShR (r : Rl) : Prop where
  ncols : r.cols.length ≤ 1048576
  nrows : r.rows.length ≤ 1048576
  col : ∀ s, s ∈ r.cols → s.length ≤ 1048576
  row : ∀ row, row ∈ r.rows → row.length ≤ 1048576
  it : ∀ row, row ∈ r.rows → ∀ x, x ∈ row → x.s.length ≤ 1048576
abbrev tyRl : Ty := .cons (.sl .s) (.cons (.sl (.sl tyIt)) .nil)
theorem typed_strs {ds : List D} {m : Nat} (h : Typed (.sl .s) ds m) : ∃ l : List (List UInt8), ds = [.sl 1 (l.map strRow)] ∧ l.length ≤ m ∧ ∀ s, s ∈ l → s.length ≤ m := by
  obtain ⟨xs, ws, rfl, h1, h2, h3⟩ := typed_list (f := strRow) (p := fun (x : List UInt8) m => x.length + 1 ≤ m) (fun ds m h => by
    obtain ⟨s, rfl, hs⟩ := typed_s h
    exact ⟨s, rfl, by omega⟩) h
  have hw : ∀ (i : Nat) (x : List UInt8), xs[i]? = some x → ∃ w, ws[i]? = some w ∧ x.length + 1 ≤ w := fun i x hx => by
    have := lt_of_get hx
    obtain ⟨w, hw⟩ : ∃ w, ws[i]? = some w := ⟨ws[i]'(by omega), List.getElem?_eq_getElem (by omega)⟩
    exact ⟨w, hw, h3 i x w hx hw⟩
  refine ⟨xs, rfl, ?_, fun s hs => ?_⟩
  · have := len_sum (ws := ws) 1 fun i w hw' => by
      have hi : i < ws.length := lt_of_get hw'
      have := h3 i _ w (List.getElem?_eq_getElem (by omega)) hw'
      omega
    omega
  · obtain ⟨i, hi, rfl⟩ := List.mem_iff_getElem.1 hs
    obtain ⟨w, hw', h⟩ := hw i _ (List.getElem?_eq_getElem hi)
    have := le_sum hw'
    omega
theorem typed_its {ds : List D} {m : Nat} (h : Typed (.sl tyIt) ds m) : ∃ l : List It, ds = rowD l ∧ l.length + 1 ≤ m ∧ ∀ x, x ∈ l → x.s.length ≤ m ∧ inR .i64 x.n ∧ inR .i64 x.k := by
  obtain ⟨xs, ws, rfl, h1, h2, h3⟩ := typed_list (f := itD) (p := fun (x : It) m => x.s.length + 3 ≤ m ∧ inR .i64 x.n ∧ inR .i64 x.k) (fun ds m h => typed_it h) h
  refine ⟨xs, rfl, ?_, fun s hs => ?_⟩
  · have := len_sum (ws := ws) 1 fun i w hw' => by
      have hi : i < ws.length := lt_of_get hw'
      have := h3 i _ w (List.getElem?_eq_getElem (by omega)) hw'
      omega
    omega
  · obtain ⟨i, hi, rfl⟩ := List.mem_iff_getElem.1 hs
    obtain ⟨w, hw'⟩ : ∃ w, ws[i]? = some w := ⟨ws[i]'(by omega), List.getElem?_eq_getElem (by omega)⟩
    have g := h3 i _ w (List.getElem?_eq_getElem hi) hw'
    have := le_sum hw'
    exact ⟨by omega, g.2⟩
theorem typed_rl {ds : List D} {m : Nat} (hm : m ≤ 1048576) (h : Typed tyRl ds m) : ∃ r : Rl, ds = rlD r ∧ ShR r := by
  obtain ⟨_, _, _, _, rfl, e1, h1, g1⟩ := typed_cons h
  obtain ⟨_, _, _, _, rfl, e2, h2, g2⟩ := typed_cons g1
  obtain rfl := typed_nil g2
  obtain ⟨cols, rfl, c1, c2⟩ := typed_strs h1
  obtain ⟨rows, ws, rfl, k1, k2, k3⟩ := typed_list (f := rowD) (p := fun (l : List It) m => l.length + 1 ≤ m ∧ ∀ x, x ∈ l → x.s.length ≤ m) (fun ds m h => by
    obtain ⟨l, rfl, h1, h2⟩ := typed_its h
    exact ⟨l, rfl, h1, fun x hx => (h2 x hx).1⟩) h2
  have hw : ∀ row, row ∈ rows → ∃ w, w ≤ ws.sum ∧ row.length + 1 ≤ w ∧ ∀ x, x ∈ row → x.s.length ≤ w := fun row hr => by
    obtain ⟨i, hi, rfl⟩ := List.mem_iff_getElem.1 hr
    obtain ⟨w, hw⟩ : ∃ w, ws[i]? = some w := ⟨ws[i]'(by omega), List.getElem?_eq_getElem (by omega)⟩
    exact ⟨w, le_sum hw, k3 i _ w (List.getElem?_eq_getElem hi) hw⟩
  refine ⟨⟨cols, rows⟩, rfl, ⟨by simp only []; omega, ?_, fun s hs => ?_, fun row hr => ?_, fun row hr x hx => ?_⟩⟩
  · have := len_sum (ws := ws) 1 fun i w hw' => by
      have hi : i < ws.length := lt_of_get hw'
      have := (k3 i _ w (List.getElem?_eq_getElem (by omega)) hw').1
      omega
    simp only []
    omega
  · have := c2 s hs; omega
  · obtain ⟨w, a, b, c⟩ := hw row hr; omega
  · obtain ⟨w, a, b, c⟩ := hw row hr
    have := c x hx; omega
theorem ShR.get {r : Rl} (h : ShR r) {i : Nat} {row : List It} (hr : r.rows[i]? = some row) : row.length ≤ 1048576 ∧ ∀ x, x ∈ row → x.s.length ≤ 1048576 := ⟨h.row row (List.mem_of_getElem? hr), h.it row (List.mem_of_getElem? hr)⟩
end Go.Proofs.YtppalmoicjogaaaDoor
namespace Go.Proofs.YtppalmoicjogaaaDoor
open Go Go.Proofs.YtppalmoicjogaaaDoor.Ab
variable [Glo]
structure Opp where
  kind : Int
  inn : List Int
  new : List UInt8
  cols : List (List UInt8)
  olds : List (List UInt8)
  part : List UInt8
  name : List UInt8
  n : Int
  axis : Int
  tk : Int
  tn : List UInt8
  rel : Rl
def inR1 (z : Int) : List D := [.i .i64 z]
def opD (o : Opp) : List D := [.i .i64 o.kind, .sl 1 (o.inn.map inR1), .s o.new, .sl 1 (o.cols.map strRow), .sl 1 (o.olds.map strRow), .s o.part, .s o.name, .i .i64 o.n, .i .i64 o.axis, .i .i64 o.tk, .s o.tn, .sl 1 (o.rel.cols.map strRow), .sl 1 (o.rel.rows.map rowD)]
def opV (o : Opp) : V := .ag ((opD o).map .d)
def sIter : List UInt8 := [105, 116, 101, 114]
def sPos : List UInt8 := [112, 111, 115]
def sItem : List UInt8 := [105, 116, 101, 109]
def sAggs : List (List UInt8) := [[99, 111, 117, 110, 116], [115, 117, 109], [109, 105, 110], [109, 97, 120]]
def arE : List (List UInt8 × Int) := [([33, 61], 2), ([42], 2), ([43], 2), ([45], 2), ([60], 2), ([60, 60], 2), ([60, 61], 2), ([61], 2), ([62], 2), ([62, 61], 2), ([62, 62], 2), ([97, 110, 100], 2), ([99, 111, 110, 99, 97, 116], 2), ([99, 111, 110, 116, 97, 105, 110, 115], 2), ([100, 97, 116, 97], 1), ([100, 105, 118], 2), ([101, 98, 118], 2), ([104, 111, 108, 100, 115], 3), ([105, 110, 116, 101, 103, 101, 114], 1), ([105, 115], 2), ([108, 101, 110, 103, 116, 104], 1), ([109, 111, 100], 2), ([110, 97, 109, 101], 1), ([110, 101, 103], 1), ([110, 111, 100, 101], 1), ([110, 111, 116], 1), ([111, 110, 101], 1), ([111, 114], 2), ([115, 112, 97, 110], 2), ([115, 116, 97, 114, 116, 115], 2), ([115, 116, 114, 105, 110, 103], 1), ([115, 117, 98, 115, 116, 114, 105, 110, 103], 3)]
theorem arE_nodup : (arE.map (·.1)).Nodup := by decide
def inCnt (k : Int) : Nat := if k = 1 ∨ k = 14 then 0 else if k = 4 ∨ k = 5 ∨ k = 6 ∨ k = 7 ∨ k = 13 then 2 else 1
def inputsRow : List D := ([0, 0, 1, 1, 2, 2, 2, 2, 1, 1, 1, 1, 1, 2, 0, 1] : List Int).map fun n => .i .i64 n
theorem inputs_get (k : Int) (h1 : 1 ≤ k) (h2 : k ≤ 15) : inputsRow[k.toNat]? = some (.i .i64 (inCnt k)) := by
  have : k = 1 ∨ k = 2 ∨ k = 3 ∨ k = 4 ∨ k = 5 ∨ k = 6 ∨ k = 7 ∨ k = 8 ∨ k = 9 ∨ k = 10 ∨ k = 11 ∨ k = 12 ∨ k = 13 ∨ k = 14 ∨ k = 15 := by omega
  rcases this with h | h | h | h | h | h | h | h | h | h | h | h | h | h | h <;> subst h <;> rfl
def hasQ (cols l : List (List UInt8)) : Bool := l.all fun s => decide (s ∈ cols)
def nodeIn (r : Rl) : Bool := r.rows.any fun row => row.any fun x => decide (x.k = 1)
def okC (t : Bool) (l : List (List UInt8)) : Int × List (List UInt8) := if t = true then (0, l) else (9, [])
def opCols (o : Opp) (a b : List (List UInt8)) : Int × List (List UInt8) :=
  if o.kind = 1 then (if relFault o.rel ≠ 0 then (relFault o.rel, []) else if nodeIn o.rel = true then (12, []) else (0, o.rel.cols))
  else if o.kind = 2 then okC (decide (o.cols.length = o.olds.length) && hasQ a o.olds) o.cols
  else if o.kind = 3 then okC (decide (o.cols.length = 1) && hasQ a o.cols) a
  else if o.kind = 4 then okC (decide (o.cols.length = 2) && (hasQ a (o.cols.take 1) && hasQ b (o.cols.drop 1))) (a ++ b)
  else if o.kind = 5 then (0, a ++ b)
  else if o.kind = 6 then okC (decide (a = b)) a
  else if o.kind = 7 then okC (hasQ a o.cols && hasQ b o.cols) a
  else if o.kind = 8 ∨ o.kind = 15 then okC (hasQ a o.cols) a
  else if o.kind = 9 then okC (hasQ a o.cols && (decide (o.part = []) || decide (o.part ∈ a))) (a ++ [o.new])
  else if o.kind = 10 then (if o.name ∈ sAggs then okC (decide (o.cols.length = 1) && (hasQ a (o.cols.take 1) && decide (o.part ∈ a))) [o.part, o.new] else (6, []))
  else if o.kind = 11 then (match lookE arE o.name with
    | some n => okC (decide (n = o.cols.length) && hasQ a o.cols) (a ++ [o.new])
    | none => (6, []))
  else if o.kind = 12 then (if 1 ≤ o.axis ∧ o.axis ≤ 12 ∧ 1 ≤ o.tk ∧ o.tk ≤ 5 then okC (hasQ a [sIter, sItem]) [sIter, sItem] else (3, []))
  else if o.kind = 13 then (if o.n = 1 ∨ o.n = 2 ∨ o.n = 3 then (if o.n ≠ 3 ∧ nameFault o.name ≠ 0 then (nameFault o.name, []) else okC (decide (sIter ∈ a) && hasQ b [sIter, sPos, sItem]) [sIter, sItem]) else (3, []))
  else (0, [sItem])
def namedQ (r : Int × List (List UInt8)) : Int × List (List UInt8) := if r.1 = 0 then (if colsFault r.2 = 0 then r else (colsFault r.2, [])) else (r.1, [])
def colsQ (o : Opp) (a b : List (List UInt8)) : Int × List (List UInt8) := namedQ (opCols o a b)
def inAt (out : List (List (List UInt8))) (inn : List Int) (k : Nat) : List (List UInt8) := match inn[k]? with | some n => (out[n.toNat]?).getD [] | none => []
def stepQ (out : List (List (List UInt8))) (o : Opp) : Int × List (List UInt8) :=
  if 1 ≤ o.kind ∧ o.kind ≤ 15 then (if o.inn.length = inCnt o.kind then (if (o.inn.all fun n => decide (0 ≤ n ∧ n < out.length)) = true then colsQ o (inAt out o.inn 0) (inAt out o.inn 1) else (2, [])) else (11, [])) else (3, [])
def planQ : List Opp → List (List (List UInt8)) → Int × List (List (List UInt8))
  | [], out => (0, out)
  | o :: r, out => if (stepQ out o).1 = 0 then planQ r (out ++ [(stepQ out o).2]) else ((stepQ out o).1, [])
def columnsQ (p : List Opp) : Int × List (List (List UInt8)) :=
  if 200000 < p.length then (1, []) else if p = [] then (5, []) else
    if (planQ p []).1 = 0 then (if hasQ ((planQ p []).2.getLastD []) [sPos, sItem] = true then planQ p [] else (9, [])) else ((planQ p []).1, [])
theorem okC_cases (t : Bool) (l : List (List UInt8)) : (t = true ∧ okC t l = (0, l)) ∨ (t = false ∧ okC t l = (9, [])) := by
  cases t
  · exact .inr ⟨rfl, rfl⟩
  · exact .inl ⟨rfl, rfl⟩
theorem colsQ_ok {o : Opp} {a b : List (List UInt8)} (h : (colsQ o a b).1 = 0) : colsFault (colsQ o a b).2 = 0 := by
  unfold colsQ namedQ at h ⊢
  split at h
  · rename_i h1
    rw [if_pos h1]
    split at h
    · rename_i h2
      rw [if_pos h2]; exact h2
    · rename_i h2
      exact absurd h h2
  · rename_i h1
    exact absurd h h1
theorem colsFault_short {l : List (List UInt8)} (h : colsFault l = 0) : l.length ≤ 8 := by
  unfold colsFault at h
  split at h
  · assumption
  · omega
theorem relCols (c : List (List UInt8)) : relFault ⟨c, []⟩ = colsFault c := by
  unfold relFault
  split
  · rename_i h
    rw [if_pos (by simp)]
    rw [h]; rfl
  · rfl
theorem planQ_next {p : List Opp} {i : Nat} {o : Opp} {out : List (List (List UInt8))} (h : p[i]? = some o) : planQ (p.drop i) out = if (stepQ out o).1 = 0 then planQ (p.drop (i + 1)) (out ++ [(stepQ out o).2]) else ((stepQ out o).1, []) := by
  rw [drop_of_get h, planQ]
theorem planQ_end (p : List Opp) (out : List (List (List UInt8))) : planQ (p.drop p.length) out = (0, out) := by rw [List.drop_length]; rfl
theorem stepQ_ok {out : List (List (List UInt8))} {o : Opp} (h : (stepQ out o).1 = 0) : colsFault (stepQ out o).2 = 0 := by
  unfold stepQ at h ⊢
  split at h
  · rename_i h1
    rw [if_pos h1]
    split at h
    · rename_i h2
      rw [if_pos h2]
      split at h
      · rename_i h3
        rw [if_pos h3]
        exact colsQ_ok h
      · contradiction
    · contradiction
  · contradiction
end Go.Proofs.YtppalmoicjogaaaDoor
