/- What is made of each part's items: in plain words. No condition. -/
import Derived.Test.YtafbojmnmadlpaaDoorJn0
set_option linter.all false
set_option linter.unusedSimpArgs false
set_option linter.unusedVariables false
namespace Go.Proofs.YtafbojmnmadlpaaDoor
open Go Go.Proofs.YtafbojmnmadlpaaDoor.Ab
variable [Glo] [U8]
def cntT : List UInt8 := [99, 111, 117, 110, 116]
def sumT : List UInt8 := [115, 117, 109]
def minT : List UInt8 := [109, 105, 110]
def maxT : List UInt8 := [109, 97, 120]
def aggStep (w : List UInt8) (x : It) (first : Bool) (n : Int) : Option Int :=
  if w = cntT then some (n + 1)
  else if x.k = 2 then
    (if w = sumT then (if n + x.n ≤ 1099511627776 ∧ -1099511627776 ≤ n + x.n then some (n + x.n) else none)
     else if first = true ∨ (w = minT ∧ x.n < n) ∨ (w = maxT ∧ n < x.n) then some x.n else some n)
  else none
def aggGo (w : List UInt8) : List It → Bool → Int → Option Int
  | [], _, n => some n
  | x :: l, f, n => match aggStep w x f n with | some m => aggGo w l false m | none => none
def aggOf (w : List UInt8) (l : List It) : Option Int := aggGo w l true 0
theorem aggGo_next {w : List UInt8} {l : List It} {i : Nat} {x : It} {f : Bool} {n : Int} (h : l[i]? = some x) : aggGo w (l.drop i) f n = match aggStep w x f n with | some m => aggGo w (l.drop (i + 1)) false m | none => none := by
  rw [drop_of_get h, aggGo]
theorem aggGo_cnt : ∀ (l : List It) (f : Bool) (n : Int), aggGo cntT l f n = some (n + l.length)
  | [], f, n => by simp [aggGo]
  | x :: l, f, n => by
    rw [aggGo, aggStep, if_pos rfl]
    simp only []
    rw [aggGo_cnt l, List.length_cons]
    congr 1
    omega
def aggRow (k : It) (n : Int) : List It := [k, ⟨2, n, []⟩]
/-- A row for each key; none: there is no aggregate. -/
def grpGo (w : List UInt8) (val : It → List It) : List It → List (List It) → Option (List (List It))
  | [], acc => some acc
  | k :: ks, acc => match aggOf w (val k) with | some n => grpGo w val ks (acc ++ [aggRow k n]) | none => none
theorem grpGo_next {w : List UInt8} {val : It → List It} {l : List It} {i : Nat} {k : It} {acc : List (List It)} (h : l[i]? = some k) : grpGo w val (l.drop i) acc = match aggOf w (val k) with | some n => grpGo w val (l.drop (i + 1)) (acc ++ [aggRow k n]) | none => none := by
  rw [drop_of_get h, grpGo]
theorem grpGo_app {w : List UInt8} {val : It → List It} : ∀ (l m : List It) (acc : List (List It)), grpGo w val (l ++ m) acc = match grpGo w val l acc with | some a => grpGo w val m a | none => none
  | [], m, acc => rfl
  | k :: l, m, acc => by
    rw [List.cons_append, grpGo, grpGo]
    cases aggOf w (val k) with
    | none => rfl
    | some n => exact grpGo_app l m _
theorem grpGo_len {w : List UInt8} {val : It → List It} : ∀ (l : List It) (acc out : List (List It)), grpGo w val l acc = some out → out.length = acc.length + l.length ∧ ((∀ r, r ∈ acc → r.length = 2) → ∀ r, r ∈ out → r.length = 2)
  | [], acc, out, h => by cases h; exact ⟨by simp, fun h => h⟩
  | k :: l, acc, out, h => by
    rw [grpGo] at h
    cases hw : aggOf w (val k) with
    | none => rw [hw] at h; cases h
    | some n =>
      rw [hw] at h
      obtain ⟨h1, h2⟩ := grpGo_len l _ _ h
      refine ⟨by rw [h1]; simp; omega, fun ha => h2 fun r hr => ?_⟩
      rcases List.mem_append.1 hr with hr | hr
      · exact ha r hr
      · simp at hr; subst hr; rfl
/-- Keys with their items. -/
def grpPairs (p q : Nat) (rows : List (List It)) : List (It × It) := rows.map fun row => (rg row p, rg row q)
theorem grpPairs_take {p q : Nat} {rows : List (List It)} {i : Nat} {row : List It} (h : rows[i]? = some row) : grpPairs p q (rows.take (i + 1)) = grpPairs p q (rows.take i) ++ [(rg row p, rg row q)] := by
  rw [take_of_get h]; simp [grpPairs]
def grpKeys (p q : Nat) (rows : List (List It)) : List It := (allG (grpPairs p q rows)).map (·.1)
theorem grpKeys_take {p q : Nat} {rows : List (List It)} {i : Nat} {row : List It} (h : rows[i]? = some row) : grpKeys p q (rows.take (i + 1)) = if rg row p ∈ grpKeys p q (rows.take i) then grpKeys p q (rows.take i) else grpKeys p q (rows.take i) ++ [rg row p] := by
  rw [grpKeys, grpPairs_take h, allG_app, putG_keys]
  rfl
theorem grpKeys_pre (p q : Nat) (rows : List (List It)) (i : Nat) : ∃ rest, grpKeys p q rows = grpKeys p q (rows.take i) ++ rest := by
  have gen : ∀ (L : List (It × It)) (G : List (It × List It)), ∃ rest, (L.foldl (fun G p => putG G p.1 p.2) G).map (·.1) = G.map (·.1) ++ rest := fun L => by
    induction L with
    | nil => exact fun G => ⟨[], by simp⟩
    | cons x L ih =>
      intro G
      obtain ⟨r, hr⟩ := ih (putG G x.1 x.2)
      rw [List.foldl_cons, hr, putG_keys]
      split
      · exact ⟨r, rfl⟩
      · exact ⟨x.1 :: r, by simp⟩
  obtain ⟨r, hr⟩ := gen (grpPairs p q (rows.drop i)) (allG (grpPairs p q (rows.take i)))
  refine ⟨r, ?_⟩
  rw [grpKeys, grpKeys, ← hr, allG, allG, ← List.foldl_append]
  simp only [grpPairs]
  rw [← List.map_append, List.take_append_drop]
theorem grpKeys_mem (p q : Nat) (rows : List (List It)) (k : It) : k ∈ grpKeys p q rows ↔ ∃ row, row ∈ rows ∧ rg row p = k := by
  have gen : ∀ (L : List (It × It)) (G : List (It × List It)), k ∈ (L.foldl (fun G p => putG G p.1 p.2) G).map (·.1) ↔ k ∈ G.map (·.1) ∨ k ∈ L.map (·.1) := fun L => by
    induction L with
    | nil => intro G; simp
    | cons x L ih =>
      intro G
      rw [List.foldl_cons, ih, putG_keys]
      split
      · rename_i hm
        constructor
        · rintro (h | h)
          · exact .inl h
          · exact .inr (by simp [h])
        · rintro (h | h)
          · exact .inl h
          · rw [List.map_cons, List.mem_cons] at h
            rcases h with rfl | h
            · exact .inl hm
            · exact .inr h
      · rw [List.mem_append, List.mem_singleton, List.map_cons, List.mem_cons, or_assoc]
  rw [grpKeys, allG, gen]
  simp [grpPairs]
def grpVal (p q : Nat) (rows : List (List It)) (k : It) : List It := valG (allG (grpPairs p q rows)) k
theorem grpVal_eq (p q : Nat) (rows : List (List It)) (k : It) : grpVal p q rows k = (rows.filter fun row => decide (rg row p = k)).map fun row => rg row q := by
  rw [grpVal, allG_val, grpPairs, List.filter_map, List.map_map]
  rfl
theorem grpVal_len (p q : Nat) (rows : List (List It)) (k : It) : (grpVal p q rows k).length ≤ rows.length := by
  rw [grpVal_eq, List.length_map]; exact List.length_filter_le _ _
theorem grpKeys_len (p q : Nat) (rows : List (List It)) : (grpKeys p q rows).length ≤ rows.length := by
  have gen : ∀ (L : List (It × It)) (G : List (It × List It)), (L.foldl (fun G p => putG G p.1 p.2) G).length ≤ G.length + L.length := fun L => by
    induction L with
    | nil => intro G; simp
    | cons x L ih =>
      intro G
      have := ih (putG G x.1 x.2)
      have := putG_len G x.1 x.2
      rw [List.foldl_cons, List.length_cons]
      omega
  have := gen (grpPairs p q rows) []
  rw [grpKeys, List.length_map, allG]
  simpa [grpPairs] using this
def whichB (w : List UInt8) : Bool := decide (w = cntT ∨ w = sumT ∨ w = minT ∨ w = maxT)
def grouped (r : Rl) (name part which col : List UInt8) : Rl × Int :=
  if relFault r = 0 then (if whichB which = true then (if txtAt r.cols part < 0 ∨ txtAt r.cols col < 0 then (rl0, 9) else
    match grpGo which (grpVal (txtAt r.cols part).toNat (txtAt r.cols col).toNat r.rows) (grpKeys (txtAt r.cols part).toNat (txtAt r.cols col).toNat r.rows) [] with
    | some rows => (made [part, name] rows, madeFault [part, name] rows.length)
    | none => (rl0, 12)) else (rl0, 6)) else (rl0, relFault r)
theorem grouped_sh {r : Rl} (hS : ShR r) (name part which col : List UInt8) : (grouped r name part which col).1.cols.length ≤ 9223372036854775807 ∧ (grouped r name part which col).1.rows.length ≤ 9223372036854775807 ∧ ∀ l, l ∈ (grouped r name part which col).1.rows → l.length ≤ 9223372036854775807 := by
  have q2 := hS.nrows
  unfold grouped
  split
  · split
    · split
      · exact rl0_sh
      · split
        · rename_i rows hg
          obtain ⟨h1, h2⟩ := grpGo_len _ _ _ hg
          have h3 := grpKeys_len (txtAt r.cols part).toNat (txtAt r.cols col).toNat r.rows
          refine made_sh (by simp) (by simp at h1; omega) fun l hl => ?_
          rw [h2 (by simp) l hl]
          decide
        · exact rl0_sh
    · exact rl0_sh
  · exact rl0_sh
end Go.Proofs.YtafbojmnmadlpaaDoor
