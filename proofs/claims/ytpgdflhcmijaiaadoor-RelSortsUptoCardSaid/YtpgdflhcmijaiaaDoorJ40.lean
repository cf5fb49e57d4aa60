/- Small laws on relations that are made. No condition. -/
import Derived.Test.YtpgdflhcmijaiaaDoorJ39
set_option linter.all false
set_option linter.unusedSimpArgs false
set_option linter.unusedVariables false
namespace Go.Proofs.YtpgdflhcmijaiaaDoor
open Go Go.Proofs.YtpgdflhcmijaiaaDoor.Ab
variable [Glo] [U8]
def it0 : It := ⟨0, 0, []⟩
def rg (l : List It) (c : Nat) : It := (l[c]?).getD it0
theorem rg_get {l : List It} {c : Nat} {x : It} (h : l[c]? = some x) : rg l c = x := by simp [rg, h]
theorem places_one (cols : List (List UInt8)) (s : List UInt8) : places cols [s] = if txtAt cols s < 0 then none else some [txtAt cols s] := by
  unfold places placesGo placesGo
  rfl
theorem obBel_rows (m ver e sz : Nat) (xs : List (List It)) : ObBel m (.row ver e sz (xs.map rowC)) := obBel_map rowD m ver e sz xs
theorem bel_nil2 (m : Nat) (ver e : Nat) : ObBel m (.row ver e 2 [[.d (.c (.slice none 0 0)), .d (.c (.slice none 0 0))]]) := by
  intro row hr v hv
  simp at hr
  subst hr
  simp at hv
  subst hv
  exact .d _
theorem fin_ret {H G : Heap} {K : V → Heap → Prop} {cols : List (List UInt8)} {acc : List (List It)} {id ver e : Nat} (hk : K (relE (made cols acc) (madeFault cols acc.length)) H) (hf : madeFault cols acc.length = 0) (hid : H.length ≤ id) (hr : (H ++ G)[id]? = some (.row ver e 1 (acc.map rowC))) :
    RetK H K (.tu [.ag [.d (.sl 1 (cols.map strRow)), .os id ver], .d (.i .i64 0)]) (H ++ G) := by
  rw [made, if_pos hf, hf] at hk
  exact dropF hk (Fz_tu2 (Fz_ag2 (.same _) (.os _ _ _ _ _ _ hid hr (rows_data _))) (.same _)) (bel_relE _ _ _)
theorem fin_bad {H G : Heap} {K : V → Heap → Prop} {cols : List (List UInt8)} {n : Nat} {acc : List (List It)} (hk : K (relE (made cols acc) (madeFault cols acc.length)) H) (hn : acc.length = n) (hf : ¬ madeFault cols n = 0) :
    RetK H K (.tu [.ag [.d (.sl 1 []), .d (.sl 1 [])], .d (.i .i64 (madeFault cols n))]) (H ++ G) := by
  subst hn
  rw [made, if_neg hf] at hk
  exact dropF hk (.same _) (bel_relE _ _ _)
theorem made_sh {cols : List (List UInt8)} {rows : List (List It)} (h1 : cols.length ≤ 9223372036854775807) (h2 : rows.length ≤ 9223372036854775807) (h3 : ∀ l, l ∈ rows → l.length ≤ 9223372036854775807) :
    (made cols rows).cols.length ≤ 9223372036854775807 ∧ (made cols rows).rows.length ≤ 9223372036854775807 ∧ ∀ l, l ∈ (made cols rows).rows → l.length ≤ 9223372036854775807 := by
  unfold made
  split
  · exact ⟨h1, h2, h3⟩
  · simp [rl0]
theorem rl0_sh : rl0.cols.length ≤ 9223372036854775807 ∧ rl0.rows.length ≤ 9223372036854775807 ∧ ∀ l, l ∈ rl0.rows → l.length ≤ 9223372036854775807 := by simp [rl0]
end Go.Proofs.YtpgdflhcmijaiaaDoor
namespace Go.Proofs.YtpgdflhcmijaiaaDoor
open Go Go.Proofs.YtpgdflhcmijaiaaDoor.Ab
variable [Glo] [U8]
def projRow (at_ : List Int) (row : List It) : List It := at_.map fun i => rg row i.toNat
theorem placesGo_mem {cols : List (List UInt8)} : ∀ (l : List (List UInt8)) (acc out : List Int), placesGo cols l acc = some out → (∀ i, i ∈ acc → 0 ≤ i ∧ i < cols.length) → (∀ i, i ∈ out → 0 ≤ i ∧ i < cols.length) ∧ out.length = acc.length + l.length
  | [], acc, out, h, ha => by cases h; exact ⟨ha, by simp⟩
  | s :: l, acc, out, h, ha => by
    rw [placesGo] at h
    split at h
    · cases h
    · rename_i hs
      have hlt := (fidx_lt (fun x => decide (s = x)) cols).2
      obtain ⟨h1, h2⟩ := placesGo_mem l _ out h (fun i hi => by
        rcases List.mem_append.1 hi with h1 | h1
        · exact ha i h1
        · rw [List.mem_singleton] at h1
          subst h1
          exact ⟨by omega, hlt⟩)
      exact ⟨h1, by rw [h2]; simp; omega⟩
theorem places_mem {cols l : List (List UInt8)} {out : List Int} (h : places cols l = some out) : (∀ i, i ∈ out → 0 ≤ i ∧ i < cols.length) ∧ out.length = l.length := by
  have := placesGo_mem l [] out h (by simp)
  simpa using this
def projected (r : Rl) (cols olds : List (List UInt8)) : Rl × Int :=
  if relFault r = 0 then (if cols.length = olds.length then (match places r.cols olds with | some at_ => (made cols (r.rows.map (projRow at_)), madeFault cols r.rows.length) | none => (rl0, 9)) else (rl0, 9))
  else (rl0, relFault r)
theorem projected_sh {r : Rl} (hS : ShR r) (cols olds : List (List UInt8)) (h1 : cols.length ≤ 1048576) (h2 : olds.length ≤ 1048576) : (projected r cols olds).1.cols.length ≤ 9223372036854775807 ∧ (projected r cols olds).1.rows.length ≤ 9223372036854775807 ∧ ∀ l, l ∈ (projected r cols olds).1.rows → l.length ≤ 9223372036854775807 := by
  unfold projected
  split
  · split
    · split
      · rename_i at_ hat
        have hl := (places_mem hat).2
        refine made_sh (by omega) (by have := hS.nrows; simp; omega) fun l hl' => ?_
        obtain ⟨row, _, rfl⟩ := List.mem_map.1 hl'
        simp only [projRow, List.length_map]
        omega
      · exact rl0_sh
    · exact rl0_sh
  · exact rl0_sh
def twoFault (a b : Rl) : Int := if relFault a = 0 then relFault b else relFault a
def crossRows (a b : Rl) : List (List It) := a.rows.flatMap fun x => b.rows.map fun y => x ++ y
def crossed (a b : Rl) : Rl × Int :=
  if twoFault a b = 0 then (if colsFault (a.cols ++ b.cols) = 0 then (if a.rows.length * b.rows.length ≤ 1000000 then (⟨a.cols ++ b.cols, crossRows a b⟩, 0) else (rl0, 1)) else (rl0, colsFault (a.cols ++ b.cols))) else (rl0, twoFault a b)
def united (a b : Rl) : Rl × Int :=
  if twoFault a b = 0 then (if a.cols = b.cols then (made a.cols (a.rows ++ b.rows), madeFault a.cols (a.rows ++ b.rows).length) else (rl0, 9)) else (rl0, twoFault a b)
theorem united_sh {a b : Rl} (hA : ShR a) (hB : ShR b) : (united a b).1.cols.length ≤ 9223372036854775807 ∧ (united a b).1.rows.length ≤ 9223372036854775807 ∧ ∀ l, l ∈ (united a b).1.rows → l.length ≤ 9223372036854775807 := by
  have q1 := hA.ncols
  have q2 := hA.nrows
  have q3 := hB.nrows
  unfold united
  split
  · split
    · refine made_sh (by omega) (by rw [List.length_append]; omega) fun l hl => ?_
      rcases List.mem_append.1 hl with h | h
      · have := hA.row l h
        omega
      · have := hB.row l h
        omega
    · exact rl0_sh
  · exact rl0_sh
theorem crossRows_len (a b : Rl) : (crossRows a b).length = a.rows.length * b.rows.length := by
  unfold crossRows
  induction a.rows with
  | nil => simp
  | cons x l ih => rw [List.flatMap_cons, List.length_append, ih, List.length_map, List.length_cons, Nat.add_mul, Nat.one_mul, Nat.add_comm]
theorem crossed_sh {a b : Rl} (hA : ShR a) (hB : ShR b) : (crossed a b).1.cols.length ≤ 9223372036854775807 ∧ (crossed a b).1.rows.length ≤ 9223372036854775807 ∧ ∀ l, l ∈ (crossed a b).1.rows → l.length ≤ 9223372036854775807 := by
  have q1 := hA.ncols
  have q2 := hB.ncols
  unfold crossed
  split
  · split
    · split
      · rename_i h
        refine ⟨by rw [List.length_append]; omega, by show (crossRows a b).length ≤ _; rw [crossRows_len]; omega, fun l hl => ?_⟩
        have hl : l ∈ crossRows a b := hl
        unfold crossRows at hl
        obtain ⟨x, hx, hl⟩ := List.mem_flatMap.1 hl
        obtain ⟨y, hy, rfl⟩ := List.mem_map.1 hl
        have := hA.row x hx
        have := hB.row y hy
        rw [List.length_append]
        omega
      · exact rl0_sh
    · exact rl0_sh
  · exact rl0_sh
end Go.Proofs.YtpgdflhcmijaiaaDoor
