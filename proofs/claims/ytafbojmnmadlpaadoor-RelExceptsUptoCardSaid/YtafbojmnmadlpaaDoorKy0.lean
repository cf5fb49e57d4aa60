/- A row's items as one text that tells them; what a map of texts holds: in plain words. No condition. -/
import Derived.Test.YtafbojmnmadlpaaDoorPj0
import Derived.Test.YtafbojmnmadlpaaDoorKb
set_option linter.all false
set_option linter.unusedSimpArgs false
set_option linter.unusedVariables false
namespace Go.Proofs.YtafbojmnmadlpaaDoor
open Go Go.Proofs.YtafbojmnmadlpaaDoor.Ab
variable [Glo] [U8]
def KeyOk (x : It) : Prop := (0 ≤ x.k ∧ x.k < 256) ∧ (-9223372036854775808 ≤ x.n ∧ x.n ≤ 9223372036854775807) ∧ x.s.length ≤ 9223372036854775807
theorem keyOk_of {x : It} (h : itemB x = true) (hs : x.s.length ≤ 9223372036854775807) : KeyOk x := by
  unfold itemB at h
  refine ⟨?_, ?_, hs⟩ <;> (split at h <;> first | (simp only [decide_eq_true_eq] at h; omega) | (split at h <;> first | (simp only [decide_eq_true_eq] at h; omega) | (split at h <;> first | (simp only [decide_eq_true_eq] at h; omega) | (split at h <;> first | (simp only [decide_eq_true_eq] at h; omega) | cases h))))
theorem key1_inj {x y : It} {r t : List UInt8} (hx : KeyOk x) (hy : KeyOk y) (h : key1 x ++ r = key1 y ++ t) : x = y ∧ r = t := by
  simp only [key1, List.cons_append, List.append_assoc, List.cons.injEq] at h
  obtain ⟨h0, h⟩ := h
  obtain ⟨h1, h⟩ := List.append_inj h (by rw [le8_len, le8_len])
  obtain ⟨h2, h⟩ := List.append_inj h (by rw [le8_len, le8_len])
  have k1 := hx.2.2
  have k2 := hy.2.2
  have e2 : (x.s.length : Int) = y.s.length := le8_inj (by omega) (by omega) h2
  obtain ⟨h3, h4⟩ := List.append_inj h (by omega)
  have e1 := le8_inj hx.2.1 hy.2.1 h1
  have e0 : x.k = y.k := by
    have a := leB_val x.k 0
    have b := leB_val y.k 0
    rw [h0, b] at a
    simp only [Nat.mul_zero, Int.pow_zero, Int.fdiv_one] at a
    have := hx.1
    have := hy.1
    omega
  refine ⟨?_, h4⟩
  cases x
  cases y
  simp only [It.mk.injEq]
  exact ⟨e0, e1, h3⟩
theorem keyL_inj : ∀ (l m : List It), (∀ x, x ∈ l → KeyOk x) → (∀ x, x ∈ m → KeyOk x) → keyL l = keyL m → l = m
  | [], [], _, _, _ => rfl
  | [], y :: m, _, _, h => by simp [keyL, key1] at h
  | x :: l, [], _, _, h => by simp [keyL, key1] at h
  | x :: l, y :: m, hl, hm, h => by
    simp only [keyL, List.map_cons, List.flatten_cons] at h
    obtain ⟨rfl, h2⟩ := key1_inj (hl x (by simp)) (hm y (by simp)) h
    rw [keyL_inj l m (fun z hz => hl z (by simp [hz])) (fun z hz => hm z (by simp [hz])) h2]
/-- The key of some of a row's items. -/
def keyD (p : List Int) (row : List It) : List D := [.s (keyL (projRow p row))]
theorem projRow_ok {p : List Int} {row : List It} {n : Nat} (hp : ∀ i, i ∈ p → 0 ≤ i ∧ i < n) (hr : row.length = n) (hi : ∀ x, x ∈ row → KeyOk x) : ∀ x, x ∈ projRow p row → KeyOk x := fun x hx => by
  obtain ⟨i, h1, rfl⟩ := List.mem_map.1 hx
  have := hp i h1
  have hlt : i.toNat < row.length := by omega
  rw [rg_get (List.getElem?_eq_getElem hlt)]
  exact hi _ (List.getElem_mem hlt)
theorem keyD_mem {p q : List Int} {row : List It} {L : List (List It)} (h1 : ∀ x, x ∈ projRow p row → KeyOk x) (h2 : ∀ r, r ∈ L → ∀ x, x ∈ projRow q r → KeyOk x) : keyD p row ∈ L.map (keyD q) ↔ projRow p row ∈ L.map (projRow q) := by
  simp only [List.mem_map]
  constructor
  · rintro ⟨r, hr, e⟩
    refine ⟨r, hr, keyL_inj _ _ (h2 r hr) h1 ?_⟩
    simpa [keyD] using e
  · rintro ⟨r, hr, e⟩
    exact ⟨r, hr, by simp [keyD, e]⟩
/-! A map from texts to 'true' -/
def tru (n : Nat) : List V := List.replicate n (.d (.b true))
theorem mix_some {ks : List (List D)} {k : List D} (h : k ∈ ks) : ∃ i, mix ks k = some i := by
  cases hm : mix ks k with
  | none => exact absurd rfl (mix_none.1 hm k h)
  | some i => exact ⟨i, rfl⟩
theorem mget_hit {ks : List (List D)} {k : List D} (h : k ∈ ks) : mget ks (tru ks.length) k (.d (.b false)) = .d (.b true) := by
  obtain ⟨i, hi⟩ := mix_some h
  have := (mix_lt hi).2
  simp [mget, hi, tru, this]
theorem mget_miss {ks : List (List D)} {k : List D} {vs : List V} {z : V} (h : k ∉ ks) : mget ks vs k z = z := by
  have : mix ks k = none := mix_none.2 fun x hx e => h (e ▸ hx)
  simp [mget, this]
theorem mputK_hit {ks : List (List D)} {k : List D} (h : k ∈ ks) : mputK ks k = ks := by
  obtain ⟨i, hi⟩ := mix_some h
  simp [mputK, hi]
theorem mputK_miss {ks : List (List D)} {k : List D} (h : k ∉ ks) : mputK ks k = ks ++ [k] := by
  have : mix ks k = none := mix_none.2 fun x hx e => h (e ▸ hx)
  simp [mputK, this]
theorem mputV_tru (ks : List (List D)) (k : List D) : mputV ks (tru ks.length) k (.d (.b true)) = tru (mputK ks k).length := by
  by_cases h : k ∈ ks
  · rw [mputK_hit h]
    obtain ⟨i, hi⟩ := mix_some h
    simp only [mputV, hi, tru]
    apply List.ext_getElem?
    intro j
    rw [List.getElem?_set, List.getElem?_replicate]
    split
    · rename_i hij; subst hij; simp
    · rfl
  · rw [mputK_miss h]
    have : mix ks k = none := mix_none.2 fun x hx e => h (e ▸ hx)
    simp only [mputV, this, tru, List.length_append, List.length_cons, List.length_nil]
    rw [show ks.length + (0 + 1) = ks.length + 1 by omega, List.replicate_succ']
theorem mputK_mem (ks : List (List D)) (k x : List D) : x ∈ mputK ks k ↔ x ∈ ks ∨ x = k := by
  by_cases h : k ∈ ks
  · rw [mputK_hit h]
    exact ⟨.inl, fun h' => h'.elim id fun e => e ▸ h⟩
  · rw [mputK_miss h]; simp
/-- The keys of rows. -/
noncomputable def keysOf (q : List Int) (rows : List (List It)) : List (List D) := rows.foldl (fun ks row => mputK ks (keyD q row)) []
theorem keysOf_app (q : List Int) (rows : List (List It)) (row : List It) : keysOf q (rows ++ [row]) = mputK (keysOf q rows) (keyD q row) := by simp [keysOf]
theorem keysOf_mem (q : List Int) (rows : List (List It)) (k : List D) : k ∈ keysOf q rows ↔ k ∈ rows.map (keyD q) := by
  have gen : ∀ (l : List (List It)) (acc : List (List D)), k ∈ l.foldl (fun ks row => mputK ks (keyD q row)) acc ↔ k ∈ acc ∨ k ∈ l.map (keyD q) := fun l => by
    induction l with
    | nil => simp
    | cons x l ih => intro acc; rw [List.foldl_cons, ih, mputK_mem, List.map_cons, List.mem_cons, or_assoc]
  rw [keysOf, gen]
  simp
/-! Rows that are not there twice, rows that are not there -/
def uniqGo (p : List Int) : List (List It) → List (List It) → List (List It)
  | [], out => out
  | row :: rest, out => if projRow p row ∈ out.map (projRow p) then uniqGo p rest out else uniqGo p rest (out ++ [row])
theorem uniqGo_hit {p : List Int} {l out : List (List It)} {i : Nat} {row : List It} (h : l[i]? = some row) (hm : projRow p row ∈ out.map (projRow p)) : uniqGo p (l.drop i) out = uniqGo p (l.drop (i + 1)) out := by
  rw [drop_of_get h, uniqGo, if_pos hm]
theorem uniqGo_miss {p : List Int} {l out : List (List It)} {i : Nat} {row : List It} (h : l[i]? = some row) (hm : projRow p row ∉ out.map (projRow p)) : uniqGo p (l.drop i) out = uniqGo p (l.drop (i + 1)) (out ++ [row]) := by
  rw [drop_of_get h, uniqGo, if_neg hm]
theorem uniqGo_sub {p : List Int} : ∀ (l out : List (List It)), (uniqGo p l out).length ≤ out.length + l.length ∧ ∀ x, x ∈ uniqGo p l out → x ∈ out ∨ x ∈ l
  | [], out => ⟨by simp [uniqGo], fun x hx => .inl hx⟩
  | row :: l, out => by
    rw [uniqGo]
    split
    · obtain ⟨h1, h2⟩ := uniqGo_sub (p := p) l out
      exact ⟨by simp only [List.length_cons]; omega, fun x hx => (h2 x hx).imp id fun h => by simp [h]⟩
    · obtain ⟨h1, h2⟩ := uniqGo_sub (p := p) l (out ++ [row])
      refine ⟨by simp only [List.length_cons, List.length_append, List.length_nil] at h1 ⊢; omega, fun x hx => ?_⟩
      rcases h2 x hx with h | h
      · rcases List.mem_append.1 h with h | h
        · exact .inl h
        · exact .inr (by simp at h; simp [h])
      · exact .inr (by simp [h])
def uniqued (r : Rl) (cols : List (List UInt8)) : Rl × Int :=
  if relFault r = 0 then (match places r.cols cols with | some p => (made r.cols (uniqGo p r.rows []), madeFault r.cols (uniqGo p r.rows []).length) | none => (rl0, 9)) else (rl0, relFault r)
theorem uniqued_sh {r : Rl} (hS : ShR r) (cols : List (List UInt8)) : (uniqued r cols).1.cols.length ≤ 9223372036854775807 ∧ (uniqued r cols).1.rows.length ≤ 9223372036854775807 ∧ ∀ l, l ∈ (uniqued r cols).1.rows → l.length ≤ 9223372036854775807 := by
  have q1 := hS.ncols
  have q2 := hS.nrows
  unfold uniqued
  split
  · split
    · rename_i p _
      obtain ⟨h1, h2⟩ := uniqGo_sub (p := p) r.rows []
      refine made_sh (by omega) (by simp at h1; omega) fun l hl => ?_
      rcases h2 l hl with h | h
      · cases h
      · have := hS.row l h; omega
    · exact rl0_sh
  · exact rl0_sh
def exRows (p q : List Int) (ra rb : List (List It)) : List (List It) := ra.filter fun row => !decide (projRow p row ∈ rb.map (projRow q))
theorem exRows_hit {p q : List Int} {ra rb : List (List It)} {i : Nat} {row : List It} (h : ra[i]? = some row) (hm : projRow p row ∈ rb.map (projRow q)) : exRows p q (ra.take (i + 1)) rb = exRows p q (ra.take i) rb := by
  rw [take_of_get h, exRows, List.filter_append, List.filter_cons, if_neg (by simpa using hm)]
  simp [exRows]
theorem exRows_miss {p q : List Int} {ra rb : List (List It)} {i : Nat} {row : List It} (h : ra[i]? = some row) (hm : projRow p row ∉ rb.map (projRow q)) : exRows p q (ra.take (i + 1)) rb = exRows p q (ra.take i) rb ++ [row] := by
  rw [take_of_get h, exRows, List.filter_append, List.filter_cons, if_pos (by simpa using hm)]
  simp [exRows]
theorem exRows_len (p q : List Int) (ra rb : List (List It)) : (exRows p q ra rb).length ≤ ra.length := List.length_filter_le _ _
def excepted (a b : Rl) (cols : List (List UInt8)) : Rl × Int :=
  if twoFault a b = 0 then (match places a.cols cols, places b.cols cols with | some p, some q => (made a.cols (exRows p q a.rows b.rows), madeFault a.cols (exRows p q a.rows b.rows).length) | _, _ => (rl0, 9)) else (rl0, twoFault a b)
theorem excepted_sh {a b : Rl} (hS : ShR a) (cols : List (List UInt8)) : (excepted a b cols).1.cols.length ≤ 9223372036854775807 ∧ (excepted a b cols).1.rows.length ≤ 9223372036854775807 ∧ ∀ l, l ∈ (excepted a b cols).1.rows → l.length ≤ 9223372036854775807 := by
  have q1 := hS.ncols
  have q2 := hS.nrows
  unfold excepted
  split
  · split
    · rename_i p q _ _
      refine made_sh (by omega) (by have := exRows_len p q a.rows b.rows; omega) fun l hl => ?_
      have := hS.row l (List.mem_filter.1 hl).1
      omega
    · exact rl0_sh
  · exact rl0_sh
end Go.Proofs.YtafbojmnmadlpaaDoor
