/- Events one behind the other: what stays true of what is open. No condition. -/
import Derived.Test.YtjghnaohlfgloaaDoorJ20
set_option linter.all false
set_option linter.unusedSimpArgs false
set_option linter.unusedVariables false
namespace Go.Proofs.YtjghnaohlfgloaaDoor
open Go Go.Proofs.YtjghnaohlfgloaaDoor.Ab
variable [Glo] [U8] [Ml]
set_option maxHeartbeats 4000000
set_option maxRecDepth 20000
theorem set_mid (H0 G : Heap) (X Y : Ob) : (H0 ++ X :: G).set H0.length Y = H0 ++ Y :: G := by
  rw [List.set_append_right _ _ (Nat.le_refl _), Nat.sub_self]; rfl
theorem set_tl (H0 G : Heap) (X Y : Ob) (j : Nat) : (H0 ++ X :: G).set (H0.length + 1 + j) Y = H0 ++ X :: G.set j Y := by
  rw [List.set_append_right _ _ (by omega), show H0.length + 1 + j - H0.length = j + 1 by omega]; rfl
theorem get_tl (H0 G : Heap) (X : Ob) (j : Nat) : (H0 ++ X :: G)[H0.length + 1 + j]? = G[j]? := by
  rw [List.getElem?_append_right (by omega), show H0.length + 1 + j - H0.length = j + 1 by omega]; rfl
theorem get_mid (H0 G : Heap) (X : Ob) : (H0 ++ X :: G)[H0.length]? = some X := by
  rw [List.getElem?_append_right (Nat.le_refl _), Nat.sub_self]; rfl
structure Cs where
  i : Nat
  s : Es
  ver : Nat
  rows : List (List V)
  G : Heap
def csH (H0 : Heap) (y : Cs) : Heap := H0 ++ .row y.ver 177 3 y.rows :: y.G
structure CsOk (H0 : Heap) (l : List Ev) (y : Cs) : Prop where
  hi : y.i ≤ l.length
  op : OpenAt (csH H0 y) H0.length y.ver y.s y.rows
  n20 : y.s.n ≤ 20
  go : evGo l evSt true = evGo (l.drop y.i) y.s (decide (y.i = 0))
  at_ : y.s.at_.length ≤ y.i
  no : y.s.ins = false → y.s.txt = false
  bo : ObBel (H0.length + 1 + y.G.length) (.row y.ver 177 3 y.rows)
  bg : ∀ ob, ob ∈ y.G → ∀ m, ObBel m ob
  low : ∀ j, j < y.s.n - 1 → ∃ c, y.rows[j]? = some [c, .d (.b true), .d (.b false)]
theorem CsOk.zero (H0 : Heap) (l : List Ev) : CsOk H0 l ⟨0, evSt, 0, [], []⟩ :=
  ⟨Nat.zero_le _, ⟨get_mid _ _ _, rfl, fun h => absurd rfl h⟩, by decide, rfl, Nat.le_refl _, fun h => by simp [evSt] at h, fun _ h => by simp at h, fun _ h => by simp at h, fun j h => absurd h (Nat.not_lt_zero j)⟩
theorem CsOk.closed {H0 : Heap} {l : List Ev} {y : Cs} (h : CsOk H0 l y) : Closed H0 (csH H0 y) := closed_app fun ob hob => by
  rcases List.mem_cons.1 hob with rfl | hob
  · refine ObBel.mono' ?_ h.bo
    simp; omega
  · exact h.bg ob hob _
theorem CsOk.step {H0 : Heap} {l : List Ev} {y : Cs} {x : Ev} (h : CsOk H0 l y) (hx : l[y.i]? = some x) (h1 : 1 ≤ x.k) (h5 : x.k ≤ 5) : evGo l evSt true = if evF1 y.s x (decide (y.i = 0)) = 0 then evGo (l.drop (y.i + 1)) (evS y.s x) (decide (y.i + 1 = 0)) else evF1 y.s x (decide (y.i = 0)) := by
  rw [h.go, evGo_step hx, if_neg (by omega)]
theorem mark_len (rows : List (List V)) (n : Nat) (t : Bool) : (mark rows n t).length = rows.length := by
  unfold mark
  split <;> simp
theorem mark_get {rows : List (List V)} {n : Nat} {c a b : V} (h : rows[((n : Int) - 1).toNat]? = some [c, a, b]) (t : Bool) : (mark rows n t)[((n : Int) - 1).toNat]? = some [c, .d (.b true), .d (.b t)] := by
  rw [mark_eq h, List.getElem?_set_self (lt_of_get h)]
theorem mark_ne {rows : List (List V)} {n j : Nat} (h : j < n - 1) (t : Bool) : (mark rows n t)[j]? = rows[j]? := by
  unfold mark
  split
  · rw [List.getElem?_set_ne (by omega)]
  · rfl
theorem mark_bel {m v e : Nat} {rows : List (List V)} {n : Nat} {t : Bool} (h : ObBel m (.row v e 3 rows)) : ObBel m (.row v e 3 (mark rows n t)) := by
  unfold mark
  split
  · rename_i c r hr
    exact ob_set h (bel_cell (ob_get h hr c (by simp)))
  · exact h
theorem CsOk.start {H0 : Heap} {l : List Ev} {y : Cs} {x : Ev} (h : CsOk H0 l y) (hx : l[y.i]? = some x) (hk : x.k = 1) (hf : evF1 y.s x (decide (y.i = 0)) = 0) : CsOk H0 l ⟨y.i + 1, evS y.s x, y.ver + 1, (if 0 < y.s.n then mark y.rows y.s.n false else y.rows) ++ [newRow], y.G⟩ := by
  have hl : (if 0 < y.s.n then mark y.rows y.s.n false else y.rows).length = y.s.n := by
    split
    · rw [mark_len, h.op.len]
    · exact h.op.len
  have hs := h.step hx (by omega) (by omega)
  rw [if_pos hf] at hs
  have hn := evS_n h.n20 hf
  have he : evS y.s x = ⟨y.s.n + 1, [], false, false⟩ := by rw [evS, if_pos hk]
  refine ⟨lt_of_get hx, ⟨get_mid _ _ _, ?_, fun _ => ⟨.d (.c (.slice none 0 0)), ?_, fun _ => .inl ⟨by rw [he], rfl⟩⟩⟩, hn, hs, by simp [he], fun _ => by rw [he], ob_app (v := 0) ?_ (bel_new _), h.bg, fun j hj => ?_⟩
  · rw [he, List.length_append, hl]; rfl
  · rw [he]
    show ((if 0 < y.s.n then mark y.rows y.s.n false else y.rows) ++ [newRow])[(((y.s.n + 1 : Nat) : Int) - 1).toNat]? = _
    rw [List.getElem?_append_right (by rw [hl]; omega), hl, show (((y.s.n + 1 : Nat) : Int) - 1).toNat - y.s.n = 0 by omega]
    rfl
  · split
    · exact mark_bel h.bo
    · exact h.bo
  · rw [he] at hj
    have hj : j < y.s.n := hj
    rw [if_pos (by omega)]
    show ∃ c, (mark y.rows y.s.n false ++ [newRow])[j]? = _
    rw [List.getElem?_append_left (by rw [mark_len, h.op.len]; exact hj)]
    by_cases hj2 : j < y.s.n - 1
    · rw [mark_ne hj2]
      exact h.low j hj2
    · obtain ⟨c, h1, _⟩ := h.op.top (by omega)
      have := mark_get h1 false
      rw [show ((y.s.n : Int) - 1).toNat = j by omega] at this
      exact ⟨c, this⟩
theorem CsOk.marked {H0 : Heap} {l : List Ev} {y : Cs} {x : Ev} {t : Bool} (h : CsOk H0 l y) (hx : l[y.i]? = some x) (hk : x.k = 3 ∧ t = true ∨ x.k = 4 ∧ t = false) (hf : evF1 y.s x (decide (y.i = 0)) = 0) : CsOk H0 l ⟨y.i + 1, evS y.s x, y.ver, mark y.rows y.s.n t, y.G⟩ := by
  have hs := h.step hx (by omega) (by omega)
  rw [if_pos hf] at hs
  have hn := evS_n h.n20 hf
  have he : evS y.s x = ⟨y.s.n, y.s.at_, true, t⟩ := by
    rcases hk with ⟨hk, rfl⟩ | ⟨hk, rfl⟩
    · rw [evS, if_neg (by omega), if_neg (by omega), if_pos hk]
    · rw [evS, if_neg (by omega), if_neg (by omega), if_neg (by omega), if_pos hk]
  refine ⟨lt_of_get hx, ⟨get_mid _ _ _, by rw [he, mark_len]; exact h.op.len, fun h0 => ?_⟩, hn, hs, by rw [he]; exact Nat.le_succ_of_le h.at_, fun hi => (by rw [he] at hi; cases hi), mark_bel h.bo, h.bg, fun j hj => (by rw [he] at hj; show ∃ c, (mark y.rows y.s.n t)[j]? = _; rw [mark_ne hj]; exact h.low j hj)⟩
  rw [he] at h0
  obtain ⟨c, h1, _⟩ := h.op.top h0
  rw [he]
  exact ⟨c, mark_get h1 t, fun hi => by cases hi⟩
theorem CsOk.end_ {H0 : Heap} {l : List Ev} {y : Cs} {x : Ev} (h : CsOk H0 l y) (hx : l[y.i]? = some x) (hk : x.k = 5) (hf : evF1 y.s x (decide (y.i = 0)) = 0) : CsOk H0 l ⟨y.i + 1, evS y.s x, y.ver + 1, y.rows.take ((y.s.n : Int) - 1).toNat, y.G⟩ := by
  have hs := h.step hx (by omega) (by omega)
  rw [if_pos hf] at hs
  have hn := evS_n h.n20 hf
  have he : evS y.s x = ⟨y.s.n - 1, [], true, false⟩ := by
    rw [evS, if_neg (by omega), if_neg (by omega), if_neg (by omega), if_neg (by omega)]
  refine ⟨lt_of_get hx, ⟨get_mid _ _ _, ?_, fun h0 => ?_⟩, hn, hs, by simp [he], fun hi => (by rw [he] at hi; cases hi), ob_take h.bo, h.bg, fun j hj => ?_⟩
  · rw [he, List.length_take, h.op.len]
    show min ((y.s.n : Int) - 1).toNat y.s.n = y.s.n - 1
    omega
  · rw [he] at h0
    have h0 : y.s.n - 1 ≠ 0 := h0
    obtain ⟨c, hc⟩ := h.low (y.s.n - 1 - 1) (by omega)
    rw [he]
    refine ⟨c, ?_, fun hi => by cases hi⟩
    show (y.rows.take ((y.s.n : Int) - 1).toNat)[(((y.s.n - 1 : Nat) : Int) - 1).toNat]? = _
    rw [List.getElem?_take_of_lt (by omega), show (((y.s.n - 1 : Nat) : Int) - 1).toNat = y.s.n - 1 - 1 by omega]
    exact hc
  · rw [he] at hj
    have hj : j < y.s.n - 1 - 1 := hj
    show ∃ c, (y.rows.take ((y.s.n : Int) - 1).toNat)[j]? = _
    rw [List.getElem?_take_of_lt (by omega)]
    exact h.low j (by omega)
theorem CsOk.attr0 {H0 : Heap} {l : List Ev} {y : Cs} {x : Ev} (h : CsOk H0 l y) (hx : l[y.i]? = some x) (hk : x.k = 2) (hf : evF1 y.s x (decide (y.i = 0)) = 0) (h0 : y.s.n ≠ 0) (ha : y.s.at_ = []) (hi : y.s.ins = false) : CsOk H0 l ⟨y.i + 1, evS y.s x, y.ver, y.rows.set ((y.s.n : Int) - 1).toNat [.os (csH H0 y).length 0, .d (.b false), .d (.b y.s.txt)], y.G ++ [.row 0 9 1 [strC x.nm]]⟩ := by
  have hs := h.step hx (by omega) (by omega)
  rw [if_pos hf] at hs
  have hn := evS_n h.n20 hf
  have he : evS y.s x = ⟨y.s.n, y.s.at_ ++ [x.nm], false, false⟩ := by rw [evS, if_neg (by omega), if_pos hk]
  obtain ⟨c, h1, _⟩ := h.op.top h0
  have hlc : (csH H0 y).length = H0.length + 1 + y.G.length := by simp [csH]; omega
  refine ⟨lt_of_get hx, ⟨get_mid _ _ _, by rw [he, List.length_set]; exact h.op.len, fun _ => ?_⟩, hn, hs, ?_, fun _ => by rw [he], ob_set (ObBel.mono' (by simp <;> omega) h.bo) (bel_cell (.os _ _ (by rw [hlc]; simp))), fun ob hob m => ?_, fun j hj => ?_⟩
  · rw [he]
    refine ⟨.os (csH H0 y).length 0, by rw [List.getElem?_set_self (lt_of_get h1), h.no hi], fun _ => .inr ⟨(csH H0 y).length, 0, by simp, rfl, by rw [hlc]; omega, ?_⟩⟩
    show (H0 ++ _ :: (y.G ++ [_]))[(csH H0 y).length]? = _
    rw [hlc, get_tl, List.getElem?_append_right (Nat.le_refl _), Nat.sub_self, ha]
    rfl
  · rw [he, ha]
    exact Nat.le_add_left _ _
  · rcases List.mem_append.1 hob with hob | hob
    · exact h.bg ob hob m
    · simp at hob
      subst hob
      exact obBel_str _ _ _ [x.nm]
  · rw [he] at hj
    have hj : j < y.s.n - 1 := hj
    show ∃ c, (y.rows.set ((y.s.n : Int) - 1).toNat _)[j]? = _
    rw [List.getElem?_set_ne (by omega)]
    exact h.low j hj
theorem CsOk.attr1 {H0 : Heap} {l : List Ev} {y : Cs} {x : Ev} {j va : Nat} (h : CsOk H0 l y) (hx : l[y.i]? = some x) (hk : x.k = 2) (hf : evF1 y.s x (decide (y.i = 0)) = 0) (h0 : y.s.n ≠ 0) (ha : y.s.at_ ≠ []) (hi : y.s.ins = false) (hj : j < y.G.length) : CsOk H0 l ⟨y.i + 1, evS y.s x, y.ver, y.rows.set ((y.s.n : Int) - 1).toNat [.os (H0.length + 1 + j) (va + 1), .d (.b false), .d (.b y.s.txt)], y.G.set j (.row (va + 1) 9 1 ((y.s.at_ ++ [x.nm]).map strC))⟩ := by
  have hs := h.step hx (by omega) (by omega)
  rw [if_pos hf] at hs
  have hn := evS_n h.n20 hf
  have he : evS y.s x = ⟨y.s.n, y.s.at_ ++ [x.nm], false, false⟩ := by rw [evS, if_neg (by omega), if_pos hk]
  obtain ⟨c, h1, _⟩ := h.op.top h0
  refine ⟨lt_of_get hx, ⟨get_mid _ _ _, by rw [he, List.length_set]; exact h.op.len, fun _ => ?_⟩, hn, hs, ?_, fun _ => by rw [he], ob_set (ObBel.mono' (by simp) h.bo) (bel_cell (.os _ _ (by simp; omega))), fun ob hob m => ?_, fun k hk' => ?_⟩
  · rw [he]
    refine ⟨.os (H0.length + 1 + j) (va + 1), by rw [List.getElem?_set_self (lt_of_get h1), h.no hi], fun _ => .inr ⟨H0.length + 1 + j, va + 1, by simp, rfl, by omega, ?_⟩⟩
    show (H0 ++ _ :: (y.G.set j _))[H0.length + 1 + j]? = _
    rw [get_tl, List.getElem?_set_self hj]
  · rw [he]
    show (y.s.at_ ++ [x.nm]).length ≤ y.i + 1
    rw [List.length_append]
    exact Nat.succ_le_succ h.at_
  · rcases List.mem_or_eq_of_mem_set hob with hob | rfl
    · exact h.bg ob hob m
    · exact obBel_str _ _ _ _
  · rw [he] at hk'
    have hk' : k < y.s.n - 1 := hk'
    show ∃ c, (y.rows.set ((y.s.n : Int) - 1).toNat _)[k]? = _
    rw [List.getElem?_set_ne (by omega)]
    exact h.low k hk'
def EvSh (l : List Ev) : Prop := l.length ≤ 1048576 ∧ ∀ x, x ∈ l → x.nm.length + x.vl.length ≤ 1048576
theorem eventsFault_big {l : List Ev} (h : ¬ l.length ≤ 400) : eventsFault l = 1 := if_neg h
theorem eventsFault_go {l : List Ev} (h : l.length ≤ 400) : eventsFault l = evGo l evSt true := if_pos h
theorem evGo_end {i : Nat} {s : Es} : evGo [] s (decide (i = 0)) = if i = 0 ∨ 0 < s.n then 5 else 0 := by
  rw [evGo]; simp
theorem csH_get (H0 : Heap) (y : Cs) : (csH H0 y)[H0.length]? = some (.row y.ver 177 3 y.rows) := get_mid _ _ _
theorem csH_len (H0 : Heap) (y : Cs) : (csH H0 y).length = H0.length + 1 + y.G.length := by simp [csH]; omega
theorem csH_set (H0 : Heap) (y : Cs) (v : Nat) (rows : List (List V)) (i : Nat) (s : Es) : (csH H0 y).set H0.length (.row v 177 3 rows) = csH H0 ⟨i, s, v, rows, y.G⟩ := set_mid _ _ _ _
theorem csH_new (H0 : Heap) (y : Cs) (o : Ob) (v : Nat) (rows : List (List V)) (i : Nat) (s : Es) : (csH H0 y ++ [o]).set H0.length (.row v 177 3 rows) = csH H0 ⟨i, s, v, rows, y.G ++ [o]⟩ := by
  rw [csH, List.append_assoc, List.cons_append, set_mid]; rfl
theorem csH_tl (H0 : Heap) (y : Cs) (o : Ob) (j v : Nat) (rows : List (List V)) (i : Nat) (s : Es) : ((csH H0 y).set (H0.length + 1 + j) o).set H0.length (.row v 177 3 rows) = csH H0 ⟨i, s, v, rows, y.G.set j o⟩ := by
  rw [csH, set_tl, set_mid]; rfl
theorem evF1_2i {s : Es} {x : Ev} {first : Bool} (h1 : x.k = 2) (h : evF1 s x first = 0) : s.n ≠ 0 ∧ s.ins = false := by
  rw [evF1_2 h1] at h
  split at h
  · cases h
  · rename_i h0
    refine ⟨h0, ?_⟩
    split at h
    · split at h
      · split at h
        · cases h
        · rename_i hi; simpa using hi
      · omega
    · omega
def csFr (l : List Ev) (H0 : Heap) (y : Cs) : Ab.Frame := [(0, .d (.sl 3 (l.map evD))), (3, .os H0.length y.ver), (11, .d (.sl 3 (l.map evD))), (12, .d (.i .i64 l.length)), (13, .d (.i .i64 y.i))]
end Go.Proofs.YtjghnaohlfgloaaDoor
