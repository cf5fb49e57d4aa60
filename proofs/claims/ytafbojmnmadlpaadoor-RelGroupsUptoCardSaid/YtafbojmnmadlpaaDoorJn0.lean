/- What is found by an item: lists by keys, in plain words. No condition. -/
import Derived.Test.YtafbojmnmadlpaaDoorPj0
set_option linter.all false
set_option linter.unusedSimpArgs false
set_option linter.unusedVariables false
namespace Go.Proofs.YtafbojmnmadlpaaDoor
open Go Go.Proofs.YtafbojmnmadlpaaDoor.Ab
variable [Glo] [U8]
/-! Lists by keys -/
section
variable {α : Type}
def atG (G : List (It × List α)) (k : It) : Option Nat := G.findIdx? fun g => decide (g.1 = k)
def putG (G : List (It × List α)) (k : It) (a : α) : List (It × List α) :=
  match atG G k with
  | some j => G.modify j fun g => (g.1, g.2 ++ [a])
  | none => G ++ [(k, [a])]
def valG (G : List (It × List α)) (k : It) : List α := match atG G k with | some j => ((G[j]?).map (·.2)).getD [] | none => []
theorem atG_nil (k : It) : atG ([] : List (It × List α)) k = none := rfl
theorem atG_cons (g : It × List α) (G : List (It × List α)) (k : It) : atG (g :: G) k = if g.1 = k then some 0 else (atG G k).map (· + 1) := by
  simp only [atG, List.findIdx?_cons]
  by_cases h : g.1 = k <;> simp [h]
theorem atG_lt {G : List (It × List α)} {k : It} {j : Nat} (h : atG G k = some j) : ∃ l, G[j]? = some (k, l) ∧ j < G.length := by
  unfold atG at h
  rw [List.findIdx?_eq_some_iff_getElem] at h
  obtain ⟨hlt, h1, _⟩ := h
  have h1 : G[j].1 = k := by simpa using h1
  exact ⟨G[j].2, by rw [List.getElem?_eq_getElem hlt, ← h1], hlt⟩
theorem atG_app (G : List (It × List α)) (k x : It) (l : List α) : atG (G ++ [(x, l)]) k = match atG G k with | some j => some j | none => if x = k then some G.length else none := by
  induction G with
  | nil => simp [atG_cons, atG_nil]
  | cons g G ih =>
    rw [List.cons_append, atG_cons, atG_cons]
    by_cases h : g.1 = k
    · rw [if_pos h, if_pos h]
    · rw [if_neg h, if_neg h, ih]
      cases atG G k with
      | some j => rfl
      | none => by_cases hx : x = k <;> simp [hx]
theorem atG_modify (G : List (It × List α)) (k : It) (j : Nat) (f : List α → List α) : atG (G.modify j fun g => (g.1, f g.2)) k = atG G k := by
  induction G generalizing j with
  | nil => simp
  | cons g G ih =>
    cases j with
    | zero => rw [List.modify_zero_cons, atG_cons, atG_cons]
    | succ j => rw [List.modify_succ_cons, atG_cons, atG_cons, ih]
theorem valG_nil (k : It) : valG ([] : List (It × List α)) k = [] := rfl
theorem valG_put (G : List (It × List α)) (k x : It) (a : α) : valG (putG G x a) k = if x = k then valG G k ++ [a] else valG G k := by
  unfold putG
  cases hx : atG G x with
  | none =>
    simp only []
    unfold valG
    rw [atG_app]
    cases hk : atG G k with
    | some j =>
      simp only []
      obtain ⟨l, hl, hlt⟩ := atG_lt hk
      rw [List.getElem?_append_left hlt]
      have hne : x ≠ k := fun e => by rw [e] at hx; rw [hx] at hk; cases hk
      rw [if_neg hne]
    | none =>
      by_cases hxk : x = k
      · simp [hxk]
      · simp [hxk]
  | some i =>
    simp only []
    obtain ⟨l, hl, hlt⟩ := atG_lt hx
    unfold valG
    rw [atG_modify G k i (fun l => l ++ [a])]
    cases hk : atG G k with
    | none =>
      have hne : x ≠ k := fun e => by rw [e] at hx; rw [hx] at hk; cases hk
      simp [hne]
    | some j =>
      simp only []
      by_cases hxk : x = k
      · subst hxk
        rw [hx] at hk
        cases hk
        rw [if_pos rfl, List.getElem?_modify, hl]
        simp
      · rw [if_neg hxk, List.getElem?_modify]
        obtain ⟨l', hl', _⟩ := atG_lt hk
        have hij : i ≠ j := fun e => by
          subst e
          rw [hl] at hl'
          exact hxk (Prod.mk.inj (Option.some.inj hl')).1
        simp [hij]
theorem putG_keys (G : List (It × List α)) (k : It) (a : α) : (putG G k a).map (·.1) = if k ∈ G.map (·.1) then G.map (·.1) else G.map (·.1) ++ [k] := by
  unfold putG
  cases hk : atG G k with
  | none =>
    have hn : k ∉ G.map (·.1) := fun h => by
      obtain ⟨g, hg, e⟩ := List.mem_map.1 h
      unfold atG at hk
      rw [List.findIdx?_eq_none_iff] at hk
      have := hk g hg
      simp [e] at this
    simp [hn]
  | some j =>
    obtain ⟨l, hl, hlt⟩ := atG_lt hk
    have hn : k ∈ G.map (·.1) := List.mem_map.2 ⟨_, List.mem_of_getElem? hl, rfl⟩
    rw [if_pos hn]
    apply List.ext_getElem?
    intro i
    simp only [List.getElem?_map, List.getElem?_modify]
    cases G[i]? with
    | none => simp
    | some g => split <;> simp
theorem atG_none {G : List (It × List α)} {k : It} : atG G k = none ↔ k ∉ G.map (·.1) := by
  simp only [atG, List.findIdx?_eq_none_iff, List.mem_map, not_exists, not_and, decide_eq_false_iff_not]
theorem putG_len (G : List (It × List α)) (k : It) (a : α) : (putG G k a).length ≤ G.length + 1 := by
  unfold putG
  split <;> simp
theorem putG_ne {G : List (It × List α)} (h : ∀ g, g ∈ G → g.2 ≠ []) (k : It) (a : α) : ∀ g, g ∈ putG G k a → g.2 ≠ [] := by
  unfold putG
  split
  · intro g hg
    obtain ⟨i, hi⟩ := List.getElem?_of_mem hg
    rw [List.getElem?_modify] at hi
    cases hG : G[i]? with
    | none => rw [hG] at hi; cases hi
    | some x =>
      rw [hG] at hi
      have hx := h x (List.mem_of_getElem? hG)
      split at hi
      · simp at hi; subst hi; simp
      · simp at hi; subst hi; exact hx
  · intro g hg
    rcases List.mem_append.1 hg with hg | hg
    · exact h g hg
    · simp at hg; subst hg; simp
/-- All of a list, put one behind the other. -/
def allG (L : List (It × α)) : List (It × List α) := L.foldl (fun G p => putG G p.1 p.2) []
theorem allG_app (L : List (It × α)) (p : It × α) : allG (L ++ [p]) = putG (allG L) p.1 p.2 := by simp [allG]
theorem allG_val (L : List (It × α)) (k : It) : valG (allG L) k = (L.filter fun p => decide (p.1 = k)).map (·.2) := by
  have gen : ∀ (L : List (It × α)) (G : List (It × List α)), valG (L.foldl (fun G p => putG G p.1 p.2) G) k = valG G k ++ (L.filter fun p => decide (p.1 = k)).map (·.2) := fun L => by
    induction L with
    | nil => simp
    | cons p L ih =>
      intro G
      rw [List.foldl_cons, ih, valG_put, List.filter_cons]
      by_cases h : p.1 = k <;> simp [h]
  rw [allG, gen, valG_nil, List.nil_append]
theorem foldG_ne (L : List (It × α)) : ∀ (G : List (It × List α)), (∀ g, g ∈ G → g.2 ≠ []) → ∀ g, g ∈ L.foldl (fun G p => putG G p.1 p.2) G → g.2 ≠ [] := by
  induction L with
  | nil => exact fun G h => h
  | cons p L ih => exact fun G h => by rw [List.foldl_cons]; exact ih _ (putG_ne h _ _)
theorem allG_ne (L : List (It × α)) : ∀ g, g ∈ allG L → g.2 ≠ [] := foldG_ne L [] (by simp)
theorem allG_len (L : List (It × α)) : (allG L).length ≤ L.length := by
  have gen : ∀ (L : List (It × α)) (G : List (It × List α)), (L.foldl (fun G p => putG G p.1 p.2) G).length ≤ G.length + L.length := fun L => by
    induction L with
    | nil => intro G; simp
    | cons x L ih =>
      intro G
      have := ih (putG G x.1 x.2)
      have := putG_len G x.1 x.2
      rw [List.foldl_cons, List.length_cons]
      omega
  simpa [allG] using gen L []
/-! How they lie in memory -/
def gKs (G : List (It × List α)) : List (List D) := G.map fun g => itD g.1
def gVs (b : Nat) (G : List (It × List α)) : List V := G.mapIdx fun j g => .os (b + j) (g.2.length - 1)
def gObs (e sz : Nat) (c : α → List V) (G : List (It × List α)) : Heap := G.map fun g => .row (g.2.length - 1) e sz (g.2.map c)
theorem itD_inj {x y : It} (h : itD x = itD y) : x = y := by
  cases x; cases y
  simp only [itD, List.cons.injEq, D.i.injEq, D.s.injEq, true_and, and_true] at h
  simp only [It.mk.injEq]
  exact h
theorem mix_gKs (G : List (It × List α)) (k : It) : mix (gKs G) (itD k) = atG G k := by
  unfold mix gKs atG
  rw [List.findIdx?_map]
  congr 1
  funext g
  simp only [Function.comp]
  rw [decide_eq_decide]
  exact ⟨itD_inj, fun h => by rw [h]⟩
theorem gVs_len (b : Nat) (G : List (It × List α)) : (gVs b G).length = G.length := by simp [gVs]
theorem gVs_get (b : Nat) (G : List (It × List α)) {j : Nat} {g : It × List α} (h : G[j]? = some g) : (gVs b G)[j]? = some (.os (b + j) (g.2.length - 1)) := by
  simp [gVs, h]
theorem gKs_mem (G : List (It × List α)) (k : It) : itD k ∈ gKs G ↔ k ∈ G.map (·.1) := by
  simp only [gKs, List.mem_map]
  constructor
  · rintro ⟨g, hg, e⟩; exact ⟨g, hg, itD_inj e⟩
  · rintro ⟨g, hg, e⟩; exact ⟨g, hg, by rw [e]⟩
/-- A key that is there. -/
theorem g_hit {G : List (It × List α)} {k : It} {j : Nat} {l : List α} (b : Nat) (z : V) (hj : atG G k = some j) (hl : G[j]? = some (k, l)) :
    mget (gKs G) (gVs b G) (itD k) z = .os (b + j) (l.length - 1) ∧ mat (gKs G) (itD k) = j ∧ mputK (gKs G) (itD k) = gKs G ∧ mtouchV (gKs G) (gVs b G) (itD k) z = gVs b G := by
  have hm := (mix_gKs G k).trans hj
  refine ⟨?_, ?_, ?_, ?_⟩
  · simp only [mget, hm, gVs_get b G hl, Option.getD_some]
  · simp only [mat, hm, Option.getD_some]
  · simp only [mputK, hm]
  · simp only [mtouchV, hm]
/-- A key that is not. -/
theorem g_miss {G : List (It × List α)} {k : It} (b : Nat) (z : V) (hj : atG G k = none) :
    mget (gKs G) (gVs b G) (itD k) z = z ∧ mat (gKs G) (itD k) = G.length ∧ mputK (gKs G) (itD k) = gKs G ++ [itD k] ∧ mtouchV (gKs G) (gVs b G) (itD k) z = gVs b G ++ [z] := by
  have hm := (mix_gKs G k).trans hj
  refine ⟨?_, ?_, ?_, ?_⟩
  · simp only [mget, hm]
  · simp only [mat, hm, Option.getD_none]; simp [gKs]
  · simp only [mputK, hm]
  · simp only [mtouchV, hm]
theorem gKs_put_hit {G : List (It × List α)} {k : It} {j : Nat} (a : α) (hj : atG G k = some j) : gKs (putG G k a) = gKs G := by
  have h1 := putG_keys G k a
  obtain ⟨l, hl, _⟩ := atG_lt hj
  rw [if_pos (List.mem_map.2 ⟨_, List.mem_of_getElem? hl, rfl⟩)] at h1
  have h2 : ∀ G : List (It × List α), gKs G = (G.map (·.1)).map itD := fun G => by simp [gKs]
  rw [h2, h2, h1]
theorem gKs_put_miss {G : List (It × List α)} {k : It} (a : α) (hj : atG G k = none) : gKs (putG G k a) = gKs G ++ [itD k] := by
  simp [putG, hj, gKs]
theorem gVs_put_hit {G : List (It × List α)} {k : It} {j : Nat} {l : List α} (b : Nat) (a : α) (hne : l ≠ []) (hj : atG G k = some j) (hl : G[j]? = some (k, l)) : gVs b (putG G k a) = (gVs b G).set j (.os (b + j) (l.length - 1 + 1)) := by
  have h0 : 0 < l.length := List.length_pos_iff.2 hne
  simp only [putG, hj]
  apply List.ext_getElem?
  intro i
  simp only [gVs, List.getElem?_mapIdx, List.getElem?_modify, List.getElem?_set, List.length_mapIdx]
  have hlt := (List.getElem?_eq_some_iff.1 hl).1
  by_cases hij : j = i
  · subst hij
    have hG : G[j] = (k, l) := (List.getElem?_eq_some_iff.1 hl).2
    simp [hl, hlt, hG]
    omega
  · simp [hij]
theorem gVs_put_miss {G : List (It × List α)} {k : It} (b : Nat) (a : α) (hj : atG G k = none) : gVs b (putG G k a) = gVs b G ++ [.os (b + G.length) 0] := by
  simp [putG, hj, gVs, List.mapIdx_append]
theorem gObs_put_hit {G : List (It × List α)} {k : It} {j : Nat} {l : List α} (e sz : Nat) (c : α → List V) (a : α) (hne : l ≠ []) (hj : atG G k = some j) (hl : G[j]? = some (k, l)) :
    gObs e sz c (putG G k a) = (gObs e sz c G).set j (.row (l.length - 1 + 1) e sz (l.map c ++ [c a])) := by
  have h0 : 0 < l.length := List.length_pos_iff.2 hne
  simp only [putG, hj]
  apply List.ext_getElem?
  intro i
  simp only [gObs, List.getElem?_map, List.getElem?_modify, List.getElem?_set, List.length_map]
  have hlt := (List.getElem?_eq_some_iff.1 hl).1
  by_cases hij : j = i
  · subst hij
    have hG : G[j] = (k, l) := (List.getElem?_eq_some_iff.1 hl).2
    simp [hl, hlt, hG]
    omega
  · simp [hij]
theorem gObs_put_miss {G : List (It × List α)} {k : It} (e sz : Nat) (c : α → List V) (a : α) (hj : atG G k = none) : gObs e sz c (putG G k a) = gObs e sz c G ++ [.row 0 e sz [c a]] := by
  simp [putG, hj, gObs]
theorem gObs_get {G : List (It × List α)} {j : Nat} {k : It} {l : List α} (e sz : Nat) (c : α → List V) (hl : G[j]? = some (k, l)) : (gObs e sz c G)[j]? = some (.row (l.length - 1) e sz (l.map c)) := by
  simp [gObs, hl]
theorem gObs_len (e sz : Nat) (c : α → List V) (G : List (It × List α)) : (gObs e sz c G).length = G.length := by simp [gObs]
end
/-! Rows that are joined -/
def rowPairs (q : Nat) (rb : List (List It)) : List (It × Int) := rb.mapIdx fun i row => (rg row q, (i : Int))
theorem rowPairs_take {q : Nat} {rb : List (List It)} {i : Nat} {row : List It} (h : rb[i]? = some row) : rowPairs q (rb.take (i + 1)) = rowPairs q (rb.take i) ++ [(rg row q, (i : Int))] := by
  have hi := lt_of_get h
  rw [take_of_get h, rowPairs, List.mapIdx_append]
  simp [rowPairs]
  omega
theorem rowPairs_mem {q : Nat} {rb : List (List It)} {p : It × Int} (h : p ∈ rowPairs q rb) : ∃ (i : Nat) (row : List It), rb[i]? = some row ∧ p = (rg row q, (i : Int)) := by
  obtain ⟨i, hi⟩ := List.getElem?_of_mem h
  rw [rowPairs, List.getElem?_mapIdx] at hi
  obtain ⟨row, hr, rfl⟩ := Option.map_eq_some_iff.1 hi
  exact ⟨i, row, hr, rfl⟩
def nth (rb : List (List It)) (i : Int) : List It := (rb[i.toNat]?).getD []
/-- The places of the rows that have a key. -/
def hits (q : Nat) (rb : List (List It)) (k : It) : List Int := valG (allG (rowPairs q rb)) k
theorem hits_mem {q : Nat} {rb : List (List It)} {k : It} {i : Int} (h : i ∈ hits q rb k) : ∃ (j : Nat) (row : List It), rb[j]? = some row ∧ i = j := by
  rw [hits, allG_val] at h
  obtain ⟨p, hp, rfl⟩ := List.mem_map.1 h
  obtain ⟨j, row, hr, rfl⟩ := rowPairs_mem (List.mem_filter.1 hp).1
  exact ⟨j, row, hr, rfl⟩
theorem hits_rows (q : Nat) (k : It) (rb : List (List It)) : (hits q rb k).map (nth rb) = rb.filter fun y => decide (rg y q = k) := by
  have gen : ∀ n, n ≤ rb.length → ((rowPairs q (rb.take n)).filter fun p => decide (p.1 = k)).map (fun p => nth rb p.2) = (rb.take n).filter fun y => decide (rg y q = k) := fun n => by
    induction n with
    | zero => simp [rowPairs]
    | succ n ih =>
      intro hn
      obtain ⟨row, hr⟩ : ∃ row, rb[n]? = some row := ⟨rb[n], List.getElem?_eq_getElem (by omega)⟩
      rw [rowPairs_take hr, List.filter_append, List.map_append, ih (by omega), take_of_get hr, List.filter_append]
      congr 1
      by_cases h : rg row q = k <;> simp [h, nth, hr]
  have := gen rb.length (Nat.le_refl _)
  rw [List.take_length] at this
  rw [hits, allG_val, List.map_map, ← this]
  rfl
theorem hits_len (q : Nat) (k : It) (rb : List (List It)) : (hits q rb k).length ≤ rb.length := by
  have := congrArg List.length (hits_rows q k rb)
  rw [List.length_map] at this
  rw [this]
  exact List.length_filter_le _ _
def joinOne (p q : Nat) (rb : List (List It)) (x : List It) : List (List It) := (rb.filter fun y => decide (rg y q = rg x p)).map fun y => x ++ y
theorem joinOne_hits (p q : Nat) (rb : List (List It)) (x : List It) : joinOne p q rb x = (hits q rb (rg x p)).map fun i => x ++ nth rb i := by
  rw [joinOne, ← hits_rows, List.map_map]
  rfl
def joinRows (p q : Nat) (ra rb : List (List It)) : List (List It) := ra.flatMap (joinOne p q rb)
theorem joinRows_take {p q : Nat} {ra rb : List (List It)} {i : Nat} {row : List It} (h : ra[i]? = some row) : joinRows p q (ra.take (i + 1)) rb = joinRows p q (ra.take i) rb ++ joinOne p q rb row := by
  rw [take_of_get h, joinRows, List.flatMap_append]
  simp [joinRows]
theorem joinRows_mono (p q : Nat) (ra rb : List (List It)) (i : Nat) : (joinRows p q (ra.take i) rb).length ≤ (joinRows p q ra rb).length := by
  have h : joinRows p q ra rb = joinRows p q (ra.take i) rb ++ joinRows p q (ra.drop i) rb := by
    rw [joinRows, joinRows, joinRows, ← List.flatMap_append, List.take_append_drop]
  rw [h, List.length_append]
  omega
def joined (a b : Rl) (x y : List UInt8) : Rl × Int :=
  if twoFault a b = 0 then (if txtAt a.cols x < 0 ∨ txtAt b.cols y < 0 then (rl0, 9) else (made (a.cols ++ b.cols) (joinRows (txtAt a.cols x).toNat (txtAt b.cols y).toNat a.rows b.rows), madeFault (a.cols ++ b.cols) (joinRows (txtAt a.cols x).toNat (txtAt b.cols y).toNat a.rows b.rows).length))
  else (rl0, twoFault a b)
theorem made_big {cols : List (List UInt8)} {rows : List (List It)} (h : 1000000 < rows.length) : made cols rows = rl0 := by
  have hne : ¬ madeFault cols rows.length = 0 := fun h1 => by
    unfold madeFault at h1
    split at h1
    · rw [if_neg (by omega)] at h1; cases h1
    · contradiction
  rw [made, if_neg hne]
theorem madeFault_big {cols : List (List UInt8)} {m n : Nat} (h : 1000000 < m) (h' : 1000000 < n) : madeFault cols m = madeFault cols n := by
  unfold madeFault
  split
  · rw [if_neg (by omega), if_neg (by omega)]
  · rfl
theorem joined_sh {a b : Rl} (hA : ShR a) (hB : ShR b) (x y : List UInt8) : (joined a b x y).1.cols.length ≤ 9223372036854775807 ∧ (joined a b x y).1.rows.length ≤ 9223372036854775807 ∧ ∀ l, l ∈ (joined a b x y).1.rows → l.length ≤ 9223372036854775807 := by
  have q1 := hA.ncols
  have q2 := hB.ncols
  unfold joined
  split
  · split
    · exact rl0_sh
    · generalize hJ : joinRows (txtAt a.cols x).toNat (txtAt b.cols y).toNat a.rows b.rows = J
      by_cases hb : 1000000 < J.length
      · rw [made_big hb]; exact rl0_sh
      · refine made_sh (by rw [List.length_append]; omega) (by omega) fun l hl => ?_
        subst hJ
        obtain ⟨u, hu, hl⟩ := List.mem_flatMap.1 hl
        obtain ⟨v, hv, rfl⟩ := List.mem_map.1 hl
        have h1 := hA.row u hu
        have h2 := hB.row v (List.mem_filter.1 hv).1
        rw [List.length_append]
        omega
  · exact rl0_sh
end Go.Proofs.YtafbojmnmadlpaaDoor
