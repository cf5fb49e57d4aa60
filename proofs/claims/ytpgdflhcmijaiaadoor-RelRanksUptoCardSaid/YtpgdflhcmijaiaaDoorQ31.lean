/- A row's items as one text that tells them; what a map of texts holds: in plain words. No condition. -/
import Derived.Test.YtpgdflhcmijaiaaDoorQ29
import Derived.Test.YtpgdflhcmijaiaaDoorQ30
import Derived.Test.YtpgdflhcmijaiaaDoorQ23
set_option linter.all false
set_option linter.unusedSimpArgs false
set_option linter.unusedVariables false
namespace Go.Proofs.YtpgdflhcmijaiaaDoor
open Go Go.Proofs.YtpgdflhcmijaiaaDoor.Ab
variable [Glo] [U8]
def KeyOk (x : It) : Prop := (0 ≤ x.k ∧ x.k < 256) ∧ (-9223372036854775808 ≤ x.n ∧ x.n ≤ 9223372036854775807) ∧ x.s.length ≤ 9223372036854775807
theorem keyOk_of {x : It} (h : itemB x = true) (hs : x.s.length ≤ 9223372036854775807) : KeyOk x := by
  unfold itemB at h
  refine ⟨?_, ?_, hs⟩ <;> (split at h <;> first | (simp only [decide_eq_true_eq] at h; omega) | (split at h <;> first | (simp only [decide_eq_true_eq] at h; omega) | (split at h <;> first | (simp only [decide_eq_true_eq] at h; omega) | (split at h <;> first | (simp only [decide_eq_true_eq] at h; omega) | cases h))))
theorem key1_inj {x y : It} {r t : List UInt8} (hx : KeyOk x) (hy : KeyOk y) (h : key1 x ++ r = key1 y ++ t) : x = y ∧ r = t := by
  simp only [key1, List.cons_append, List.append_assoc, List.cons.injEq] at h
  obtain ⟨h0, h⟩ := h
  obtain ⟨h1, h⟩ := List.append_inj h (by rw [le8_len, le8_len])
  obtain ⟨h2, h⟩ := List.append_inj h (by rw [le8_len, le8_len])
  have k1 := hx.2.2
  have k2 := hy.2.2
  have e2 : (x.s.length : Int) = y.s.length := le8_inj (by omega) (by omega) h2
  obtain ⟨h3, h4⟩ := List.append_inj h (by omega)
  have e1 := le8_inj hx.2.1 hy.2.1 h1
  have e0 : x.k = y.k := by
    have a := leB_val x.k 0
    have b := leB_val y.k 0
    rw [h0, b] at a
    simp only [Nat.mul_zero, Int.pow_zero, Int.fdiv_one] at a
    have := hx.1
    have := hy.1
    omega
  refine ⟨?_, h4⟩
  cases x
  cases y
  simp only [It.mk.injEq]
  exact ⟨e0, e1, h3⟩
theorem keyL_inj : ∀ (l m : List It), (∀ x, x ∈ l → KeyOk x) → (∀ x, x ∈ m → KeyOk x) → keyL l = keyL m → l = m
  | [], [], _, _, _ => rfl
  | [], y :: m, _, _, h => by simp [keyL, key1] at h
  | x :: l, [], _, _, h => by simp [keyL, key1] at h
  | x :: l, y :: m, hl, hm, h => by
    simp only [keyL, List.map_cons, List.flatten_cons] at h
    obtain ⟨rfl, h2⟩ := key1_inj (hl x (by simp)) (hm y (by simp)) h
    rw [keyL_inj l m (fun z hz => hl z (by simp [hz])) (fun z hz => hm z (by simp [hz])) h2]
def keyD (p : List Int) (row : List It) : List D := [.s (keyL (projRow p row))]
theorem projRow_ok {p : List Int} {row : List It} {n : Nat} (hp : ∀ i, i ∈ p → 0 ≤ i ∧ i < n) (hr : row.length = n) (hi : ∀ x, x ∈ row → KeyOk x) : ∀ x, x ∈ projRow p row → KeyOk x := fun x hx => by
  obtain ⟨i, h1, rfl⟩ := List.mem_map.1 hx
  have := hp i h1
  have hlt : i.toNat < row.length := by omega
  rw [rg_get (List.getElem?_eq_getElem hlt)]
  exact hi _ (List.getElem_mem hlt)
theorem keyD_mem {p q : List Int} {row : List It} {L : List (List It)} (h1 : ∀ x, x ∈ projRow p row → KeyOk x) (h2 : ∀ r, r ∈ L → ∀ x, x ∈ projRow q r → KeyOk x) : keyD p row ∈ L.map (keyD q) ↔ projRow p row ∈ L.map (projRow q) := by
  simp only [List.mem_map]
  constructor
  · rintro ⟨r, hr, e⟩
    refine ⟨r, hr, keyL_inj _ _ (h2 r hr) h1 ?_⟩
    simpa [keyD] using e
  · rintro ⟨r, hr, e⟩
    exact ⟨r, hr, by simp [keyD, e]⟩
def tru (n : Nat) : List V := List.replicate n (.d (.b true))
theorem mix_some {ks : List (List D)} {k : List D} (h : k ∈ ks) : ∃ i, mix ks k = some i := by
  cases hm : mix ks k with
  | none => exact absurd rfl (mix_none.1 hm k h)
  | some i => exact ⟨i, rfl⟩
theorem mget_hit {ks : List (List D)} {k : List D} (h : k ∈ ks) : mget ks (tru ks.length) k (.d (.b false)) = .d (.b true) := by
  obtain ⟨i, hi⟩ := mix_some h
  have := (mix_lt hi).2
  simp [mget, hi, tru, this]
theorem mget_miss {ks : List (List D)} {k : List D} {vs : List V} {z : V} (h : k ∉ ks) : mget ks vs k z = z := by
  have : mix ks k = none := mix_none.2 fun x hx e => h (e ▸ hx)
  simp [mget, this]
theorem mputK_hit {ks : List (List D)} {k : List D} (h : k ∈ ks) : mputK ks k = ks := by
  obtain ⟨i, hi⟩ := mix_some h
  simp [mputK, hi]
theorem mputK_miss {ks : List (List D)} {k : List D} (h : k ∉ ks) : mputK ks k = ks ++ [k] := by
  have : mix ks k = none := mix_none.2 fun x hx e => h (e ▸ hx)
  simp [mputK, this]
theorem mputV_tru (ks : List (List D)) (k : List D) : mputV ks (tru ks.length) k (.d (.b true)) = tru (mputK ks k).length := by
  by_cases h : k ∈ ks
  · rw [mputK_hit h]
    obtain ⟨i, hi⟩ := mix_some h
    simp only [mputV, hi, tru]
    apply List.ext_getElem?
    intro j
    rw [List.getElem?_set, List.getElem?_replicate]
    split
    · rename_i hij; subst hij; simp
    · rfl
  · rw [mputK_miss h]
    have : mix ks k = none := mix_none.2 fun x hx e => h (e ▸ hx)
    simp only [mputV, this, tru, List.length_append, List.length_cons, List.length_nil]
    rw [show ks.length + (0 + 1) = ks.length + 1 by omega, List.replicate_succ']
theorem mputK_mem (ks : List (List D)) (k x : List D) : x ∈ mputK ks k ↔ x ∈ ks ∨ x = k := by
  by_cases h : k ∈ ks
  · rw [mputK_hit h]
    exact ⟨.inl, fun h' => h'.elim id fun e => e ▸ h⟩
  · rw [mputK_miss h]; simp
noncomputable def keysOf (q : List Int) (rows : List (List It)) : List (List D) := rows.foldl (fun ks row => mputK ks (keyD q row)) []
theorem keysOf_app (q : List Int) (rows : List (List It)) (row : List It) : keysOf q (rows ++ [row]) = mputK (keysOf q rows) (keyD q row) := by simp [keysOf]
theorem keysOf_mem (q : List Int) (rows : List (List It)) (k : List D) : k ∈ keysOf q rows ↔ k ∈ rows.map (keyD q) := by
  have gen : ∀ (l : List (List It)) (acc : List (List D)), k ∈ l.foldl (fun ks row => mputK ks (keyD q row)) acc ↔ k ∈ acc ∨ k ∈ l.map (keyD q) := fun l => by
    induction l with
    | nil => simp
    | cons x l ih => intro acc; rw [List.foldl_cons, ih, mputK_mem, List.map_cons, List.mem_cons, or_assoc]
  rw [keysOf, gen]
  simp
def uniqGo (p : List Int) : List (List It) → List (List It) → List (List It)
  | [], out => out
  | row :: rest, out => if projRow p row ∈ out.map (projRow p) then uniqGo p rest out else uniqGo p rest (out ++ [row])
theorem uniqGo_hit {p : List Int} {l out : List (List It)} {i : Nat} {row : List It} (h : l[i]? = some row) (hm : projRow p row ∈ out.map (projRow p)) : uniqGo p (l.drop i) out = uniqGo p (l.drop (i + 1)) out := by
  rw [drop_of_get h, uniqGo, if_pos hm]
theorem uniqGo_miss {p : List Int} {l out : List (List It)} {i : Nat} {row : List It} (h : l[i]? = some row) (hm : projRow p row ∉ out.map (projRow p)) : uniqGo p (l.drop i) out = uniqGo p (l.drop (i + 1)) (out ++ [row]) := by
  rw [drop_of_get h, uniqGo, if_neg hm]
theorem uniqGo_sub {p : List Int} : ∀ (l out : List (List It)), (uniqGo p l out).length ≤ out.length + l.length ∧ ∀ x, x ∈ uniqGo p l out → x ∈ out ∨ x ∈ l
  | [], out => ⟨by simp [uniqGo], fun x hx => .inl hx⟩
  | row :: l, out => by
    rw [uniqGo]
    split
    · obtain ⟨h1, h2⟩ := uniqGo_sub (p := p) l out
      exact ⟨by simp only [List.length_cons]; omega, fun x hx => (h2 x hx).imp id fun h => by simp [h]⟩
    · obtain ⟨h1, h2⟩ := uniqGo_sub (p := p) l (out ++ [row])
      refine ⟨by simp only [List.length_cons, List.length_append, List.length_nil] at h1 ⊢; omega, fun x hx => ?_⟩
      rcases h2 x hx with h | h
      · rcases List.mem_append.1 h with h | h
        · exact .inl h
        · exact .inr (by simp at h; simp [h])
      · exact .inr (by simp [h])
def uniqued (r : Rl) (cols : List (List UInt8)) : Rl × Int :=
  if relFault r = 0 then (match places r.cols cols with | some p => (made r.cols (uniqGo p r.rows []), madeFault r.cols (uniqGo p r.rows []).length) | none => (rl0, 9)) else (rl0, relFault r)
theorem uniqued_sh {r : Rl} (hS : ShR r) (cols : List (List UInt8)) : (uniqued r cols).1.cols.length ≤ 9223372036854775807 ∧ (uniqued r cols).1.rows.length ≤ 9223372036854775807 ∧ ∀ l, l ∈ (uniqued r cols).1.rows → l.length ≤ 9223372036854775807 := by
  have q1 := hS.ncols
  have q2 := hS.nrows
  unfold uniqued
  split
  · split
    · rename_i p _
      obtain ⟨h1, h2⟩ := uniqGo_sub (p := p) r.rows []
      refine made_sh (by omega) (by simp at h1; omega) fun l hl => ?_
      rcases h2 l hl with h | h
      · cases h
      · have := hS.row l h; omega
    · exact rl0_sh
  · exact rl0_sh
def exRows (p q : List Int) (ra rb : List (List It)) : List (List It) := ra.filter fun row => !decide (projRow p row ∈ rb.map (projRow q))
theorem exRows_hit {p q : List Int} {ra rb : List (List It)} {i : Nat} {row : List It} (h : ra[i]? = some row) (hm : projRow p row ∈ rb.map (projRow q)) : exRows p q (ra.take (i + 1)) rb = exRows p q (ra.take i) rb := by
  rw [take_of_get h, exRows, List.filter_append, List.filter_cons, if_neg (by simpa using hm)]
  simp [exRows]
theorem exRows_miss {p q : List Int} {ra rb : List (List It)} {i : Nat} {row : List It} (h : ra[i]? = some row) (hm : projRow p row ∉ rb.map (projRow q)) : exRows p q (ra.take (i + 1)) rb = exRows p q (ra.take i) rb ++ [row] := by
  rw [take_of_get h, exRows, List.filter_append, List.filter_cons, if_pos (by simpa using hm)]
  simp [exRows]
theorem exRows_len (p q : List Int) (ra rb : List (List It)) : (exRows p q ra rb).length ≤ ra.length := List.length_filter_le _ _
def excepted (a b : Rl) (cols : List (List UInt8)) : Rl × Int :=
  if twoFault a b = 0 then (match places a.cols cols, places b.cols cols with | some p, some q => (made a.cols (exRows p q a.rows b.rows), madeFault a.cols (exRows p q a.rows b.rows).length) | _, _ => (rl0, 9)) else (rl0, twoFault a b)
theorem excepted_sh {a b : Rl} (hS : ShR a) (cols : List (List UInt8)) : (excepted a b cols).1.cols.length ≤ 9223372036854775807 ∧ (excepted a b cols).1.rows.length ≤ 9223372036854775807 ∧ ∀ l, l ∈ (excepted a b cols).1.rows → l.length ≤ 9223372036854775807 := by
  have q1 := hS.ncols
  have q2 := hS.nrows
  unfold excepted
  split
  · split
    · rename_i p q _ _
      refine made_sh (by omega) (by have := exRows_len p q a.rows b.rows; omega) fun l hl => ?_
      have := hS.row l (List.mem_filter.1 hl).1
      omega
    · exact rl0_sh
  · exact rl0_sh
end Go.Proofs.YtpgdflhcmijaiaaDoor
namespace Go.Proofs.YtpgdflhcmijaiaaDoor
open Go Go.Proofs.YtpgdflhcmijaiaaDoor.Ab
section
def rkC [Glo] [U8] (ps : List Int) (rows : List (List It)) (i j : Nat) : Int := ordI (projRow ps (rows.getD i [])) (projRow ps (rows.getD j []))
theorem rkC_weak [Glo] [U8] (ps : List Int) (rows : List (List It)) : Weak (rkC ps rows) := ordI_weak fun i : Nat => projRow ps (rows.getD i [])
def befB (cf : Nat → Nat → Int) (i k : Nat) : Bool := decide (cf i k < 0) || (decide (i < k) && !decide (cf k i < 0))
theorem befB_iff {cf : Nat → Nat → Int} {i k : Nat} : befB cf i k = true ↔ bef cf (fun x => x) i k := by
  simp only [befB, bef, Bool.or_eq_true, Bool.and_eq_true, decide_eq_true_eq, Bool.not_eq_true', decide_eq_false_iff_not]
  exact ⟨fun h => h.imp id fun h => ⟨h.2, h.1⟩, fun h => h.imp id fun h => ⟨h.2, h.1⟩⟩
theorem count_split (p : Nat → Bool) {t n : Nat} (h : t ≤ n) : (List.range n).countP (fun s => p s && decide (s < t)) = (List.range t).countP p := by
  obtain ⟨d, rfl⟩ : ∃ d, n = t + d := ⟨n - t, by omega⟩
  rw [List.range_add, List.countP_append, List.countP_map]
  have h1 : (List.range t).countP (fun s => p s && decide (s < t)) = (List.range t).countP p := List.countP_congr fun s hs => by
    have := List.mem_range.1 hs
    simp [this]
  have h2 : (List.range d).countP ((fun s => p s && decide (s < t)) ∘ fun x => t + x) = 0 := by
    rw [List.countP_eq_zero]
    intro s _
    simp
  rw [h1, h2, Nat.add_zero]
theorem srt_inj {cf : Nat → Nat → Int} (w : Weak cf) {g : Nat → Nat} {n : Nat} (s : Srt cf (fun x => x) g 0 n) : ∀ i j, i < n → j < n → g i = g j → i = j := fun i j hi hj e => by
  rcases Nat.lt_trichotomy i j with h | h | h
  · have := s i j (Nat.zero_le _) h hj
    rw [e] at this
    exact (bef_asym w this this).elim
  · exact h
  · have := s j i (Nat.zero_le _) h hi
    rw [e] at this
    exact (bef_asym w this this).elim
theorem srt_perm {cf : Nat → Nat → Int} (w : Weak cf) {g : Nat → Nat} {n : Nat} (p : Pst 0 n (fun x => x) g) (s : Srt cf (fun x => x) g 0 n) : ((List.range n).map g).Perm (List.range n) := by
  refine (List.perm_ext_iff_of_nodup ?_ List.nodup_range).2 fun x => ?_
  · refine List.pairwise_map.2 (List.Pairwise.imp_of_mem ?_ (List.nodup_range (n := n)))
    intro a b ha hb hab e
    exact hab (srt_inj w s a b (List.mem_range.1 ha) (List.mem_range.1 hb) e)
  · rw [List.mem_map, List.mem_range]
    constructor
    · rintro ⟨k, hk, rfl⟩
      obtain ⟨q, _, q2, q3⟩ := (p.s (g k)).1 ⟨k, Nat.zero_le _, List.mem_range.1 hk, rfl⟩
      rw [← q3]; exact q2
    · intro hx
      obtain ⟨q, _, q2, q3⟩ := (p.s x).2 ⟨x, Nat.zero_le _, hx, rfl⟩
      exact ⟨q, List.mem_range.2 q2, q3⟩
theorem srt_count {cf : Nat → Nat → Int} (w : Weak cf) {g : Nat → Nat} {n : Nat} (p : Pst 0 n (fun x => x) g) (s : Srt cf (fun x => x) g 0 n) (sm : Nat → Bool) {t : Nat} (ht : t < n) :
    (List.range t).countP (fun k => sm (g k)) = (List.range n).countP fun k => sm k && befB cf k (g t) := by
  rw [← (srt_perm w p s).countP_eq, List.countP_map, ← count_split (fun k => sm (g k)) (Nat.le_of_lt ht)]
  refine List.countP_congr fun k hk => ?_
  have hk := List.mem_range.1 hk
  have e : befB cf (g k) (g t) = decide (k < t) := by
    rw [Bool.eq_iff_iff, befB_iff, decide_eq_true_eq]
    constructor
    · intro h
      rcases Nat.lt_trichotomy k t with c | c | c
      · exact c
      · rw [c] at h; exact (bef_asym w h h).elim
      · exact (bef_asym w h (s t k (Nat.zero_le _) c hk)).elim
    · intro h
      exact s k t (Nat.zero_le _) h ht
  show (sm (g k) && decide (k < t)) = true ↔ (sm (g k) && befB cf (g k) (g t)) = true
  rw [e]
end
variable [Glo] [U8]
set_option maxHeartbeats 4000000
def smB (q : List Int) (rows : List (List It)) (i k : Nat) : Bool := decide (projRow q (rows.getD i []) = projRow q (rows.getD k []))
def rkN (ps q : List Int) (rows : List (List It)) (i : Nat) : Nat := (List.range rows.length).countP (fun k => smB q rows i k && befB (rkC ps rows) k i) + 1
def kyL (q : List Int) (rows : List (List It)) (i : Nat) : List UInt8 := keyL (projRow q (rows.getD i []))
def cntQ (q : List Int) (rows : List (List It)) (g : Nat → Nat) (t : Nat) (k : List UInt8) : Nat := (List.range t).countP fun s => decide (kyL q rows (g s) = k)
theorem cntQ_succ (q : List Int) (rows : List (List It)) (g : Nat → Nat) (t : Nat) (k : List UInt8) : cntQ q rows g (t + 1) k = if k = kyL q rows (g t) then cntQ q rows g t (kyL q rows (g t)) + 1 else cntQ q rows g t k := by
  simp only [cntQ]
  rw [List.range_succ, List.countP_append, List.countP_singleton]
  by_cases h : k = kyL q rows (g t)
  · subst h; simp
  · rw [if_neg h, if_neg (by simpa using fun e => h e.symm), Nat.add_zero]
theorem cntQ_le (q : List Int) (rows : List (List It)) (g : Nat → Nat) (t : Nat) (k : List UInt8) : cntQ q rows g t k ≤ t := by
  have := List.countP_le_length (p := fun s => decide (kyL q rows (g s) = k)) (l := List.range t)
  rw [List.length_range] at this
  exact this
theorem rkN_eq {ps q : List Int} {rows : List (List It)} {g : Nat → Nat} (p : Pst 0 rows.length (fun x => x) g) (s : Srt (rkC ps rows) (fun x => x) g 0 rows.length) (hok : ∀ i, i < rows.length → ∀ x, x ∈ projRow q (rows.getD i []) → KeyOk x) {t : Nat} (ht : t < rows.length) :
    cntQ q rows g t (kyL q rows (g t)) + 1 = rkN ps q rows (g t) := by
  have hg : ∀ k, k < rows.length → g k < rows.length := fun k hk => by
    obtain ⟨q, _, q2, q3⟩ := (p.s (g k)).1 ⟨k, Nat.zero_le _, hk, rfl⟩
    rw [← q3]; exact q2
  rw [rkN, ← srt_count (rkC_weak ps rows) p s (fun k => smB q rows (g t) k) ht, cntQ]
  congr 1
  refine List.countP_congr fun k hk => ?_
  have hk := List.mem_range.1 hk
  rw [smB, decide_eq_true_iff, decide_eq_true_iff, kyL, kyL]
  constructor
  · intro h
    exact (keyL_inj _ _ (hok _ (hg _ (by omega))) (hok _ (hg _ ht)) h).symm
  · intro h
    rw [h]
theorem rkN_le (ps q : List Int) (rows : List (List It)) (i : Nat) : rkN ps q rows i ≤ rows.length + 1 := by
  have := List.countP_le_length (p := fun k => smB q rows i k && befB (rkC ps rows) k i) (l := List.range rows.length)
  rw [List.length_range] at this
  exact Nat.succ_le_succ this
theorem mix_app_hit {k : List D} : ∀ {ks : List (List D)}, mix ks k = none → mix (ks ++ [k]) k = some ks.length
  | [], _ => by simp [mix_hit]
  | x :: ks, h => by
    have hx : x ≠ k := mix_none.1 h x (by simp)
    rw [List.cons_append, mix_skip _ hx, mix_app_hit (mix_none.2 fun y hy => mix_none.1 h y (by simp [hy]))]
    rfl
theorem mix_app_ne {k k' : List D} (e : k' ≠ k) : ∀ {ks : List (List D)}, mix (ks ++ [k]) k' = mix ks k'
  | [] => by rw [List.nil_append, mix_skip _ (fun h => e h.symm)]; rfl
  | x :: ks => by
    by_cases hx : x = k'
    · subst hx
      rw [List.cons_append, mix_hit, mix_hit]
    · rw [List.cons_append, mix_skip _ hx, mix_skip _ hx, mix_app_ne e]
theorem mget_put {ks : List (List D)} {vs : List V} {k : List D} {z v : V} (hl : ks.length = vs.length) : mget (mputK ks k) (mputV ks vs k v) k z = v := by
  cases hm : mix ks k with
  | some i =>
    have hi := mix_lt hm
    simp only [mputK, mputV, hm]
    simp only [mget, hm]
    rw [List.getElem?_set_self (by omega)]; rfl
  | none =>
    simp only [mputK, mputV, hm]
    rw [mget, mix_app_hit hm, hl]
    simp
theorem mget_put_ne {ks : List (List D)} {vs : List V} {k : List D} {z v : V} (hl : ks.length = vs.length) {k' : List D} (e : k' ≠ k) : mget (mputK ks k) (mputV ks vs k v) k' z = mget ks vs k' z := by
  cases hm : mix ks k with
  | some i =>
    have hi := mix_lt hm
    simp only [mputK, mputV, hm]
    simp only [mget]
    cases hm' : mix ks k' with
    | none => rfl
    | some j =>
      have hj := mix_lt hm'
      have : i ≠ j := fun h => e (by
        subst h
        have := hi.1.symm.trans hj.1
        exact (Option.some.inj this).symm)
      simp only [List.getElem?_set_ne this]
  | none =>
    simp only [mputK, mputV, hm]
    rw [mget, mix_app_ne e, mget]
    cases hm' : mix ks k' with
    | none => rfl
    | some j =>
      have hj := mix_lt hm'
      simp only []
      rw [List.getElem?_append_left (by omega)]
theorem mput_len {ks : List (List D)} {vs : List V} {k : List D} {v : V} (hl : ks.length = vs.length) : (mputK ks k).length = (mputV ks vs k v).length := by
  cases hm : mix ks k <;> simp [mputK, mputV, hm, hl]
theorem mput_all {ks : List (List D)} {vs : List V} {k : List D} {v : V} {Q : V → Prop} (h : ∀ x, x ∈ vs → Q x) (hv : Q v) : ∀ x, x ∈ mputV ks vs k v → Q x := fun x hx => by
  unfold mputV at hx
  split at hx
  · rcases List.mem_or_eq_of_mem_set hx with h' | h'
    · exact h x h'
    · rw [h']; exact hv
  · rcases List.mem_append.1 hx with h' | h'
    · exact h x h'
    · rw [List.mem_singleton.1 h']; exact hv
def rkT (f : Nat → Int) (g : Nat → Nat) : Nat → Nat → Int
  | 0 => fun _ => 0
  | t + 1 => upd (rkT f g t) (g t) (f (g t))
theorem rkT_get {f : Nat → Int} {g : Nat → Nat} : ∀ (t : Nat) {s : Nat}, s < t → rkT f g t (g s) = f (g s)
  | t + 1, s, h => by
    rw [rkT, upd]
    by_cases e : g s = g t
    · rw [if_pos e, e]
    · rw [if_neg e]
      exact rkT_get t (Nat.lt_of_le_of_ne (Nat.le_of_lt_succ h) fun h => e (by rw [h]))
theorem rkT_end {f : Nat → Int} {g : Nat → Nat} {n : Nat} (p : Pst 0 n (fun x => x) g) : ∀ i, i < n → rkT f g n i = f i := fun i hi => by
  obtain ⟨s, _, s2, s3⟩ := (p.s i).2 ⟨i, Nat.zero_le _, hi, rfl⟩
  have := rkT_get (f := f) (g := g) n s2
  rw [s3] at this
  exact this
def withinP (cols : List (List UInt8)) (part : List UInt8) : Option (List Int) := if part = [] then some [] else places cols [part]
theorem withinP_eq (cols : List (List UInt8)) (part : List UInt8) : withinP cols part = if part = [] then some [] else if txtAt cols part < 0 then none else some [txtAt cols part] := by
  unfold withinP
  split
  · rfl
  · unfold places placesGo placesGo
    rfl
def rkIt (n : Nat) : It := ⟨2, n, []⟩
def rkRows (ps q : List Int) (rows : List (List It)) : List (List It) := (List.range rows.length).map fun i => rows.getD i [] ++ [rkIt (rkN ps q rows i)]
theorem rkRows_len (ps q : List Int) (rows : List (List It)) : (rkRows ps q rows).length = rows.length := by simp [rkRows]
theorem rkRows_take {ps q : List Int} {rows : List (List It)} {i : Nat} {row : List It} (h : rows[i]? = some row) : (rkRows ps q rows).take (i + 1) = (rkRows ps q rows).take i ++ [row ++ [rkIt (rkN ps q rows i)]] := by
  have hi := (List.getElem?_eq_some_iff.1 h).1
  refine take_of_get ?_
  rw [rkRows, List.getElem?_map, List.getElem?_range hi]
  simp [List.getD, h]
def ranked (r : Rl) (name : List UInt8) (by_ : List (List UInt8)) (part : List UInt8) : Rl × Int :=
  if relFault r = 0 then (match places r.cols by_, withinP r.cols part with | some p, some q => (made (r.cols ++ [name]) (rkRows p q r.rows), madeFault (r.cols ++ [name]) r.rows.length) | _, _ => (rl0, 9)) else (rl0, relFault r)
theorem ranked_sh {r : Rl} (hS : ShR r) (name : List UInt8) (by_ : List (List UInt8)) (part : List UInt8) : (ranked r name by_ part).1.cols.length ≤ 9223372036854775807 ∧ (ranked r name by_ part).1.rows.length ≤ 9223372036854775807 ∧ ∀ l, l ∈ (ranked r name by_ part).1.rows → l.length ≤ 9223372036854775807 := by
  have q1 := hS.ncols
  have q2 := hS.nrows
  unfold ranked
  split
  · split
    · rename_i p q _ _
      refine made_sh (by simp; omega) (by rw [rkRows_len]; omega) fun l hl => ?_
      obtain ⟨i, hi, rfl⟩ := List.mem_map.1 hl
      have hi := List.mem_range.1 hi
      have := hS.row _ (List.getElem_mem hi)
      rw [List.getD_eq_getElem?_getD, List.getElem?_eq_getElem hi]
      simp only [Option.getD_some, List.length_append, List.length_cons, List.length_nil]
      omega
    · exact rl0_sh
  · exact rl0_sh
end Go.Proofs.YtpgdflhcmijaiaaDoor
