/- What an event that comes leans on: comments, and how what is open lies. No condition but that the tables of package unicode/utf8, and what package bytealg calls its greatest length, are there. -/
import Derived.Test.YtjghnaohlfgloaaDoorJ19
import Derived.Test.YtjghnaohlfgloaaDoorJ18
set_option linter.all false
set_option linter.unusedSimpArgs false
set_option linter.unusedVariables false
namespace Go.Proofs.YtjghnaohlfgloaaDoor
open Go Go.Proofs.YtjghnaohlfgloaaDoor.Ab
variable [Glo] [U8] [Ml]
set_option maxHeartbeats 4000000
set_option maxRecDepth 20000
theorem two_of_size {α : Type} {xs : Array α} (h : xs.size = 2) : ∃ a b, xs = #[a, b] := by
  obtain ⟨l⟩ := xs
  match l, h with
  | [a, b], _ => exact ⟨a, b, rfl⟩
theorem contains_A (s sub : List UInt8) (hs : s.length ≤ 1000000000) (H : Heap) (K : V → Heap → Prop) (hk : K (.d (.b (Lib.contains s sub))) H) :
    ACalls Tryd.prog 143 [.d (.s s), .d (.s sub)] H K := by
  obtain ⟨m, hm⟩ := Ml.maxl
  refine ACalls_below _ hk fun w σ args hw hl hr => ?_
  obtain ⟨a, b, rfl⟩ := two_of_size (xs := args) (by simpa using hl.symm)
  obtain rfl := (hr 0 _ a rfl rfl).inv_d.inv_s
  obtain rfl := (hr 1 _ b rfl rfl).inv_d.inv_s
  obtain ⟨_, _, f, f1, f2⟩ := hw.glob _ _ hm
  have hm0 : w.cell? ⟨Tryd.lays144_ren.g 1, 0, none⟩ = some (.int .i64 m) := by
    have e1 : Tryd.lays144_ren.g 1 = 2 := by first | rfl | kernel_rfl
    rw [e1, f1 0 _ rfl, (f2 0 _ rfl).inv_i]
  have hsz : (⟨s.toArray⟩ : ByteArray).size = s.length := by simp [ByteArray.size]
  have := Any.strings_Contains Tryd.lays144 ⟨s.toArray⟩ ⟨sub.toArray⟩ m w (by rw [hsz]; omega) hm0
  have e : Tryd.lays144_ren.f 144 = 143 := by first | rfl | kernel_rfl
  rw [e] at this
  refine ⟨_, fun w' _ => .d _ _ (.b _), this.mono ?_⟩
  rintro e w' ⟨rfl, rfl⟩
  exact ⟨by simp, RowKit.Below.refl _ _⟩
theorem contains_cons (a : UInt8) (l sub : List UInt8) : Lib.contains (a :: l) sub = (sub.isPrefixOf (a :: l) || Lib.contains l sub) := by
  have h := Lib.index_ge l sub
  rw [Lib.contains, Lib.contains, Lib.index]
  by_cases hp : sub.isPrefixOf (a :: l) = true
  · rw [if_pos hp, hp]; simp
  · rw [if_neg hp]
    simp only [Bool.not_eq_true] at hp
    rw [hp, Bool.false_or]
    by_cases hi : Lib.index l sub = -1
    · simp [hi]
    · have : (Lib.index l sub == -1) = false := by simpa using hi
      rw [this, if_neg (by simp)]
      exact decide_eq_decide.2 (by omega)
theorem dashB_eq : ∀ l : List UInt8, dashB l = (Lib.contains l [45, 45] || decide (l.getLast? = some 45))
  | [] => rfl
  | [a] => by
    rw [contains_cons, dashB]
    have e1 : Lib.contains ([] : List UInt8) [45, 45] = false := rfl
    have e2 : List.isPrefixOf [45, 45] [a] = false := by simp [List.isPrefixOf]
    rw [e1, e2, List.getLast?_singleton, Bool.false_or, Bool.false_or]
    exact decide_eq_decide.2 ⟨fun h => by rw [h], fun h => Option.some.inj h⟩
  | a :: b :: l => by
    rw [contains_cons, dashB, dashB_eq (b :: l), List.getLast?_cons_cons, Bool.or_assoc]
    congr 1
    have e1 : List.isPrefixOf [45, 45] (a :: b :: l) = ((45 : UInt8) == a && ((45 : UInt8) == b && true)) := rfl
    rw [e1, Bool.and_true]
    have e2 : ∀ z : UInt8, ((45 : UInt8) == z) = decide (z = 45) := fun z => by
      rw [Bool.eq_iff_iff, beq_iff_eq, decide_eq_true_iff]
      exact eq_comm
    rw [e2, e2]
def ks_182 : Nat → List Nat
  | 0 => [0, 1]
  | 1 => [4]
  | _ => []
def mu_182 : List Nat := []
def in_182 : List Nat := [0, 1]
theorem hasSuffixL_A (s : List UInt8) (hs : s.length ≤ 1000000000) (H : Heap) (K : V → Heap → Prop) (hk : K (.d (.b (decide (s.getLast? = some 45)))) H) :
    ACalls Tryd.prog 182 [.d (.s s), .d (.s [45])] H K := by
  rcases s.eq_nil_or_concat with rfl | ⟨r, c, rfl⟩
  · refine ACalls_of Tryd.func182 rfl in_182 (Nat.le_of_ble_eq_true rfl) ?_
    intro F hF
    simp (dsimp := false) only [go_sem, Nat.reduceAdd, Nat.reduceBEq, Nat.reduceEqDiff, Nat.reduceLT, Nat.reduceLeDiff, Nat.reduceMul, Int.reduceToNat, reduceCtorEq, ↓reduceIte, Tryd.ntmps182, Tryd.results182, ks_182, mu_182, ti_st9, in_182] at hF
    subst hF
    repeat' (first | with_reducible (first | refine And.intro ?_ ?_ | intro _ | refine AWp_seq ?_ | refine AWp_block ?_ | (refine hKv _ _ (AWp_nop ?_); clear hKv Kv) | (refine hKA ?_; clear hKA hKB KA KB) | (refine hKB ?_; clear hKA hKB KA KB) | refine AWp_skipN ?_ | refine AWp_exitO (by repeat (first | exact Out.hit | apply Out.thenA | apply Out.out rfl)) ?_) | (with_reducible (first | (refine hKv _ _ ?_; clear hKv Kv) | ((first | refine AWp_regC mu_182 ks_182 ?_ | refine AWp_regE mu_182 ks_182 ?_); intro Kv hKv) | refine AWp_retR ?_); try simp (dsimp := false) only [go_sem, Nat.reduceAdd, Nat.reduceBEq, Nat.reduceEqDiff, Nat.reduceLT, Nat.reduceLeDiff, Nat.reduceMul, Int.reduceToNat, reduceCtorEq, ↓reduceIte, Tryd.ntmps182, Tryd.results182, ks_182, mu_182, ti_st9]) | (refine AWp_condC rfl ?_; intro KA KB hKA hKB; try simp only [onB_true, onB_false, onB_dec, onB_ndec, onB_not, onB_and, onB_or]) | (refine AWp_condA rfl ?_ ?_) | with_reducible (first | refine onB_of ?_ ?_ | rfl) | omega)
    all_goals first
      | (exfalso; rename_i h; apply h; rw [List.length_concat]; show ((1 : Nat) : Int) ≤ ((r.length + 1 : Nat) : Int); omega)
      | exact keepD hk (by simp [List.take_of_length_le])
  · refine ACalls_of Tryd.func182 rfl in_182 (Nat.le_of_ble_eq_true rfl) ?_
    intro F hF
    simp (dsimp := false) only [go_sem, Nat.reduceAdd, Nat.reduceBEq, Nat.reduceEqDiff, Nat.reduceLT, Nat.reduceLeDiff, Nat.reduceMul, Int.reduceToNat, reduceCtorEq, ↓reduceIte, Tryd.ntmps182, Tryd.results182, ks_182, mu_182, ti_st9, in_182] at hF
    subst hF
    repeat' (first | with_reducible (first | refine And.intro ?_ ?_ | intro _ | refine AWp_seq ?_ | refine AWp_block ?_ | (refine hKv _ _ (AWp_nop ?_); clear hKv Kv) | (refine hKA ?_; clear hKA hKB KA KB) | (refine hKB ?_; clear hKA hKB KA KB) | refine AWp_skipN ?_ | refine AWp_exitO (by repeat (first | exact Out.hit | apply Out.thenA | apply Out.out rfl)) ?_) | (with_reducible (first | (refine hKv _ _ ?_; clear hKv Kv) | ((first | refine AWp_regC mu_182 ks_182 ?_ | refine AWp_regE mu_182 ks_182 ?_); intro Kv hKv) | refine AWp_retR ?_); try simp (dsimp := false) only [go_sem, Nat.reduceAdd, Nat.reduceBEq, Nat.reduceEqDiff, Nat.reduceLT, Nat.reduceLeDiff, Nat.reduceMul, Int.reduceToNat, reduceCtorEq, ↓reduceIte, Tryd.ntmps182, Tryd.results182, ks_182, mu_182, ti_st9]) | (refine AWp_condC rfl ?_; intro KA KB hKA hKB; try simp only [onB_true, onB_false, onB_dec, onB_ndec, onB_not, onB_and, onB_or]) | (refine AWp_condA rfl ?_ ?_) | with_reducible (first | refine onB_of ?_ ?_ | rfl) | omega)
    all_goals first
      | (exfalso; rename_i h; apply h; rw [List.length_concat]; show ((1 : Nat) : Int) ≤ ((r.length + 1 : Nat) : Int); omega)
      | exact keepD hk (by simp [List.take_of_length_le])
def ks_170 : Nat → List Nat
  | 0 => [0, 1]
  | 1 => [4]
  | _ => []
def mu_170 : List Nat := []
def in_170 : List Nat := [0, 1]
theorem hasSuffix_A (s : List UInt8) (hs : s.length ≤ 1000000000) (H : Heap) (K : V → Heap → Prop) (hk : K (.d (.b (decide (s.getLast? = some 45)))) H) :
    ACalls Tryd.prog 170 [.d (.s s), .d (.s [45])] H K := by
  refine ACalls_of Tryd.func170 rfl in_170 (Nat.le_of_ble_eq_true rfl) ?_
  intro F hF
  simp (dsimp := false) only [go_sem, Nat.reduceAdd, Nat.reduceBEq, Nat.reduceEqDiff, Nat.reduceLT, Nat.reduceLeDiff, Nat.reduceMul, Int.reduceToNat, reduceCtorEq, ↓reduceIte, Tryd.ntmps170, Tryd.results170, ks_170, mu_170, ti_hb182, in_170] at hF
  subst hF
  repeat' (first | with_reducible (first | refine And.intro ?_ ?_ | intro _ | refine AWp_seq ?_ | refine AWp_block ?_ | (refine hKv _ _ (AWp_nop ?_); clear hKv Kv) | (refine hKA ?_; clear hKA hKB KA KB) | (refine hKB ?_; clear hKA hKB KA KB) | refine AWp_skipN ?_ | refine AWp_exitO (by repeat (first | exact Out.hit | apply Out.thenA | apply Out.out rfl)) ?_) | ((first | with_reducible (first | (refine hKv _ _ ?_; clear hKv Kv) | ((first | refine AWp_regC mu_170 ks_170 ?_ | refine AWp_regE mu_170 ks_170 ?_); intro Kv hKv) | refine AWp_retR ?_) | refine hasSuffixL_A s hs _ _ ?_); try simp (dsimp := false) only [go_sem, Nat.reduceAdd, Nat.reduceBEq, Nat.reduceEqDiff, Nat.reduceLT, Nat.reduceLeDiff, Nat.reduceMul, Int.reduceToNat, reduceCtorEq, ↓reduceIte, Tryd.ntmps170, Tryd.results170, ks_170, mu_170, ti_hb182]) | (refine AWp_condC rfl ?_; intro KA KB hKA hKB; try simp only [onB_true, onB_false, onB_dec, onB_ndec, onB_not, onB_and, onB_or]) | (refine AWp_condA rfl ?_ ?_) | with_reducible (first | refine onB_of ?_ ?_ | rfl) | omega)
  all_goals first
    | exact keepD hk rfl
def ks_146 : Nat → List Nat
  | 0 => [0]
  | 1 => [2]
  | _ => []
def mu_146 : List Nat := []
def in_146 : List Nat := [0]
theorem comment_A (s : List UInt8) (hs : s.length ≤ 1000000000) (H : Heap) (K : V → Heap → Prop) (hk : K (.d (.b (!dashB s))) H) :
    ACalls Tryd.prog 146 [.d (.s s)] H K := by
  have hd := dashB_eq s
  refine ACalls_of Tryd.func146 rfl in_146 (Nat.le_of_ble_eq_true rfl) ?_
  intro F hF
  simp (dsimp := false) only [go_sem, Nat.reduceAdd, Nat.reduceBEq, Nat.reduceEqDiff, Nat.reduceLT, Nat.reduceLeDiff, Nat.reduceMul, Int.reduceToNat, reduceCtorEq, ↓reduceIte, Tryd.ntmps146, Tryd.results146, ks_146, mu_146, ti_hb143, ti_hb170, in_146] at hF
  subst hF
  repeat' (first | with_reducible (first | refine And.intro ?_ ?_ | intro _ | refine AWp_seq ?_ | refine AWp_block ?_ | (refine hKv _ _ (AWp_nop ?_); clear hKv Kv) | (refine hKA ?_; clear hKA hKB KA KB) | (refine hKB ?_; clear hKA hKB KA KB) | refine AWp_skipN ?_ | refine AWp_exitO (by repeat (first | exact Out.hit | apply Out.thenA | apply Out.out rfl)) ?_) | ((first | with_reducible (first | (refine hKv _ _ ?_; clear hKv Kv) | ((first | refine AWp_regC mu_146 ks_146 ?_ | refine AWp_regE mu_146 ks_146 ?_); intro Kv hKv) | refine AWp_retR ?_) | refine contains_A s _ hs _ _ ?_ | refine hasSuffix_A s hs _ _ ?_); try simp (dsimp := false) only [go_sem, Nat.reduceAdd, Nat.reduceBEq, Nat.reduceEqDiff, Nat.reduceLT, Nat.reduceLeDiff, Nat.reduceMul, Int.reduceToNat, reduceCtorEq, ↓reduceIte, Tryd.ntmps146, Tryd.results146, ks_146, mu_146, ti_hb143, ti_hb170]) | (refine AWp_condC rfl ?_; intro KA KB hKA hKB; try simp only [onB_true, onB_false, onB_dec, onB_ndec, onB_not, onB_and, onB_or]) | (refine AWp_condA rfl ?_ ?_) | with_reducible (first | refine onB_of ?_ ?_ | rfl) | omega)
  all_goals first
    | exact keepD hk (by simp_all)
def strC (s : List UInt8) : List V := [.d (.s s)]
structure OpenAt (H : Heap) (id ver : Nat) (s : Es) (rows : List (List V)) : Prop where
  get : H[id]? = some (.row ver 177 3 rows)
  len : rows.length = s.n
  top : s.n ≠ 0 → ∃ c, rows[((s.n : Int) - 1).toNat]? = some [c, .d (.b s.ins), .d (.b s.txt)] ∧ (s.ins = false → (s.at_ = [] ∧ c = .d (.c (.slice none 0 0))) ∨ (∃ ia va, s.at_ ≠ [] ∧ c = .os ia va ∧ id < ia ∧ H[ia]? = some (.row va 9 1 (s.at_.map strC))))
def mark (rows : List (List V)) (n : Nat) (t : Bool) : List (List V) := match rows[((n : Int) - 1).toNat]? with
  | some (c :: _) => rows.set ((n : Int) - 1).toNat [c, .d (.b true), .d (.b t)]
  | _ => rows
theorem mark_eq {rows : List (List V)} {n : Nat} {c a b : V} (h : rows[((n : Int) - 1).toNat]? = some [c, a, b]) (t : Bool) : mark rows n t = rows.set ((n : Int) - 1).toNat [c, .d (.b true), .d (.b t)] := by
  unfold mark
  rw [h]
def newRow : List V := [.d (.c (.slice none 0 0)), .d (.b false), .d (.b false)]
def evBad (f : Int) : V := .tu [.d (.c (.slice none 0 0)), .d (.i .i64 f)]
def evOut (id ver : Nat) : V := .tu [.os id ver, .d (.i .i64 0)]
theorem evF1_1 {s : Es} {x : Ev} {first : Bool} (h1 : x.k = 1) : evF1 s x first = if s.n = 0 then (if first = true then (if nameFault x.nm = 0 then (if x.vl = [] then 0 else 4) else nameFault x.nm) else 4) else (if nameFault x.nm = 0 then (if x.vl = [] then (if s.n = 20 then 8 else 0) else 4) else nameFault x.nm) := by
  rw [evF1, evNam, evVal, evKind, h1]
  by_cases h0 : s.n = 0 <;> by_cases hv : x.vl = [] <;> cases first <;> simp [hv, h0]
theorem evF1_2 {s : Es} {x : Ev} {first : Bool} (h1 : x.k = 2) : evF1 s x first = if s.n = 0 then 4 else if nameFault x.nm = 0 then (if textFault x.vl = 0 then (if s.ins = true then 4 else if x.nm ∈ s.at_ then 7 else 0) else textFault x.vl) else nameFault x.nm := by
  rw [evF1, evNam, evVal, evKind, h1]
  simp
theorem evF1_3 {s : Es} {x : Ev} {first : Bool} (h1 : x.k = 3) : evF1 s x first = if s.n = 0 then 4 else if x.nm = [] then (if textFault x.vl = 0 then (if x.vl = [] then 4 else if s.txt = true then 4 else 0) else textFault x.vl) else 4 := by
  rw [evF1, evNam, evVal, evKind, h1]
  by_cases hv : x.nm = [] <;> by_cases hw : x.vl = [] <;> simp [hv, hw]
theorem evF1_4 {s : Es} {x : Ev} {first : Bool} (h1 : x.k = 4) : evF1 s x first = if s.n = 0 then 4 else if x.nm = [] then (if textFault x.vl = 0 then (if dashB x.vl = true then 4 else 0) else textFault x.vl) else 4 := by
  rw [evF1, evNam, evVal, evKind, h1]
  by_cases hv : x.nm = [] <;> simp [hv]
theorem evF1_5 {s : Es} {x : Ev} {first : Bool} (h1 : x.k = 5) : evF1 s x first = if s.n = 0 then 4 else if x.nm = [] then (if x.vl = [] then 0 else 4) else 4 := by
  rw [evF1, evNam, evVal, evKind, h1]
  by_cases hv : x.nm = [] <;> by_cases hw : x.vl = [] <;> simp [hv, hw]
theorem bel_evBad (m : Nat) (f : Int) : Bel m (evBad f) := by simp [evBad, Bel_tu, Bel_d]
theorem bel_evOut {m id ver : Nat} (h : id < m) : Bel m (evOut id ver) := by simp [evOut, Bel_tu, Bel_d, Bel_os, h]
theorem bad_ret {H : Heap} {f g : Int} {K : V → Heap → Prop} {P : Prop} (hb : (f ≠ 0 → K (evBad f) H) ∧ P) (e : g = f) (h : f ≠ 0) : RetK H K (.tu [.d (.c (.slice none 0 0)), .d (.i .i64 g)]) H := by
  subst e
  exact keepK (hb.1 h) (bel_evBad _ _) rfl
theorem out_ret {H : Heap} {id ver : Nat} {ob x : Ob} {K : V → Heap → Prop} (hk : K (evOut id ver) (H.set id x)) (hg : H[id]? = some ob) (hx : ObBel H.length x) : RetK H K (.tu [.os id ver, .d (.i .i64 0)]) (H.set id x) :=
  keepS hk (by simp) (closed_set (closed_self _) (by simpa using hx)) (bel_evOut (by simpa using lt_of_get hg))
theorem ob_app {m v v' e z : Nat} {rows rows' : List (List V)} (h : ObBel m (.row v e z rows)) (h' : ∀ row, row ∈ rows' → ∀ v, v ∈ row → Bel m v) : ObBel m (.row v' e z (rows ++ rows')) := fun row hr v hv => by
  rcases List.mem_append.1 hr with hr | hr
  · exact h row hr v hv
  · exact h' row hr v hv
theorem ob_set {m v v' e z i : Nat} {rows : List (List V)} {row : List V} (h : ObBel m (.row v e z rows)) (h' : ∀ v, v ∈ row → Bel m v) : ObBel m (.row v' e z (rows.set i row)) := fun row' hr v hv => by
  rcases List.mem_or_eq_of_mem_set hr with hr | rfl
  · exact h row' hr v hv
  · exact h' v hv
theorem ob_take {m v v' e z i : Nat} {rows : List (List V)} (h : ObBel m (.row v e z rows)) : ObBel m (.row v' e z (rows.take i)) := fun row hr v hv => h row (List.mem_of_mem_take hr) v hv
theorem ob_get {m v e z i : Nat} {rows : List (List V)} {row : List V} (h : ObBel m (.row v e z rows)) (hr : rows[i]? = some row) : ∀ v, v ∈ row → Bel m v := fun v hv => h row (List.mem_of_getElem? hr) v hv
theorem bel_new (m : Nat) : ∀ row, row ∈ [newRow] → ∀ v, v ∈ row → Bel m v := fun row hr v hv => by
  simp [newRow] at hr
  subst hr
  simp at hv
  rcases hv with rfl | rfl <;> exact .d _
theorem bel_mark {m : Nat} {c a b : V} {t u : Bool} (h : ∀ v, v ∈ [c, a, b] → Bel m v) : ∀ v, v ∈ [c, .d (.b t), .d (.b u)] → Bel m v := fun v hv => by
  simp only [List.mem_cons, List.not_mem_nil, or_false] at hv
  rcases hv with rfl | rfl | rfl
  · exact h _ (by simp)
  · exact .d _
  · exact .d _
theorem obBel_str (m ver e : Nat) (l : List (List UInt8)) : ObBel m (.row ver e 1 (l.map strC)) := obBel_map (fun s => [D.s s]) m ver e 1 l
theorem mem_step {at_ : List (List UInt8)} {i : Nat} {a nm : List UInt8} (h : at_[i]? = some a) : (nm ∈ at_.drop i) = (a = nm ∨ nm ∈ at_.drop (i + 1)) := by
  rw [drop_of_get h, List.mem_cons]
  exact propext ⟨fun h => h.imp_left Eq.symm, fun h => h.imp_left Eq.symm⟩
theorem attr_ret {H H' : Heap} {id ver : Nat} {x : Ob} {K : V → Heap → Prop} (hk : K (evOut id ver) (H'.set id x)) (hl : H.length ≤ H'.length) (hc : Closed H H') (hi : id < H.length) (hx : ObBel H'.length x) : RetK H K (.tu [.os id ver, .d (.i .i64 0)]) (H'.set id x) :=
  keepS hk (by simpa using hl) (closed_set hc hx) (bel_evOut (by simp; omega))
theorem bel_cell {m : Nat} {c : V} {t u : Bool} (h : Bel m c) : ∀ v, v ∈ [c, .d (.b t), .d (.b u)] → Bel m v := fun v hv => by
  simp only [List.mem_cons, List.not_mem_nil, or_false] at hv
  rcases hv with rfl | rfl | rfl
  · exact h
  · exact .d _
  · exact .d _
theorem ObBel.mono' {m m' v e z : Nat} {rows : List (List V)} (hm : m ≤ m') (h : ObBel m (.row v e z rows)) : ObBel m' (.row v e z rows) := fun row hr v hv => (h row hr v hv).mono hm
def ks_111 : Nat → List Nat
  | 0 => [0, 2, 4]
  | 1 => [0, 2, 4, 8]
  | 2 => [0, 4, 8, 25]
  | 3 => [6, 7]
  | 4 => [0, 4, 8, 27]
  | 5 => [0, 4, 8, 27, 28]
  | 6 => [0, 4, 8, 27, 28]
  | 7 => [0, 4, 8, 9]
  | 8 => [0, 4, 8, 9, 35]
  | 9 => [6, 7]
  | 10 => [0, 4, 8, 27, 37]
  | 11 => [0, 4, 8, 27, 37]
  | 12 => [0, 4, 8, 37]
  | 13 => [0, 4, 8, 43]
  | 14 => [6, 7]
  | 15 => [0, 4, 8, 45]
  | 16 => [0, 4, 8, 10]
  | 17 => [0, 4, 8, 10, 50]
  | 18 => [6, 7]
  | 19 => [0, 4, 8, 45, 52]
  | 20 => [0, 4, 8, 52]
  | 21 => [0, 4, 8, 57]
  | 22 => [6, 7]
  | 23 => [0, 4, 8, 59]
  | 24 => [6, 7]
  | 25 => [0, 4, 8, 59, 64]
  | 26 => [0, 8, 67]
  | 27 => [6, 7]
  | 28 => [0, 8, 69]
  | 29 => [0]
  | 30 => [6, 7]
  | 31 => [0, 4, 8, 59, 84]
  | 32 => [0, 4, 8, 91]
  | 33 => [6, 7]
  | 34 => [0, 4, 8, 97, 98, 99]
  | 35 => [0, 4, 8, 97, 98, 99, 100]
  | 36 => [0, 4, 8, 12, 97, 98, 99]
  | 37 => [0, 4, 8, 97, 98, 99, 106]
  | 38 => [6, 7]
  | 39 => [0, 4, 8, 97, 98, 99]
  | 40 => [0]
  | 41 => [0, 4, 8, 59, 123]
  | 42 => [0, 8, 135]
  | 43 => [6, 7]
  | 44 => [0]
  | 45 => [0, 4, 8, 146]
  | 46 => [0, 8, 151]
  | 47 => [6, 7]
  | 48 => [0]
  | 49 => [6, 7]
  | _ => []
def mu_111 : List Nat := [83, 120]
def in_111 : List Nat := [0, 1, 2]
def xd_111 : Nat → Nat × Nat × List Bool
  | 40 => (13, 12, [])
  | _ => (0, 0, [])
def vw_111 : Nat → List Nat
  | _ => []
end Go.Proofs.YtjghnaohlfgloaaDoor
