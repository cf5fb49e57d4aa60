/- What a row's list of package variables says, as rows of known cells. No condition. -/
import Derived.Test.YtjghnaohlfgloaaDoorJ17
import Derived.Lib.LaidU8T
import Derived.Test.YtjghnaohlfgloaaDoorJ16
import Derived.Ground.NamesProg
import Derived.Shelf.Small.Strs
import Derived.Shelf.Strings.Search1
import Derived.Shelf.Unicode.ValidAny
import Derived.Shelf.Strings.Builder1
import Derived.Test.YtjghnaohlfgloaaDoorProg
set_option linter.all false
set_option linter.unusedSimpArgs false
set_option linter.unusedVariables false
namespace Go.Proofs.YtjghnaohlfgloaaDoor.Ab
open Go Go.RowKit Go.ChangeShapes Go.WideShapes Go.ChangeAt
variable [Glo]
set_option maxHeartbeats 1000000
def dsParts (g : TypeId → DataW Unit → Option (List D)) : List TypeId → List (DataW Unit) → Option (List (List D))
  | [], [] => some []
  | t :: ts, d :: ds => match g t d, dsParts g ts ds with | some x, some r => some (x :: r) | _, _ => none
  | _, _ => none
def offsB (P : Program) : Nat → List Field → Bool
  | _, [] => true
  | off, f :: fs => f.offset == off && offsB P (off + P.cellsOf f.type) fs
def fitB (P : Program) : List TypeId → List (List D) → Bool
  | [], [] => true
  | t :: ts, d :: ds => d.length == P.cellsOf t && fitB P ts ds
  | _, _ => false
def dsT (P : Program) : Nat → TypeId → DataW Unit → Option (List D)
  | 0, _, _ => none
  | n + 1, t, d => match P.underlying t, d with
    | some .bool, .lit (.bool b) => some [.b b]
    | some (.int _), .lit (.int k m) => some [.i k m]
    | some .string, .lit (.string l) => some [.s l]
    | some (.struct fs), .agg ds => (match dsParts (dsT P n) (fs.toList.map (·.type)) ds with
      | some dss => if offsB P 0 fs.toList = true ∧ fitB P (fs.toList.map (·.type)) dss = true ∧ dss.flatten.length = P.cellsOf t then some dss.flatten else none
      | none => none)
    | some (.array m e), .agg ds => (match dsParts (dsT P n) (List.replicate m e) ds with
      | some dss => if fitB P (List.replicate m e) dss = true ∧ dss.flatten.length = P.cellsOf t then some dss.flatten else none
      | none => none)
    | _, _ => none
theorem dsParts_get {g : TypeId → DataW Unit → Option (List D)} : ∀ {ts : List TypeId} {ds : List (DataW Unit)} {dss : List (List D)}, dsParts g ts ds = some dss →
    ds.length = ts.length ∧ dss.length = ts.length ∧ ∀ (k : Nat) (t : TypeId) (d : DataW Unit) (x : List D), ts[k]? = some t → ds[k]? = some d → dss[k]? = some x → g t d = some x
  | [], [], dss, h => by simp [dsParts] at h; subst h; simp
  | t :: ts, d :: ds, dss, h => by
    simp only [dsParts] at h
    split at h
    · rename_i x r hx hr
      cases h
      obtain ⟨h1, h2, h3⟩ := dsParts_get hr
      refine ⟨by simp [h1], by simp [h2], fun k t' d' x' ht hd hx' => ?_⟩
      cases k with
      | zero => simp at ht hd hx'; subst ht hd hx'; exact hx
      | succ k => exact h3 k t' d' x' (by simpa using ht) (by simpa using hd) (by simpa using hx')
    · cases h
  | [], _ :: _, _, h => by cases h
  | _ :: _, [], _, h => by cases h
theorem fitB_get {P : Program} : ∀ {ts : List TypeId} {dss : List (List D)}, fitB P ts dss = true → ∀ (k : Nat) (t : TypeId) (x : List D), ts[k]? = some t → dss[k]? = some x → x.length = P.cellsOf t
  | [], [], _, k, t, x, ht, _ => by simp at ht
  | t :: ts, d :: ds, h, k, t', x, ht, hx => by
    simp only [fitB, Bool.and_eq_true, beq_iff_eq] at h
    cases k with
    | zero => simp at ht hx; subst ht hx; exact h.1
    | succ k => exact fitB_get h.2 k t' x (by simpa using ht) (by simpa using hx)
  | [], _ :: _, h, _, _, _, _, _ => by cases h
  | _ :: _, [], h, _, _, _, _, _ => by cases h
section
variable {P : Program} {w : World} {o : Nat → Prop}
theorem cells_join (cs : List Value) : ∀ (dss : List (List D)) (offs : Nat → Nat) (off : Nat), (dss ≠ [] → offs 0 = off) → (∀ (k : Nat) (x y : List D), dss[k]? = some x → dss[k + 1]? = some y → offs (k + 1) = offs k + x.length) → (∀ (k : Nat) (x : List D), dss[k]? = some x → Cells w o x ((cs.drop (offs k)).take x.length)) →
    Cells w o dss.flatten ((cs.drop off).take dss.flatten.length)
  | [], offs, off, _, _, _ => ⟨by simp, by simp⟩
  | d :: dss, offs, off, h0, hs, hc => by
    have h0 := h0 (by simp)
    have c0 := hc 0 d rfl
    rw [h0] at c0
    have ih := cells_join cs dss (fun k => offs (k + 1)) (off + d.length) (fun hne => by
      cases dss with
      | nil => exact absurd rfl hne
      | cons y r => have := hs 0 d y rfl rfl; simp only [Nat.zero_add] at this ⊢; omega) (fun k x y hx hy => hs (k + 1) x y (by simpa using hx) (by simpa using hy)) (fun k x hx => hc (k + 1) x (by simpa using hx))
    have l0 := c0.1
    rw [List.length_take, List.length_drop] at l0
    have l1 := ih.1
    rw [List.length_take, List.length_drop] at l1
    refine ⟨?_, fun j x c hx hcj => ?_⟩
    · rw [List.flatten_cons, List.length_append, List.length_take, List.length_drop]
      omega
    · rw [List.flatten_cons, List.getElem?_append] at hx
      rw [List.flatten_cons, List.length_append, List.getElem?_take, List.getElem?_drop] at hcj
      split at hcj
      case isFalse => cases hcj
      rename_i hlt
      split at hx
      · rename_i hj
        refine c0.2 j x c hx ?_
        rw [List.getElem?_take, if_pos hj, List.getElem?_drop]
        exact hcj
      · rename_i hj
        refine ih.2 (j - d.length) x c hx ?_
        rw [List.getElem?_take, if_pos (by omega), List.getElem?_drop, ← hcj]
        congr 1
        omega
theorem cells_one {d : D} {c : Value} (h : DRel w o d c) : Cells w o [d] [c] := ⟨rfl, fun j x u hx hu => by
  cases j with
  | zero => simp at hx hu; subst hx hu; exact h
  | succ j => simp at hx⟩
theorem trod_data {enc : TypeId × Value → Unit} {base : Nat} {spare : Nat → Bool} {held : Bool} (ho : ∀ b, ¬ o b) : ∀ (n : Nat) (t : TypeId) (d : DataW Unit) (ds : List D), dsT P n t d = some ds → ∀ (fuel : Nat) (cs : List Value) (ps : List MemPlace), DataW.trod enc P w base spare held fuel t cs = some (d, ps) → Cells w o ds cs
  | 0, _, _, _, h, _, _, _, _ => by cases h
  | n + 1, t, d, ds, h, fuel, cs, ps, hr => by
    have ih := trod_data (enc := enc) (base := base) (spare := spare) (held := held) ho n
    unfold dsT at h
    split at h
    · rename_i hu
      cases h
      obtain ⟨b, rfl, hb⟩ := DataW.trod_bool hu hr
      cases hb
      exact cells_one (.b _)
    · rename_i k' k m hu
      cases h
      obtain ⟨m', rfl, hm, _⟩ := DataW.trod_int hu hr
      cases hm
      exact cells_one (.i _ _)
    · rename_i hu
      cases h
      obtain ⟨s, rfl, hs, _⟩ := DataW.trod_string hu hr
      cases hs
      refine cells_one ?_
      simpa using DRel.s (w := w) (o := o) s.data.toList
    · rename_i fs parts hu
      split at h
      case h_2 => cases h
      rename_i dss hp
      split at h
      case isFalse => cases h
      rename_i hc
      cases h
      obtain ⟨xs, n', rfl, hx, hcl, hxl, hfs⟩ := DataW.trod_struct hu hr
      obtain ⟨hx1, _⟩ := Prod.mk.inj hx
      cases hx1
      obtain ⟨g1, g2, g3⟩ := dsParts_get hp
      simp only [List.length_map] at g1 g2
      have hoff : ∀ (l : List Field) (a k : Nat), offsB P a l = true → (∀ f, l[0]? = some f → f.offset = a) ∧ (∀ f f', l[k]? = some f → l[k + 1]? = some f' → f'.offset = f.offset + P.cellsOf f.type) := by
        intro l
        induction l with
        | nil => intro a k _; simp
        | cons f l ih' =>
          intro a k hb
          simp only [offsB, Bool.and_eq_true, beq_iff_eq] at hb
          refine ⟨fun f' hf' => by simp at hf'; subst hf'; exact hb.1, fun f1 f2 h1 h2 => ?_⟩
          cases k with
          | zero =>
            simp at h1 h2
            subst h1
            have := (ih' _ 0 hb.2).1 f2 h2
            omega
          | succ k => exact (ih' _ k hb.2).2 f1 f2 (by simpa using h1) (by simpa using h2)
      have hfk : ∀ (k : Nat) (x : List D), dss[k]? = some x → ∃ f, fs.toList[k]? = some f ∧ x.length = P.cellsOf f.type ∧ Cells w o x ((cs.drop f.offset).take x.length) := fun k x hx => by
        have hk : k < fs.toList.length := by have := (List.getElem?_eq_some_iff.1 hx).1; simp only [Array.length_toList]; omega
        have hf : fs.toList[k]? = some fs.toList[k] := List.getElem?_eq_getElem hk
        have ht : (fs.toList.map (·.type))[k]? = some fs.toList[k].type := by rw [List.getElem?_map, hf]; rfl
        have hxl' : k < xs.length := by rw [hxl]; simpa using hk
        have hp1 : (xs.map (·.1))[k]? = some xs[k].1 := by rw [List.getElem?_map, List.getElem?_eq_getElem hxl']; rfl
        have hl := fitB_get hc.2.1 k _ x ht hx
        have h0 := hfs k _ (by rw [← Array.getElem?_toList]; exact hf)
        rw [List.getElem?_eq_getElem hxl'] at h0
        have := ih _ _ x (g3 k _ _ x ht hp1 hx) n' _ xs[k].2 h0
        rw [← hl] at this
        exact ⟨_, hf, hl, this⟩
      have hall := cells_join (w := w) (o := o) cs dss (fun k => ((fs.toList[k]?).map (·.offset)).getD 0) 0 (fun hne => by
        cases dss with
        | nil => exact absurd rfl hne
        | cons y r =>
          obtain ⟨f, hf, _⟩ := hfk 0 y rfl
          have := (hoff fs.toList 0 0 hc.1).1 f hf
          simp only [hf, Option.map_some, Option.getD_some, this]) (fun k x y hx hy => by
        obtain ⟨f, hf, hl, _⟩ := hfk k x hx
        obtain ⟨f', hf', _, _⟩ := hfk (k + 1) y hy
        have := (hoff fs.toList 0 k hc.1).2 f f' hf hf'
        simp only [hf, hf', Option.map_some, Option.getD_some, this, hl]) (fun k x hx => by
        obtain ⟨f, hf, _, hcx⟩ := hfk k x hx
        simp only [hf, Option.map_some, Option.getD_some]
        exact hcx)
      rw [List.drop_zero, List.take_of_length_le (by omega)] at hall
      exact hall
    · rename_i m e parts hu
      split at h
      case h_2 => cases h
      rename_i dss hp
      split at h
      case isFalse => cases h
      rename_i hc
      cases h
      obtain ⟨xs, n', rfl, hx, hcl, hxl, hfs⟩ := DataW.trod_array hu hr
      obtain ⟨hx1, _⟩ := Prod.mk.inj hx
      cases hx1
      obtain ⟨g1, g2, g3⟩ := dsParts_get hp
      simp only [List.length_replicate] at g1 g2
      have hfk : ∀ (k : Nat) (x : List D), dss[k]? = some x → x.length = P.cellsOf e ∧ Cells w o x ((cs.drop (k * P.cellsOf e)).take x.length) := fun k x hx => by
        have hk : k < m := by have := (List.getElem?_eq_some_iff.1 hx).1; omega
        have ht : (List.replicate m e)[k]? = some e := by rw [List.getElem?_replicate, if_pos hk]
        have hxl' : k < xs.length := by omega
        have hp1 : (xs.map (·.1))[k]? = some xs[k].1 := by rw [List.getElem?_map, List.getElem?_eq_getElem hxl']; rfl
        have hl := fitB_get hc.1 k _ x ht hx
        have h0 := hfs k hk
        rw [List.getElem?_eq_getElem hxl'] at h0
        have := ih _ _ x (g3 k _ _ x ht hp1 hx) n' _ xs[k].2 h0
        rw [← hl] at this ⊢
        exact ⟨rfl, this⟩
      have hall := cells_join (w := w) (o := o) cs dss (fun k => k * P.cellsOf e) 0 (fun _ => by simp) (fun k x y hx _ => by
        have := (hfk k x hx).1
        rw [Nat.add_mul, Nat.one_mul, this]) (fun k x hx => (hfk k x hx).2)
      rw [List.drop_zero, List.take_of_length_le (by omega)] at hall
      exact hall
    · cases h
theorem var_row {n : Nat} {name : String} {d : DataW Unit} {g : Nat} {t : TypeId} {ds : List D} (hg : P.globalNamed name = some g) (ht : (P.globals[g]?).map (·.type) = some t) (hd : dsT P n t d = some ds) (hpos : 0 < ds.length)
    (hr : Lib.VarReads P w name d) (ho : ∀ b, ¬ o b) : GRow w o g ds := by
  obtain ⟨g', t', cs, fuel, p, hg', ht', hv, htr⟩ := hr
  obtain rfl := Option.some.inj (hg.symm.trans hg')
  obtain rfl := Option.some.inj (ht.symm.trans ht')
  have hc := trod_data (w := w) ho n _ _ _ hd fuel cs.toList p htr
  have hcell : ∀ (j : Nat) (x : D), ds[j]? = some x → w.cell? ⟨g, j, none⟩ = some (cs.toList[j]?.getD undef) := fun j x hx => by
    have hj : j < cs.toList.length := by rw [← hc.1]; exact (List.getElem?_eq_some_iff.1 hx).1
    rw [World.var?_cell hg hv j, List.getElem?_eq_getElem hj]
    simp
  refine ⟨?_, ho g, fun j => cs.toList[j]?.getD undef, hcell, fun j x hx => ?_⟩
  · have := hcell 0 _ (List.getElem?_eq_getElem hpos)
    exact cell_lt this
  · have hj : j < cs.toList.length := by rw [← hc.1]; exact (List.getElem?_eq_some_iff.1 hx).1
    refine hc.2 j x _ hx ?_
    show cs.toList[j]? = some (cs.toList[j]?.getD undef)
    rw [List.getElem?_eq_getElem hj, Option.getD_some]
end
def valD : D → Value
  | .i k n => .int k n
  | .b t => .bool t
  | .s l => .string ⟨l.toArray⟩
  | .c v => v
  | .sl _ _ => undef
  | .m _ _ _ => undef
def putRow (h : Array Obj) (g : Nat) (row : List D) : Array Obj := h.modify g fun
  | .cells _ t frozen => .cells (row.map valD).toArray t frozen
  | o => o
end Go.Proofs.YtjghnaohlfgloaaDoor.Ab
namespace Go.Proofs.YtjghnaohlfgloaaDoor
open Go Go.Proofs.YtjghnaohlfgloaaDoor.Ab
variable [Glo]
set_option maxHeartbeats 1000000
set_option maxRecDepth 20000
def ks_77 : Nat → List Nat
  | 0 => [0, 1, 2]
  | 1 => [6]
  | _ => []
def mu_77 : List Nat := []
def in_77 : List Nat := [0, 1, 2]
theorem in_A (n l h : Int) (H : Heap) (K : V → Heap → Prop) (hk : K (.d (.b (decide (l ≤ n ∧ n ≤ h)))) H) : ACalls Tryd.prog 77 [.d (.i .i64 n), .d (.i .i64 l), .d (.i .i64 h)] H K := by
  refine ACalls_of Tryd.func77 rfl in_77 (Nat.le_of_ble_eq_true rfl) ?_
  intro F hF
  simp (dsimp := false) only [go_sem, Nat.reduceAdd, Nat.reduceBEq, Nat.reduceEqDiff, Nat.reduceLT, Nat.reduceLeDiff, Nat.reduceMul, Int.reduceToNat, reduceCtorEq, ↓reduceIte, Tryd.ntmps77, Tryd.results77, ks_77, mu_77, in_77] at hF
  subst hF
  repeat' (first | with_reducible (first | refine And.intro ?_ ?_ | intro _ | refine AWp_seq ?_ | refine AWp_block ?_ | (refine hKv _ _ (AWp_nop ?_); clear hKv Kv) | (refine hKA ?_; clear hKA hKB KA KB) | (refine hKB ?_; clear hKA hKB KA KB) | refine AWp_skipN ?_ | refine AWp_exitO (by repeat (first | exact Out.hit | apply Out.thenA | apply Out.out rfl)) ?_) | (with_reducible (first | (refine hKv _ _ ?_; clear hKv Kv) | ((first | refine AWp_regC mu_77 ks_77 ?_ | refine AWp_regE mu_77 ks_77 ?_); intro Kv hKv) | refine AWp_retR ?_); try simp (dsimp := false) only [go_sem, Nat.reduceAdd, Nat.reduceBEq, Nat.reduceEqDiff, Nat.reduceLT, Nat.reduceLeDiff, Nat.reduceMul, Int.reduceToNat, reduceCtorEq, ↓reduceIte, Tryd.ntmps77, Tryd.results77, ks_77, mu_77]) | (refine AWp_condC rfl ?_; intro KA KB hKA hKB; try simp only [onB_true, onB_false, onB_dec, onB_ndec, onB_not, onB_and, onB_or]) | (refine AWp_condA rfl ?_ ?_) | with_reducible (first | refine onB_of ?_ ?_ | rfl) | omega)
  all_goals refine keepD hk ?_
  all_goals simp [*]
end Go.Proofs.YtjghnaohlfgloaaDoor
namespace Go.Proofs.YtjghnaohlfgloaaDoor
open Go Go.Proofs.YtjghnaohlfgloaaDoor.Ab
variable [Glo]
set_option maxHeartbeats 1000000
set_option maxRecDepth 20000
def letterB (c : Int) : Bool := decide ((97 ≤ c ∧ c ≤ 122) ∨ (65 ≤ c ∧ c ≤ 90) ∨ c = 95)
def ks_142 : Nat → List Nat
  | 0 => [0]
  | 1 => [2]
  | _ => []
def mu_142 : List Nat := []
def in_142 : List Nat := [0]
theorem letter_A (c : Int) (H : Heap) (K : V → Heap → Prop) (hk : K (.d (.b (letterB c))) H) : ACalls Tryd.prog 142 [.d (.i .u8 c)] H K := by
  refine ACalls_of Tryd.func142 rfl in_142 (Nat.le_of_ble_eq_true rfl) ?_
  intro F hF
  simp (dsimp := false) only [go_sem, Nat.reduceAdd, Nat.reduceBEq, Nat.reduceEqDiff, Nat.reduceLT, Nat.reduceLeDiff, Nat.reduceMul, Int.reduceToNat, reduceCtorEq, ↓reduceIte, Tryd.ntmps142, Tryd.results142, ks_142, mu_142, in_142] at hF
  subst hF
  repeat' (first | with_reducible (first | refine And.intro ?_ ?_ | intro _ | refine AWp_seq ?_ | refine AWp_block ?_ | (refine hKv _ _ (AWp_nop ?_); clear hKv Kv) | (refine hKA ?_; clear hKA hKB KA KB) | (refine hKB ?_; clear hKA hKB KA KB) | refine AWp_skipN ?_ | refine AWp_exitO (by repeat (first | exact Out.hit | apply Out.thenA | apply Out.out rfl)) ?_) | (with_reducible (first | (refine hKv _ _ ?_; clear hKv Kv) | ((first | refine AWp_regC mu_142 ks_142 ?_ | refine AWp_regE mu_142 ks_142 ?_); intro Kv hKv) | refine AWp_retR ?_); try simp (dsimp := false) only [go_sem, Nat.reduceAdd, Nat.reduceBEq, Nat.reduceEqDiff, Nat.reduceLT, Nat.reduceLeDiff, Nat.reduceMul, Int.reduceToNat, reduceCtorEq, ↓reduceIte, Tryd.ntmps142, Tryd.results142, ks_142, mu_142]) | (refine AWp_condC rfl ?_; intro KA KB hKA hKB; try simp only [onB_true, onB_false, onB_dec, onB_ndec, onB_not, onB_and, onB_or]) | (refine AWp_condA rfl ?_ ?_) | with_reducible (first | refine onB_of ?_ ?_ | rfl) | omega)
  all_goals refine keepD hk ?_
  all_goals (simp only [letterB, V.d.injEq, D.b.injEq]; grind)
def nameB (c : Int) (first : Bool) : Bool := letterB c || (!first && decide ((48 ≤ c ∧ c ≤ 57) ∨ c = 45 ∨ c = 46))
def ks_113 : Nat → List Nat
  | 0 => [0, 1]
  | 1 => [0, 1, 22]
  | 2 => [4]
  | 3 => [4]
  | _ => []
def mu_113 : List Nat := []
def in_113 : List Nat := [0, 1]
theorem nameByte_A (c : Int) (t : Bool) (H : Heap) (K : V → Heap → Prop) (hk : K (.d (.b (nameB c t))) H) : ACalls Tryd.prog 113 [.d (.i .u8 c), .d (.b t)] H K := by
  refine ACalls_of Tryd.func113 rfl in_113 (Nat.le_of_ble_eq_true rfl) ?_
  intro F hF
  simp (dsimp := false) only [go_sem, Nat.reduceAdd, Nat.reduceBEq, Nat.reduceEqDiff, Nat.reduceLT, Nat.reduceLeDiff, Nat.reduceMul, Int.reduceToNat, reduceCtorEq, ↓reduceIte, Tryd.ntmps113, Tryd.results113, ks_113, mu_113, in_113] at hF
  subst hF
  repeat' (first | with_reducible (first | refine And.intro ?_ ?_ | intro _ | refine AWp_seq ?_ | refine AWp_block ?_ | (refine hKv _ _ (AWp_nop ?_); clear hKv Kv) | (refine hKA ?_; clear hKA hKB KA KB) | (refine hKB ?_; clear hKA hKB KA KB) | refine AWp_skipN ?_ | refine AWp_exitO (by repeat (first | exact Out.hit | apply Out.thenA | apply Out.out rfl)) ?_) | (with_reducible (first | (refine hKv _ _ ?_; clear hKv Kv) | ((first | refine AWp_regC mu_113 ks_113 ?_ | refine AWp_regE mu_113 ks_113 ?_); intro Kv hKv) | refine AWp_retR ?_); try simp (dsimp := false) only [go_sem, Nat.reduceAdd, Nat.reduceBEq, Nat.reduceEqDiff, Nat.reduceLT, Nat.reduceLeDiff, Nat.reduceMul, Int.reduceToNat, reduceCtorEq, ↓reduceIte, Tryd.ntmps113, Tryd.results113, ks_113, mu_113]) | (refine AWp_condC rfl ?_; intro KA KB hKA hKB; try simp only [onB_true, onB_false, onB_dec, onB_ndec, onB_not, onB_and, onB_or]) | (refine AWp_condA rfl ?_ ?_) | with_reducible (first | refine onB_of ?_ ?_ | rfl) | omega)
  all_goals refine keepD hk ?_
  all_goals cases t
  all_goals (simp only [nameB, letterB, V.d.injEq, D.b.injEq]; grind)
def nameAll : List UInt8 → Bool → Bool
  | [], _ => true
  | c :: r, first => nameB c.toNat first && nameAll r false
def nameFault (l : List UInt8) : Int := if 1 ≤ l.length ∧ l.length ≤ 20 then (if nameAll l true = true then 0 else 10) else 1
theorem nameAll_step {l : List UInt8} {i : Nat} {c : UInt8} (hc : l[i]? = some c) : nameAll (l.drop i) (decide (i = 0)) = (nameB c.toNat (decide (i = 0)) && nameAll (l.drop (i + 1)) (decide (i + 1 = 0))) := by
  have hi : i < l.length := (List.getElem?_eq_some_iff.1 hc).1
  have : l.drop i = c :: l.drop (i + 1) := by
    rw [List.drop_eq_getElem_cons hi]
    rw [List.getElem?_eq_getElem hi] at hc
    rw [Option.some.inj hc]
  rw [this, nameAll]
  simp
def ks_145 : Nat → List Nat
  | 0 => [0]
  | 1 => [0, 11]
  | 2 => [2]
  | 3 => [0, 13, 14]
  | 4 => [0, 13, 14, 15]
  | 5 => [0, 3, 13, 14]
  | 6 => [0, 3, 4, 13, 14]
  | 7 => [0, 13, 14, 42]
  | 8 => [2]
  | 9 => [0, 13, 14]
  | 10 => [2]
  | _ => []
def mu_145 : List Nat := []
def in_145 : List Nat := [0]
theorem checkName_A (l : List UInt8) (hlen : l.length ≤ 9223372036854775807) (H : Heap) (K : V → Heap → Prop) (hk : K (.d (.i .i64 (nameFault l))) H) : ACalls Tryd.prog 145 [.d (.s l)] H K := by
  refine ACalls_of Tryd.func145 rfl in_145 (Nat.le_of_ble_eq_true rfl) ?_
  intro F hF
  simp (dsimp := false) only [go_sem, Nat.reduceAdd, Nat.reduceBEq, Nat.reduceEqDiff, Nat.reduceLT, Nat.reduceLeDiff, Nat.reduceMul, Int.reduceToNat, reduceCtorEq, ↓reduceIte, Tryd.ntmps145, Tryd.results145, ks_145, mu_145, ti_hb142, ti_st9, in_145] at hF
  subst hF
  repeat' (first | with_reducible (first | refine And.intro ?_ ?_ | intro _ | refine AWp_seq ?_ | refine AWp_block ?_ | (refine hKv _ _ (AWp_nop ?_); clear hKv Kv) | (refine hKA ?_; clear hKA hKB KA KB) | (refine hKB ?_; clear hKA hKB KA KB) | refine AWp_skipN ?_ | refine AWp_exitO (by repeat (first | exact Out.hit | apply Out.thenA | apply Out.out rfl)) ?_) | (with_reducible (first | (refine hKv _ _ ?_; clear hKv Kv) | ((first | refine AWp_regC mu_145 ks_145 ?_ | refine AWp_regE mu_145 ks_145 ?_); intro Kv hKv) | refine AWp_retR ?_); try simp (dsimp := false) only [go_sem, Nat.reduceAdd, Nat.reduceBEq, Nat.reduceEqDiff, Nat.reduceLT, Nat.reduceLeDiff, Nat.reduceMul, Int.reduceToNat, reduceCtorEq, ↓reduceIte, Tryd.ntmps145, Tryd.results145, ks_145, mu_145, ti_hb142, ti_st9]) | (refine AWp_condC rfl ?_; intro KA KB hKA hKB; try simp only [onB_true, onB_false, onB_dec, onB_ndec, onB_not, onB_and, onB_or]) | (refine AWp_condA rfl ?_ ?_) | with_reducible (first | refine onB_of ?_ ?_ | rfl) | omega)
  · exact keepD hk (by simp_all [nameFault])
  · exact keepD hk (by simp_all [nameFault]; omega)
  rename_i h1 h2
  have h3 : 1 ≤ l.length ∧ l.length ≤ 20 := by cases l <;> simp_all; omega
  refine AWp_while0 (fun i : Nat => i ≤ l.length ∧ nameAll l true = nameAll (l.drop i) (decide (i = 0))) (fun i => [(0, .d (.s l)), (13, .d (.i .i64 l.length)), (14, .d (.i .i64 i))]) (fun i => l.length - i) 0 ?_ ?_ ?_
  · simp
  · simp (dsimp := false) only [go_sem, Nat.reduceAdd, Nat.reduceBEq, Nat.reduceEqDiff, Nat.reduceLT, Nat.reduceLeDiff, Nat.reduceMul, Int.reduceToNat, reduceCtorEq, ↓reduceIte, Tryd.ntmps145, Tryd.results145, ks_145, mu_145, ti_hb142, ti_st9]
    omega
  rintro i ⟨hi, hall⟩
  repeat' (first | with_reducible (first | refine And.intro ?_ ?_ | intro _ | refine AWp_seq ?_ | refine AWp_block ?_ | (refine hKv _ _ (AWp_nop ?_); clear hKv Kv) | (refine hKA ?_; clear hKA hKB KA KB) | (refine hKB ?_; clear hKA hKB KA KB) | refine AWp_skipN ?_ | refine AWp_exitO (by repeat (first | exact Out.hit | apply Out.thenA | apply Out.out rfl)) ?_) | ((first | with_reducible (first | (refine hKv _ _ ?_; clear hKv Kv) | ((first | refine AWp_regC mu_145 ks_145 ?_ | refine AWp_regE mu_145 ks_145 ?_); intro Kv hKv) | refine AWp_retR ?_) | refine letter_A _ _ _ ?_); try simp (dsimp := false) only [go_sem, Nat.reduceAdd, Nat.reduceBEq, Nat.reduceEqDiff, Nat.reduceLT, Nat.reduceLeDiff, Nat.reduceMul, Int.reduceToNat, reduceCtorEq, ↓reduceIte, Tryd.ntmps145, Tryd.results145, ks_145, mu_145, ti_hb142, ti_st9]) | (refine AWp_condC rfl ?_; intro KA KB hKA hKB; try simp only [onB_true, onB_false, onB_dec, onB_ndec, onB_not, onB_and, onB_or]) | (refine AWp_condA rfl ?_ ?_) | with_reducible (first | refine onB_of ?_ ?_ | rfl) | omega)
  all_goals try have hc := ‹l[((i : Int)).toNat]? = some _›
  all_goals try rw [Int.toNat_natCast] at hc
  all_goals try have hst := nameAll_step hc
  all_goals try (refine ⟨i + 1, ⟨by omega, ?_⟩, by omega, by omega⟩)
  all_goals try refine keepD hk ?_
  all_goals try simp only [V.d.injEq, D.i.injEq, true_and, nameFault, if_pos h3]
  all_goals rw [hall]
  all_goals try rw [hst]
  all_goals first
    | (have : i = l.length := by omega
       subst this; simp [nameAll])
    | grind [nameB]
def ks_114 : Nat → List Nat
  | 0 => [0]
  | 1 => [0, 7]
  | 2 => [2]
  | 3 => [0, 3]
  | 4 => [0, 3, 11]
  | 5 => [0, 3]
  | 6 => [0, 3, 20]
  | 7 => [2]
  | 8 => [2]
  | _ => []
def mu_114 : List Nat := []
def in_114 : List Nat := [0]
theorem nameFault_A (l : List UInt8) (hlen : l.length ≤ 9223372036854775807) (H : Heap) (K : V → Heap → Prop) (hk : K (.d (.i .i64 (nameFault l))) H) : ACalls Tryd.prog 114 [.d (.s l)] H K := by
  refine ACalls_of Tryd.func114 rfl in_114 (Nat.le_of_ble_eq_true rfl) ?_
  intro F hF
  simp (dsimp := false) only [go_sem, Nat.reduceAdd, Nat.reduceBEq, Nat.reduceEqDiff, Nat.reduceLT, Nat.reduceLeDiff, Nat.reduceMul, Int.reduceToNat, reduceCtorEq, ↓reduceIte, Tryd.ntmps114, Tryd.results114, ks_114, mu_114, ti_hb77, ti_hb113, ti_st9, in_114] at hF
  subst hF
  repeat' (first | with_reducible (first | refine And.intro ?_ ?_ | intro _ | refine AWp_seq ?_ | refine AWp_block ?_ | (refine hKv _ _ (AWp_nop ?_); clear hKv Kv) | (refine hKA ?_; clear hKA hKB KA KB) | (refine hKB ?_; clear hKA hKB KA KB) | refine AWp_skipN ?_ | refine AWp_exitO (by repeat (first | exact Out.hit | apply Out.thenA | apply Out.out rfl)) ?_) | ((first | with_reducible (first | (refine hKv _ _ ?_; clear hKv Kv) | ((first | refine AWp_regC mu_114 ks_114 ?_ | refine AWp_regE mu_114 ks_114 ?_); intro Kv hKv) | refine AWp_retR ?_) | refine in_A _ _ _ _ _ ?_); try simp (dsimp := false) only [go_sem, Nat.reduceAdd, Nat.reduceBEq, Nat.reduceEqDiff, Nat.reduceLT, Nat.reduceLeDiff, Nat.reduceMul, Int.reduceToNat, reduceCtorEq, ↓reduceIte, Tryd.ntmps114, Tryd.results114, ks_114, mu_114, ti_hb77, ti_hb113, ti_st9]) | (refine AWp_condC rfl ?_; intro KA KB hKA hKB; try simp only [onB_true, onB_false, onB_dec, onB_ndec, onB_not, onB_and, onB_or]) | (refine AWp_condA rfl ?_ ?_) | with_reducible (first | refine onB_of ?_ ?_ | rfl) | omega)
  rotate_left
  · rename_i h
    exact keepD hk (by simp_all [nameFault]; omega)
  rename_i h
  have h3 : 1 ≤ l.length ∧ l.length ≤ 20 := by omega
  refine AWp_while0 (fun i : Nat => i ≤ l.length ∧ nameAll l true = nameAll (l.drop i) (decide (i = 0))) (fun i => [(0, .d (.s l)), (3, .d (.i .i64 i))]) (fun i => l.length - i) 0 ?_ ?_ ?_
  · simp
  · simp (dsimp := false) only [go_sem, Nat.reduceAdd, Nat.reduceBEq, Nat.reduceEqDiff, Nat.reduceLT, Nat.reduceLeDiff, Nat.reduceMul, Int.reduceToNat, reduceCtorEq, ↓reduceIte, Tryd.ntmps114, Tryd.results114, ks_114, mu_114, ti_hb77, ti_hb113, ti_st9]
    omega
  rintro i ⟨hi, hall⟩
  repeat' (first | with_reducible (first | refine And.intro ?_ ?_ | intro _ | refine AWp_seq ?_ | refine AWp_block ?_ | (refine hKv _ _ (AWp_nop ?_); clear hKv Kv) | (refine hKA ?_; clear hKA hKB KA KB) | (refine hKB ?_; clear hKA hKB KA KB) | refine AWp_skipN ?_ | refine AWp_exitO (by repeat (first | exact Out.hit | apply Out.thenA | apply Out.out rfl)) ?_) | ((first | with_reducible (first | (refine hKv _ _ ?_; clear hKv Kv) | ((first | refine AWp_regC mu_114 ks_114 ?_ | refine AWp_regE mu_114 ks_114 ?_); intro Kv hKv) | refine AWp_retR ?_) | refine nameByte_A _ _ _ _ ?_); try simp (dsimp := false) only [go_sem, Nat.reduceAdd, Nat.reduceBEq, Nat.reduceEqDiff, Nat.reduceLT, Nat.reduceLeDiff, Nat.reduceMul, Int.reduceToNat, reduceCtorEq, ↓reduceIte, Tryd.ntmps114, Tryd.results114, ks_114, mu_114, ti_hb77, ti_hb113, ti_st9]) | (refine AWp_condC rfl ?_; intro KA KB hKA hKB; try simp only [onB_true, onB_false, onB_dec, onB_ndec, onB_not, onB_and, onB_or]) | (refine AWp_condA rfl ?_ ?_) | with_reducible (first | refine onB_of ?_ ?_ | rfl) | omega)
  all_goals try have hc := ‹l[((i : Int)).toNat]? = some _›
  all_goals try rw [Int.toNat_natCast] at hc
  all_goals try have hst := nameAll_step hc
  all_goals try (refine ⟨i + 1, ⟨by omega, ?_⟩, by omega, by omega⟩)
  all_goals try refine keepD hk ?_
  all_goals try simp only [V.d.injEq, D.i.injEq, true_and, nameFault, if_pos h3]
  all_goals rw [hall]
  all_goals try rw [hst]
  all_goals first
    | (have : i = l.length := by omega
       subst this; simp [nameAll])
    | grind [nameB]
end Go.Proofs.YtjghnaohlfgloaaDoor
namespace Go.Proofs
open Go.Shelf
def Tryd.laysValid_ren : Go.Shelf.Ren := ⟨fun | 196 => 147 | 259 => 171 | n => n, fun | 9 => 9 | 4 => 4 | 3 => 3 | 5 => 5 | 12 => 12 | 119 => 196 | 0 => 0 | 46 => 158 | 139 => 199 | 138 => 198 | 53 => 189 | n => n, fun | 3 => 3 | 4 => 4 | n => n⟩
theorem Tryd.laysValid : Go.Proofs.Lays.n196 Tryd.prog Tryd.laysValid_ren := {
  mixed := by kernel_rfl
  f196 := Tryd.func147.trans (congrArg some (by kernel_rfl))
  f259 := Tryd.func171.trans (congrArg some (by kernel_rfl))
  t0 := Tryd.underlying0
  a0 := Tryd.isAgg0
  z0 := Tryd.sizeOf0
  v0 := Tryd.zeroValue0
  t3 := Tryd.underlying3
  a3 := Tryd.isAgg3
  z3 := Tryd.sizeOf3
  v3 := Tryd.zeroValue3
  t4 := Tryd.underlying4
  a4 := Tryd.isAgg4
  z4 := Tryd.sizeOf4
  v4 := Tryd.zeroValue4
  t5 := Tryd.underlying5
  a5 := Tryd.isAgg5
  z5 := Tryd.sizeOf5
  v5 := Tryd.zeroValue5
  t9 := Tryd.underlying9
  a9 := Tryd.isAgg9
  z9 := Tryd.sizeOf9
  v9 := Tryd.zeroValue9
  t12 := Tryd.underlying12
  a12 := Tryd.isAgg12
  z12 := Tryd.sizeOf12
  v12 := Tryd.zeroValue12
  t46 := Tryd.underlying158
  a46 := Tryd.isAgg158
  z46 := Tryd.sizeOf158
  v46 := Tryd.zeroValue158
  t53 := Tryd.underlying189
  a53 := Tryd.isAgg189
  z53 := Tryd.sizeOf189
  v53 := Tryd.zeroValue189
  t119 := Tryd.underlying196
  a119 := Tryd.isAgg196
  z119 := Tryd.sizeOf196
  t138 := Tryd.underlying198
  a138 := Tryd.isAgg198
  z138 := Tryd.sizeOf198
  v138 := Tryd.zeroValue198
  t139 := Tryd.underlying199
  a139 := Tryd.isAgg199
  z139 := Tryd.sizeOf199
  v139 := Tryd.zeroValue199
  g3 := by kernel_rfl
  g4 := by kernel_rfl }
def Tryd.lays217_ren : Go.Shelf.Ren := ⟨fun | 217 => 166 | 266 => 180 | n => n, fun | 9 => 9 | 5 => 5 | 3 => 3 | n => n, fun | n => n⟩
theorem Tryd.lays217 : Go.Proofs.Lays.n217 Tryd.prog Tryd.lays217_ren := {
  mixed := by kernel_rfl
  f217 := Tryd.func166.trans (congrArg some (by kernel_rfl))
  f266 := Tryd.func180.trans (congrArg some (by kernel_rfl))
  t3 := Tryd.underlying3
  a3 := Tryd.isAgg3
  z3 := Tryd.sizeOf3
  v3 := Tryd.zeroValue3
  t5 := Tryd.underlying5
  a5 := Tryd.isAgg5
  z5 := Tryd.sizeOf5
  v5 := Tryd.zeroValue5
  t9 := Tryd.underlying9
  a9 := Tryd.isAgg9
  z9 := Tryd.sizeOf9
  v9 := Tryd.zeroValue9 }
end Go.Proofs
namespace Go.Proofs.YtjghnaohlfgloaaDoor
open Go Go.Proofs.YtjghnaohlfgloaaDoor.Ab
variable [Glo]
def firstRow : List D := Lib.firstTab.map fun z => .i .u8 z
def acceptRow : List D := (List.range 16).flatMap fun i => [.i .u8 (Lib.accLo i), .i .u8 (Lib.accHi i)]
class U8 [Glo] : Prop where
  first : glob 3 = some firstRow
  accept : glob 4 = some acceptRow
theorem firstRow_get (c : Nat) (hc : c < 256) : firstRow[c]? = some (.i .u8 (Lib.firstT c)) := by
  simp [firstRow, Lib.firstTab, hc]
theorem acceptRow_get (i : Nat) (hi : i < 16) : acceptRow[2 * i]? = some (.i .u8 (Lib.accLo i)) ∧ acceptRow[2 * i + 1]? = some (.i .u8 (Lib.accHi i)) := by
  match i, hi with
  | 0, _ | 1, _ | 2, _ | 3, _ | 4, _ | 5, _ | 6, _ | 7, _ | 8, _ | 9, _ | 10, _ | 11, _ | 12, _ | 13, _ | 14, _ | 15, _ => exact ⟨rfl, rfl⟩
  | n + 16, h => exact absurd h (by omega)
theorem tabs_of [U8] {w : World} {H : Heap} {σ : Conc} (hw : WOk w H σ) : Lib.Utf8Tabs 3 4 w := by
  obtain ⟨_, _, f, f1, f2⟩ := hw.glob _ _ U8.first
  obtain ⟨_, _, a, a1, a2⟩ := hw.glob _ _ U8.accept
  refine ⟨fun c hc => ?_, fun i hi => ⟨?_, ?_⟩⟩
  · rw [f1 c _ (firstRow_get c hc), (f2 c _ (firstRow_get c hc)).inv_i]
  · rw [a1 _ _ (acceptRow_get i hi).1, (a2 _ _ (acceptRow_get i hi).1).inv_i]
  · rw [a1 _ _ (acceptRow_get i hi).2, (a2 _ _ (acceptRow_get i hi).2).inv_i]
theorem valid_A [U8] (l : List UInt8) (hl : l.length ≤ 9223372036854775807) (H : Heap) (K : V → Heap → Prop) (hk : K (.d (.b (Lib.validD l))) H) : ACalls Tryd.prog 147 [.d (.s l)] H K := by
  refine ACalls_below _ hk fun w σ args hw hlen hr => ?_
  obtain ⟨u, rfl⟩ := Array.size_eq_one_iff.1 (by simpa using hlen.symm)
  obtain rfl := (hr 0 _ u rfl rfl).inv_d.inv_s
  refine ⟨.bool (Lib.validD l), fun w' _ => .d _ _ (.b _), ?_⟩
  have := Any.utf8_ValidString Tryd.laysValid ⟨l.toArray⟩ w (by rw [size_mk]; exact hl) (tabs_of hw)
  have e : (⟨l.toArray⟩ : ByteArray).data.toList = l := by simp
  rw [e] at this
  exact this
end Go.Proofs.YtjghnaohlfgloaaDoor
