/- The parser with its events: the state, and one step of a tag in plain words. No condition. -/
import Derived.Test.YtjghnaohlfgloaaDoorJ25
set_option linter.all false
set_option linter.unusedSimpArgs false
set_option linter.unusedVariables false
namespace Go.Proofs.YtjghnaohlfgloaaDoor
open Go Go.Proofs.YtjghnaohlfgloaaDoor.Ab
variable [Glo]
set_option maxHeartbeats 4000000
set_option maxRecDepth 20000
def evR (x : Ev) : List V := [.d (.i .i64 x.k), .d (.s x.nm), .d (.s x.vl)]
def paG (H : Heap) (id oid : Nat) (s : List UInt8) (i f : Int) (vp v : Nat) (rows : List (List V)) : Heap :=
  (H.set id (prC s i (.os oid vp) f)).set oid (.row v 97 3 rows)
theorem evR_app (l : List Ev) (k : Int) (a b : List UInt8) : l.map evR ++ [[.d (.i .i64 k), .d (.s a), .d (.s b)]] = (l ++ [(⟨k, a, b⟩ : Ev)]).map evR := by simp [evR]
section
variable {H : Heap} {id oid : Nat} (hid : id < H.length) (hod : oid < H.length) (hne : id ≠ oid) {s : List UInt8}
include hid hod hne
theorem paG_P (i f : Int) (vp v : Nat) (rows : List (List V)) : (paG H id oid s i f vp v rows)[id]? = some (.row 0 86 4 [[.d (.s s), .d (.i .i64 i), .os oid vp, .d (.i .i64 f)]]) := by
  rw [paG, List.getElem?_set, if_neg (fun e => hne e.symm), List.getElem?_set, if_pos rfl, if_pos hid]; rfl
theorem paG_O (i f : Int) (vp v : Nat) (rows : List (List V)) : (paG H id oid s i f vp v rows)[oid]? = some (.row v 97 3 rows) := by
  rw [paG, List.getElem?_set, if_pos rfl, if_pos (by simpa using hod)]
theorem paG_len (i f : Int) (vp v : Nat) (rows : List (List V)) : (paG H id oid s i f vp v rows).length = H.length := by simp [paG]
theorem paG_setP (i f : Int) (vp v : Nat) (rows : List (List V)) (i' f' : Int) (vp' : Nat) : (paG H id oid s i f vp v rows).set id (.row 0 86 4 [[.d (.s s), .d (.i .i64 i'), .os oid vp', .d (.i .i64 f')]]) = paG H id oid s i' f' vp' v rows := by
  rw [paG, paG, List.set_comm _ _ (fun e => hne e.symm), List.set_set]; rfl
theorem paG_setO (i f : Int) (vp v : Nat) (rows : List (List V)) (v' : Nat) (rows' : List (List V)) : (paG H id oid s i f vp v rows).set oid (.row v' 97 3 rows') = paG H id oid s i f vp v' rows' := by
  rw [paG, paG, List.set_set]
theorem paG_closed (i f : Int) (vp v : Nat) (l : List Ev) : Closed H (paG H id oid s i f vp v (l.map evR)) := by
  unfold paG
  refine closed_set (closed_set (closed_self H) (prC_bel (.os _ _ (by simpa using hod)))) ?_
  exact obBel_map (fun x : Ev => evD x) _ v 97 3 l
end
theorem paG_same {H : Heap} {id oid : Nat} {s : List UInt8} {i f : Int} {v : Nat} {rows : List (List V)} (h1 : H[id]? = some (prC s i (.os oid v) f)) (h2 : H[oid]? = some (.row v 97 3 rows)) : paG H id oid s i f v v rows = H := by
  rw [paG, set_same h1, set_same h2]
theorem contains2 [U8] [Ml] (c : UInt8) : Lib.contains [34, 60] [c] = decide (c = 34 ∨ c = 60) := by
  rw [contains_cons, contains_cons]
  have e : Lib.contains [] [c] = false := by first | rfl | simp [Lib.contains]
  rw [e, Bool.eq_iff_iff]
  simp [List.isPrefixOf]
theorem contains1 [U8] [Ml] (c : UInt8) : Lib.contains [60] [c] = decide (c = 60 ∨ c = 60) := by
  rw [contains_cons]
  have e : Lib.contains [] [c] = false := by first | rfl | simp [Lib.contains]
  rw [e, Bool.eq_iff_iff]
  simp [List.isPrefixOf]
structure Ar where
  k : Nat
  f1 : Int
  a2 : Nat
  f2 : Int
  w : Vl
  a4 : Nat
  f4 : Int
def arOf (s : List UInt8) (a0 : Nat) : Ar :=
  let k := nmN s a0 0
  let f1 := nmF s a0 0
  let a2 := mustAt s (a0 + k) f1 [61, 34]
  let f2 := mustF s (a0 + k) f1 [61, 34]
  let w := vlOf 34 s a2 f2
  ⟨k, f1, a2, f2, w, mustAt s (a2 + w.n) w.f [34], mustF s (a2 + w.n) w.f [34]⟩
def arEv (s : List UInt8) (a0 : Nat) : Ev := ⟨2, (s.drop a0).take (arOf s a0).k, (arOf s a0).w.out⟩
theorem mustAt_le {s t : List UInt8} {a : Nat} {f : Int} (h : a ≤ s.length) : mustAt s a f t ≤ s.length := by
  unfold mustAt
  split
  · rename_i hp
    have := (List.isPrefixOf_iff_prefix.1 hp.2).length_le
    rw [List.length_drop] at this
    omega
  · exact h
theorem nmN_le {s : List UInt8} {a : Nat} {f : Int} (h : a ≤ s.length) : a + nmN s a f ≤ s.length := by
  unfold nmN
  split
  · have := nameN_le true (s.drop a)
    rw [List.length_drop] at this
    omega
  · exact h
theorem vlOf_le {e : UInt8} {s : List UInt8} {a : Nat} {f : Int} (h : a ≤ s.length) : a + (vlOf e s a f).n ≤ s.length := by
  unfold vlOf
  split
  · have := valN_le e (s.drop a) 0
    rw [List.length_drop] at this
    omega
  · exact h
theorem vlOf_out {e : UInt8} {s : List UInt8} {a : Nat} {f : Int} : (vlOf e s a f).out.length ≤ s.length := by
  unfold vlOf
  split
  · have := valN_out e (s.drop a) 0
    rw [List.length_drop] at this
    omega
  · exact Nat.zero_le _
theorem arOf_le {s : List UInt8} {a0 : Nat} (h : a0 ≤ s.length) : a0 + (arOf s a0).k ≤ s.length ∧ (arOf s a0).a2 ≤ s.length ∧ (arOf s a0).a2 + (arOf s a0).w.n ≤ s.length ∧ (arOf s a0).a4 ≤ s.length := by
  have h1 : a0 + nmN s a0 0 ≤ s.length := nmN_le h
  have h2 : mustAt s (a0 + nmN s a0 0) (nmF s a0 0) [61, 34] ≤ s.length := mustAt_le h1
  exact ⟨h1, h2, vlOf_le h2, mustAt_le (vlOf_le h2)⟩
theorem head_prefix (l : List UInt8) (c : UInt8) : [c].isPrefixOf l = decide (l.head? = some c) := by
  cases l with
  | nil => rfl
  | cons a l =>
    rw [Bool.eq_iff_iff]
    simp [List.isPrefixOf]
    exact ⟨fun h => h.symm, fun h => h.symm⟩
theorem tg_ext {a b : Tg} (h1 : a.evs = b.evs) (h2 : a.n = b.n) (h3 : a.c = b.c) (h4 : a.f = b.f) : a = b := by
  cases a; cases b; simp_all
theorem attr_step {s : List UInt8} {i fuel : Nat} (hi : i ≤ s.length) (p1 : [47, 62].isPrefixOf ((s.drop i).drop (blankN (s.drop i))) = false) (p2 : [62].isPrefixOf ((s.drop i).drop (blankN (s.drop i))) = false)
    (p3 : ((s.drop i).drop (blankN (s.drop i))).head? ≠ some 47) (p4 : ¬ (blankN (s.drop i) = 0 ∧ s.drop i ≠ [])) :
    let a0 := i + blankN (s.drop i)
    let r := arOf s a0
    i ≤ r.a4 ∧ (r.f4 ≠ 0 → attrT (fuel + 1) (s.drop i) = ⟨[arEv s a0], r.a4 - i, false, r.f4⟩) ∧
    (r.f4 = 0 → i < r.a4 ∧ attrT (fuel + 1) (s.drop i) = ⟨arEv s a0 :: (attrT fuel (s.drop r.a4)).evs, r.a4 - i + (attrT fuel (s.drop r.a4)).n, (attrT fuel (s.drop r.a4)).c, (attrT fuel (s.drop r.a4)).f⟩) := by
  have hb := blankN_le (s.drop i)
  rw [List.length_drop] at hb
  have dd : ∀ n, (s.drop i).drop n = s.drop (i + n) := fun n => List.drop_drop ..
  rw [attrT, if_neg (by rw [p1]; decide), if_neg (by rw [p2]; decide), if_neg p3, if_neg p4]
  simp only [atV, atE, atNm, dd] at p1 p2 p3 ⊢
  generalize hb' : blankN (s.drop i) = b at *
  have hEv : ∀ w : Vl, ∀ nm, w = (arOf s (i + b)).w → nm = (s.drop (i + b)).take (nameN true (s.drop (i + b))) → (⟨2, nm, w.out⟩ : Ev) = arEv s (i + b) := by
    rintro w nm rfl rfl
    rw [arEv, arOf]
    simp [nmN]
  by_cases hk : nameN true (s.drop (i + b)) = 0
  · rw [if_pos hk]
    have e0 : nmN s (i + b) 0 = 0 := by rw [nmN, if_pos rfl, hk]
    have e1 : nmF s (i + b) 0 = if i + b = s.length then 5 else 4 := by rw [nmF, if_pos rfl, if_pos hk]
    have e1' : nmF s (i + b) 0 ≠ 0 := by rw [e1]; split <;> decide
    have e2 : arOf s (i + b) = ⟨0, nmF s (i + b) 0, i + b, nmF s (i + b) 0, ⟨[], 0, nmF s (i + b) 0⟩, i + b, nmF s (i + b) 0⟩ := by
      simp only [arOf, e0, Nat.add_zero, mustAt, mustF, vlOf, if_neg e1', e1', false_and, if_false]
    have e3 : arEv s (i + b) = ⟨2, [], []⟩ := by rw [arEv, e2]; simp
    rw [e3]
    simp only [e2]
    refine ⟨by omega, fun _ => ?_, fun h => absurd h e1'⟩
    refine tg_ext rfl (by simp) rfl ?_
    show (if b = (s.drop i).length then (5 : Int) else 4) = nmF s (i + b) 0
    rw [e1, List.length_drop]
    by_cases h : i + b = s.length
    · rw [if_pos h, if_pos (by omega)]
    · rw [if_neg h, if_neg (by omega)]
  rw [if_neg hk]
  have hkl := nameN_le true (s.drop (i + b))
  rw [List.length_drop] at hkl
  generalize hk' : nameN true (s.drop (i + b)) = k at *
  have e0 : nmN s (i + b) 0 = k := by rw [nmN, if_pos rfl, hk']
  have e1 : nmF s (i + b) 0 = 0 := by rw [nmF, if_pos rfl, hk', if_neg hk]
  have a1 : i + (b + k) = i + b + k := by omega
  have a2 : i + (b + k + 2) = i + b + k + 2 := by omega
  simp only [a1, a2]
  cases hq : [61, 34].isPrefixOf (s.drop (i + b + k)) with
  | false =>
    rw [if_pos rfl]
    have m1 : mustAt s (i + b + k) 0 [61, 34] = i + b + k := by rw [mustAt, if_neg (by rw [hq]; rintro ⟨_, h⟩; cases h)]
    have m2 : mustF s (i + b + k) 0 [61, 34] = missF (s.drop (i + b + k)) [61, 34] := by rw [mustF, if_pos rfl, if_neg (by rw [hq]; decide), missF]
    have m2' : missF (s.drop (i + b + k)) [61, 34] ≠ 0 := by rw [missF]; split <;> decide
    have e2 : arOf s (i + b) = ⟨k, 0, i + b + k, missF (s.drop (i + b + k)) [61, 34], ⟨[], 0, missF (s.drop (i + b + k)) [61, 34]⟩, i + b + k, missF (s.drop (i + b + k)) [61, 34]⟩ := by
      simp only [arOf, e0, e1, m1, m2]
      simp only [vlOf, mustAt, mustF, if_neg m2', m2', Nat.add_zero, false_and, if_false]
    have e3 : arEv s (i + b) = ⟨2, (s.drop (i + b)).take k, []⟩ := by rw [arEv, e2]
    rw [e3]
    simp only [e2]
    exact ⟨by omega, fun _ => tg_ext rfl (by simp; omega) rfl rfl, fun h => absurd h m2'⟩
  | true =>
    rw [if_neg (by decide)]
    have hq2 := (List.isPrefixOf_iff_prefix.1 hq).length_le
    rw [List.length_drop] at hq2
    simp only [List.length_cons, List.length_nil] at hq2
    have m1 : mustAt s (i + b + k) 0 [61, 34] = i + b + k + 2 := by rw [mustAt, if_pos ⟨rfl, hq⟩]; rfl
    have m2 : mustF s (i + b + k) 0 [61, 34] = 0 := by rw [mustF, if_pos rfl, if_pos hq]
    have m3 : vlOf 34 s (i + b + k + 2) 0 = valN 34 0 (s.drop (i + b + k + 2)) := if_pos rfl
    have hvl := valN_le 34 (s.drop (i + b + k + 2)) 0
    rw [List.length_drop] at hvl
    have hve := valN_end 34 (s.drop (i + b + k + 2)) 0
    generalize hw : valN 34 0 (s.drop (i + b + k + 2)) = w at *
    have a3 : i + (b + k + 2 + w.n) = i + b + k + 2 + w.n := by omega
    have a4 : i + (b + k + 2 + w.n + 1) = i + b + k + 2 + w.n + 1 := by omega
    simp only [a3, a4]
    by_cases hf : w.f = 0
    · rw [if_neg (by simpa using hf)]
      by_cases hh : (s.drop (i + b + k + 2 + w.n)).head? = some 34
      · have hp : [34].isPrefixOf (s.drop (i + b + k + 2 + w.n)) = true := by rw [head_prefix]; exact decide_eq_true hh
        rw [if_pos hh]
        have e2 : arOf s (i + b) = ⟨k, 0, i + b + k + 2, 0, w, i + b + k + 2 + w.n + 1, 0⟩ := by
          simp only [arOf, e0, e1, m1, m2, m3, hf]
          simp only [mustAt, mustF, hp, true_and, and_self, if_true, List.length_cons, List.length_nil]
        have e3 : arEv s (i + b) = ⟨2, (s.drop (i + b)).take k, w.out⟩ := by rw [arEv, e2]
        rw [e3]
        simp only [e2]
        exact ⟨by omega, fun h => absurd rfl h, fun _ => ⟨by omega, tg_ext rfl (by simp; omega) rfl rfl⟩⟩
      · have hp : [34].isPrefixOf (s.drop (i + b + k + 2 + w.n)) = false := by rw [head_prefix]; exact decide_eq_false hh
        rw [if_neg hh]
        have hp2 : (s.drop (i + b + k + 2 + w.n)).isPrefixOf [34] = false := by
          obtain ⟨c, hc, hc2⟩ := hve hf
          rw [List.getElem?_drop] at hc
          rw [drop_of_get hc] at hh ⊢
          have : c = 60 := by
            rcases hc2 with rfl | rfl
            · exact absurd rfl hh
            · rfl
          subst this
          rfl
        have e2 : arOf s (i + b) = ⟨k, 0, i + b + k + 2, 0, w, i + b + k + 2 + w.n, 4⟩ := by
          simp only [arOf, e0, e1, m1, m2, m3, hf]
          simp only [mustAt, mustF, hp, hp2, and_false, if_true, if_false, Bool.false_eq_true]
        have e3 : arEv s (i + b) = ⟨2, (s.drop (i + b)).take k, w.out⟩ := by rw [arEv, e2]
        rw [e3]
        simp only [e2]
        exact ⟨by omega, fun _ => tg_ext rfl (by simp; omega) rfl rfl, fun h => absurd h (by decide)⟩
    · rw [if_pos (by simpa using hf)]
      have e2 : arOf s (i + b) = ⟨k, 0, i + b + k + 2, 0, w, i + b + k + 2 + w.n, w.f⟩ := by
        simp only [arOf, e0, e1, m1, m2, m3]
        simp only [mustAt, mustF, if_neg hf, hf, false_and, if_false]
      have e3 : arEv s (i + b) = ⟨2, (s.drop (i + b)).take k, w.out⟩ := by rw [arEv, e2]
      rw [e3]
      simp only [e2]
      exact ⟨by omega, fun _ => tg_ext rfl (by simp; omega) rfl rfl, fun h => absurd h hf⟩
end Go.Proofs.YtjghnaohlfgloaaDoor
namespace Go.Proofs.YtjghnaohlfgloaaDoor
open Go Go.Proofs.YtjghnaohlfgloaaDoor.Ab
variable [Glo]
set_option maxHeartbeats 4000000
set_option maxRecDepth 20000
def tgOf (s : List UInt8) (at_ : Nat) (f : Int) : Tg := if f = 0 then tagT (s.drop at_) else ⟨[⟨1, [], []⟩], 0, false, f⟩
structure Ta where
  i : Nat
  f : Int
  acc : List Ev
  fuel : Nat
structure TaOk (s : List UInt8) (at_ : Nat) (f : Int) (y : Ta) : Prop where
  h2 : y.i ≤ s.length
  h3 : y.f = 0 → y.acc ++ (attrT y.fuel (s.drop y.i)).evs = (tgOf s at_ f).evs ∧ y.i + (attrT y.fuel (s.drop y.i)).n = at_ + (tgOf s at_ f).n ∧ (attrT y.fuel (s.drop y.i)).c = (tgOf s at_ f).c ∧ (attrT y.fuel (s.drop y.i)).f = (tgOf s at_ f).f ∧ s.length - y.i < y.fuel
  h4 : y.f ≠ 0 → y.acc = (tgOf s at_ f).evs ∧ y.i = at_ + (tgOf s at_ f).n ∧ (tgOf s at_ f).c = false ∧ y.f = (tgOf s at_ f).f
  h5 : y.acc.length + y.fuel ≤ s.length + 3
theorem TaOk.init {s : List UInt8} {at_ : Nat} (f : Int) (h : at_ ≤ s.length) : TaOk s at_ f ⟨at_ + nmN s at_ f, nmF s at_ f, [⟨1, (s.drop at_).take (nmN s at_ f), []⟩], s.length - at_ + 1⟩ := by
  have hle : at_ + nmN s at_ f ≤ s.length := nmN_le h
  have hl : (s.drop at_).length = s.length - at_ := List.length_drop ..
  by_cases hf : f = 0
  · subst hf
    by_cases hk : nameN true (s.drop at_) = 0
    · have e0 : nmN s at_ 0 = 0 := by rw [nmN, if_pos rfl, hk]
      have e1 : nmF s at_ 0 = if at_ = s.length then 5 else 4 := by rw [nmF, if_pos rfl, if_pos hk]
      have e1' : nmF s at_ 0 ≠ 0 := by rw [e1]; split <;> decide
      have eR : tgOf s at_ 0 = ⟨[⟨1, [], []⟩], 0, false, nmF s at_ 0⟩ := by
        rw [tgOf, if_pos rfl, tagT, if_pos hk, e1]
        congr 1
        by_cases h1 : at_ = s.length
        · rw [if_pos h1, if_pos (by rw [List.drop_eq_nil_of_le (by omega)])]
        · rw [if_neg h1, if_neg (fun h2 => h1 (by have := congrArg List.length h2; rw [hl] at this; simp at this; omega))]
      rw [e0] at hle ⊢
      exact ⟨hle, fun h0 => absurd h0 e1', fun _ => by rw [eR]; exact ⟨by simp, rfl, rfl, rfl⟩, by simp; omega⟩
    · have e0 : nmN s at_ 0 = nameN true (s.drop at_) := by rw [nmN, if_pos rfl]
      have e1 : nmF s at_ 0 = 0 := by rw [nmF, if_pos rfl, if_neg hk]
      rw [e0] at hle ⊢
      rw [e1]
      refine ⟨hle, fun _ => ?_, fun h0 => absurd rfl h0, by simp; omega⟩
      rw [tgOf, if_pos rfl, tagT, if_neg hk, hl, List.drop_drop]
      exact ⟨rfl, by show at_ + nameN true (s.drop at_) + _ = at_ + (nameN true (s.drop at_) + _); rw [Nat.add_assoc], rfl, rfl, by show s.length - (at_ + nameN true (s.drop at_)) < s.length - at_ + 1; omega⟩
  · have e0 : nmN s at_ f = 0 := by rw [nmN, if_neg hf]
    have e1 : nmF s at_ f = f := by rw [nmF, if_neg hf]
    have eR : tgOf s at_ f = ⟨[⟨1, [], []⟩], 0, false, f⟩ := by rw [tgOf, if_neg hf]
    rw [e0, e1]
    exact ⟨h, fun h0 => absurd h0 hf, fun _ => by rw [eR]; exact ⟨by simp, rfl, rfl, rfl⟩, by simp; omega⟩
theorem TaOk.unf {s : List UInt8} {at_ i fuel : Nat} {f : Int} {acc : List Ev} (h : TaOk s at_ f ⟨i, 0, acc, fuel⟩) : ∃ fl, fuel = fl + 1 := by
  have := (h.h3 rfl).2.2.2.2
  exact ⟨fuel - 1, by simp only [] at this; omega⟩
theorem TaOk.step {s : List UInt8} {at_ i fuel : Nat} {f : Int} {acc : List Ev} (h : TaOk s at_ f ⟨i, 0, acc, fuel + 1⟩) (p1 : [47, 62].isPrefixOf (s.drop (i + blankN (s.drop i))) = false) (p2 : [62].isPrefixOf (s.drop (i + blankN (s.drop i))) = false)
    (p3 : (s.drop (i + blankN (s.drop i))).head? ≠ some 47) (p4 : ¬ (blankN (s.drop i) = 0 ∧ i < s.length)) :
    TaOk s at_ f ⟨(arOf s (i + blankN (s.drop i))).a4, (arOf s (i + blankN (s.drop i))).f4, acc ++ [arEv s (i + blankN (s.drop i))], fuel⟩ := by
  have hi : i ≤ s.length := h.h2
  have hb := blankN_le (s.drop i)
  rw [List.length_drop] at hb
  have dd : ∀ n, (s.drop i).drop n = s.drop (i + n) := fun n => List.drop_drop ..
  obtain ⟨g0, g1, g2⟩ := attr_step (fuel := fuel) hi (by rw [dd]; exact p1) (by rw [dd]; exact p2) (by rw [dd]; exact p3) (fun ⟨q1, q2⟩ => p4 ⟨q1, by
    by_cases hc : i < s.length
    · exact hc
    · exact absurd (List.drop_eq_nil_of_le (Nat.le_of_not_lt hc)) q2⟩)
  have hle := (arOf_le (s := s) (a0 := i + blankN (s.drop i)) (by omega)).2.2.2
  obtain ⟨q1, q2, q3, q4, q5⟩ := h.h3 rfl
  have q6 := h.h5
  simp only [] at q1 q2 q3 q4 q5 q6
  refine ⟨hle, fun hf => ?_, fun hf => ?_, ?_⟩
  rotate_left 2
  · simp only [List.length_append, List.length_cons, List.length_nil]; omega
  · obtain ⟨r1, r2⟩ := g2 hf
    rw [r2] at q1 q2 q3 q4
    simp only [] at q1 q2 q3 q4 ⊢
    exact ⟨by rw [← q1]; simp, by omega, q3, q4, by omega⟩
  · rw [g1 hf] at q1 q2 q3 q4
    simp only [] at q1 q2 q3 q4 ⊢
    exact ⟨q1, by omega, q3.symm, q4⟩
theorem TaOk.close {s : List UInt8} {at_ i fuel : Nat} {f : Int} {acc : List Ev} (h : TaOk s at_ f ⟨i, 0, acc, fuel + 1⟩) (p1 : [47, 62].isPrefixOf (s.drop (i + blankN (s.drop i))) = true) :
    acc ++ [⟨5, [], []⟩] = (tgOf s at_ f).evs ∧ i + blankN (s.drop i) + 2 = at_ + (tgOf s at_ f).n ∧ (tgOf s at_ f).c = true ∧ (tgOf s at_ f).f = 0 := by
  obtain ⟨q1, q2, q3, q4, q5⟩ := h.h3 rfl
  simp only [attrT, List.drop_drop, if_pos p1] at q1 q2 q3 q4
  exact ⟨q1, by omega, q3.symm, q4.symm⟩
theorem TaOk.open_ {s : List UInt8} {at_ i fuel : Nat} {f : Int} {acc : List Ev} (h : TaOk s at_ f ⟨i, 0, acc, fuel + 1⟩) (p1 : [47, 62].isPrefixOf (s.drop (i + blankN (s.drop i))) = false) (p2 : [62].isPrefixOf (s.drop (i + blankN (s.drop i))) = true) :
    acc = (tgOf s at_ f).evs ∧ i + blankN (s.drop i) + 1 = at_ + (tgOf s at_ f).n ∧ (tgOf s at_ f).c = false ∧ (tgOf s at_ f).f = 0 := by
  obtain ⟨q1, q2, q3, q4, q5⟩ := h.h3 rfl
  simp only [attrT, List.drop_drop, p1, p2, if_true, if_false, Bool.false_eq_true, List.append_nil] at q1 q2 q3 q4
  exact ⟨q1, by omega, q3.symm, q4.symm⟩
theorem TaOk.slash {s : List UInt8} {at_ i fuel : Nat} {f : Int} {acc : List Ev} (h : TaOk s at_ f ⟨i, 0, acc, fuel + 1⟩) (p1 : [47, 62].isPrefixOf (s.drop (i + blankN (s.drop i))) = false) (p2 : [62].isPrefixOf (s.drop (i + blankN (s.drop i))) = false) (p3 : (s.drop (i + blankN (s.drop i))).head? = some 47) :
    acc = (tgOf s at_ f).evs ∧ i + blankN (s.drop i) = at_ + (tgOf s at_ f).n ∧ (tgOf s at_ f).c = false ∧ (tgOf s at_ f).f = missF (s.drop (i + blankN (s.drop i))) [47, 62] := by
  obtain ⟨q1, q2, q3, q4, q5⟩ := h.h3 rfl
  simp only [attrT, List.drop_drop, p1, p2, p3, if_true, if_false, Bool.false_eq_true, List.append_nil] at q1 q2 q3 q4
  exact ⟨q1, by omega, q3.symm, q4.symm⟩
theorem TaOk.form {s : List UInt8} {at_ i fuel : Nat} {f : Int} {acc : List Ev} (h : TaOk s at_ f ⟨i, 0, acc, fuel + 1⟩) (p1 : [47, 62].isPrefixOf (s.drop (i + blankN (s.drop i))) = false) (p2 : [62].isPrefixOf (s.drop (i + blankN (s.drop i))) = false) (p3 : (s.drop (i + blankN (s.drop i))).head? ≠ some 47) (p4 : blankN (s.drop i) = 0) (p5 : i < s.length) :
    acc = (tgOf s at_ f).evs ∧ i = at_ + (tgOf s at_ f).n ∧ (tgOf s at_ f).c = false ∧ (tgOf s at_ f).f = 4 := by
  obtain ⟨q1, q2, q3, q4, q5⟩ := h.h3 rfl
  have hne : s.drop i ≠ [] := fun e => by
    have := congrArg List.length e
    rw [List.length_drop] at this
    simp at this
    omega
  simp only [attrT, List.drop_drop, p1, p2, if_neg p3, if_pos (⟨p4, hne⟩ : blankN (s.drop i) = 0 ∧ s.drop i ≠ []), if_false, Bool.false_eq_true, List.append_nil] at q1 q2 q3 q4
  exact ⟨q1, by omega, q3.symm, q4.symm⟩
end Go.Proofs.YtjghnaohlfgloaaDoor
namespace Go.Proofs.YtjghnaohlfgloaaDoor
open Go Go.Proofs.YtjghnaohlfgloaaDoor.Ab
variable [Glo] [U8] [Ml]
set_option maxHeartbeats 4000000
set_option maxRecDepth 20000
theorem index_A (s sub : List UInt8) (hs : s.length ≤ 1000000000) (H : Heap) (K : V → Heap → Prop) (hk : K (.d (.i .i64 (Lib.index s sub))) H) :
    ACalls Tryd.prog 109 [.d (.s s), .d (.s sub)] H K := by
  obtain ⟨m, hm⟩ := Ml.maxl
  refine ACalls_below _ hk fun w σ args hw hl hr => ?_
  obtain ⟨a, b, rfl⟩ := two_of_size (xs := args) (by simpa using hl.symm)
  obtain rfl := (hr 0 _ a rfl rfl).inv_d.inv_s
  obtain rfl := (hr 1 _ b rfl rfl).inv_d.inv_s
  obtain ⟨_, _, f, f1, f2⟩ := hw.glob _ _ hm
  have hm0 : w.cell? ⟨Tryd.lays143_ren.g 1, 0, none⟩ = some (.int .i64 m) := by
    have e1 : Tryd.lays143_ren.g 1 = 2 := by first | rfl | kernel_rfl
    rw [e1, f1 0 _ rfl, (f2 0 _ rfl).inv_i]
  have hsz : (⟨s.toArray⟩ : ByteArray).size = s.length := by simp [ByteArray.size]
  have := Any.strings_Index Tryd.lays143 ⟨s.toArray⟩ ⟨sub.toArray⟩ m w (by rw [hsz]; omega) hm0
  have e : Tryd.lays143_ren.f 143 = 109 := by first | rfl | kernel_rfl
  rw [e] at this
  refine ⟨_, fun w' _ => .d _ _ (.i _ _), this.mono ?_⟩
  rintro e w' ⟨rfl, rfl⟩
  exact ⟨by simp, RowKit.Below.refl _ _⟩
theorem cmt_index : ∀ l : List UInt8, Lib.index l [45, 45, 62] = match cmtN l with | some i => (i : Int) | none => -1
  | [] => rfl
  | c :: l => by
    rw [Lib.index, cmtN, cmt_index l]
    split
    · rfl
    · cases h : cmtN l with
      | none => simp
      | some i =>
        simp only [Option.map_some]
        rw [if_neg (by first | (simp; done) | (simp; omega))]
        first | rfl | (push_cast; rfl) | (push_cast; done)
def ks_54 : Nat → List Nat
  | 0 => [0]
  | 1 => [0, 8]
  | 2 => [2]
  | 3 => [2]
  | _ => []
def mu_54 : List Nat := []
def in_54 : List Nat := [0]
theorem first_A (id oid : Nat) (s : List UInt8) (i f : Int) (v : Nat) (x : Ev) (l : List Ev) (H : Heap) (K : V → Heap → Prop) (hr : H[id]? = some (prC s i (.os oid v) f)) (ho : H[oid]? = some (.row v 97 3 ((x :: l).map evR)))
    (hk : K (.d (.s x.nm)) H) :
    ACalls Tryd.prog 54 [.pt id 0 0 0] H K := by
  have hid := lt_of_get hr
  have hod := lt_of_get ho
  rw [prC] at hr
  rw [List.map_cons] at ho
  have h1 : (((evR x :: l.map evR).length : Int) = 0) = False := eq_false (by first | (simp; done) | (simp; omega))
  simp only [evR] at ho h1
  have h0 : ((0 : Int) ≤ 0) = True := eq_true (by decide)
  have h2 : ((0 : Int) < (([V.d (.i .i64 x.k), V.d (.s x.nm), V.d (.s x.vl)] :: l.map fun x => [V.d (.i .i64 x.k), V.d (.s x.nm), V.d (.s x.vl)]).length : Int)) = True := eq_true (by first | (simp; done) | (simp; omega))
  refine ACalls_of Tryd.func54 rfl in_54 (Nat.le_of_ble_eq_true rfl) ?_
  intro F hF
  simp (dsimp := false) only [go_sem, Nat.reduceAdd, Nat.reduceBEq, Nat.reduceEqDiff, Nat.reduceLT, Nat.reduceLeDiff, Nat.reduceMul, Int.reduceToNat, reduceCtorEq, ↓reduceIte, Tryd.ntmps54, Tryd.results54, ks_54, mu_54, ti_ag9, ti_ag43, ti_fl86_2, ti_fl97_1, ti_sb43, ti_sl43, hr, ho, h1, h2, hid, hod, in_54] at hF
  subst hF
  repeat' (first | with_reducible (first | refine And.intro ?_ ?_ | intro _ | refine AWp_seq ?_ | refine AWp_block ?_ | (refine hKv _ _ (AWp_nop ?_); clear hKv Kv) | (refine hKA ?_; clear hKA hKB KA KB) | (refine hKB ?_; clear hKA hKB KA KB) | refine AWp_skipN ?_ | refine AWp_exitO (by repeat (first | exact Out.hit | apply Out.thenA | apply Out.out rfl)) ?_) | (with_reducible (first | (refine hKv _ _ ?_; clear hKv Kv) | ((first | refine AWp_regC mu_54 ks_54 ?_ | refine AWp_regE mu_54 ks_54 ?_); intro Kv hKv) | refine AWp_retR ?_); try simp (dsimp := false) only [go_sem, Nat.reduceAdd, Nat.reduceBEq, Nat.reduceEqDiff, Nat.reduceLT, Nat.reduceLeDiff, Nat.reduceMul, Int.reduceToNat, reduceCtorEq, ↓reduceIte, Tryd.ntmps54, Tryd.results54, ks_54, mu_54, ti_ag9, ti_ag43, ti_fl86_2, ti_fl97_1, ti_sb43, ti_sl43, hr, ho, h1, h2, hid, hod]) | (refine AWp_condC rfl ?_; intro KA KB hKA hKB; try simp only [onB_true, onB_false, onB_dec, onB_ndec, onB_not, onB_and, onB_or]) | (refine AWp_condA rfl ?_ ?_) | with_reducible (first | refine onB_of ?_ ?_ | rfl) | omega)
  all_goals first
    | omega
    | exact keepD hk rfl
def ks_110 : Nat → List Nat
  | 0 => [0]
  | 1 => [0, 3]
  | 2 => [0, 3, 11]
  | 3 => [0, 3]
  | 4 => [0, 3, 22]
  | 5 => [2]
  | 6 => [2]
  | _ => []
def mu_110 : List Nat := []
def in_110 : List Nat := [0]
theorem started_A (id oid : Nat) (s : List UInt8) (at_ f : Int) (v j : Nat) (l : List Ev) (x : Ev) (H : Heap) (K : V → Heap → Prop) (hr : H[id]? = some (prC s at_ (.os oid v) f)) (ho : H[oid]? = some (.row v 97 3 (l.map evR)))
    (hl : l.length ≤ 1000000000) (hj : l[j]? = some x) (hx : x.k = 1) (hn : ∀ m y, j < m → l[m]? = some y → y.k ≠ 1)
    (hk : K (.d (.i .i64 j)) H) :
    ACalls Tryd.prog 110 [.pt id 0 0 0] H K := by
  have hid := lt_of_get hr
  have hod := lt_of_get ho
  have hjl := lt_of_get hj
  rw [prC] at hr
  have hlm : (l.map evR).length = l.length := List.length_map ..
  refine ACalls_of Tryd.func110 rfl in_110 (Nat.le_of_ble_eq_true rfl) ?_
  intro F hF
  simp (dsimp := false) only [go_sem, Nat.reduceAdd, Nat.reduceBEq, Nat.reduceEqDiff, Nat.reduceLT, Nat.reduceLeDiff, Nat.reduceMul, Int.reduceToNat, reduceCtorEq, ↓reduceIte, Tryd.ntmps110, Tryd.results110, ks_110, mu_110, ti_ag3, ti_ag43, ti_fl86_2, ti_fl97_0, ti_sb43, ti_sl43, hr, ho, hid, hod, hlm, in_110] at hF
  subst hF
  repeat' (first | with_reducible (first | refine And.intro ?_ ?_ | intro _ | refine AWp_seq ?_ | refine AWp_block ?_ | (refine hKv _ _ (AWp_nop ?_); clear hKv Kv) | (refine hKA ?_; clear hKA hKB KA KB) | (refine hKB ?_; clear hKA hKB KA KB) | refine AWp_skipN ?_ | refine AWp_exitO (by repeat (first | exact Out.hit | apply Out.thenA | apply Out.out rfl)) ?_) | (with_reducible (first | (refine hKv _ _ ?_; clear hKv Kv) | ((first | refine AWp_regC mu_110 ks_110 ?_ | refine AWp_regE mu_110 ks_110 ?_); intro Kv hKv) | refine AWp_retR ?_); try simp (dsimp := false) only [go_sem, Nat.reduceAdd, Nat.reduceBEq, Nat.reduceEqDiff, Nat.reduceLT, Nat.reduceLeDiff, Nat.reduceMul, Int.reduceToNat, reduceCtorEq, ↓reduceIte, Tryd.ntmps110, Tryd.results110, ks_110, mu_110, ti_ag3, ti_ag43, ti_fl86_2, ti_fl97_0, ti_sb43, ti_sl43, hr, ho, hid, hod, hlm]) | (refine AWp_condC rfl ?_; intro KA KB hKA hKB; try simp only [onB_true, onB_false, onB_dec, onB_ndec, onB_not, onB_and, onB_or]) | (refine AWp_condA rfl ?_ ?_) | with_reducible (first | refine onB_of ?_ ?_ | rfl) | omega)
  refine AWp_while0 (fun i : Nat => j ≤ i ∧ i < l.length) (fun i => [(0, .pt id 0 0 0), (3, .d (.i .i64 i))]) (fun i => i) (l.length - 1) ⟨by omega, by omega⟩ ?_ ?_
  · simp (dsimp := false) only [go_sem, Nat.reduceAdd, Nat.reduceBEq, Nat.reduceEqDiff, Nat.reduceLT, Nat.reduceLeDiff, Nat.reduceMul, Int.reduceToNat, reduceCtorEq, ↓reduceIte, Tryd.ntmps110, Tryd.results110, ks_110, mu_110, ti_ag3, ti_ag43, ti_fl86_2, ti_fl97_0, ti_sb43, ti_sl43, hr, ho, hid, hod, hlm]
    first | done | exact ⟨by omega, by omega⟩ | omega
  rintro i ⟨i1, i2⟩
  obtain ⟨y, hy⟩ : ∃ y, l[i]? = some y := ⟨l[i], List.getElem?_eq_getElem i2⟩
  have hy' : (l.map evR)[i]? = some [.d (.i .i64 y.k), .d (.s y.nm), .d (.s y.vl)] := by rw [List.getElem?_map, hy]; rfl
  have ii0 : ((0 : Int) ≤ (i : Int)) = True := eq_true (by omega)
  have ii1 : ((i : Int) < (l.length : Int)) = True := eq_true (by omega)
  by_cases hi0 : i = 0
  · have hj0 : j = 0 := by omega
    subst hj0
    have h1 : ((0 : Int) < (i : Int)) = False := eq_false (by omega)
    repeat' (first | with_reducible (first | refine And.intro ?_ ?_ | intro _ | refine AWp_seq ?_ | refine AWp_block ?_ | (refine hKv _ _ (AWp_nop ?_); clear hKv Kv) | (refine hKA ?_; clear hKA hKB KA KB) | (refine hKB ?_; clear hKA hKB KA KB) | refine AWp_skipN ?_ | refine AWp_exitO (by repeat (first | exact Out.hit | apply Out.thenA | apply Out.out rfl)) ?_) | (with_reducible (first | (refine hKv _ _ ?_; clear hKv Kv) | ((first | refine AWp_regC mu_110 ks_110 ?_ | refine AWp_regE mu_110 ks_110 ?_); intro Kv hKv) | refine AWp_retR ?_); try simp (dsimp := false) only [go_sem, Nat.reduceAdd, Nat.reduceBEq, Nat.reduceEqDiff, Nat.reduceLT, Nat.reduceLeDiff, Nat.reduceMul, Int.reduceToNat, reduceCtorEq, ↓reduceIte, Tryd.ntmps110, Tryd.results110, ks_110, mu_110, ti_ag3, ti_ag43, ti_fl86_2, ti_fl97_0, ti_sb43, ti_sl43, hr, ho, hid, hod, hlm, h1]) | (refine AWp_condC rfl ?_; intro KA KB hKA hKB; try simp only [onB_true, onB_false, onB_dec, onB_ndec, onB_not, onB_and, onB_or]) | (refine AWp_condA rfl ?_ ?_) | with_reducible (first | refine onB_of ?_ ?_ | rfl) | omega)
    all_goals first
      | omega
      | exact keepD hk rfl
  · have h1 : ((0 : Int) < (i : Int)) = True := eq_true (by omega)
    by_cases hij : i = j
    · subst hij
      obtain rfl : x = y := Option.some.inj (hj.symm.trans hy)
      have hx' : (x.k = 1) = True := eq_true hx
      repeat' (first | with_reducible (first | refine And.intro ?_ ?_ | intro _ | refine AWp_seq ?_ | refine AWp_block ?_ | (refine hKv _ _ (AWp_nop ?_); clear hKv Kv) | (refine hKA ?_; clear hKA hKB KA KB) | (refine hKB ?_; clear hKA hKB KA KB) | refine AWp_skipN ?_ | refine AWp_exitO (by repeat (first | exact Out.hit | apply Out.thenA | apply Out.out rfl)) ?_) | (with_reducible (first | (refine hKv _ _ ?_; clear hKv Kv) | ((first | refine AWp_regC mu_110 ks_110 ?_ | refine AWp_regE mu_110 ks_110 ?_); intro Kv hKv) | refine AWp_retR ?_); try simp (dsimp := false) only [go_sem, Nat.reduceAdd, Nat.reduceBEq, Nat.reduceEqDiff, Nat.reduceLT, Nat.reduceLeDiff, Nat.reduceMul, Int.reduceToNat, reduceCtorEq, ↓reduceIte, Tryd.ntmps110, Tryd.results110, ks_110, mu_110, ti_ag3, ti_ag43, ti_fl86_2, ti_fl97_0, ti_sb43, ti_sl43, hr, ho, hid, hod, hlm, h1, hy', hj, evR, hx', ii0, ii1]) | (refine AWp_condC rfl ?_; intro KA KB hKA hKB; try simp only [onB_true, onB_false, onB_dec, onB_ndec, onB_not, onB_and, onB_or]) | (refine AWp_condA rfl ?_ ?_) | with_reducible (first | refine onB_of ?_ ?_ | rfl) | omega)
      all_goals first
        | omega
        | exact keepD hk rfl
    · have hx' : (y.k = 1) = False := eq_false (hn i y (by omega) hy)
      repeat' (first | with_reducible (first | refine And.intro ?_ ?_ | intro _ | refine AWp_seq ?_ | refine AWp_block ?_ | (refine hKv _ _ (AWp_nop ?_); clear hKv Kv) | (refine hKA ?_; clear hKA hKB KA KB) | (refine hKB ?_; clear hKA hKB KA KB) | refine AWp_skipN ?_ | refine AWp_exitO (by repeat (first | exact Out.hit | apply Out.thenA | apply Out.out rfl)) ?_) | (with_reducible (first | (refine hKv _ _ ?_; clear hKv Kv) | ((first | refine AWp_regC mu_110 ks_110 ?_ | refine AWp_regE mu_110 ks_110 ?_); intro Kv hKv) | refine AWp_retR ?_); try simp (dsimp := false) only [go_sem, Nat.reduceAdd, Nat.reduceBEq, Nat.reduceEqDiff, Nat.reduceLT, Nat.reduceLeDiff, Nat.reduceMul, Int.reduceToNat, reduceCtorEq, ↓reduceIte, Tryd.ntmps110, Tryd.results110, ks_110, mu_110, ti_ag3, ti_ag43, ti_fl86_2, ti_fl97_0, ti_sb43, ti_sl43, hr, ho, hid, hod, hlm, h1, hy', hy, evR, hx', ii0, ii1]) | (refine AWp_condC rfl ?_; intro KA KB hKA hKB; try simp only [onB_true, onB_false, onB_dec, onB_ndec, onB_not, onB_and, onB_or]) | (refine AWp_condA rfl ?_ ?_) | with_reducible (first | refine onB_of ?_ ?_ | rfl) | omega)
      all_goals first
        | omega
        | exact ⟨i - 1, ⟨by omega, by omega⟩, by omega, by (repeat' (refine And.intro ?_ ?_)) <;> first | rfl | omega | (simp; done) | (simp; omega)⟩
end Go.Proofs.YtjghnaohlfgloaaDoor
