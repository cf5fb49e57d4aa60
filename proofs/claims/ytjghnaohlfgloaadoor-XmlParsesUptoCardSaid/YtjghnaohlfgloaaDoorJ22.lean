/- What the parser makes of a text, in plain words. No condition. -/
import Derived.Test.YtjghnaohlfgloaaDoorJ21
set_option linter.all false
set_option linter.unusedSimpArgs false
set_option linter.unusedVariables false
namespace Go.Proofs.YtjghnaohlfgloaaDoor
open Go Go.Proofs.YtjghnaohlfgloaaDoor.Ab
def blankB (c : UInt8) : Bool := decide (c = 32 ∨ c = 10 ∨ c = 9)
def blankN : List UInt8 → Nat
  | [] => 0
  | c :: l => if blankB c = true then blankN l + 1 else 0
theorem blankN_le : ∀ l : List UInt8, blankN l ≤ l.length
  | [] => Nat.le_refl _
  | c :: l => by
    rw [blankN, List.length_cons]
    have := blankN_le l
    split <;> omega
theorem byte_eq (c : UInt8) (n : Nat) (h : n < 256) : ((c.toNat : Int) = n) = (c = UInt8.ofNat n) := by
  apply propext
  rw [← UInt8.toNat_inj, UInt8.toNat_ofNat_of_lt' h]
  omega
def nameN : Bool → List UInt8 → Nat
  | _, [] => 0
  | first, c :: l => if nameB c.toNat first = true then nameN false l + 1 else 0
theorem nameN_le : ∀ (t : Bool) (l : List UInt8), nameN t l ≤ l.length
  | _, [] => Nat.le_refl _
  | t, c :: l => by
    rw [nameN, List.length_cons]
    have := nameN_le false l
    split <;> omega
def missF (r t : List UInt8) : Int := if r.isPrefixOf t = true then 5 else 4
def escL (l : List UInt8) : Option (UInt8 × Nat) :=
  if [38, 97, 109, 112, 59].isPrefixOf l = true then some (38, 5)
  else if [38, 108, 116, 59].isPrefixOf l = true then some (60, 4)
  else if [38, 103, 116, 59].isPrefixOf l = true then some (62, 4)
  else if [38, 113, 117, 111, 116, 59].isPrefixOf l = true then some (34, 6) else none
theorem escL_len {l : List UInt8} {b : UInt8} {n : Nat} (h : escL l = some (b, n)) : n ≤ l.length ∧ 1 ≤ n := by
  unfold escL at h
  have pl : ∀ {p : List UInt8}, p.isPrefixOf l = true → p.length ≤ l.length := fun hp => (List.isPrefixOf_iff_prefix.1 hp).length_le
  split at h
  · rename_i hp; cases h; exact ⟨pl hp, by decide⟩
  split at h
  · rename_i hp; cases h; exact ⟨pl hp, by decide⟩
  split at h
  · rename_i hp; cases h; exact ⟨pl hp, by decide⟩
  split at h
  · rename_i hp; cases h; exact ⟨pl hp, by decide⟩
  cases h
structure Vl where
  out : List UInt8
  n : Nat
  f : Int
def valN (e : UInt8) : Nat → List UInt8 → Vl
  | k, [] => ⟨[], 0, 5⟩
  | k + 1, c :: l => ⟨(valN e k l).out, (valN e k l).n + 1, (valN e k l).f⟩
  | 0, c :: l => if c = e ∨ c = 60 then ⟨[], 0, 0⟩ else if c = 38 then (match escL (c :: l) with
      | some (b, n) => ⟨b :: (valN e (n - 1) l).out, (valN e (n - 1) l).n + 1, (valN e (n - 1) l).f⟩
      | none => ⟨[], 0, 4⟩)
    else ⟨c :: (valN e 0 l).out, (valN e 0 l).n + 1, (valN e 0 l).f⟩
theorem valN_skip (e : UInt8) : ∀ (l : List UInt8) (k : Nat), k ≤ l.length → (valN e k l).out = (valN e 0 (l.drop k)).out ∧ (valN e k l).n = (valN e 0 (l.drop k)).n + k ∧ (valN e k l).f = (valN e 0 (l.drop k)).f
  | l, 0, _ => ⟨rfl, rfl, rfl⟩
  | [], k + 1, h => by simp at h
  | c :: l, k + 1, h => by
    obtain ⟨h1, h2, h3⟩ := valN_skip e l k (by simpa using h)
    rw [valN, List.drop_succ_cons]
    exact ⟨h1, by rw [← Nat.add_assoc, ← h2], h3⟩
theorem valN_le (e : UInt8) : ∀ (l : List UInt8) (k : Nat), (valN e k l).n ≤ l.length
  | [], k => by cases k <;> exact Nat.le_refl _
  | c :: l, k + 1 => by
    rw [valN, List.length_cons]
    exact Nat.succ_le_succ (valN_le e l k)
  | c :: l, 0 => by
    rw [valN, List.length_cons]
    split
    · exact Nat.zero_le _
    split
    · split
      · exact Nat.succ_le_succ (valN_le e l _)
      · exact Nat.zero_le _
    · exact Nat.succ_le_succ (valN_le e l 0)
theorem valN_out (e : UInt8) : ∀ (l : List UInt8) (k : Nat), (valN e k l).out.length ≤ l.length
  | [], k => by cases k <;> exact Nat.le_refl _
  | c :: l, k + 1 => by
    rw [valN, List.length_cons]
    exact Nat.le_succ_of_le (valN_out e l k)
  | c :: l, 0 => by
    rw [valN, List.length_cons]
    split
    · exact Nat.zero_le _
    split
    · split
      · exact Nat.succ_le_succ (valN_out e l _)
      · exact Nat.zero_le _
    · exact Nat.succ_le_succ (valN_out e l 0)
theorem valN_end (e : UInt8) : ∀ (l : List UInt8) (k : Nat), (valN e k l).f = 0 → ∃ c, l[(valN e k l).n]? = some c ∧ (c = e ∨ c = 60)
  | [], k, h => by cases k <;> (simp [valN] at h)
  | c :: l, k + 1, h => by
    rw [valN] at h ⊢
    simpa using valN_end e l k h
  | c :: l, 0, h => by
    rw [valN] at h ⊢
    split at h
    · rename_i hc; rw [if_pos hc]; exact ⟨c, rfl, hc⟩
    rename_i hc
    rw [if_neg hc]
    split at h
    · rename_i h38
      rw [if_pos h38]
      split at h
      · simpa using valN_end e l _ h
      · cases h
    · rename_i h38
      rw [if_neg h38]
      simpa using valN_end e l 0 h
theorem valN_pos (e : UInt8) {l : List UInt8} (h : (valN e 0 l).f = 0) (hc : l.head? ≠ some 60) (he : l.head? ≠ some e) : 0 < (valN e 0 l).n := by
  cases l with
  | nil => simp [valN] at h
  | cons c l =>
    have h1 : ¬ (c = e ∨ c = 60) := by
      rintro (rfl | rfl)
      · exact he rfl
      · exact hc rfl
    rw [valN, if_neg h1] at h ⊢
    split at h
    · rename_i h38
      rw [if_pos h38]
      split at h
      · exact Nat.succ_pos _
      · cases h
    · rename_i h38
      rw [if_neg h38]
      exact Nat.succ_pos _
structure Tg where
  evs : List Ev
  n : Nat
  c : Bool
  f : Int
def atE (l : List UInt8) : Nat := blankN l + nameN true (l.drop (blankN l))
def atNm (l : List UInt8) : List UInt8 := (l.drop (blankN l)).take (nameN true (l.drop (blankN l)))
def atV (l : List UInt8) : Vl := valN 34 0 (l.drop (atE l + 2))
def attrT : Nat → List UInt8 → Tg
  | 0, l => ⟨[], 0, false, 0⟩
  | fuel + 1, l =>
    if [47, 62].isPrefixOf (l.drop (blankN l)) = true then ⟨[⟨5, [], []⟩], blankN l + 2, true, 0⟩
    else if [62].isPrefixOf (l.drop (blankN l)) = true then ⟨[], blankN l + 1, false, 0⟩
    else if (l.drop (blankN l)).head? = some 47 then ⟨[], blankN l, false, missF (l.drop (blankN l)) [47, 62]⟩
    else if blankN l = 0 ∧ l ≠ [] then ⟨[], 0, false, 4⟩
    else if nameN true (l.drop (blankN l)) = 0 then ⟨[⟨2, [], []⟩], blankN l, false, if blankN l = l.length then 5 else 4⟩
    else if [61, 34].isPrefixOf (l.drop (atE l)) = false then ⟨[⟨2, atNm l, []⟩], atE l, false, missF (l.drop (atE l)) [61, 34]⟩
    else if (atV l).f ≠ 0 then ⟨[⟨2, atNm l, (atV l).out⟩], atE l + 2 + (atV l).n, false, (atV l).f⟩
    else if (l.drop (atE l + 2 + (atV l).n)).head? = some 34 then
      ⟨⟨2, atNm l, (atV l).out⟩ :: (attrT fuel (l.drop (atE l + 2 + (atV l).n + 1))).evs, atE l + 2 + (atV l).n + 1 + (attrT fuel (l.drop (atE l + 2 + (atV l).n + 1))).n, (attrT fuel (l.drop (atE l + 2 + (atV l).n + 1))).c, (attrT fuel (l.drop (atE l + 2 + (atV l).n + 1))).f⟩
    else ⟨[⟨2, atNm l, (atV l).out⟩], atE l + 2 + (atV l).n, false, 4⟩
def tagT (l : List UInt8) : Tg :=
  if nameN true l = 0 then ⟨[⟨1, [], []⟩], 0, false, if l = [] then 5 else 4⟩
  else ⟨⟨1, l.take (nameN true l), []⟩ :: (attrT (l.length + 1) (l.drop (nameN true l))).evs, nameN true l + (attrT (l.length + 1) (l.drop (nameN true l))).n, (attrT (l.length + 1) (l.drop (nameN true l))).c, (attrT (l.length + 1) (l.drop (nameN true l))).f⟩
def cmtN : List UInt8 → Option Nat
  | [] => none
  | c :: l => if [45, 45, 62].isPrefixOf (c :: l) = true then some 0 else (cmtN l).map (· + 1)
theorem cmtN_le : ∀ {l : List UInt8} {n : Nat}, cmtN l = some n → n + 3 ≤ l.length
  | [], n, h => by cases h
  | c :: l, n, h => by
    rw [cmtN] at h
    split at h
    · rename_i hp
      cases h
      have := (List.isPrefixOf_iff_prefix.1 hp).length_le
      simpa using this
    · obtain ⟨m, hm, rfl⟩ := Option.map_eq_some_iff.1 h
      have := cmtN_le hm
      rw [List.length_cons]
      omega
structure Ct where
  evs : List Ev
  n : Nat
  f : Int
def contT : Nat → List (List UInt8) → List UInt8 → Ct
  | 0, _, _ => ⟨[], 0, 0⟩
  | fuel + 1, [], l => ⟨[], 0, 0⟩
  | fuel + 1, o :: os, l =>
    if [60, 33, 45, 45].isPrefixOf l = true then (match cmtN (l.drop 4) with
      | none => ⟨[], 4, 5⟩
      | some i => ⟨⟨4, [], (l.drop 4).take i⟩ :: (contT fuel (o :: os) (l.drop (4 + i + 3))).evs, 4 + i + 3 + (contT fuel (o :: os) (l.drop (4 + i + 3))).n, (contT fuel (o :: os) (l.drop (4 + i + 3))).f⟩)
    else if [60, 47].isPrefixOf l = true then
      (if nameN true (l.drop 2) = 0 then ⟨[⟨5, [], []⟩], 2, if l.length = 2 then 5 else 4⟩
      else if [62].isPrefixOf (l.drop (2 + nameN true (l.drop 2))) = false then ⟨[⟨5, [], []⟩], 2 + nameN true (l.drop 2), missF (l.drop (2 + nameN true (l.drop 2))) [62]⟩
      else if (l.drop 2).take (nameN true (l.drop 2)) ≠ o then ⟨[⟨5, [], []⟩], 2 + nameN true (l.drop 2) + 1, 4⟩
      else ⟨⟨5, [], []⟩ :: (contT fuel os (l.drop (2 + nameN true (l.drop 2) + 1))).evs, 2 + nameN true (l.drop 2) + 1 + (contT fuel os (l.drop (2 + nameN true (l.drop 2) + 1))).n, (contT fuel os (l.drop (2 + nameN true (l.drop 2) + 1))).f⟩)
    else if [60].isPrefixOf l = true then
      (if (tagT (l.drop 1)).f ≠ 0 then ⟨(tagT (l.drop 1)).evs, 1 + (tagT (l.drop 1)).n, (tagT (l.drop 1)).f⟩
      else ⟨(tagT (l.drop 1)).evs ++ (contT fuel (if (tagT (l.drop 1)).c = true then o :: os else (l.drop 1).take (nameN true (l.drop 1)) :: o :: os) (l.drop (1 + (tagT (l.drop 1)).n))).evs, 1 + (tagT (l.drop 1)).n + (contT fuel (if (tagT (l.drop 1)).c = true then o :: os else (l.drop 1).take (nameN true (l.drop 1)) :: o :: os) (l.drop (1 + (tagT (l.drop 1)).n))).n, (contT fuel (if (tagT (l.drop 1)).c = true then o :: os else (l.drop 1).take (nameN true (l.drop 1)) :: o :: os) (l.drop (1 + (tagT (l.drop 1)).n))).f⟩)
    else if (valN 60 0 l).f ≠ 0 then ⟨[], (valN 60 0 l).n, (valN 60 0 l).f⟩
    else ⟨⟨3, [], (valN 60 0 l).out⟩ :: (contT fuel (o :: os) (l.drop (valN 60 0 l).n)).evs, (valN 60 0 l).n + (contT fuel (o :: os) (l.drop (valN 60 0 l).n)).n, (contT fuel (o :: os) (l.drop (valN 60 0 l).n)).f⟩
def parseT (s : List UInt8) : List Ev × Int :=
  if 4000 < s.length then ([], 1)
  else if [60].isPrefixOf s = false then ([], missF s [60])
  else if (tagT (s.drop 1)).f ≠ 0 then ([], (tagT (s.drop 1)).f)
  else
    let c := if (tagT (s.drop 1)).c = true then ⟨[], 0, 0⟩ else contT (s.length + 1) [(s.drop 1).take (nameN true (s.drop 1))] (s.drop (1 + (tagT (s.drop 1)).n))
    if c.f ≠ 0 then ([], c.f)
    else if 1 + (tagT (s.drop 1)).n + c.n < s.length then ([], 4)
    else if eventsFault ((tagT (s.drop 1)).evs ++ c.evs) ≠ 0 then ([], eventsFault ((tagT (s.drop 1)).evs ++ c.evs))
    else ((tagT (s.drop 1)).evs ++ c.evs, 0)
end Go.Proofs.YtjghnaohlfgloaaDoor
namespace Go.Proofs.YtjghnaohlfgloaaDoor
open Go Go.Proofs.YtjghnaohlfgloaaDoor.Ab
variable [Glo]
set_option maxHeartbeats 4000000
set_option maxRecDepth 20000
def ks_107 : Nat → List Nat
  | 0 => [0]
  | 1 => [0, 3]
  | 2 => [0, 3, 60]
  | 3 => [0, 3]
  | 4 => [2]
  | _ => []
def mu_107 : List Nat := []
def in_107 : List Nat := [0]
def nd_107 : Nat → Nat
  | 2 => 52
  | _ => 0
theorem blanks_A (id : Nat) (s : List UInt8) (at_ : Nat) (f : Int) (o : V) (H : Heap) (K : V → Heap → Prop) (hr : H[id]? = some (prC s at_ o f)) (ho : Bel H.length o) (hs : s.length ≤ 1000000) (hat : at_ ≤ s.length)
    (hk : K (.d (.b (decide (f = 0 ∧ 0 < blankN (s.drop at_))))) (H.set id (prC s (((if f = 0 then at_ + blankN (s.drop at_) else at_) : Nat) : Int) o f))) :
    ACalls Tryd.prog 107 [.pt id 0 0 0] H K := by
  have hid := lt_of_get hr
  have hr' := hr
  have hss := set_same hr
  rw [prC] at hr'
  by_cases hf : f = 0
  · rw [if_pos hf, show decide (f = 0 ∧ 0 < blankN (s.drop at_)) = decide (0 < blankN (s.drop at_)) by simp [hf]] at hk
    have h1 : (f = 0) = True := eq_true hf
    refine ACalls_of Tryd.func107 rfl in_107 (Nat.le_of_ble_eq_true rfl) ?_
    intro F hF
    simp (dsimp := false) only [go_sem, Nat.reduceAdd, Nat.reduceBEq, Nat.reduceEqDiff, Nat.reduceLT, Nat.reduceLeDiff, Nat.reduceMul, Int.reduceToNat, reduceCtorEq, ↓reduceIte, Tryd.ntmps107, Tryd.results107, ks_107, mu_107, nd_107, ti_ag3, ti_ag9, ti_ag29, ti_fl86_0, ti_fl86_1, ti_fl86_3, ti_st9, ti_sz3, hr', hid, h1, in_107] at hF
    subst hF
    repeat' (first | with_reducible (first | refine And.intro ?_ ?_ | intro _ | refine AWp_seq ?_ | refine AWp_block ?_ | (refine hKv _ _ (AWp_nop ?_); clear hKv Kv) | (refine hKA ?_; clear hKA hKB KA KB) | (refine hKB ?_; clear hKA hKB KA KB) | refine AWp_skipN ?_ | refine AWp_exitO (by repeat (first | exact Out.hit | apply Out.thenA | apply Out.out rfl)) ?_) | (with_reducible (first | (refine hKv _ _ ?_; clear hKv Kv) | ((first | refine AWp_regC mu_107 ks_107 ?_ | refine AWp_draw nd_107 mu_107 ks_107 ti_mixed (by kernel_rfl) ?_ | refine AWp_regE mu_107 ks_107 ?_ | refine AWp_drawE nd_107 mu_107 ks_107 ti_mixed (by kernel_rfl) ?_); intro Kv hKv) | refine AWp_retR ?_); try simp (dsimp := false) only [go_sem, Nat.reduceAdd, Nat.reduceBEq, Nat.reduceEqDiff, Nat.reduceLT, Nat.reduceLeDiff, Nat.reduceMul, Int.reduceToNat, reduceCtorEq, ↓reduceIte, Tryd.ntmps107, Tryd.results107, ks_107, mu_107, nd_107, ti_ag3, ti_ag9, ti_ag29, ti_fl86_0, ti_fl86_1, ti_fl86_3, ti_st9, ti_sz3, hr', hid, h1]) | (refine AWp_condC rfl ?_; intro KA KB hKA hKB; try simp only [onB_true, onB_false, onB_dec, onB_ndec, onB_not, onB_and, onB_or]) | (refine AWp_condA rfl ?_ ?_) | with_reducible (first | refine onB_of ?_ ?_ | rfl) | omega)
    refine AWp_whileP (fun i : Nat => at_ ≤ i ∧ i ≤ s.length ∧ i + blankN (s.drop i) = at_ + blankN (s.drop at_)) (fun i => [(0, .pt id 0 0 0), (3, .d (.i .i64 at_))]) (fun i => H.set id (prC s (i : Int) o f)) (fun i => s.length - i) at_ ⟨Nat.le_refl _, hat, rfl⟩ ?_ ?_ ?_ ?_ ?_
    · rw [hss]
    · simp (dsimp := false) only [go_sem, Nat.reduceAdd, Nat.reduceBEq, Nat.reduceEqDiff, Nat.reduceLT, Nat.reduceLeDiff, Nat.reduceMul, Int.reduceToNat, reduceCtorEq, ↓reduceIte, Tryd.ntmps107, Tryd.results107, ks_107, mu_107, nd_107, ti_ag3, ti_ag9, ti_ag29, ti_fl86_0, ti_fl86_1, ti_fl86_3, ti_st9, ti_sz3, hr', hid, h1]
      first | done | exact hid | (simp [hid]; done)
    · intro i _
      simp
    · intro i _
      exact closed_set (closed_self H) (prC_bel ho)
    rintro i ⟨i1, i2, i3⟩
    have hg : (H.set id (prC s (i : Int) o f))[id]? = some (prC s (i : Int) o f) := get_self hr _
    have hss2 : ∀ X Y, (H.set id X).set id Y = H.set id Y := fun X Y => List.set_set ..
    have hidl : id < (H.set id (prC s (i : Int) o f)).length := by simpa using hid
    rw [prC] at hg hidl
    have ii0 : ((0 : Int) ≤ (i : Int)) = True := eq_true (by omega)
    by_cases hin : i < s.length
    · obtain ⟨c, hc⟩ : ∃ c, s[i]? = some c := ⟨s[i], List.getElem?_eq_getElem hin⟩
      have hin' : ((i : Int) < (s.length : Int)) = True := eq_true (by omega)
      have b32 := byte_eq c 32 (by decide)
      have b10 := byte_eq c 10 (by decide)
      have b9 := byte_eq c 9 (by decide)
      rw [drop_of_get hc, blankN] at i3
      by_cases c1 : c = 32
      · rw [if_pos (by simp [blankB, c1])] at i3
        have n1 : ((c.toNat : Int) = 32) = True := by rw [show (32 : Int) = ((32 : Nat) : Int) from rfl, b32]; exact eq_true c1
        repeat' (first | with_reducible (first | refine And.intro ?_ ?_ | intro _ | refine AWp_seq ?_ | refine AWp_block ?_ | (refine hKv _ _ (AWp_nop ?_); clear hKv Kv) | (refine hKA ?_; clear hKA hKB KA KB) | (refine hKB ?_; clear hKA hKB KA KB) | refine AWp_skipN ?_ | refine AWp_exitO (by repeat (first | exact Out.hit | apply Out.thenA | apply Out.out rfl)) ?_) | (with_reducible (first | (refine hKv _ _ ?_; clear hKv Kv) | ((first | refine AWp_regC mu_107 ks_107 ?_ | refine AWp_draw nd_107 mu_107 ks_107 ti_mixed (by kernel_rfl) ?_ | refine AWp_regE mu_107 ks_107 ?_ | refine AWp_drawE nd_107 mu_107 ks_107 ti_mixed (by kernel_rfl) ?_); intro Kv hKv) | refine AWp_retR ?_); try simp (dsimp := false) only [go_sem, Nat.reduceAdd, Nat.reduceBEq, Nat.reduceEqDiff, Nat.reduceLT, Nat.reduceLeDiff, Nat.reduceMul, Int.reduceToNat, reduceCtorEq, ↓reduceIte, Tryd.ntmps107, Tryd.results107, ks_107, mu_107, nd_107, ti_ag3, ti_ag9, ti_ag29, ti_fl86_0, ti_fl86_1, ti_fl86_3, ti_st9, ti_sz3, prC, hg, hidl, hss2, h1, ii0, hin', hc, n1, not_true_eq_false, not_false_eq_true, Int.reduceEq]) | (refine AWp_condC rfl ?_; intro KA KB hKA hKB; try simp only [onB_true, onB_false, onB_dec, onB_ndec, onB_not, onB_and, onB_or]) | (refine AWp_condA rfl ?_ ?_) | with_reducible (first | refine onB_of ?_ ?_ | rfl) | omega)
        all_goals first
          | omega
          | exact ⟨i + 1, ⟨by omega, by omega, by omega⟩, by omega, rfl, by (repeat' (refine And.intro ?_ ?_)) <;> first | rfl | omega | (simp; done) | (simp; omega)⟩
      have n1 : ((c.toNat : Int) = 32) = False := by rw [show (32 : Int) = ((32 : Nat) : Int) from rfl, b32]; exact eq_false c1
      by_cases c2 : c = 10
      · rw [if_pos (by simp [blankB, c2])] at i3
        have n2 : ((c.toNat : Int) = 10) = True := by rw [show (10 : Int) = ((10 : Nat) : Int) from rfl, b10]; exact eq_true c2
        repeat' (first | with_reducible (first | refine And.intro ?_ ?_ | intro _ | refine AWp_seq ?_ | refine AWp_block ?_ | (refine hKv _ _ (AWp_nop ?_); clear hKv Kv) | (refine hKA ?_; clear hKA hKB KA KB) | (refine hKB ?_; clear hKA hKB KA KB) | refine AWp_skipN ?_ | refine AWp_exitO (by repeat (first | exact Out.hit | apply Out.thenA | apply Out.out rfl)) ?_) | (with_reducible (first | (refine hKv _ _ ?_; clear hKv Kv) | ((first | refine AWp_regC mu_107 ks_107 ?_ | refine AWp_draw nd_107 mu_107 ks_107 ti_mixed (by kernel_rfl) ?_ | refine AWp_regE mu_107 ks_107 ?_ | refine AWp_drawE nd_107 mu_107 ks_107 ti_mixed (by kernel_rfl) ?_); intro Kv hKv) | refine AWp_retR ?_); try simp (dsimp := false) only [go_sem, Nat.reduceAdd, Nat.reduceBEq, Nat.reduceEqDiff, Nat.reduceLT, Nat.reduceLeDiff, Nat.reduceMul, Int.reduceToNat, reduceCtorEq, ↓reduceIte, Tryd.ntmps107, Tryd.results107, ks_107, mu_107, nd_107, ti_ag3, ti_ag9, ti_ag29, ti_fl86_0, ti_fl86_1, ti_fl86_3, ti_st9, ti_sz3, prC, hg, hidl, hss2, h1, ii0, hin', hc, n1, n2, not_true_eq_false, not_false_eq_true, Int.reduceEq]) | (refine AWp_condC rfl ?_; intro KA KB hKA hKB; try simp only [onB_true, onB_false, onB_dec, onB_ndec, onB_not, onB_and, onB_or]) | (refine AWp_condA rfl ?_ ?_) | with_reducible (first | refine onB_of ?_ ?_ | rfl) | omega)
        all_goals first
          | omega
          | exact ⟨i + 1, ⟨by omega, by omega, by omega⟩, by omega, rfl, by (repeat' (refine And.intro ?_ ?_)) <;> first | rfl | omega | (simp; done) | (simp; omega)⟩
      have n2 : ((c.toNat : Int) = 10) = False := by rw [show (10 : Int) = ((10 : Nat) : Int) from rfl, b10]; exact eq_false c2
      by_cases c3 : c = 9
      · rw [if_pos (by simp [blankB, c3])] at i3
        have n3 : ((c.toNat : Int) = 9) = True := by rw [show (9 : Int) = ((9 : Nat) : Int) from rfl, b9]; exact eq_true c3
        repeat' (first | with_reducible (first | refine And.intro ?_ ?_ | intro _ | refine AWp_seq ?_ | refine AWp_block ?_ | (refine hKv _ _ (AWp_nop ?_); clear hKv Kv) | (refine hKA ?_; clear hKA hKB KA KB) | (refine hKB ?_; clear hKA hKB KA KB) | refine AWp_skipN ?_ | refine AWp_exitO (by repeat (first | exact Out.hit | apply Out.thenA | apply Out.out rfl)) ?_) | (with_reducible (first | (refine hKv _ _ ?_; clear hKv Kv) | ((first | refine AWp_regC mu_107 ks_107 ?_ | refine AWp_draw nd_107 mu_107 ks_107 ti_mixed (by kernel_rfl) ?_ | refine AWp_regE mu_107 ks_107 ?_ | refine AWp_drawE nd_107 mu_107 ks_107 ti_mixed (by kernel_rfl) ?_); intro Kv hKv) | refine AWp_retR ?_); try simp (dsimp := false) only [go_sem, Nat.reduceAdd, Nat.reduceBEq, Nat.reduceEqDiff, Nat.reduceLT, Nat.reduceLeDiff, Nat.reduceMul, Int.reduceToNat, reduceCtorEq, ↓reduceIte, Tryd.ntmps107, Tryd.results107, ks_107, mu_107, nd_107, ti_ag3, ti_ag9, ti_ag29, ti_fl86_0, ti_fl86_1, ti_fl86_3, ti_st9, ti_sz3, prC, hg, hidl, hss2, h1, ii0, hin', hc, n1, n2, n3, not_true_eq_false, not_false_eq_true, Int.reduceEq]) | (refine AWp_condC rfl ?_; intro KA KB hKA hKB; try simp only [onB_true, onB_false, onB_dec, onB_ndec, onB_not, onB_and, onB_or]) | (refine AWp_condA rfl ?_ ?_) | with_reducible (first | refine onB_of ?_ ?_ | rfl) | omega)
        all_goals first
          | omega
          | exact ⟨i + 1, ⟨by omega, by omega, by omega⟩, by omega, rfl, by (repeat' (refine And.intro ?_ ?_)) <;> first | rfl | omega | (simp; done) | (simp; omega)⟩
      have n3 : ((c.toNat : Int) = 9) = False := by rw [show (9 : Int) = ((9 : Nat) : Int) from rfl, b9]; exact eq_false c3
      rw [if_neg (by simp [blankB, c1, c2, c3]), Nat.add_zero] at i3
      rw [← i3] at hk
      have hd : ((at_ : Int) < (i : Int)) = (0 < blankN (s.drop at_)) := propext (by omega)
      repeat' (first | with_reducible (first | refine And.intro ?_ ?_ | intro _ | refine AWp_seq ?_ | refine AWp_block ?_ | (refine hKv _ _ (AWp_nop ?_); clear hKv Kv) | (refine hKA ?_; clear hKA hKB KA KB) | (refine hKB ?_; clear hKA hKB KA KB) | refine AWp_skipN ?_ | refine AWp_exitO (by repeat (first | exact Out.hit | apply Out.thenA | apply Out.out rfl)) ?_) | (with_reducible (first | (refine hKv _ _ ?_; clear hKv Kv) | ((first | refine AWp_regC mu_107 ks_107 ?_ | refine AWp_draw nd_107 mu_107 ks_107 ti_mixed (by kernel_rfl) ?_ | refine AWp_regE mu_107 ks_107 ?_ | refine AWp_drawE nd_107 mu_107 ks_107 ti_mixed (by kernel_rfl) ?_); intro Kv hKv) | refine AWp_retR ?_); try simp (dsimp := false) only [go_sem, Nat.reduceAdd, Nat.reduceBEq, Nat.reduceEqDiff, Nat.reduceLT, Nat.reduceLeDiff, Nat.reduceMul, Int.reduceToNat, reduceCtorEq, ↓reduceIte, Tryd.ntmps107, Tryd.results107, ks_107, mu_107, nd_107, ti_ag3, ti_ag9, ti_ag29, ti_fl86_0, ti_fl86_1, ti_fl86_3, ti_st9, ti_sz3, prC, hg, hidl, hss2, h1, ii0, hin', hc, n1, n2, n3, hd, not_true_eq_false, not_false_eq_true, Int.reduceEq]) | (refine AWp_condC rfl ?_; intro KA KB hKA hKB; try simp only [onB_true, onB_false, onB_dec, onB_ndec, onB_not, onB_and, onB_or]) | (refine AWp_condA rfl ?_ ?_) | with_reducible (first | refine onB_of ?_ ?_ | rfl) | omega)
      all_goals first
        | omega
        | exact keepS hk (by simp) (closed_set (closed_self H) (prC_bel ho)) (.d _)
    · have hin' : ((i : Int) < (s.length : Int)) = False := eq_false (by omega)
      have e0 : blankN (s.drop i) = 0 := by rw [List.drop_eq_nil_of_le (by omega)]; rfl
      rw [e0, Nat.add_zero] at i3
      rw [← i3] at hk
      have hd : ((at_ : Int) < (i : Int)) = (0 < blankN (s.drop at_)) := propext (by omega)
      repeat' (first | with_reducible (first | refine And.intro ?_ ?_ | intro _ | refine AWp_seq ?_ | refine AWp_block ?_ | (refine hKv _ _ (AWp_nop ?_); clear hKv Kv) | (refine hKA ?_; clear hKA hKB KA KB) | (refine hKB ?_; clear hKA hKB KA KB) | refine AWp_skipN ?_ | refine AWp_exitO (by repeat (first | exact Out.hit | apply Out.thenA | apply Out.out rfl)) ?_) | (with_reducible (first | (refine hKv _ _ ?_; clear hKv Kv) | ((first | refine AWp_regC mu_107 ks_107 ?_ | refine AWp_draw nd_107 mu_107 ks_107 ti_mixed (by kernel_rfl) ?_ | refine AWp_regE mu_107 ks_107 ?_ | refine AWp_drawE nd_107 mu_107 ks_107 ti_mixed (by kernel_rfl) ?_); intro Kv hKv) | refine AWp_retR ?_); try simp (dsimp := false) only [go_sem, Nat.reduceAdd, Nat.reduceBEq, Nat.reduceEqDiff, Nat.reduceLT, Nat.reduceLeDiff, Nat.reduceMul, Int.reduceToNat, reduceCtorEq, ↓reduceIte, Tryd.ntmps107, Tryd.results107, ks_107, mu_107, nd_107, ti_ag3, ti_ag9, ti_ag29, ti_fl86_0, ti_fl86_1, ti_fl86_3, ti_st9, ti_sz3, prC, hg, hidl, hss2, h1, ii0, hin', hd, not_true_eq_false, not_false_eq_true, Int.reduceEq]) | (refine AWp_condC rfl ?_; intro KA KB hKA hKB; try simp only [onB_true, onB_false, onB_dec, onB_ndec, onB_not, onB_and, onB_or]) | (refine AWp_condA rfl ?_ ?_) | with_reducible (first | refine onB_of ?_ ?_ | rfl) | omega)
      all_goals first
        | omega
        | exact keepS hk (by simp) (closed_set (closed_self H) (prC_bel ho)) (.d _)
  · have h1 : (f = 0) = False := eq_false hf
    rw [if_neg hf, hss] at hk
    refine ACalls_of Tryd.func107 rfl in_107 (Nat.le_of_ble_eq_true rfl) ?_
    intro F hF
    simp (dsimp := false) only [go_sem, Nat.reduceAdd, Nat.reduceBEq, Nat.reduceEqDiff, Nat.reduceLT, Nat.reduceLeDiff, Nat.reduceMul, Int.reduceToNat, reduceCtorEq, ↓reduceIte, Tryd.ntmps107, Tryd.results107, ks_107, mu_107, nd_107, ti_ag3, ti_ag9, ti_ag29, ti_fl86_0, ti_fl86_1, ti_fl86_3, ti_st9, ti_sz3, hr', hid, in_107] at hF
    subst hF
    repeat' (first | with_reducible (first | refine And.intro ?_ ?_ | intro _ | refine AWp_seq ?_ | refine AWp_block ?_ | (refine hKv _ _ (AWp_nop ?_); clear hKv Kv) | (refine hKA ?_; clear hKA hKB KA KB) | (refine hKB ?_; clear hKA hKB KA KB) | refine AWp_skipN ?_ | refine AWp_exitO (by repeat (first | exact Out.hit | apply Out.thenA | apply Out.out rfl)) ?_) | (with_reducible (first | (refine hKv _ _ ?_; clear hKv Kv) | ((first | refine AWp_regC mu_107 ks_107 ?_ | refine AWp_draw nd_107 mu_107 ks_107 ti_mixed (by kernel_rfl) ?_ | refine AWp_regE mu_107 ks_107 ?_ | refine AWp_drawE nd_107 mu_107 ks_107 ti_mixed (by kernel_rfl) ?_); intro Kv hKv) | refine AWp_retR ?_); try simp (dsimp := false) only [go_sem, Nat.reduceAdd, Nat.reduceBEq, Nat.reduceEqDiff, Nat.reduceLT, Nat.reduceLeDiff, Nat.reduceMul, Int.reduceToNat, reduceCtorEq, ↓reduceIte, Tryd.ntmps107, Tryd.results107, ks_107, mu_107, nd_107, ti_ag3, ti_ag9, ti_ag29, ti_fl86_0, ti_fl86_1, ti_fl86_3, ti_st9, ti_sz3, hr', hid]) | (refine AWp_condC rfl ?_; intro KA KB hKA hKB; try simp only [onB_true, onB_false, onB_dec, onB_ndec, onB_not, onB_and, onB_or]) | (refine AWp_condA rfl ?_ ?_) | with_reducible (first | refine onB_of ?_ ?_ | rfl) | omega)
    refine AWp_while0 (fun _ : Unit => True) (fun _ => [(0, .pt id 0 0 0), (3, .d (.i .i64 at_))]) (fun _ => 0) () trivial ?_ ?_
    · simp (dsimp := false) only [go_sem, Nat.reduceAdd, Nat.reduceBEq, Nat.reduceEqDiff, Nat.reduceLT, Nat.reduceLeDiff, Nat.reduceMul, Int.reduceToNat, reduceCtorEq, ↓reduceIte, Tryd.ntmps107, Tryd.results107, ks_107, mu_107, nd_107, ti_ag3, ti_ag9, ti_ag29, ti_fl86_0, ti_fl86_1, ti_fl86_3, ti_st9, ti_sz3, hr', hid]
      first | done | exact hid | (simp [hid]; done)
    rintro ⟨⟩ _
    have hl : ((at_ : Int) < (at_ : Int)) = False := eq_false (by omega)
    repeat' (first | with_reducible (first | refine And.intro ?_ ?_ | intro _ | refine AWp_seq ?_ | refine AWp_block ?_ | (refine hKv _ _ (AWp_nop ?_); clear hKv Kv) | (refine hKA ?_; clear hKA hKB KA KB) | (refine hKB ?_; clear hKA hKB KA KB) | refine AWp_skipN ?_ | refine AWp_exitO (by repeat (first | exact Out.hit | apply Out.thenA | apply Out.out rfl)) ?_) | (with_reducible (first | (refine hKv _ _ ?_; clear hKv Kv) | ((first | refine AWp_regC mu_107 ks_107 ?_ | refine AWp_draw nd_107 mu_107 ks_107 ti_mixed (by kernel_rfl) ?_ | refine AWp_regE mu_107 ks_107 ?_ | refine AWp_drawE nd_107 mu_107 ks_107 ti_mixed (by kernel_rfl) ?_); intro Kv hKv) | refine AWp_retR ?_); try simp (dsimp := false) only [go_sem, Nat.reduceAdd, Nat.reduceBEq, Nat.reduceEqDiff, Nat.reduceLT, Nat.reduceLeDiff, Nat.reduceMul, Int.reduceToNat, reduceCtorEq, ↓reduceIte, Tryd.ntmps107, Tryd.results107, ks_107, mu_107, nd_107, ti_ag3, ti_ag9, ti_ag29, ti_fl86_0, ti_fl86_1, ti_fl86_3, ti_st9, ti_sz3, hr', hid, h1, hl, not_true_eq_false, not_false_eq_true]) | (refine AWp_condC rfl ?_; intro KA KB hKA hKB; try simp only [onB_true, onB_false, onB_dec, onB_ndec, onB_not, onB_and, onB_or]) | (refine AWp_condA rfl ?_ ?_) | with_reducible (first | refine onB_of ?_ ?_ | rfl) | omega)
    all_goals first
      | omega
      | exact keepS (by simpa [hf] using hk) (Nat.le_refl _) (closed_self H) (.d _)
end Go.Proofs.YtjghnaohlfgloaaDoor
