/- The core: the small functions of its check and of the reference's, walked. No condition but that the tables of package unicode/utf8 are there. -/
import Derived.Test.YtdmkfkjdielmiaaDoorP19
import Derived.Test.YtdmkfkjdielmiaaDoorP23
import Derived.Test.YtdmkfkjdielmiaaDoorP21
import Derived.Test.YtdmkfkjdielmiaaDoorP22
import Derived.Test.YtdmkfkjdielmiaaDoorP18
set_option linter.all false
set_option linter.unusedSimpArgs false
set_option linter.unusedVariables false
namespace Go.Proofs.YtdmkfkjdielmiaaDoor
open Go Go.Proofs.YtdmkfkjdielmiaaDoor.Ab
variable [Glo] [U8]
set_option maxHeartbeats 4000000
set_option maxRecDepth 20000
def coreMany (k : Int) : Int := if k = 1 ∨ k = 2 ∨ k = 11 then 0 else if k = 9 ∨ k = 10 then 1 else if k = 4 ∨ k = 5 then 2 else if k = 6 ∨ k = 7 then 3 else -1
def varB (s : List UInt8) : Bool := decide (1 ≤ s.length ∧ s.length ≤ 20)
def stepB (ax tk : Int) : Bool := decide (1 ≤ ax ∧ ax ≤ 12 ∧ 1 ≤ tk ∧ tk ≤ 5)
def madeQ (n : Int) (s : List UInt8) : Int := if n = 1 ∨ n = 2 then nameFault s else if n = 3 then 0 else 3
def bindQ (nm at_ : List UInt8) (isLet : Bool) : Int := if varB nm = false then 10 else if isLet = true ∨ at_ = [] then 0 else if varB at_ = false then 10 else if at_ = nm then 7 else 0
namespace FN101
def tks : Nat → List Nat | 0 => [0] | 1 => [3] | 2 => [3, 4] | 3 => [3, 4] | 4 => [3, 4] | 5 => [2] | 6 => [3, 8] | 7 => [3, 8] | 8 => [2] | 9 => [3, 11] | 10 => [3, 11] | 11 => [2] | 12 => [3, 14] | 13 => [14] | 14 => [2] | 15 => [2] | _ => []
def tmu : List Nat := []
def tin : List Nat := [0]
abbrev tfn := @Tryd.func101
end FN101
attribute [go_sem] FN101.tks FN101.tmu FN101.tin Tryd.ntmps101 Tryd.results101
open FN101 in
theorem many_A (k : Int) (H : Heap) (K : V → Heap → Prop) (hk : K (.d (.i .i64 (coreMany k))) H) : ACalls Tryd.prog 101 [.d (.i .i64 k)] H K := by
  refine We ?_
  have us := eq_self (0 : Nat)
  exact W3
namespace FN113
def tks : Nat → List Nat | 0 => [0] | 1 => [3] | 2 => [3, 4] | 3 => [3, 4] | 4 => [3, 4] | 5 => [2] | 6 => [3, 8] | 7 => [3, 8] | 8 => [2] | 9 => [3, 11] | 10 => [3, 11] | 11 => [2] | 12 => [3, 14] | 13 => [14] | 14 => [2] | 15 => [2] | _ => []
def tmu : List Nat := []
def tin : List Nat := [0]
abbrev tfn := @Tryd.func113
end FN113
attribute [go_sem] FN113.tks FN113.tmu FN113.tin Tryd.ntmps113 Tryd.results113
open FN113 in
theorem argCount_A (k : Int) (H : Heap) (K : V → Heap → Prop) (hk : K (.d (.i .i64 (coreMany k))) H) : ACalls Tryd.prog 113 [.d (.i .i64 k)] H K := by
  refine We ?_
  have us := eq_self (0 : Nat)
  exact W3
namespace FN139
def tks : Nat → List Nat | 0 => [0] | 1 => [2] | _ => []
def tmu : List Nat := []
def tin : List Nat := [0]
abbrev tfn := @Tryd.func139
end FN139
attribute [go_sem] FN139.tks FN139.tmu FN139.tin Tryd.ntmps139 Tryd.results139
open FN139 in
theorem name_A (s : List UInt8) (hs : s.length ≤ 9223372036854775807) (H : Heap) (K : V → Heap → Prop) (hk : K (.d (.b (varB s))) H) : ACalls Tryd.prog 139 [.d (.s s)] H K := by
  by_cases h : s = []
  · have h0 : (s = []) = True := eq_true h
    refine We ?_
    have us := h0
    exact W4
  · have h0 : (s = []) = False := eq_false h
    have hp : 1 ≤ s.length := by cases s with | nil => exact absurd rfl h | cons x l => simp
    by_cases h2 : s.length ≤ 20
    · have h3 : ((s.length : Int) ≤ 20) = True := eq_true (by omega)
      refine We ?_
      have us := an h0 h3
      exact W5
    · have h3 : ((s.length : Int) ≤ 20) = False := eq_false (by omega)
      refine We ?_
      have us := an h0 h3
      exact W6
namespace FN106
def tks : Nat → List Nat | 0 => [0] | 1 => [2] | _ => []
def tmu : List Nat := []
def tin : List Nat := [0]
abbrev tfn := @Tryd.func106
end FN106
attribute [go_sem] FN106.tks FN106.tmu FN106.tin Tryd.ntmps106 Tryd.results106
open FN106 in
theorem varMay_A (s : List UInt8) (hs : s.length ≤ 9223372036854775807) (H : Heap) (K : V → Heap → Prop) (hk : K (.d (.b (varB s))) H) : ACalls Tryd.prog 106 [.d (.s s)] H K := by
  refine We ?_
  have us := eq_self (0 : Nat)
  exact W7
def tsV (tk : Int) (tn : List UInt8) : V := .ag [.d (.i .i64 tk), .d (.s tn)]
namespace FN93
def tks : Nat → List Nat | 0 => [0, 3] | 1 => [20] | 2 => [4] | 3 => [4] | _ => []
def tmu : List Nat := []
def tin : List Nat := [0, 1]
abbrev tfn := @Tryd.func93
end FN93
attribute [go_sem] FN93.tks FN93.tmu FN93.tin Tryd.ntmps93 Tryd.results93
open FN93 in
theorem step_A (ax tk : Int) (tn : List UInt8) (H : Heap) (K : V → Heap → Prop) (hk : K (.d (.i .i64 (if stepB ax tk = true then 0 else 3))) H) : ACalls Tryd.prog 93 [.d (.i .i64 ax), tsV tk tn] H K := by
  refine We ?_
  have us := eq_self (0 : Nat)
  exact W8
namespace FN49
def tks : Nat → List Nat | 0 => [0, 3] | 1 => [4] | _ => []
def tmu : List Nat := []
def tin : List Nat := [0, 1]
abbrev tfn := @Tryd.func49
end FN49
attribute [go_sem] FN49.tks FN49.tmu FN49.tin Tryd.ntmps49 Tryd.results49
open FN49 in
theorem stepMay_A (ax tk : Int) (tn : List UInt8) (H : Heap) (K : V → Heap → Prop) (hk : K (.d (.b (stepB ax tk))) H) : ACalls Tryd.prog 49 [.d (.i .i64 ax), tsV tk tn] H K := by
  refine We ?_
  have us := eq_self (0 : Nat)
  exact W9
namespace FN42
def tks : Nat → List Nat | 0 => [0, 1] | 1 => [0, 1, 14] | 2 => [4] | 3 => [1, 16] | 4 => [4] | 5 => [4] | _ => []
def tmu : List Nat := []
def tin : List Nat := [0, 1]
abbrev tfn := @Tryd.func42
end FN42
attribute [go_sem] FN42.tks FN42.tmu FN42.tin Tryd.ntmps42 Tryd.results42
open FN42 in
theorem made_A (n : Int) (s : List UInt8) (hs : s.length ≤ 9223372036854775807) (H : Heap) (K : V → Heap → Prop) (hk : K (.d (.i .i64 (madeQ n s))) H) : ACalls Tryd.prog 42 [.d (.i .i64 n), .d (.s s)] H K := by
  refine We ?_
  have us := eq_self (0 : Nat)
  exact W10
namespace FN57
def tks : Nat → List Nat | 0 => [0, 1] | 1 => [1, 5] | 2 => [1, 5, 6] | 3 => [1, 5, 6] | 4 => [4] | 5 => [11] | 6 => [4] | 7 => [4] | _ => []
def tmu : List Nat := []
def tin : List Nat := [0, 1]
abbrev tfn := @Tryd.func57
end FN57
attribute [go_sem] FN57.tks FN57.tmu FN57.tin Tryd.ntmps57 Tryd.results57
open FN57 in
theorem makeFault_A (n : Int) (s : List UInt8) (hs : s.length ≤ 9223372036854775807) (H : Heap) (K : V → Heap → Prop) (hk : K (.d (.i .i64 (madeQ n s))) H) : ACalls Tryd.prog 57 [.d (.i .i64 n), .d (.s s)] H K := by
  refine We ?_
  have us := eq_self (0 : Nat)
  exact W11
namespace FN108
def tks : Nat → List Nat | 0 => [0, 1, 2] | 1 => [0, 1, 2, 9] | 2 => [6] | 3 => [0, 1, 14] | 4 => [6] | 5 => [0, 1, 17] | 6 => [6] | 7 => [20] | 8 => [6] | 9 => [6] | _ => []
def tmu : List Nat := []
def tin : List Nat := [0, 1, 2]
abbrev tfn := @Tryd.func108
end FN108
attribute [go_sem] FN108.tks FN108.tmu FN108.tin Tryd.ntmps108 Tryd.results108
open FN108 in
theorem bindFault_A (nm at_ : List UInt8) (isLet : Bool) (hn : nm.length ≤ 9223372036854775807) (ha : at_.length ≤ 9223372036854775807) (H : Heap) (K : V → Heap → Prop) (hk : K (.d (.i .i64 (bindQ nm at_ isLet))) H) : ACalls Tryd.prog 108 [.d (.s nm), .d (.s at_), .d (.b isLet)] H K := by
  unfold bindQ at hk
  cases hv : varB nm with
  | false =>
    rw [hv] at hk
    have e := fun H K hk => varMay_A nm hn H K hk
    rw [hv] at e
    refine We ?_
    have c21 := e; have us := eq_self (0 : Nat)
    exact W12
  | true =>
    rw [hv] at hk
    have e := fun H K hk => varMay_A nm hn H K hk
    rw [hv] at e
    cases hL : isLet with
    | true =>
      subst hL
      refine We ?_
      have c21 := e; have us := eq_self (0 : Nat)
      exact W13
    | false =>
      subst hL
      by_cases h0 : at_ = []
      · have h1 : (at_ = []) = True := eq_true h0
        refine We ?_
        have c21 := e; have us := h1
        exact W14
      · have h1 : (at_ = []) = False := eq_false h0
        have e2 := fun H K hk => varMay_A at_ ha H K hk
        cases hw : varB at_ with
        | false =>
          rw [hw] at e2 hk
          refine We ?_
          have c21 := e; have c22 := e2; have us := h1
          exact W14
        | true =>
          rw [hw] at e2 hk
          refine We ?_
          have c21 := e; have c22 := e2; have us := h1
          exact W15
namespace FN110
def tks : Nat → List Nat | 0 => [0] | 1 => [3] | 2 => [3, 4] | 3 => [3, 4] | 4 => [3, 4] | 5 => [3, 4] | 6 => [3, 4] | 7 => [3, 4] | 8 => [3, 4] | 9 => [3, 4] | 10 => [3, 4] | 11 => [3, 4] | 12 => [3, 4] | 13 => [3, 4] | 14 => [3, 4] | 15 => [3, 4] | 16 => [3, 4] | 17 => [3, 4] | 18 => [3, 4] | 19 => [2] | 20 => [3, 22] | 21 => [3, 22] | 22 => [3, 22] | 23 => [3, 22] | 24 => [3, 22] | 25 => [3, 22] | 26 => [3, 22] | 27 => [3, 22] | 28 => [3, 22] | 29 => [3, 22] | 30 => [3, 22] | 31 => [3, 22] | 32 => [3, 22] | 33 => [3, 22] | 34 => [3, 22] | 35 => [3, 22] | 36 => [3, 22] | 37 => [3, 22] | 38 => [3, 22] | 39 => [3, 22] | 40 => [3, 22] | 41 => [3, 22] | 42 => [3, 22] | 43 => [3, 22] | 44 => [2] | 45 => [47] | 46 => [2] | 47 => [2] | _ => []
def tmu : List Nat := []
def tin : List Nat := [0]
abbrev tfn := @Tryd.func110
end FN110
attribute [go_sem] FN110.tks FN110.tmu FN110.tin Tryd.ntmps110 Tryd.results110
open FN110 in
theorem argsOf_A (s : List UInt8) (H : Heap) (K : V → Heap → Prop) (hk : K (.d (.i .i64 (argsQ s))) H) : ACalls Tryd.prog 110 [.d (.s s)] H K := by
  refine We ?_
  repeat' (first | (refine hKA ?_; clear hKA hKB KA KB; rename_i hq; simp only [hq, decide_true]) | (refine hKB ?_; clear hKA hKB KA KB; rename_i hq; simp only [hq, decide_false]) | with_reducible (first | refine And.intro ?_ ?_ | intro _ | refine AWp_seq ?_ | refine AWp_block ?_ | (refine hKv _ _ (AWp_nop ?_); clear hKv Kv) | (refine hKA ?_; clear hKA hKB KA KB) | (refine hKB ?_; clear hKA hKB KA KB) | refine AWp_skipN ?_ | refine AWp_exitO (by repeat (first | exact Out.hit | apply Out.thenA | apply Out.out rfl)) ?_) | (with_reducible (first | (refine hKv _ _ ?_; clear hKv Kv) | ((first | refine AWp_regC tmu tks ?_ | refine AWp_regE tmu tks ?_); intro Kv hKv) | refine AWp_retR ?_); try simp (dsimp := false) only [go_sem, Nat.reduceAdd, Nat.reduceBEq, Nat.reduceEqDiff, Nat.reduceLT, Nat.reduceLeDiff, Nat.reduceMul, Int.reduceToNat, reduceCtorEq, ↓reduceIte]) | (refine AWp_condC rfl ?_; intro KA KB hKA hKB; try simp only [onB_true, onB_false, onB_dec, onB_ndec, onB_not, onB_and, onB_or]) | (refine AWp_condA rfl ?_ ?_) | with_reducible (first | refine onB_of ?_ ?_ | rfl) | omega)
  all_goals first
    | exact keepD hk (by rename_i hq; rw [hq]; rfl)
    | exact keepD hk (by rw [argsQ_eq]; simp [coreOnes, coreTwos, coreThrees, *])
end Go.Proofs.YtdmkfkjdielmiaaDoor
namespace Go.Proofs.YtdmkfkjdielmiaaDoor
open Go Go.Proofs.YtdmkfkjdielmiaaDoor.Ab
variable [Glo] [U8]
set_option maxHeartbeats 4000000
set_option maxRecDepth 20000
class CAr [Glo] where
  L : List (List UInt8 × Int)
  perm : L.Perm coreArE
  at_ : glob 4 = some (mapRow L)
variable [CAr]
def exOwn (h : Xh) (n : Nat) (sc : List (List UInt8)) : Int :=
  if h.k = 1 then (if h.it.k = 1 then 12 else itemFault h.it)
  else if h.k = 2 then (if h.nm ∈ sc then 0 else 6)
  else if h.k = 4 ∨ h.k = 5 ∨ h.k = 6 then bindQ h.nm h.at_ (decide (h.k = 4))
  else if h.k = 8 then (match lookE coreArE h.nm with | some m => if m = n then 0 else 11 | none => 6)
  else if h.k = 9 then (if stepB h.ax h.tk = true then 0 else 3)
  else if h.k = 10 then madeQ h.n h.nm
  else 0
def exV (h : Xh) (l : List Ex) : V := .ag [.d (.i .i64 h.k), .d (.i .i64 h.it.k), .d (.i .i64 h.it.n), .d (.s h.it.s), .d (.s h.nm), .d (.s h.at_), .d (.i .i64 h.n), .d (.i .i64 h.ax), .d (.i .i64 h.tk), .d (.s h.tn), .d (.sl 11 (l.map exD))]
theorem exV_k {h : Xh} {l : List Ex} {k : Int} (e : h.k = k) : exV h l = .ag [.d (.i .i64 k), .d (.i .i64 h.it.k), .d (.i .i64 h.it.n), .d (.s h.it.s), .d (.s h.nm), .d (.s h.at_), .d (.i .i64 h.n), .d (.i .i64 h.ax), .d (.i .i64 h.tk), .d (.s h.tn), .d (.sl 11 (l.map exD))] := by rw [← e]; rfl
structure XhOk (h : Xh) : Prop where
  it : h.it.s.length ≤ 1048576
  nm : h.nm.length ≤ 1048576
  at_ : h.at_.length ≤ 1048576
  tn : h.tn.length ≤ 1048576
theorem ExOk.h {h : Xh} {l : List Ex} (x : ExOk (.mk h l)) : XhOk h := by cases x; constructor <;> assumption
theorem ExOk.len {h : Xh} {l : List Ex} (x : ExOk (.mk h l)) : l.length ≤ 1048576 := by cases x; assumption
theorem ExOk.mem {h : Xh} {l : List Ex} (x : ExOk (.mk h l)) : ∀ y, y ∈ l → ExOk y := by cases x; assumption
theorem bindQ_eq (nm at_ : List UInt8) (t : Bool) : bindQ nm at_ t = if varB nm = false ∨ (t = false ∧ at_ ≠ [] ∧ varB at_ = false) then 10 else if t = false ∧ at_ = nm then 7 else 0 := by
  unfold bindQ
  cases h1 : varB nm with
  | false => simp
  | true =>
    have hne : nm ≠ [] := by rintro rfl; exact absurd h1 (by decide)
    cases t with
    | true => simp
    | false =>
      by_cases h2 : at_ = []
      · subst h2; simp [Ne.symm hne]
      · cases h3 : varB at_ <;> simp [h2]
namespace FN102
def tks : Nat → List Nat | 0 => [1, 2] | 1 => [1, 2, 8] | 2 => [1, 2, 8, 9] | 3 => [2, 14] | 4 => [4] | 5 => [4] | 6 => [1, 2, 8, 18] | 7 => [24] | 8 => [4] | 9 => [2, 8, 25] | 10 => [2, 8, 25] | 11 => [2, 8, 25] | 12 => [2, 48] | 13 => [4] | 14 => [58] | 15 => [4] | 16 => [2, 8, 59] | 17 => [2, 5, 6] | 18 => [2, 5, 69] | 19 => [4] | 20 => [74] | 21 => [4] | 22 => [2, 8, 75] | 23 => [4] | 24 => [2, 82] | 25 => [4] | 26 => [4] | _ => []
def tmu : List Nat := []
def tin : List Nat := [0, 1]
abbrev tfn := @Tryd.func102
end FN102
attribute [go_sem] FN102.tks FN102.tmu FN102.tin Tryd.ntmps102 Tryd.results102
open FN102 in
theorem own_A (h : Xh) (l : List Ex) (ok : XhOk h) (hl : l.length ≤ 1048576) (sc : List (List UInt8)) (hsc : sc.length ≤ 9223372036854775807) (H : Heap) (K : V → Heap → Prop) (hk : K (.d (.i .i64 (exOwn h l.length sc))) H) :
    ACalls Tryd.prog 102 [exV h l, .d (.sl 1 (sc.map strRow))] H K := by
  have o1 := ok.it
  have o2 := ok.nm
  have o3 := ok.at_
  have o4 := ok.tn
  by_cases c1 : h.k = 1
  · rw [exV_k c1]
    rw [exOwn, if_pos c1] at hk
    by_cases ci : h.it.k = 1
    · have i1 : (h.it.k = 1) = True := eq_true ci
      rw [if_pos ci] at hk
      refine We ?_
      have us := i1
      exact W16
    · have i1 : (h.it.k = 1) = False := eq_false ci
      rw [if_neg ci] at hk
      refine We ?_
      have us := i1
      exact W16
  by_cases c2 : h.k = 2
  · rw [exV_k c2]
    rw [exOwn, if_neg c1, if_pos c2] at hk
    have hc := contains_A sc h.nm hsc
    cases hm : decide (h.nm ∈ sc) with
    | true =>
      rw [hm] at hc
      rw [if_pos (of_decide_eq_true hm)] at hk
      refine We ?_
      have c21 := hc; have us := eq_self (0 : Nat)
      exact W17
    | false =>
      rw [hm] at hc
      rw [if_neg (of_decide_eq_false hm)] at hk
      refine We ?_
      have c21 := hc; have us := eq_self (0 : Nat)
      exact W17
  by_cases c3 : h.k = 4
  · rw [exV_k c3]
    rw [exOwn, if_neg c1, if_neg c2, if_pos (.inl c3), bindQ_eq, decide_eq_true c3] at hk
    have hn := name_A h.nm (by omega)
    cases hv : varB h.nm with
    | false =>
      rw [hv] at hn hk
      refine We ?_
      have c21 := hn; have us := eq_self (0 : Nat)
      exact W18
    | true =>
      rw [hv] at hn hk
      refine We ?_
      have c21 := hn; have us := eq_self (0 : Nat)
      exact W18
  by_cases c4 : h.k = 5 ∨ h.k = 6
  · rw [exOwn, if_neg c1, if_neg c2, if_pos (.inr c4), bindQ_eq, decide_eq_false c3] at hk
    have hn := name_A h.nm (by omega)
    have ha := name_A h.at_ (by omega)
    have body : ∀ k : Int, h.k = k → (k = 5 ∨ k = 6) → ACalls Tryd.prog 102 [exV h l, .d (.sl 1 (sc.map strRow))] H K := fun k hkk hk56 => by
      rw [exV_k hkk]
      have k1 : (k = 1) = False := eq_false (by omega)
      have k2 : (k = 2) = False := eq_false (by omega)
      have k4 : (k = 4) = False := eq_false (by omega)
      have k56 : k = 5 ∨ k = 6 := hk56
      cases hv : varB h.nm with
      | false =>
        rw [hv] at hn hk
        rcases hk56 with rfl | rfl
        ·
          refine We ?_
          have c21 := hn; have us := eq_self (0 : Nat)
          exact W19
        ·
          refine We ?_
          have c21 := hn; have us := eq_self (0 : Nat)
          exact W19
      | true =>
        rw [hv] at hn hk
        have hne : h.nm ≠ [] := fun e => by rw [e] at hv; exact absurd hv (by decide)
        by_cases h0 : h.at_ = []
        · have i0 : (h.at_ = []) = True := eq_true h0
          have i1 : (h.at_ = h.nm) = False := eq_false (by rw [h0]; exact Ne.symm hne)
          rcases hk56 with rfl | rfl
          ·
            refine We ?_
            have c21 := hn; have c22 := ha; have us := an i0 i1
            exact W20
          ·
            refine We ?_
            have c21 := hn; have c22 := ha; have us := an i0 i1
            exact W20
        · have i0 : (h.at_ = []) = False := eq_false h0
          cases hw : varB h.at_ with
          | false =>
            rw [hw] at ha hk
            rcases hk56 with rfl | rfl
            ·
              refine We ?_
              have c21 := hn; have c22 := ha; have us := i0
              exact W21
            ·
              refine We ?_
              have c21 := hn; have c22 := ha; have us := i0
              exact W21
          | true =>
            rw [hw] at ha hk
            by_cases h2 : h.at_ = h.nm
            · have i1 : (h.at_ = h.nm) = True := eq_true h2
              rcases hk56 with rfl | rfl
              ·
                refine We ?_
                have c21 := hn; have c22 := ha; have us := an i0 i1
                exact W22
              ·
                refine We ?_
                have c21 := hn; have c22 := ha; have us := an i0 i1
                exact W22
            · have i1 : (h.at_ = h.nm) = False := eq_false h2
              rcases hk56 with rfl | rfl
              ·
                refine We ?_
                have c21 := hn; have c22 := ha; have us := an i0 i1
                exact W23
              ·
                refine We ?_
                have c21 := hn; have c22 := ha; have us := an i0 i1
                exact W23
    exact body h.k rfl c4
  have c456 : ¬(h.k = 4 ∨ h.k = 5 ∨ h.k = 6) := by omega
  rw [exOwn, if_neg c1, if_neg c2, if_neg c456] at hk
  by_cases c8 : h.k = 8
  · rw [exV_k c8]
    rw [if_pos c8] at hk
    have hgl : glob 4 = some [.m [.s] (mapKs CAr.L) (mapVs CAr.L)] := CAr.at_
    obtain ⟨g1, g2⟩ := mapGetE CAr.perm coreArE_nodup h.nm (.i .i64 0)
    cases hlk : lookE coreArE h.nm with
    | none =>
      rw [hlk] at g1 g2 hk
      have g1 : mget (mapKs CAr.L) (mapVs CAr.L) [.s h.nm] (.i .i64 0) = .i .i64 0 := g1
      have g2 : mhas (mapKs CAr.L) [.s h.nm] = false := g2
      refine We ?_
      have us := an hgl (an g1 g2)
      exact W24
    | some m =>
      rw [hlk] at g1 g2 hk
      have g1 : mget (mapKs CAr.L) (mapVs CAr.L) [.s h.nm] (.i .i64 0) = .i .i64 m := g1
      have g2 : mhas (mapKs CAr.L) [.s h.nm] = true := g2
      by_cases hm : m = (l.length : Int)
      · have i1 : (m = (l.length : Int)) = True := eq_true hm
        replace hk : K (.d (.i .i64 (if m = l.length then 0 else 11))) H := hk
        rw [if_pos hm] at hk
        refine We ?_
        have us := an hgl (an g1 (an g2 i1))
        exact W24
      · have i1 : (m = (l.length : Int)) = False := eq_false hm
        replace hk : K (.d (.i .i64 (if m = l.length then 0 else 11))) H := hk
        rw [if_neg hm] at hk
        refine We ?_
        have us := an hgl (an g1 (an g2 i1))
        exact W24
  rw [if_neg c8] at hk
  by_cases c9 : h.k = 9
  · rw [exV_k c9]
    rw [if_pos c9] at hk
    have hs := step_A h.ax h.tk h.tn
    refine We ?_
    have c21 := hs; have us := eq_self (0 : Nat)
    exact W25
  rw [if_neg c9] at hk
  by_cases c10 : h.k = 10
  · rw [exV_k c10]
    rw [if_pos c10] at hk
    have hs := made_A h.n h.nm (by omega)
    refine We ?_
    have c21 := hs; have us := eq_self (0 : Nat)
    exact W26
  rw [if_neg c10] at hk
  have k1 : (h.k = 1) = False := eq_false c1
  have k2 : (h.k = 2) = False := eq_false c2
  have k4 : (h.k = 4) = False := eq_false c3
  have k5 : (h.k = 5) = False := eq_false (by omega)
  have k6 : (h.k = 6) = False := eq_false (by omega)
  have k8 : (h.k = 8) = False := eq_false c8
  have k9 : (h.k = 9) = False := eq_false c9
  have k10 : (h.k = 10) = False := eq_false c10
  refine We ?_
  have us := an k1 (an k2 (an k4 (an k5 (an k6 (an k8 (an k9 k10))))))
  exact W27
end Go.Proofs.YtdmkfkjdielmiaaDoor
namespace Go.Proofs.YtdmkfkjdielmiaaDoor
open Go Go.Proofs.YtdmkfkjdielmiaaDoor.Ab
variable [Glo] [U8]
set_option maxHeartbeats 4000000
set_option maxRecDepth 20000
def placesGo (cols : List (List UInt8)) : List (List UInt8) → List Int → Option (List Int)
  | [], acc => some acc
  | s :: l, acc => if txtAt cols s < 0 then none else placesGo cols l (acc ++ [txtAt cols s])
def places (cols l : List (List UInt8)) : Option (List Int) := placesGo cols l []
def madeFault (cols : List (List UInt8)) (n : Nat) : Int := if colsFault cols = 0 then (if n ≤ 1000000 then 0 else 1) else colsFault cols
def made (cols : List (List UInt8)) (rows : List (List It)) : Rl := if madeFault cols rows.length = 0 then ⟨cols, rows⟩ else rl0
theorem strs_data (l : List (List UInt8)) : dsRows (l.map fun s => [V.d (.s s)]) = some (l.map strRow) := by
  induction l with
  | nil => rfl
  | cons x rs ih => simp [dsRows, strRow, dsOf, asD, ih]
def strC (s : List UInt8) : List V := [.d (.s s)]
theorem strsC_data (l : List (List UInt8)) : dsRows (l.map strC) = some (l.map strRow) := strs_data l
theorem data_rows (R : List (List D)) : dsRows (R.map fun r => r.map V.d) = some R := by
  have h1 : ∀ r : List D, dsOf (r.map V.d) = some r := fun r => by
    induction r with
    | nil => rfl
    | cons x r ih => simp [dsOf, asD, ih]
  induction R with
  | nil => rfl
  | cons r R ih => simp [dsRows, h1, ih]
namespace FN103
def tks : Nat → List Nat | 0 => [0] | 1 => [0, 4] | 2 => [2] | 3 => [2] | _ => []
def tmu : List Nat := [5]
def tin : List Nat := [0]
abbrev tfn := @Tryd.func103
end FN103
attribute [go_sem] FN103.tks FN103.tmu FN103.tin Tryd.ntmps103 Tryd.results103
namespace FN142
def tks : Nat → List Nat | 0 => [0] | 1 => [0, 3] | 2 => [0, 3, 4] | 3 => [0, 3, 4, 9] | 4 => [0, 3, 4] | 5 => [0, 3, 4, 5] | 6 => [0, 3, 4, 5, 18] | 7 => [0, 3, 4, 5] | 8 => [0, 3, 4, 5] | 9 => [2] | _ => []
def tmu : List Nat := [3]
def tin : List Nat := [0]
abbrev tfn := @Tryd.func142
end FN142
attribute [go_sem] FN142.tks FN142.tmu FN142.tin Tryd.ntmps142 Tryd.results142
open FN142 in
theorem texts_A (ls : List (List (List UInt8))) (hlen : ls.length ≤ 1048576) (hl : ∀ l, l ∈ ls → l.length ≤ 100000000) (hj : ls.flatten.length ≤ 100000000000) (H : Heap) (K : V → Heap → Prop) (hk : K (.d (.sl 1 (ls.flatten.map strRow))) H) :
    ACalls Tryd.prog 142 [.d (.sl 1 (ls.map fun l => [D.sl 1 (l.map strRow)]))] H K := by
  refine We ?_
  have us := eq_self (0 : Nat)
  refine W29 ?_
  refine AWp_whileH (fun i : Nat => i ≤ ls.length) (fun i => [(0, .d (.sl 1 (ls.map fun l => [D.sl 1 (l.map strRow)]))), (3, .os H.length (ls.take i).flatten.length), (4, .d (.i .i64 i))])
    (fun i => [.row (ls.take i).flatten.length 9 1 ((ls.take i).flatten.map strC)]) (fun i => ls.length - i) 0 (Nat.zero_le _) rfl ?_ ?_ ?_
  · simp (dsimp := false) only [go_sem, Nat.reduceAdd, Nat.reduceBEq, Nat.reduceEqDiff, Nat.reduceLT, Nat.reduceLeDiff, Nat.reduceMul, Int.reduceToNat, reduceCtorEq, ↓reduceIte, itD, itV, rlV, rowD, rlD]
    first | done | simp
  · intro i _ ob hob
    simp only [List.mem_cons, List.not_mem_nil, or_false] at hob
    rcases hob with rfl
    exact obBel_map strRow _ _ _ _ _
  rintro i hi
  have us := eq_self (0 : Nat)
  (repeat' (first | with_reducible (first | refine And.intro ?_ ?_ | intro _ | (refine hKv _ _ (AWp_nop ?_); clear hKv Kv) | (refine hKA ?_; clear hKA hKB KA KB) | (refine hKB ?_; clear hKA hKB KA KB) | refine Wp ?_ | fail) | ((first | with_reducible (first | (refine hKv _ _ ?_; clear hKv Kv) | (refine Wr ?_; intro Kv hKv) | refine AWp_retR ?_ | fail) | refine Wc ?_ | fail); try simp (dsimp := false) only [go_sem, Nat.reduceAdd, Nat.reduceBEq, Nat.reduceEqDiff, Nat.reduceLT, Nat.reduceLeDiff, Nat.reduceMul, Int.reduceToNat, reduceCtorEq, ↓reduceIte, us, itD, itV, rlD, rlV, rowD]) | (refine AWp_condC rfl ?_; intro KA KB hKA hKB; try simp only [onB_true, onB_false, onB_dec, onB_ndec, onB_not, onB_and, onB_or]) | (refine AWp_condA rfl ?_ ?_) | with_reducible (first | refine onB_of ?_ ?_ | rfl) | omega))
  · rename_i h1
    obtain ⟨l, hx⟩ : ∃ l, ls[i]? = some l := ⟨ls[i]'(by omega), List.getElem?_eq_getElem (by omega)⟩
    have hll := hl l (List.mem_of_getElem? hx)
    have hfl : (ls.take i).flatten.length + l.length ≤ 100000000000 := by
      have e : ls.flatten = (ls.take i).flatten ++ (l ++ (ls.drop (i + 1)).flatten) := by
        rw [← List.flatten_cons, ← drop_of_get hx, ← List.flatten_append, List.take_append_drop]
      rw [e] at hj
      simp only [List.length_append] at hj
      omega
    refine AWp_whileH (fun k : Nat => k ≤ l.length) (fun k => [(0, .d (.sl 1 (ls.map fun l => [D.sl 1 (l.map strRow)]))), (3, .os H.length ((ls.take i).flatten ++ l.take k).length), (4, .d (.i .i64 i)), (5, .d (.i .i64 k))])
      (fun k => [.row ((ls.take i).flatten ++ l.take k).length 9 1 (((ls.take i).flatten ++ l.take k).map strC)]) (fun k => l.length - k) 0 (Nat.zero_le _) ?_ ?_ ?_ ?_
    · simp
    · simp (dsimp := false) only [go_sem, Nat.reduceAdd, Nat.reduceBEq, Nat.reduceEqDiff, Nat.reduceLT, Nat.reduceLeDiff, Nat.reduceMul, Int.reduceToNat, reduceCtorEq, ↓reduceIte, itD, itV, rlV, rowD, rlD]
      first | done | simp
    · intro k _ ob hob
      simp only [List.mem_cons, List.not_mem_nil, or_false] at hob
      rcases hob with rfl
      exact obBel_map strRow _ _ _ _ _
    rintro k hk1
    have hlo : ((ls.take i).flatten ++ l.take k).length ≤ 100000000000 := by
      rw [List.length_append, List.length_take]
      omega
    generalize hout : (ls.take i).flatten ++ l.take k = out at hlo ⊢
    have us := hx
    (repeat' (first | with_reducible (first | refine And.intro ?_ ?_ | intro _ | (refine hKv _ _ (AWp_nop ?_); clear hKv Kv) | (refine hKA ?_; clear hKA hKB KA KB) | (refine hKB ?_; clear hKA hKB KA KB) | refine Wp ?_ | fail) | ((first | with_reducible (first | (refine hKv _ _ ?_; clear hKv Kv) | (refine Wr ?_; intro Kv hKv) | refine AWp_retR ?_ | fail) | refine Wc ?_ | fail); try simp (dsimp := false) only [go_sem, Nat.reduceAdd, Nat.reduceBEq, Nat.reduceEqDiff, Nat.reduceLT, Nat.reduceLeDiff, Nat.reduceMul, Int.reduceToNat, reduceCtorEq, ↓reduceIte, us, itD, itV, rlD, rlV, rowD]) | (refine AWp_condC rfl ?_; intro KA KB hKA hKB; try simp only [onB_true, onB_false, onB_dec, onB_ndec, onB_not, onB_and, onB_or]) | (refine AWp_condA rfl ?_ ?_) | with_reducible (first | refine onB_of ?_ ?_ | rfl) | omega))
    · rename_i g1 x hxk
      have e1 : out ++ [x] = (ls.take i).flatten ++ l.take (k + 1) := by rw [take_of_get hxk, ← List.append_assoc, hout]
      have e2 : out.length + 1 = (ls.take i).flatten.length + (l.take (k + 1)).length := by
        have := congrArg List.length e1
        simpa using this
      refine ⟨k + 1, by omega, by omega, ?_, by rw [e2], by omega, by omega⟩
      rw [← e2, ← e1]
      simp [strC]
    · have e : k = l.length := by omega
      subst e
      have e1 : out = (ls.take (i + 1)).flatten := by rw [take_of_get hx, List.flatten_append, ← hout, List.take_length]; simp
      exact ⟨i + 1, by omega, by omega, by rw [← e1], by rw [← e1], by omega, by omega⟩
  · have e : i = ls.length := by omega
    subst e
    rw [List.take_length]
    exact dropF hk (.os _ _ _ _ _ _ (by omega) (get_app0 _ _) (strsC_data _)) (by simp [Bel_d])
end Go.Proofs.YtdmkfkjdielmiaaDoor
namespace Go.Proofs.YtdmkfkjdielmiaaDoor
open Go Go.Proofs.YtdmkfkjdielmiaaDoor.Ab
variable [Glo] [U8]
def it0 : It := ⟨0, 0, []⟩
def rg (l : List It) (c : Nat) : It := (l[c]?).getD it0
end Go.Proofs.YtdmkfkjdielmiaaDoor
namespace Go.Proofs.YtdmkfkjdielmiaaDoor
open Go Go.Proofs.YtdmkfkjdielmiaaDoor.Ab
variable [Glo] [U8]
set_option maxHeartbeats 4000000
set_option maxRecDepth 20000
def exInner (h : Xh) (sc : List (List UInt8)) : List (List UInt8) := if h.k = 4 ∨ h.k = 5 ∨ h.k = 6 then (if h.k ≠ 4 ∧ h.at_ ≠ [] then sc ++ [h.nm, h.at_] else sc ++ [h.nm]) else sc
theorem exInner_len (h : Xh) (sc : List (List UInt8)) : (exInner h sc).length ≤ sc.length + 2 := by
  unfold exInner
  repeat' split
  all_goals simp
mutual
def efQ : Ex → List (List UInt8) → Int
  | .mk h l, sc => if ¬(1 ≤ h.k ∧ h.k ≤ 11) then 3 else if 0 ≤ coreMany h.k ∧ coreMany h.k ≠ (l.length : Int) then 11 else if exOwn h l.length sc = 0 then efL l sc (exInner h sc) else exOwn h l.length sc
def efL : List Ex → List (List UInt8) → List (List UInt8) → Int
  | [], _, _ => 0
  | x :: l, sc, inn => if efQ x sc = 0 then efL l inn inn else efQ x sc
end
theorem efQ_eq {h : Xh} {l : List Ex} {sc : List (List UInt8)} (h1 : 1 ≤ h.k ∧ h.k ≤ 11) (h2 : coreMany h.k < 0 ∨ coreMany h.k = (l.length : Int)) : efQ (.mk h l) sc = if exOwn h l.length sc = 0 then efL l sc (exInner h sc) else exOwn h l.length sc := by
  rw [efQ, if_neg (by simpa using h1), if_neg (by omega)]
theorem efL_nil (sc inn : List (List UInt8)) : efL [] sc inn = 0 := by rw [efL]
theorem efL_cons (x : Ex) (l : List Ex) (sc inn : List (List UInt8)) : efL (x :: l) sc inn = if efQ x sc = 0 then efL l inn inn else efQ x sc := by rw [efL]
theorem exD_1 (x : Ex) : exD x = [.i .i64 x.h.k, .i .i64 x.h.it.k, .i .i64 x.h.it.n, .s x.h.it.s, .s x.h.nm, .s x.h.at_, .i .i64 x.h.n, .i .i64 x.h.ax, .i .i64 x.h.tk, .s x.h.tn, .sl 11 (x.args.map exD)] := by
  rw [exD_eq]; rfl
theorem coreArE_pos {s : List UInt8} {n : Int} (h : lookE coreArE s = some n) : 1 ≤ n := by
  rcases coreArE_in _ ((lookE_iff coreArE_nodup).1 h) with h | h | h <;> have := h.2 <;> simp only at this <;> omega
namespace FN105
def tks : Nat → List Nat | 0 => [0, 1] | 1 => [4] | _ => []
def tmu : List Nat := []
def tin : List Nat := [0, 1]
abbrev tfn := @Tryd.func105
end FN105
attribute [go_sem] FN105.tks FN105.tmu FN105.tin Tryd.ntmps105 Tryd.results105
open FN105 in
theorem plus_A (a b : List (List UInt8)) (ha : a.length ≤ 50000000) (hb : b.length ≤ 100) (H : Heap) (K : V → Heap → Prop) (hk : K (.d (.sl 1 ((a ++ b).map strRow))) H) :
    ACalls Tryd.prog 105 [.d (.sl 1 (a.map strRow)), .d (.sl 1 (b.map strRow))] H K := by
  have ht := fun H K hk => texts_A [a, b] (by simp) (by intro l hl; simp only [List.mem_cons, List.not_mem_nil, or_false] at hl; rcases hl with rfl | rfl <;> omega) (by simp; omega) H K hk
  simp only [List.flatten_cons, List.flatten_nil, List.append_nil, List.map_cons, List.map_nil] at ht
  refine We ?_
  have c21 := ht; have us := eq_self (0 : Nat)
  exact W30
namespace FN61
def tks : Nat → List Nat | 0 => [1, 2] | 1 => [1, 2, 12] | 2 => [4] | 3 => [1, 2, 25] | 4 => [4] | 5 => [1, 2, 5] | 6 => [1, 2, 5, 6] | 7 => [1, 2, 5, 6, 39] | 8 => [1, 2, 5, 6] | 9 => [1, 2, 5, 6, 55] | 10 => [1, 2, 5, 6] | 11 => [1, 2, 5, 6, 66] | 12 => [1, 2, 5, 6] | 13 => [1, 2, 5, 6, 76] | 14 => [1, 2, 5, 6] | 15 => [1, 2, 5, 6, 86] | 16 => [1, 2, 5, 6] | 17 => [1, 2, 5, 6, 99] | 18 => [1, 2, 5, 6] | 19 => [1, 2, 5, 6, 111] | 20 => [1, 2, 5, 6] | 21 => [1, 2, 5, 6, 7] | 22 => [1, 2, 6, 7, 121] | 23 => [1, 2, 6, 7] | 24 => [1, 2, 6, 7, 134] | 25 => [1, 2, 6, 7] | 26 => [1, 2, 6, 7, 8] | 27 => [1, 2, 6, 7, 8, 148] | 28 => [1, 2, 6, 7, 8] | 29 => [1, 2, 7, 8, 152] | 30 => [1, 2, 6, 7, 8] | 31 => [1, 2, 6, 7, 8] | 32 => [4] | _ => []
def tmu : List Nat := []
def tin : List Nat := [0, 1]
def tnd : Nat → Nat | 3 => 12 | 15 => 12 | _ => 0
abbrev tfn := @Tryd.func61
end FN61
attribute [go_sem] FN61.tks FN61.tmu FN61.tin FN61.tnd Tryd.ntmps61 Tryd.results61
end Go.Proofs.YtdmkfkjdielmiaaDoor
