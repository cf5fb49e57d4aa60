/- Lowering: the reference's lowered, kind 10. No condition but that the tables of package unicode/utf8 and of the core's functions are there. -/
import Derived.Test.YtdmkfkjdielmiaaDoorP19
import Derived.Test.YtdmkfkjdielmiaaDoorP43
import Derived.Test.YtdmkfkjdielmiaaDoorP17
import Derived.Test.YtdmkfkjdielmiaaDoorP40
set_option linter.all false
set_option linter.unusedSimpArgs false
set_option linter.unusedVariables false
namespace Go.Proofs.YtdmkfkjdielmiaaDoor
open Go Go.Proofs.YtdmkfkjdielmiaaDoor.Ab
variable [Glo] [U8] [CAr]
set_option maxHeartbeats 4000000
set_option maxRecDepth 20000
open FN17 in
theorem lowered10_A {g : Ph → Sc → Ex × Int} {B : Nat} (hg : RefAt g B) (h : Phh) (l : List Ph) (c : List Cl) (hkind : h.k = 10) (ok : PhhOk h) (hl : l.length ≤ 1048576) (sc : Sc) (hsc : sc.length ≤ 10000000) (hp : ∀ p, p ∈ l → PLow B p sc) (hform : formQ h.k l.length = 0) (H : Heap) (K : V → Heap → Prop) (hk : K (loV (lowR1 g h l c sc)) H) :
    ACalls Tryd.prog 17 [phW h l c, .d (.sl 1 (sc.map strRow))] H K := by
  have o1 := ok.it
  have o2 := ok.nm
  have o3 := ok.tn
  have hF := phraseFault_A h l c hl
  rw [hform, phW_k hkind] at hF
  have hn := none_A
  rw [lowR1, if_neg (nn hform)] at hk
  rw [phW_k hkind]
  have hm := makeFault_A h.n h.nm (by omega)
  by_cases hmz : madeQ h.n h.nm = 0
  case neg =>
    have i0 : (madeQ h.n h.nm = 0) = False := eq_false hmz
    rw [if_neg (by omega), if_neg (by omega), if_neg (by omega), if_neg (by omega), if_neg (by omega), if_neg (by omega), if_neg (by omega), if_neg (by omega), if_neg (by omega), if_neg (by omega), if_neg (show ¬(h.k = 25 ∧ lookS opE h.nm = none) from fun e => by omega), if_pos ⟨hkind, hmz⟩] at hk
    refine We ?_
    have c21 := hF; have c22 := hm; have c23 := hn; have us := i0
    exact W107
  have i0 : (madeQ h.n h.nm = 0) = True := eq_true hmz
  rw [if_neg (by omega), if_neg (by omega), if_neg (by omega), if_neg (by omega), if_neg (by omega), if_neg (by omega), if_neg (by omega), if_neg (by omega), if_neg (by omega), if_neg (by omega), if_neg (show ¬(h.k = 25 ∧ lookS opE h.nm = none) from fun e => by omega), if_neg (show ¬(h.k = 10 ∧ madeQ h.n h.nm ≠ 0) from fun e => e.2 hmz)] at hk
  have hA := loweredAll_A hg l hl sc hp
  rw [alV] at hA
  by_cases hz : (allR g l sc).2 = 0
  · have z0 : ((allR g l sc).2 = 0) = True := eq_true hz
    rw [if_neg (nn hz)] at hk
    rw [if_neg (by omega), if_neg (by omega), if_neg (by omega), if_pos hkind] at hk
    by_cases h3 : h.n = 3
    · have i3 : (h.n = 3) = True := eq_true h3
      rw [makeE, if_pos h3] at hk
      refine We ?_
      have c21 := hF; have c22 := hm; have c23 := hA; have us := an z0 (an i0 i3)
      exact W107
    · have i3 : (h.n = 3) = False := eq_false h3
      rw [makeE, if_neg h3] at hk
      refine We ?_
      have c21 := hF; have c22 := hm; have c23 := hA; have us := an z0 (an i0 i3)
      exact W107
  · have z0 : ((allR g l sc).2 = 0) = False := eq_false hz
    rw [if_pos (show (allR g l sc).2 ≠ 0 from hz)] at hk
    refine We ?_
    have c21 := hF; have c22 := hm; have c23 := hA; have c24 := hn; have us := an z0 i0
    exact W107
end Go.Proofs.YtdmkfkjdielmiaaDoor
namespace Go.Proofs.YtdmkfkjdielmiaaDoor
open Go Go.Proofs.YtdmkfkjdielmiaaDoor.Ab
variable [Glo] [U8] [CAr]
set_option maxHeartbeats 4000000
set_option maxRecDepth 20000
open FN17 in
theorem lowered26_A {g : Ph → Sc → Ex × Int} {B : Nat} (hg : RefAt g B) (h : Phh) (l : List Ph) (c : List Cl) (hkind : h.k = 26) (ok : PhhOk h) (hl : l.length ≤ 1048576) (sc : Sc) (hsc : sc.length ≤ 10000000) (hp : ∀ p, p ∈ l → PLow B p sc) (hform : formQ h.k l.length = 0) (H : Heap) (K : V → Heap → Prop) (hk : K (loV (lowR1 g h l c sc)) H) :
    ACalls Tryd.prog 17 [phW h l c, .d (.sl 1 (sc.map strRow))] H K := by
  have o1 := ok.it
  have o2 := ok.nm
  have o3 := ok.tn
  have hF := phraseFault_A h l c hl
  rw [hform, phW_k hkind] at hF
  have hn := none_A
  rw [lowR1, if_neg (nn hform)] at hk
  rw [phW_k hkind]
  rw [if_neg (by omega), if_neg (by omega), if_neg (by omega), if_neg (by omega), if_neg (by omega), if_neg (by omega), if_neg (by omega), if_neg (by omega), if_neg (by omega), if_neg (by omega), if_neg (show ¬(h.k = 25 ∧ lookS opE h.nm = none) from fun e => by omega), if_neg (show ¬(h.k = 10 ∧ madeQ h.n h.nm ≠ 0) from fun e => by omega)] at hk
  have hA := loweredAll_A hg l hl sc hp
  rw [alV] at hA
  by_cases hz : (allR g l sc).2 = 0
  · have z0 : ((allR g l sc).2 = 0) = True := eq_true hz
    rw [if_neg (nn hz)] at hk
    have hal : (allR g l sc).1.length = l.length := by
      rw [allR_ok (allR_all hz)]; simp
    rw [if_neg (by omega), if_pos hkind] at hk
    have hn1 : l.length = 1 := by
      rw [hkind] at hform
      unfold formQ at hform
      simp at hform
      exact hform
    obtain ⟨x, hx⟩ := List.length_eq_one_iff.1 (hal.trans hn1)
    rw [hx] at hA hk
    have hcall := asCall_A sNeg [x]
    simp only [exW, exV, List.map_cons, List.map_nil, exD_1] at hcall
    refine We ?_
    have c21 := hF; have c22 := hA; have c23 := hcall; have us := z0
    exact W108
  · have z0 : ((allR g l sc).2 = 0) = False := eq_false hz
    rw [if_pos (show (allR g l sc).2 ≠ 0 from hz)] at hk
    refine We ?_
    have c21 := hF; have c22 := hA; have c23 := hn; have us := z0
    exact W107
end Go.Proofs.YtdmkfkjdielmiaaDoor
namespace Go.Proofs.YtdmkfkjdielmiaaDoor
open Go Go.Proofs.YtdmkfkjdielmiaaDoor.Ab
variable [Glo] [U8] [CAr]
set_option maxHeartbeats 4000000
set_option maxRecDepth 20000
open FN17 in
theorem lowered28_A {g : Ph → Sc → Ex × Int} {B : Nat} (hg : RefAt g B) (h : Phh) (l : List Ph) (c : List Cl) (hkind : h.k = 28) (ok : PhhOk h) (hl : l.length ≤ 1048576) (sc : Sc) (hsc : sc.length ≤ 10000000) (hp : ∀ p, p ∈ l → PLow B p sc) (okc : ClsOk c) (b : Nat) (hT : TLow B b c (argAt l 0) sc) (hl1 : l.length = 1) (hform : formQ h.k l.length = 0) (H : Heap) (K : V → Heap → Prop) (hk : K (loV (lowR1 g h l c sc)) H) :
    ACalls Tryd.prog 17 [phW h l c, .d (.sl 1 (sc.map strRow))] H K := by
  have o1 := ok.it
  have o2 := ok.nm
  have o3 := ok.tn
  have hF := phraseFault_A h l c hl
  rw [hform, phW_k hkind] at hF
  have hn := none_A
  rw [lowR1, if_neg (nn hform)] at hk
  rw [phW_k hkind]
  rw [if_neg (by omega), if_neg (by omega), if_neg (by omega), if_neg (by omega), if_neg (by omega), if_neg (by omega), if_neg (by omega), if_neg (by omega), if_pos hkind] at hk
  have hcf := clausesFault_A c okc
  have ht := fun H K hk => rtup_A hg c b (argAt l 0) false sc H K hT hk
  rw [phW, loV] at ht
  have a0 : l[0]? = some (argAt l 0) := by rw [argAt, List.getD_eq_getElem?_getD]; cases hh : l[0]? with | none => rw [List.getElem?_eq_none_iff] at hh; omega | some v => rfl
  have l0 : ((0 : Int) < (l.length : Int)) = True := eq_true (by omega)
  generalize argAt l 0 = p0 at a0 hT hk ht
  by_cases hz : clsQ c 0 = 0
  · have z0 : (clsQ c 0 = 0) = True := eq_true hz
    rw [flworR, if_neg (nn hz)] at hk
    refine We ?_
    have c21 := hF; have c22 := hcf; have c23 := ht; have c24 := hn; have us := an z0 (an a0 l0)
    exact W109
  · have z0 : (clsQ c 0 = 0) = False := eq_false hz
    rw [flworR, if_pos hz] at hk
    refine We ?_
    have c21 := hF; have c22 := hcf; have c23 := hn; have us := z0
    exact W107
end Go.Proofs.YtdmkfkjdielmiaaDoor
namespace Go.Proofs.YtdmkfkjdielmiaaDoor
open Go Go.Proofs.YtdmkfkjdielmiaaDoor.Ab
variable [Glo] [U8] [CAr]
set_option maxHeartbeats 4000000
set_option maxRecDepth 20000
open FN17 in
theorem lowered21_A {g : Ph → Sc → Ex × Int} {B : Nat} (hg : RefAt g B) (h : Phh) (l : List Ph) (c : List Cl) (hkind : h.k = 21) (ok : PhhOk h) (hl : l.length ≤ 1048576) (sc : Sc) (hsc : sc.length ≤ 10000000) (hp : ∀ p, p ∈ l → PLow B p sc) (hl2 : l.length = 2) (hp1 : ∀ p, p ∈ l → PLow B p (sc ++ [sDot])) (hform : formQ h.k l.length = 0) (H : Heap) (K : V → Heap → Prop) (hk : K (loV (lowR1 g h l c sc)) H) :
    ACalls Tryd.prog 17 [phW h l c, .d (.sl 1 (sc.map strRow))] H K := by
  have o1 := ok.it
  have o2 := ok.nm
  have o3 := ok.tn
  have hF := phraseFault_A h l c hl
  rw [hform, phW_k hkind] at hF
  have hn := none_A
  rw [lowR1, if_neg (nn hform)] at hk
  rw [phW_k hkind]
  rw [if_neg (by omega), if_neg (by omega), if_neg (by omega), if_neg (by omega), if_neg (by omega), if_pos hkind] at hk
  have hc := loweredPath_A hg h l c hl2 sc hsc hp hp1
  rw [phW_k hkind] at hc
  refine We ?_
  have c21 := hF; have c22 := hc; have us := eq_self (0 : Nat)
  exact W107
end Go.Proofs.YtdmkfkjdielmiaaDoor
namespace Go.Proofs.YtdmkfkjdielmiaaDoor
open Go Go.Proofs.YtdmkfkjdielmiaaDoor.Ab
variable [Glo] [U8] [CAr]
set_option maxHeartbeats 4000000
set_option maxRecDepth 20000
open FN17 in
theorem lowered23_A {g : Ph → Sc → Ex × Int} {B : Nat} (hg : RefAt g B) (h : Phh) (l : List Ph) (c : List Cl) (hkind : h.k = 23) (ok : PhhOk h) (hl : l.length ≤ 1048576) (sc : Sc) (hsc : sc.length ≤ 10000000) (hp : ∀ p, p ∈ l → PLow B p sc) (hl2 : l.length = 2) (hp1 : ∀ p, p ∈ l → PLow B p (sc ++ [h.nm])) (hform : formQ h.k l.length = 0) (H : Heap) (K : V → Heap → Prop) (hk : K (loV (lowR1 g h l c sc)) H) :
    ACalls Tryd.prog 17 [phW h l c, .d (.sl 1 (sc.map strRow))] H K := by
  have o1 := ok.it
  have o2 := ok.nm
  have o3 := ok.tn
  have hF := phraseFault_A h l c hl
  rw [hform, phW_k hkind] at hF
  have hn := none_A
  rw [lowR1, if_neg (nn hform)] at hk
  rw [phW_k hkind]
  rw [if_neg (by omega), if_neg (by omega), if_neg (by omega), if_neg (by omega), if_neg (by omega), if_neg (by omega), if_neg (by omega), if_pos (by omega)] at hk
  have hc := loweredSome_A hg h l c ok (by omega) hl2 sc hsc hp hp1
  rw [phW_k hkind] at hc
  refine We ?_
  have c21 := hF; have c22 := hc; have us := eq_self (0 : Nat)
  exact W107
end Go.Proofs.YtdmkfkjdielmiaaDoor
namespace Go.Proofs.YtdmkfkjdielmiaaDoor
open Go Go.Proofs.YtdmkfkjdielmiaaDoor.Ab
variable [Glo] [U8] [CAr]
set_option maxHeartbeats 4000000
set_option maxRecDepth 20000
open FN17 in
theorem lowered24_A {g : Ph → Sc → Ex × Int} {B : Nat} (hg : RefAt g B) (h : Phh) (l : List Ph) (c : List Cl) (hkind : h.k = 24) (ok : PhhOk h) (hl : l.length ≤ 1048576) (sc : Sc) (hsc : sc.length ≤ 10000000) (hp : ∀ p, p ∈ l → PLow B p sc) (hl2 : l.length = 2) (hp1 : ∀ p, p ∈ l → PLow B p (sc ++ [h.nm])) (hform : formQ h.k l.length = 0) (H : Heap) (K : V → Heap → Prop) (hk : K (loV (lowR1 g h l c sc)) H) :
    ACalls Tryd.prog 17 [phW h l c, .d (.sl 1 (sc.map strRow))] H K := by
  have o1 := ok.it
  have o2 := ok.nm
  have o3 := ok.tn
  have hF := phraseFault_A h l c hl
  rw [hform, phW_k hkind] at hF
  have hn := none_A
  rw [lowR1, if_neg (nn hform)] at hk
  rw [phW_k hkind]
  rw [if_neg (by omega), if_neg (by omega), if_neg (by omega), if_neg (by omega), if_neg (by omega), if_neg (by omega), if_neg (by omega), if_pos (by omega)] at hk
  have hc := loweredSome_A hg h l c ok (by omega) hl2 sc hsc hp hp1
  rw [phW_k hkind] at hc
  refine We ?_
  have c21 := hF; have c22 := hc; have us := eq_self (0 : Nat)
  exact W107
end Go.Proofs.YtdmkfkjdielmiaaDoor
namespace Go.Proofs.YtdmkfkjdielmiaaDoor
open Go Go.Proofs.YtdmkfkjdielmiaaDoor.Ab
variable [Glo] [U8] [CAr]
set_option maxHeartbeats 4000000
set_option maxRecDepth 20000
open FN17 in
theorem lowered25_A {g : Ph → Sc → Ex × Int} {B : Nat} (hg : RefAt g B) (h : Phh) (l : List Ph) (c : List Cl) (hkind : h.k = 25) (ok : PhhOk h) (hl : l.length ≤ 1048576) (sc : Sc) (hsc : sc.length ≤ 10000000) (hp : ∀ p, p ∈ l → PLow B p sc) (hform : formQ h.k l.length = 0) (H : Heap) (K : V → Heap → Prop) (hk : K (loV (lowR1 g h l c sc)) H) :
    ACalls Tryd.prog 17 [phW h l c, .d (.sl 1 (sc.map strRow))] H K := by
  have o1 := ok.it
  have o2 := ok.nm
  have o3 := ok.tn
  have hF := phraseFault_A h l c hl
  rw [hform, phW_k hkind] at hF
  have hn := none_A
  rw [lowR1, if_neg (nn hform)] at hk
  rw [phW_k hkind]
  have hof := operatorOf_A h.nm
  cases ho : lookS opE h.nm with
  | none =>
    have e : opQs h.nm = [] := by rw [opQs, ho]; rfl
    rw [e] at hof
    rw [if_neg (by omega), if_neg (by omega), if_neg (by omega), if_neg (by omega), if_neg (by omega), if_neg (by omega), if_neg (by omega), if_neg (by omega), if_neg (by omega), if_neg (by omega), if_pos ⟨hkind, ho⟩] at hk
    refine We ?_
    have c21 := hF; have c22 := hof; have c23 := hn; have us := eq_self (0 : Nat)
    exact W107
  | some s =>
    have e : opQs h.nm = s := by rw [opQs, ho]; rfl
    rw [e] at hof
    have hne : s ≠ [] := opE_ne _ ((lookS_iff opE_nodup).1 ho)
    have s0 : (s = []) = False := eq_false hne
    rw [if_neg (by omega), if_neg (by omega), if_neg (by omega), if_neg (by omega), if_neg (by omega), if_neg (by omega), if_neg (by omega), if_neg (by omega), if_neg (by omega), if_neg (by omega), if_neg (show ¬(h.k = 25 ∧ lookS opE h.nm = none) from fun e => by rw [ho] at e; cases e.2), if_neg (show ¬(h.k = 10 ∧ madeQ h.n h.nm ≠ 0) from fun e => by omega)] at hk
    have hA := loweredAll_A hg l hl sc hp
    rw [alV] at hA
    by_cases hz : (allR g l sc).2 = 0
    · have z0 : ((allR g l sc).2 = 0) = True := eq_true hz
      rw [if_neg (nn hz)] at hk
      have hal : (allR g l sc).1.length = l.length := by
        rw [allR_ok (allR_all hz)]; simp
      rw [if_neg (by omega), if_neg (by omega), if_pos hkind, ho] at hk
      have hn2 : l.length = 2 := by
        rw [hkind] at hform
        unfold formQ at hform
        simp at hform
        exact hform
      obtain ⟨x, y, hxy⟩ : ∃ x y, (allR g l sc).1 = [x, y] := by
        rw [hn2] at hal
        match (allR g l sc).1, hal with
        | [x, y], _ => exact ⟨x, y, rfl⟩
      rw [hxy] at hA hk
      have hcall := asCall_A s [x, y]
      simp only [exW, exV, List.map_cons, List.map_nil, exD_1] at hcall
      refine We ?_
      have c21 := hF; have c22 := hof; have c23 := hA; have c24 := hcall; have us := an z0 s0
      exact W110
    · have z0 : ((allR g l sc).2 = 0) = False := eq_false hz
      rw [if_pos (show (allR g l sc).2 ≠ 0 from hz)] at hk
      refine We ?_
      have c21 := hF; have c22 := hof; have c23 := hA; have c24 := hn; have us := an z0 s0
      exact W107
end Go.Proofs.YtdmkfkjdielmiaaDoor
namespace Go.Proofs.YtdmkfkjdielmiaaDoor
open Go Go.Proofs.YtdmkfkjdielmiaaDoor.Ab
variable [Glo] [U8] [CAr]
set_option maxHeartbeats 4000000
set_option maxRecDepth 20000
open FN17 in
theorem lowered7_A {g : Ph → Sc → Ex × Int} {B : Nat} (hg : RefAt g B) (h : Phh) (l : List Ph) (c : List Cl) (hkind : h.k = 7) (ok : PhhOk h) (hl : l.length ≤ 1048576) (sc : Sc) (hsc : sc.length ≤ 10000000) (hp : ∀ p, p ∈ l → PLow B p sc) (hform : formQ h.k l.length = 0) (H : Heap) (K : V → Heap → Prop) (hk : K (loV (lowR1 g h l c sc)) H) :
    ACalls Tryd.prog 17 [phW h l c, .d (.sl 1 (sc.map strRow))] H K := by
  have o1 := ok.it
  have o2 := ok.nm
  have o3 := ok.tn
  have hF := phraseFault_A h l c hl
  rw [hform, phW_k hkind] at hF
  have hn := none_A
  rw [lowR1, if_neg (nn hform)] at hk
  rw [phW_k hkind]
  rw [if_neg (by omega), if_neg (by omega), if_neg (by omega), if_neg (by omega), if_neg (by omega), if_neg (by omega), if_neg (by omega), if_neg (by omega), if_neg (by omega), if_neg (by omega), if_neg (show ¬(h.k = 25 ∧ lookS opE h.nm = none) from fun e => by omega), if_neg (show ¬(h.k = 10 ∧ madeQ h.n h.nm ≠ 0) from fun e => by omega)] at hk
  have hA := loweredAll_A hg l hl sc hp
  rw [alV] at hA
  by_cases hz : (allR g l sc).2 = 0
  · have z0 : ((allR g l sc).2 = 0) = True := eq_true hz
    rw [if_neg (nn hz)] at hk
    have hal : (allR g l sc).1.length = l.length := by
      rw [allR_ok (allR_all hz)]; simp
    rw [if_pos hkind] at hk
    have hn3 : l.length = 3 := by
      rw [hkind] at hform
      unfold formQ at hform
      simp at hform
      exact hform
    obtain ⟨x, y, z, hxyz⟩ : ∃ x y z, (allR g l sc).1 = [x, y, z] := by
      rw [hn3] at hal
      match (allR g l sc).1, hal with
      | [x, y, z], _ => exact ⟨x, y, z, rfl⟩
    rw [hxyz] at hA hk
    have hcall := asCall_A sBoolean [x]
    have hch := asIf_A (eCall sBoolean [x]) y z
    simp only [exW, exV, List.map_cons, List.map_nil, exD_1] at hcall hch
    refine We ?_
    have c21 := hF; have c22 := hA; have c23 := hcall; have c24 := hch; have us := z0
    exact W111
  · have z0 : ((allR g l sc).2 = 0) = False := eq_false hz
    rw [if_pos (show (allR g l sc).2 ≠ 0 from hz)] at hk
    refine We ?_
    have c21 := hF; have c22 := hA; have c23 := hn; have us := z0
    exact W107
end Go.Proofs.YtdmkfkjdielmiaaDoor
namespace Go.Proofs.YtdmkfkjdielmiaaDoor
open Go Go.Proofs.YtdmkfkjdielmiaaDoor.Ab
variable [Glo] [U8] [CAr]
set_option maxHeartbeats 4000000
set_option maxRecDepth 20000
open FN17 in
theorem lowered3_A {g : Ph → Sc → Ex × Int} {B : Nat} (hg : RefAt g B) (h : Phh) (l : List Ph) (c : List Cl) (hkind : h.k = 3) (ok : PhhOk h) (hl : l.length ≤ 1048576) (sc : Sc) (hsc : sc.length ≤ 10000000) (hp : ∀ p, p ∈ l → PLow B p sc) (hform : formQ h.k l.length = 0) (H : Heap) (K : V → Heap → Prop) (hk : K (loV (lowR1 g h l c sc)) H) :
    ACalls Tryd.prog 17 [phW h l c, .d (.sl 1 (sc.map strRow))] H K := by
  have o1 := ok.it
  have o2 := ok.nm
  have o3 := ok.tn
  have hF := phraseFault_A h l c hl
  rw [hform, phW_k hkind] at hF
  have hn := none_A
  rw [lowR1, if_neg (nn hform)] at hk
  rw [phW_k hkind]
  rw [if_neg (by omega), if_neg (by omega), if_neg (by omega), if_neg (by omega), if_neg (by omega), if_neg (by omega), if_neg (by omega), if_neg (by omega), if_neg (by omega), if_neg (by omega), if_neg (by omega), if_neg (by omega)] at hk
  have hA := loweredAll_A hg l hl sc hp
  rw [alV] at hA
  by_cases hz : (allR g l sc).2 = 0
  · have z0 : ((allR g l sc).2 = 0) = True := eq_true hz
    rw [if_neg (nn hz)] at hk
    rw [if_neg (by omega), if_neg (by omega), if_neg (by omega), if_neg (by omega)] at hk
    refine We ?_
    have c21 := hF; have c22 := hA; have us := z0
    exact W107
  · have z0 : ((allR g l sc).2 = 0) = False := eq_false hz
    rw [if_pos (show (allR g l sc).2 ≠ 0 from hz)] at hk
    refine We ?_
    have c21 := hF; have c22 := hA; have c23 := hn; have us := z0
    exact W107
end Go.Proofs.YtdmkfkjdielmiaaDoor
namespace Go.Proofs.YtdmkfkjdielmiaaDoor
open Go Go.Proofs.YtdmkfkjdielmiaaDoor.Ab
variable [Glo] [U8] [CAr]
set_option maxHeartbeats 4000000
set_option maxRecDepth 20000
open FN17 in
theorem lowered8_A {g : Ph → Sc → Ex × Int} {B : Nat} (hg : RefAt g B) (h : Phh) (l : List Ph) (c : List Cl) (hkind : h.k = 8) (ok : PhhOk h) (hl : l.length ≤ 1048576) (sc : Sc) (hsc : sc.length ≤ 10000000) (hp : ∀ p, p ∈ l → PLow B p sc) (hform : formQ h.k l.length = 0) (H : Heap) (K : V → Heap → Prop) (hk : K (loV (lowR1 g h l c sc)) H) :
    ACalls Tryd.prog 17 [phW h l c, .d (.sl 1 (sc.map strRow))] H K := by
  have o1 := ok.it
  have o2 := ok.nm
  have o3 := ok.tn
  have hF := phraseFault_A h l c hl
  rw [hform, phW_k hkind] at hF
  have hn := none_A
  rw [lowR1, if_neg (nn hform)] at hk
  rw [phW_k hkind]
  rw [if_neg (by omega), if_neg (by omega), if_neg (by omega), if_neg (by omega), if_neg (by omega), if_neg (by omega), if_neg (by omega), if_neg (by omega), if_neg (by omega), if_pos hkind] at hk
  have hc := loweredCall_A hg h l c ok hl sc hsc hp
  rw [phW_k hkind] at hc
  refine We ?_
  have c21 := hF; have c22 := hc; have us := eq_self (0 : Nat)
  exact W107
end Go.Proofs.YtdmkfkjdielmiaaDoor
namespace Go.Proofs.YtdmkfkjdielmiaaDoor
open Go Go.Proofs.YtdmkfkjdielmiaaDoor.Ab
variable [Glo] [U8] [CAr]
set_option maxHeartbeats 4000000
set_option maxRecDepth 20000
namespace FN51
def tks : Nat → List Nat | 0 => [1, 2, 4] | 1 => [1, 2, 4, 6, 7] | 2 => [1, 2, 4, 6, 7, 8] | 3 => [1, 2, 4, 6, 7, 8, 30] | 4 => [1, 2, 4, 6, 7, 8] | 5 => [1, 2, 4, 6, 8, 9] | 6 => [1, 2, 4, 6, 7, 8, 9] | 7 => [1, 2, 4, 6, 7, 8, 10] | 8 => [1, 2, 4, 6, 7, 8, 11] | 9 => [1, 2, 4, 6, 7, 8, 12] | 10 => [1, 2, 4, 6, 7, 8] | 11 => [4, 5] | _ => []
def tmu : List Nat := []
def tin : List Nat := [0, 1]
def txd : Nat → Nat × Nat × List Bool | 6 => (13, 12, []) | _ => (0, 0, [])
def txv : Nat → Nat × Nat × List Ce | 7 => (8, 7, [.q 0 0 false, .q 0 0 false, .q 0 0 false, .q 0 0 false, .q 0 0 false, .q 0 0 false, .q 0 0 false, .a]) | 8 => (5, 4, [.q 0 0 false, .q 0 0 false, .q 0 0 false, .q 0 0 false, .a]) | 9 => (7, 6, [.q 0 0 false, .q 0 0 false, .q 0 0 false, .q 0 0 false, .q 0 0 false, .q 0 0 false, .a]) | _ => (0, 0, [])
def tvw : Nat → List Nat | _ => []
abbrev tfn := @Tryd.func51
end FN51
attribute [go_sem] FN51.tks FN51.tmu FN51.tin FN51.txd FN51.txv FN51.tvw Tryd.ntmps51 Tryd.results51
theorem filR_next {g : Ph → Sc → Ex × Int} {sc : Sc} {l : List Ph} {i : Nat} {q : Ph} (h : l[i]? = some q) (x : Ex) : filR g sc (l.drop i) x 0 = filR g sc (l.drop (i + 1)) (fBody (g q (filS sc)).1 x) (g q (filS sc)).2 := by
  rw [drop_of_get h, filR, if_neg (nn rfl)]
theorem filR_bad {g : Ph → Sc → Ex × Int} {sc : Sc} {l : List Ph} {x : Ex} {e : Int} (h : e ≠ 0) : filR g sc l x e = (x, e) := by
  cases l with
  | nil => rfl
  | cons q l => rw [filR, if_pos h]
theorem filR_end {g : Ph → Sc → Ex × Int} {sc : Sc} {l : List Ph} {i : Nat} (h : l.length ≤ i) (x : Ex) (e : Int) : filR g sc (l.drop i) x e = (x, e) := by
  rw [List.drop_eq_nil_of_le h]; rfl
theorem app2R {X G : Heap} {a b a' b' : Ob} (h1 : a = a') (h2 : b = b') : X ++ a :: b :: G = X ++ a' :: b' :: G := by subst h1 h2; rfl
def eZeroR : List V := [.d (.i .i64 0), .d (.i .i64 0), .d (.i .i64 0), .d (.s []), .d (.s []), .d (.s []), .d (.i .i64 0), .d (.i .i64 0), .d (.i .i64 0), .d (.s []), .d (.c (.slice none 0 0))]
open FN51 in
theorem loweredFilter_A {g : Ph → Sc → Ex × Int} {B : Nat} (hg : RefAt g B) (h : Phh) (l : List Ph) (c : List Cl) (hl : l.length ≤ 1048576) (hl1 : 0 < l.length) (sc : Sc) (hsc : sc.length ≤ 10000000) (hp : ∀ p, p ∈ l → PLow B p sc) (hpF : ∀ p, p ∈ l → PLow B p (filS sc)) (H : Heap) (K : V → Heap → Prop) (hk : K (loV (filR g sc (l.drop 1) (g (argAt l 0) sc).1 (g (argAt l 0) sc).2)) H) :
    ACalls Tryd.prog 51 [phW h l c, .d (.sl 1 (sc.map strRow))] H K := by
  have a0 : l[0]? = some (argAt l 0) := by rw [argAt, List.getD_eq_getElem?_getD]; cases hh : l[0]? with | none => rw [List.getElem?_eq_none_iff] at hh; omega | some v => rfl
  have l0 : ((0 : Int) < (l.length : Int)) = True := eq_true (by omega)
  have m0 := hp _ (List.mem_of_getElem? a0)
  generalize argAt l 0 = p0 at a0 m0 hk
  have r0 := hg p0 sc
  rw [phW, loV] at r0
  rw [phW]
  generalize g p0 sc = y0 at r0 hk
  obtain ⟨v0, e0⟩ := y0
  obtain ⟨R, hR⟩ : ∃ R, filR g sc (l.drop 1) v0 e0 = R := ⟨_, rfl⟩
  rw [hR] at hk
  refine We ?_
  have c21 := fun x0 x1 => r0 x0 x1 m0; have us := an a0 l0
  refine W112 ?_
  all_goals first
    | omega
    | skip
  refine AWp_whileG (fun y : Nat × Ex × Int => 1 ≤ y.1 ∧ y.1 ≤ l.length ∧ filR g sc (l.drop y.1) y.2.1 y.2.2 = R)
    (fun y => [(1, .d (.sl 1 (sc.map strRow))), (2, .rp [.i .i64 h.k, .i .i64 h.it.k, .i .i64 h.it.n, .s h.it.s, .s h.nm, .i .i64 h.n, .i .i64 h.ax, .i .i64 h.tk, .s h.tn, .sl 11 (l.map phD), .sl 15 (c.map clD)]), (4, .pt H.length 0 0 0), (6, .pt (H.length + 1) 0 0 0), (7, .d (.i .i64 y.2.2)), (8, .d (.i .i64 y.1))])
    (fun y => H ++ [.row 0 32 11 [eZeroR], .row 0 32 11 [exC y.2.1]]) (fun y => l.length - y.1) (1, v0, e0) ⟨Nat.le_refl _, hl1, hR⟩ ⟨[], ?_⟩ ?_ ?_ ?_ ?_
  · simp only [exC_1, eZeroR, List.append_nil]
  · simp (dsimp := false) only [go_sem, Nat.reduceAdd, Nat.reduceBEq, Nat.reduceEqDiff, Nat.reduceLT, Nat.reduceLeDiff, Nat.reduceMul, Int.reduceToNat, reduceCtorEq, ↓reduceIte, not_true_eq_false, not_false_eq_true, Bool.true_and, Bool.false_and, Int.reduceEq, Int.reduceLT, Int.reduceLE, Int.reduceNeg, List.map_cons, List.map_nil, List.length_set, exW, exV, loV, phW, phD_1, a0, l0]
    first | done | (simp; done) | (simp; omega)
  · intro i _; simp
  · intro i _
    refine closed_app fun ob hob => ?_
    rcases List.mem_cons.1 hob with rfl | hob
    · exact obBel_data _ _ _ _ [[.i .i64 0, .i .i64 0, .i .i64 0, .s [], .s [], .s [], .i .i64 0, .i .i64 0, .i .i64 0, .s [], .c (.slice none 0 0)]]
    · rw [List.mem_singleton.1 hob]; exact exC_bel _ _ _ _ [_]
  rintro ⟨i, x, e⟩ ⟨hi1, hi, hi3⟩
  simp only at hi1 hi hi3
  have t2 : ((0 : Int) ≤ (i : Int)) = True := eq_true (by omega)
  by_cases hil : i < l.length
  case neg =>
    have t1 : ((i : Int) < (l.length : Int)) = False := eq_false (by omega)
    rw [filR_end (by omega)] at hi3
    subst hi3
    have us := t1
    exact W113
  have t1 : ((i : Int) < (l.length : Int)) = True := eq_true (by omega)
  by_cases he : e = 0
  case neg =>
    have t3 : (e = 0) = False := eq_false he
    rw [filR_bad he] at hi3
    subst hi3
    have us := an t1 t3
    exact W113
  subst he
  obtain ⟨q, hq⟩ : ∃ x, l[i]? = some x := ⟨l[i], List.getElem?_eq_getElem hil⟩
  have hpq := hpF q (List.mem_of_getElem? hq)
  have r1 := hg q (filS sc)
  have hnext := filR_next (g := g) (sc := sc) hq x
  rw [hi3] at hnext
  rw [phW, loV] at r1
  generalize g q (filS sc) = r2 at r1 hnext
  obtain ⟨cx, f2⟩ := r2
  have t3 : ((0 : Int) = 0) = True := eq_true rfl
  have hpl := plus_A sc [sAll, sLast, sDot, sAt] (by omega) (by simp)
  have hva := asVar_A
  have hno := none_A
  have hho := asCall_A sHolds [cx, eVar sAt]
  have hch := asIf_A (eCall sHolds [cx, eVar sAt]) (eVar sDot) eNone
  have hco := asCall_A sCount [eVar sAll]
  simp only [exW, exV, List.map_cons, List.map_nil, exD_1] at hho hch hco
  have c21 := fun x0 x1 => r1 x0 x1 hpq; have c22 := hpl; have c23 := hho; have c24 := hch; have c25 := hco; have c26 := hno; have c31 := hva; have us := an t1 (an t2 (an t3 hq))
  (repeat' (first | with_reducible (first | refine And.intro ?_ ?_ | intro _ | (refine hKv _ _ (AWp_nop ?_); clear hKv Kv) | (refine hKA ?_; clear hKA hKB KA KB) | (refine hKB ?_; clear hKA hKB KA KB) | refine Wp ?_ | fail) | ((first | with_reducible (first | (refine hKv _ _ ?_; clear hKv Kv) | (refine Wr ?_; intro Kv hKv) | refine AWp_retR ?_ | fail) | refine Wc ?_ | fail); try simp (dsimp := false) only [go_sem, Nat.reduceAdd, Nat.reduceBEq, Nat.reduceEqDiff, Nat.reduceLT, Nat.reduceLeDiff, Nat.reduceMul, Int.reduceToNat, reduceCtorEq, ↓reduceIte, us, Bool.false_and, Bool.true_and, Int.reduceEq, Int.reduceLE, Int.reduceLT, Int.reduceNeg, List.length_set, List.map_cons, List.map_nil, eZeroR, exC_1, exD_1, exV, exW, loV, not_false_eq_true, not_true_eq_false, phD_1, sAll, sAt, sCount, sDot, sHolds, sLast, strRow]) | (refine AWp_condC rfl ?_; intro KA KB hKA hKB; try simp only [onB_true, onB_false, onB_dec, onB_ndec, onB_not, onB_and, onB_or]) | (refine AWp_condA rfl ?_ ?_) | with_reducible (first | refine onB_of ?_ ?_ | rfl) | omega))
  all_goals first
    | omega
    | skip
  refine ⟨(i + 1, fBody cx x, f2), ?G, ⟨by omega, by omega, hnext.symm⟩, by omega, ?h, ?s⟩
  case h =>
    refine app2R ?_ ?_
    · rfl
    · first | (simp [exC_1, exD_1, fBody, eLet, eFor, eCall, eIf, eVar, eNone, xh0, Ex.h, Ex.args, sDot, sAt, sLast, sAll, sHolds, sCount]; done)
  case s => first | exact ⟨rfl, by omega, by omega⟩ | (simp; done)
end Go.Proofs.YtdmkfkjdielmiaaDoor
namespace Go.Proofs.YtdmkfkjdielmiaaDoor
open Go Go.Proofs.YtdmkfkjdielmiaaDoor.Ab
variable [Glo] [U8] [CAr]
set_option maxHeartbeats 4000000
set_option maxRecDepth 20000
open FN17 in
theorem lowered22_A {g : Ph → Sc → Ex × Int} {B : Nat} (hg : RefAt g B) (h : Phh) (l : List Ph) (c : List Cl) (hkind : h.k = 22) (ok : PhhOk h) (hl : l.length ≤ 1048576) (sc : Sc) (hsc : sc.length ≤ 10000000) (hp : ∀ p, p ∈ l → PLow B p sc) (hl1 : 0 < l.length) (hpF : ∀ p, p ∈ l → PLow B p (filS sc)) (hform : formQ h.k l.length = 0) (H : Heap) (K : V → Heap → Prop) (hk : K (loV (lowR1 g h l c sc)) H) :
    ACalls Tryd.prog 17 [phW h l c, .d (.sl 1 (sc.map strRow))] H K := by
  have o1 := ok.it
  have o2 := ok.nm
  have o3 := ok.tn
  have hF := phraseFault_A h l c hl
  rw [hform, phW_k hkind] at hF
  have hn := none_A
  rw [lowR1, if_neg (nn hform)] at hk
  rw [phW_k hkind]
  rw [if_neg (by omega), if_neg (by omega), if_neg (by omega), if_neg (by omega), if_neg (by omega), if_neg (by omega), if_pos hkind] at hk
  have hc := loweredFilter_A hg h l c hl hl1 sc hsc hp hpF
  rw [phW_k hkind] at hc
  refine We ?_
  have c21 := hF; have c22 := hc; have us := eq_self (0 : Nat)
  exact W107
end Go.Proofs.YtdmkfkjdielmiaaDoor
namespace Go.Proofs.YtdmkfkjdielmiaaDoor
open Go Go.Proofs.YtdmkfkjdielmiaaDoor.Ab
variable [Glo] [U8] [CAr] [COp] [CCa]
set_option maxHeartbeats 4000000
set_option maxRecDepth 20000
theorem lowered_A : ∀ n : Nat, RefAt (lowR n) n
  | 0 => fun p sc H K hp hk => by have := phN_pos p; have := hp.le; omega
  | n + 1 => fun p sc H K hp hk => by
    have hg := lowered_A n
    cases p with | mk h l c =>
    have ok := hp.ok.h
    have hl := hp.ok.len
    have hsc : sc.length ≤ 10000000 := by have := hp.sc; omega
    have ha : ∀ q, q ∈ l → PLow n q sc := fun q hq => plow_arg hp hq (by omega)
    by_cases hform : formQ h.k l.length = 0
    case neg => exact loweredB_A (g := lowR n) h l c ok hl sc hform H K hk
    rcases form_kinds hform with e | e | e | e | e | e | e | e | e | e | e | e | e | e | e | e
    · exact lowered1_A hg h l c e ok hl sc hsc ha hform H K hk
    · exact lowered2_A hg h l c e ok hl sc hsc ha hform H K hk
    · exact lowered11_A hg h l c e ok hl sc hsc ha hform H K hk
    · exact lowered27_A hg h l c e ok hl sc hsc ha hform H K hk
    · exact lowered9_A hg h l c e ok hl sc hsc ha hform H K hk
    · exact lowered10_A hg h l c e ok hl sc hsc ha hform H K hk
    · exact lowered26_A hg h l c e ok hl sc hsc ha hform H K hk
    · exact lowered28_A hg h l c e ok hl sc hsc ha (clsOk_of hp.ok) _ (tlow_of hp (by have := form_1 hform e; omega)) (form_1 hform e) hform H K hk
    · exact lowered21_A hg h l c e ok hl sc hsc ha (form_2 hform (by omega)) (fun q hq => plow_arg hp hq (by simp)) hform H K hk
    · exact lowered23_A hg h l c e ok hl sc hsc ha (form_2 hform (by omega)) (fun q hq => plow_arg hp hq (by simp)) hform H K hk
    · exact lowered24_A hg h l c e ok hl sc hsc ha (form_2 hform (by omega)) (fun q hq => plow_arg hp hq (by simp)) hform H K hk
    · exact lowered25_A hg h l c e ok hl sc hsc ha hform H K hk
    · exact lowered7_A hg h l c e ok hl sc hsc ha hform H K hk
    · exact lowered3_A hg h l c e ok hl sc hsc ha hform H K hk
    · exact lowered8_A hg h l c e ok hl sc hsc ha hform H K hk
    · exact lowered22_A hg h l c e ok hl sc hsc ha (form_0 hform e) (fun q hq => plow_arg hp hq (by simp [filS])) hform H K hk
end Go.Proofs.YtdmkfkjdielmiaaDoor
