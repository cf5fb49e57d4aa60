/- Lowering: the reference, its clauses. No condition but that the tables of package unicode/utf8 and of the core's functions are there. -/
import Derived.Test.YtdmkfkjdielmiaaDoorP19
import Derived.Test.YtdmkfkjdielmiaaDoorP42
import Derived.Test.YtdmkfkjdielmiaaDoorP37
set_option linter.all false
set_option linter.unusedSimpArgs false
set_option linter.unusedVariables false
namespace Go.Proofs.YtdmkfkjdielmiaaDoor
open Go Go.Proofs.YtdmkfkjdielmiaaDoor.Ab
variable [Glo] [U8] [CAr]
set_option maxHeartbeats 4000000
set_option maxRecDepth 20000
namespace FN54
def tks : Nat → List Nat | 0 => [0, 2, 3, 5, 8] | 1 => [0, 2, 3, 5, 8, 27] | 2 => [8, 9] | 3 => [0, 2, 3, 5, 8, 10] | 4 => [0, 2, 3, 5, 8, 10, 11] | 5 => [0, 2, 3, 5, 8, 10, 11, 48] | 6 => [8, 9] | 7 => [0, 2, 3, 5, 8, 10, 11, 12, 13] | 8 => [0, 2, 3, 5, 8, 10, 11, 12, 13, 64] | 9 => [8, 9] | 10 => [0, 2, 3, 5, 8, 10, 11, 12, 69] | 11 => [8, 12, 14, 15] | 12 => [8, 9] | 13 => [0, 2, 5, 8, 10, 11, 12, 16] | 14 => [0, 2, 5, 8, 10, 11, 12, 16, 92] | 15 => [8, 10, 12, 17, 18] | 16 => [8, 9] | 17 => [0, 2, 5, 8, 10, 11, 12, 16, 110] | 18 => [0, 2, 5, 8, 10, 11, 12, 16] | 19 => [2, 5, 8, 10, 11, 12, 16, 19] | 20 => [2, 5, 8, 10, 11, 12, 16, 19, 124] | 21 => [8, 10, 12, 20, 21] | 22 => [8, 9] | 23 => [5, 8, 10, 11, 12, 13, 16, 19, 22] | 24 => [5, 8, 10, 11, 12, 13, 16, 19, 22, 151] | 25 => [8, 9] | 26 => [8, 10, 12, 13, 19, 22, 23] | 27 => [8, 10, 12, 13, 19, 22, 23, 24] | 28 => [8, 10, 12, 13, 22, 23, 24, 162] | 29 => [8, 10, 12, 13, 22, 23, 24] | 30 => [8, 9] | _ => []
def tmu : List Nat := []
def tin : List Nat := [0, 1, 2, 3]
def txd : Nat → Nat × Nat × List Bool | 12 => (8, 7, []) | _ => (0, 0, [])
def tvw : Nat → List Nat | _ => []
abbrev tfn := @Tryd.func54
end FN54
attribute [go_sem] FN54.tks FN54.tmu FN54.tin FN54.txd FN54.tvw Tryd.ntmps54 Tryd.results54
def RTupAt (g : Ph → Sc → Ex × Int) (B : Nat) (L : List Cl) : Prop := ∀ (b : Nat) (p : Ph) (key : Bool) (sc : Sc) (H : Heap) (K : V → Heap → Prop), TLow B b L p sc → K (loV (tupR g L p key sc)) H →
  ACalls Tryd.prog 54 [.d (.sl 15 (L.map clD)), phW p.h p.args p.cls, .d (.b key), .d (.sl 1 (sc.map strRow))] H K
open FN54 in
theorem rt4_A {g : Ph → Sc → Ex × Int} {B : Nat} (hg : RefAt g B) (L rest : List Cl) (c : Cl) (hL : L = c :: rest) (hR : RTupAt g B rest) (b : Nat) (p : Ph) (key : Bool) (sc : Sc) (H : Heap) (K : V → Heap → Prop) (hT : TLow B b L p sc)
    (hk : K (loV (tupR g L p key sc)) H) (hck : c.c.k = 4) :
    ACalls Tryd.prog 54 [.d (.sl 15 (L.map clD)), phW p.h p.args p.cls, .d (.b key), .d (.sl 1 (sc.map strRow))] H K := by
  have hlen := hT.len
  have hmem : c ∈ L := by rw [hL]; exact .head _
  have x0 : L[0]? = some c := by rw [hL]; rfl
  have xd : List.drop 1 (List.take L.length (L.map clD)) = rest.map clD := by rw [List.take_of_length_le (by simp), hL]; rfl
  have hll : L.length = rest.length + 1 := by rw [hL]; rfl
  have xl : ((L.length : Int) = 0) = False := eq_false (by omega)
  have o1 := (hT.cls c hmem).2.2.1
  have o2 := (hT.cls c hmem).2.2.2
  have hscl := hT.sc
  have hx := fun H K hk => hg c.x sc H K (hT.clow hmem) hk
  have hn := none_A
  rw [phW, loV] at hx
  rw [phW]
  rw [hL, tupR] at hk
  rw [hL] at hT
  have k2 : (c.c.k = 2) = False := eq_false (by omega)
  have k3 : (c.c.k = 3) = False := eq_false (by omega)
  have k4 : (c.c.k = 4) = True := eq_true (by omega)
  rw [if_pos (.inl hck)] at hk
  have ht := fun H K hk => hR b p key sc H K (hT.rest (sc' := sc) (by simp)) hk
  rw [phW, loV] at ht
  refine We ?_
  have c21 := ht; have us := an x0 (an xd (an xl (an k2 (an k3 k4))))
  exact W103
open FN54 in
theorem rt3t_A {g : Ph → Sc → Ex × Int} {B : Nat} (hg : RefAt g B) (L rest : List Cl) (c : Cl) (hL : L = c :: rest) (hR : RTupAt g B rest) (b : Nat) (p : Ph) (key : Bool) (sc : Sc) (H : Heap) (K : V → Heap → Prop) (hT : TLow B b L p sc)
    (hk : K (loV (tupR g L p key sc)) H) (hck : c.c.k = 3) (hkey : key = true) :
    ACalls Tryd.prog 54 [.d (.sl 15 (L.map clD)), phW p.h p.args p.cls, .d (.b key), .d (.sl 1 (sc.map strRow))] H K := by
  have hlen := hT.len
  have hmem : c ∈ L := by rw [hL]; exact .head _
  have x0 : L[0]? = some c := by rw [hL]; rfl
  have xd : List.drop 1 (List.take L.length (L.map clD)) = rest.map clD := by rw [List.take_of_length_le (by simp), hL]; rfl
  have hll : L.length = rest.length + 1 := by rw [hL]; rfl
  have xl : ((L.length : Int) = 0) = False := eq_false (by omega)
  have o1 := (hT.cls c hmem).2.2.1
  have o2 := (hT.cls c hmem).2.2.2
  have hscl := hT.sc
  have hx := fun H K hk => hg c.x sc H K (hT.clow hmem) hk
  have hn := none_A
  rw [phW, loV] at hx
  rw [phW]
  rw [hL, tupR] at hk
  rw [hL] at hT
  have k2 : (c.c.k = 2) = False := eq_false (by omega)
  have k3 : (c.c.k = 3) = True := eq_true (by omega)
  have k4 : (c.c.k = 4) = False := eq_false (by omega)
  subst hkey
  rw [if_pos (.inr ⟨hck, rfl⟩)] at hk
  have ht := fun H K hk => hR b p true sc H K (hT.rest (sc' := sc) (by simp)) hk
  rw [phW, loV] at ht
  refine We ?_
  have c21 := ht; have us := an x0 (an xd (an xl (an k2 (an k3 k4))))
  exact W103
open FN54 in
theorem rtf_A {g : Ph → Sc → Ex × Int} {B : Nat} (hg : RefAt g B) (L rest : List Cl) (c : Cl) (hL : L = c :: rest) (hR : RTupAt g B rest) (b : Nat) (p : Ph) (key : Bool) (sc : Sc) (H : Heap) (K : V → Heap → Prop) (hT : TLow B b L p sc)
    (hk : K (loV (tupR g L p key sc)) H) (hns : ¬(c.c.k = 4 ∨ c.c.k = 3 ∧ key = true)) (hz : (g c.x sc).2 ≠ 0) :
    ACalls Tryd.prog 54 [.d (.sl 15 (L.map clD)), phW p.h p.args p.cls, .d (.b key), .d (.sl 1 (sc.map strRow))] H K := by
  have hlen := hT.len
  have hmem : c ∈ L := by rw [hL]; exact .head _
  have x0 : L[0]? = some c := by rw [hL]; rfl
  have xd : List.drop 1 (List.take L.length (L.map clD)) = rest.map clD := by rw [List.take_of_length_le (by simp), hL]; rfl
  have hll : L.length = rest.length + 1 := by rw [hL]; rfl
  have xl : ((L.length : Int) = 0) = False := eq_false (by omega)
  have o1 := (hT.cls c hmem).2.2.1
  have o2 := (hT.cls c hmem).2.2.2
  have hscl := hT.sc
  have hx := fun H K hk => hg c.x sc H K (hT.clow hmem) hk
  have hn := none_A
  rw [phW, loV] at hx
  rw [phW]
  rw [hL, tupR] at hk
  rw [hL] at hT
  have hno : ¬(c.c.k = 4 ∨ c.c.k = 3 ∧ key = true) := hns
  rw [if_neg hno] at hk
  have z0 : ((g c.x sc).2 = 0) = False := eq_false hz
  rw [if_pos hz] at hk
  have k4 : (c.c.k = 4) = False := eq_false (fun e => hns (.inl e))
  by_cases c3 : c.c.k = 3
  · have k3 : (c.c.k = 3) = True := eq_true c3
    have hkey : key = false := by cases key with | true => exact absurd (.inr ⟨c3, rfl⟩) hns | false => rfl
    subst hkey
    refine We ?_
    have c21 := hx; have c22 := hn; have us := an x0 (an xd (an xl (an k3 (an k4 z0))))
    exact W103
  · have k3 : (c.c.k = 3) = False := eq_false c3
    refine We ?_
    have c21 := hx; have c22 := hn; have us := an x0 (an xd (an xl (an k3 (an k4 z0))))
    exact W103
open FN54 in
theorem rt3_A {g : Ph → Sc → Ex × Int} {B : Nat} (hg : RefAt g B) (L rest : List Cl) (c : Cl) (hL : L = c :: rest) (hR : RTupAt g B rest) (b : Nat) (p : Ph) (key : Bool) (sc : Sc) (H : Heap) (K : V → Heap → Prop) (hT : TLow B b L p sc)
    (hk : K (loV (tupR g L p key sc)) H) (hck : c.c.k = 3) (hkey : key = false) (hz : (g c.x sc).2 = 0) :
    ACalls Tryd.prog 54 [.d (.sl 15 (L.map clD)), phW p.h p.args p.cls, .d (.b key), .d (.sl 1 (sc.map strRow))] H K := by
  have hlen := hT.len
  have hmem : c ∈ L := by rw [hL]; exact .head _
  have x0 : L[0]? = some c := by rw [hL]; rfl
  have xd : List.drop 1 (List.take L.length (L.map clD)) = rest.map clD := by rw [List.take_of_length_le (by simp), hL]; rfl
  have hll : L.length = rest.length + 1 := by rw [hL]; rfl
  have xl : ((L.length : Int) = 0) = False := eq_false (by omega)
  have o1 := (hT.cls c hmem).2.2.1
  have o2 := (hT.cls c hmem).2.2.2
  have hscl := hT.sc
  have hx := fun H K hk => hg c.x sc H K (hT.clow hmem) hk
  have hn := none_A
  rw [phW, loV] at hx
  rw [phW]
  rw [hL, tupR] at hk
  rw [hL] at hT
  have k2 : (c.c.k = 2) = False := eq_false (by omega)
  have k3 : (c.c.k = 3) = True := eq_true (by omega)
  have k4 : (c.c.k = 4) = False := eq_false (by omega)
  subst hkey
  have hno : ¬(c.c.k = 4 ∨ c.c.k = 3 ∧ false = true) := by simp [hck]
  have z0 : ((g c.x sc).2 = 0) = True := eq_true hz
  rw [if_neg hno, if_neg (nn hz), if_pos hck] at hk
  have ht := fun H K hk => hR b p false sc H K (hT.rest (sc' := sc) (by simp)) hk
  rw [phW, loV] at ht
  have hcall := asCall_A sBoolean [(g c.x sc).1]
  have hch := asIf_A (eCall sBoolean [(g c.x sc).1]) (tupR g rest p false sc).1 eNone
  simp only [exW, exV, List.map_cons, List.map_nil, exD_1] at hcall hch
  refine We ?_
  have c21 := hx; have c22 := ht; have c23 := hcall; have c24 := hn; have c25 := hch; have us := an x0 (an xd (an xl (an k2 (an k3 (an k4 z0)))))
  exact W104
open FN54 in
theorem rt2_A {g : Ph → Sc → Ex × Int} {B : Nat} (hg : RefAt g B) (L rest : List Cl) (c : Cl) (hL : L = c :: rest) (hR : RTupAt g B rest) (b : Nat) (p : Ph) (key : Bool) (sc : Sc) (H : Heap) (K : V → Heap → Prop) (hT : TLow B b L p sc)
    (hk : K (loV (tupR g L p key sc)) H) (hck : c.c.k = 2) (hz : (g c.x sc).2 = 0) :
    ACalls Tryd.prog 54 [.d (.sl 15 (L.map clD)), phW p.h p.args p.cls, .d (.b key), .d (.sl 1 (sc.map strRow))] H K := by
  have hlen := hT.len
  have hmem : c ∈ L := by rw [hL]; exact .head _
  have x0 : L[0]? = some c := by rw [hL]; rfl
  have xd : List.drop 1 (List.take L.length (L.map clD)) = rest.map clD := by rw [List.take_of_length_le (by simp), hL]; rfl
  have hll : L.length = rest.length + 1 := by rw [hL]; rfl
  have xl : ((L.length : Int) = 0) = False := eq_false (by omega)
  have o1 := (hT.cls c hmem).2.2.1
  have o2 := (hT.cls c hmem).2.2.2
  have hscl := hT.sc
  have hx := fun H K hk => hg c.x sc H K (hT.clow hmem) hk
  have hn := none_A
  rw [phW, loV] at hx
  rw [phW]
  rw [hL, tupR] at hk
  rw [hL] at hT
  have k2 : (c.c.k = 2) = True := eq_true (by omega)
  have k3 : (c.c.k = 3) = False := eq_false (by omega)
  have k4 : (c.c.k = 4) = False := eq_false (by omega)
  have hno : ¬(c.c.k = 4 ∨ c.c.k = 3 ∧ key = true) := by simp [hck]
  have z0 : ((g c.x sc).2 = 0) = True := eq_true hz
  rw [if_neg hno, if_neg (nn hz), if_neg (by omega), if_pos hck] at hk
  have hpl := plus_A sc [c.c.nm] (by omega) (by simp)
  have ht := fun H K hk => hR b p key (sc ++ [c.c.nm]) H K (hT.rest (sc' := (sc ++ [c.c.nm])) (by simp)) hk
  rw [phW, loV] at ht
  refine We ?_
  have c21 := hx; have c22 := hpl; have c23 := ht; have us := an x0 (an xd (an xl (an k2 (an k3 (an k4 z0)))))
  exact W105
end Go.Proofs.YtdmkfkjdielmiaaDoor
namespace Go.Proofs.YtdmkfkjdielmiaaDoor
open Go Go.Proofs.YtdmkfkjdielmiaaDoor.Ab
variable [Glo] [U8] [CAr]
set_option maxHeartbeats 4000000
set_option maxRecDepth 20000
open FN54 in
theorem rtF_A {g : Ph → Sc → Ex × Int} {B : Nat} (hg : RefAt g B) (L rest : List Cl) (c : Cl) (hL : L = c :: rest) (hR : RTupAt g B rest) (b : Nat) (p : Ph) (key : Bool) (sc : Sc) (H : Heap) (K : V → Heap → Prop) (hT : TLow B b L p sc)
    (hk : K (loV (tupR g L p key sc)) H) (hk2 : c.c.k ≠ 2) (hk3 : c.c.k ≠ 3) (hk4 : c.c.k ≠ 4) (hlast : (rest.getLastD c).c.k ≠ 4) (hz : (g c.x sc).2 = 0) :
    ACalls Tryd.prog 54 [.d (.sl 15 (L.map clD)), phW p.h p.args p.cls, .d (.b key), .d (.sl 1 (sc.map strRow))] H K := by
  have hlen := hT.len
  have hmem : c ∈ L := by rw [hL]; exact .head _
  have x0 : L[0]? = some c := by rw [hL]; rfl
  have xd : List.drop 1 (List.take L.length (L.map clD)) = rest.map clD := by rw [List.take_of_length_le (by simp), hL]; rfl
  have hll : L.length = rest.length + 1 := by rw [hL]; rfl
  have xl : ((L.length : Int) = 0) = False := eq_false (by omega)
  have o1 := (hT.cls c hmem).2.2.1
  have o2 := (hT.cls c hmem).2.2.2
  have hscl := hT.sc
  have hx := fun H K hk => hg c.x sc H K (hT.clow hmem) hk
  have hn := none_A
  rw [phW, loV] at hx
  rw [phW]
  rw [hL, tupR] at hk
  rw [hL] at hT
  have k2 : (c.c.k = 2) = False := eq_false (by omega)
  have k3 : (c.c.k = 3) = False := eq_false (by omega)
  have k4 : (c.c.k = 4) = False := eq_false (by omega)
  have hno : ¬(c.c.k = 4 ∨ c.c.k = 3 ∧ key = true) := by simp [hk3, hk4]
  have z0 : ((g c.x sc).2 = 0) = True := eq_true hz
  rw [if_neg hno, if_neg (nn hz), if_neg hk3, if_neg hk2, if_pos hlast] at hk
  obtain ⟨d, hd⟩ : ∃ d, rest.getLastD c = d := ⟨_, rfl⟩
  rw [hd] at hlast
  have xq : L[L.length - 1]? = some d := by
    rw [← hd, hL]
    cases rest with
    | nil => rfl
    | cons e r => rw [List.getLastD_eq_getLast?, List.getLast?_eq_getElem?]; simp
  have v1 : ((L.length : Int) - 1).toNat = L.length - 1 := by omega
  have v2 : ((0 : Int) ≤ (L.length : Int) - 1) = True := eq_true (by omega)
  have v3 : ((L.length : Int) - 1 < (L.length : Int)) = True := eq_true (by omega)
  have hp1 := plus_A sc [c.c.nm] (by omega) (by simp)
  have hp2 := plus_A (sc ++ [c.c.nm]) [c.c.at_] (by simp; omega) (by simp)
  rw [List.append_assoc] at hp2
  simp only [List.cons_append, List.nil_append] at hp2
  have kd : (d.c.k = 4) = False := eq_false hlast
  by_cases h0 : c.c.at_ = []
  · have i0 : (c.c.at_ = []) = True := eq_true h0
    have hin : innerQ c.c sc = (sc ++ [c.c.nm]) := by rw [innerQ, if_pos h0]
    rw [hin] at hk
    have ht := fun H K hk => hR b p key (sc ++ [c.c.nm]) H K (hT.rest (sc' := (sc ++ [c.c.nm])) (by simp)) hk
    rw [phW, loV] at ht
    refine We ?_
    have c21 := hx; have c22 := hp1; have c23 := hp2; have c24 := ht; have us := an x0 (an xd (an xl (an k2 (an k3 (an k4 (an z0 (an i0 (an kd (an xq (an v1 (an v2 v3)))))))))))
    exact W105
  · have i0 : (c.c.at_ = []) = False := eq_false h0
    have hin : innerQ c.c sc = (sc ++ [c.c.nm, c.c.at_]) := by rw [innerQ, if_neg h0]
    rw [hin] at hk
    have ht := fun H K hk => hR b p key (sc ++ [c.c.nm, c.c.at_]) H K (hT.rest (sc' := (sc ++ [c.c.nm, c.c.at_])) (by simp)) hk
    rw [phW, loV] at ht
    refine We ?_
    have c21 := hx; have c22 := hp1; have c23 := hp2; have c24 := ht; have us := an x0 (an xd (an xl (an k2 (an k3 (an k4 (an z0 (an i0 (an kd (an xq (an v1 (an v2 v3)))))))))))
    exact W105
open FN54 in
theorem rtS_A {g : Ph → Sc → Ex × Int} {B : Nat} (hg : RefAt g B) (L rest : List Cl) (c : Cl) (hL : L = c :: rest) (hR : RTupAt g B rest) (b : Nat) (p : Ph) (key : Bool) (sc : Sc) (H : Heap) (K : V → Heap → Prop) (hT : TLow B b L p sc)
    (hk : K (loV (tupR g L p key sc)) H) (hk2 : c.c.k ≠ 2) (hk3 : c.c.k ≠ 3) (hk4 : c.c.k ≠ 4) (hlast : (rest.getLastD c).c.k = 4) (hz : (g c.x sc).2 = 0) :
    ACalls Tryd.prog 54 [.d (.sl 15 (L.map clD)), phW p.h p.args p.cls, .d (.b key), .d (.sl 1 (sc.map strRow))] H K := by
  have hlen := hT.len
  have hmem : c ∈ L := by rw [hL]; exact .head _
  have x0 : L[0]? = some c := by rw [hL]; rfl
  have xd : List.drop 1 (List.take L.length (L.map clD)) = rest.map clD := by rw [List.take_of_length_le (by simp), hL]; rfl
  have hll : L.length = rest.length + 1 := by rw [hL]; rfl
  have xl : ((L.length : Int) = 0) = False := eq_false (by omega)
  have o1 := (hT.cls c hmem).2.2.1
  have o2 := (hT.cls c hmem).2.2.2
  have hscl := hT.sc
  have hx := fun H K hk => hg c.x sc H K (hT.clow hmem) hk
  have hn := none_A
  rw [phW, loV] at hx
  rw [phW]
  rw [hL, tupR] at hk
  rw [hL] at hT
  have k2 : (c.c.k = 2) = False := eq_false (by omega)
  have k3 : (c.c.k = 3) = False := eq_false (by omega)
  have k4 : (c.c.k = 4) = False := eq_false (by omega)
  have hno : ¬(c.c.k = 4 ∨ c.c.k = 3 ∧ key = true) := by simp [hk3, hk4]
  have z0 : ((g c.x sc).2 = 0) = True := eq_true hz
  rw [if_neg hno, if_neg (nn hz), if_neg hk3, if_neg hk2, if_neg (show ¬ (rest.getLastD c).c.k ≠ 4 from fun e => e hlast)] at hk
  obtain ⟨d, hd⟩ : ∃ d, rest.getLastD c = d := ⟨_, rfl⟩
  rw [hd] at hlast hk
  have xq : L[L.length - 1]? = some d := by
    rw [← hd, hL]
    cases rest with
    | nil => rfl
    | cons e r => rw [List.getLastD_eq_getLast?, List.getLast?_eq_getElem?]; simp
  have v1 : ((L.length : Int) - 1).toNat = L.length - 1 := by omega
  have v2 : ((0 : Int) ≤ (L.length : Int) - 1) = True := eq_true (by omega)
  have v3 : ((L.length : Int) - 1 < (L.length : Int)) = True := eq_true (by omega)
  have hp1 := plus_A sc [c.c.nm] (by omega) (by simp)
  have hp2 := plus_A (sc ++ [c.c.nm]) [c.c.at_] (by simp; omega) (by simp)
  rw [List.append_assoc] at hp2
  simp only [List.cons_append, List.nil_append] at hp2
  have kd : (d.c.k = 4) = True := eq_true hlast
  by_cases h0 : c.c.at_ = []
  · have i0 : (c.c.at_ = []) = True := eq_true h0
    have hin : innerQ c.c sc = (sc ++ [c.c.nm]) := by rw [innerQ, if_pos h0]
    rw [hin] at hk
    have hmd : d ∈ c :: rest := by
      rw [← hd]
      cases rest with
      | nil => exact .head _
      | cons e r => rw [List.getLastD_eq_getLast?, List.getLast?_eq_getElem?]; simp
    have hT1 : TLow B b rest d.x (sc ++ [c.c.nm]) := ⟨hT.le, fun e he => hT.cls e (.tail _ he), (hT.cls d hmd).1, (hT.cls d hmd).2.1, by omega, by have := hT.sc; rw [List.length_cons] at this; simp; omega⟩
    have ht1 := fun H K hk => hR b d.x true (sc ++ [c.c.nm]) H K hT1 hk
    have ht2 := fun H K hk => hR b p false (sc ++ [c.c.nm]) H K (hT.rest (sc' := (sc ++ [c.c.nm])) (by simp)) hk
    rw [phW, loV] at ht1 ht2
    by_cases hy : (tupR g rest d.x true (sc ++ [c.c.nm])).2 = 0
    · have y0 : ((tupR g rest d.x true (sc ++ [c.c.nm])).2 = 0) = True := eq_true hy
      rw [if_neg (nn hy)] at hk
      cases hdn : d.c.down with
      | true =>
        rw [hdn, if_pos rfl] at hk
        refine We ?_
        have c21 := hx; have c22 := hp1; have c23 := hp2; have c24 := ht1; have c25 := ht2; have us := an x0 (an xd (an xl (an k2 (an k3 (an k4 (an z0 (an i0 (an kd (an xq (an v1 (an v2 (an v3 (an y0 hdn)))))))))))))
        exact W105
      | false =>
        rw [hdn, if_neg (by decide)] at hk
        refine We ?_
        have c21 := hx; have c22 := hp1; have c23 := hp2; have c24 := ht1; have c25 := ht2; have us := an x0 (an xd (an xl (an k2 (an k3 (an k4 (an z0 (an i0 (an kd (an xq (an v1 (an v2 (an v3 (an y0 hdn)))))))))))))
        exact W105
    · have y0 : ((tupR g rest d.x true (sc ++ [c.c.nm])).2 = 0) = False := eq_false hy
      rw [if_pos (show (tupR g rest d.x true (sc ++ [c.c.nm])).2 ≠ 0 from hy)] at hk
      refine We ?_
      have c21 := hx; have c22 := hp1; have c23 := hp2; have c24 := ht1; have c25 := hn; have us := an x0 (an xd (an xl (an k2 (an k3 (an k4 (an z0 (an i0 (an kd (an xq (an v1 (an v2 (an v3 y0))))))))))))
      exact W105
  · have i0 : (c.c.at_ = []) = False := eq_false h0
    have hin : innerQ c.c sc = (sc ++ [c.c.nm, c.c.at_]) := by rw [innerQ, if_neg h0]
    rw [hin] at hk
    have hmd : d ∈ c :: rest := by
      rw [← hd]
      cases rest with
      | nil => exact .head _
      | cons e r => rw [List.getLastD_eq_getLast?, List.getLast?_eq_getElem?]; simp
    have hT1 : TLow B b rest d.x (sc ++ [c.c.nm, c.c.at_]) := ⟨hT.le, fun e he => hT.cls e (.tail _ he), (hT.cls d hmd).1, (hT.cls d hmd).2.1, by omega, by have := hT.sc; rw [List.length_cons] at this; simp; omega⟩
    have ht1 := fun H K hk => hR b d.x true (sc ++ [c.c.nm, c.c.at_]) H K hT1 hk
    have ht2 := fun H K hk => hR b p false (sc ++ [c.c.nm, c.c.at_]) H K (hT.rest (sc' := (sc ++ [c.c.nm, c.c.at_])) (by simp)) hk
    rw [phW, loV] at ht1 ht2
    by_cases hy : (tupR g rest d.x true (sc ++ [c.c.nm, c.c.at_])).2 = 0
    · have y0 : ((tupR g rest d.x true (sc ++ [c.c.nm, c.c.at_])).2 = 0) = True := eq_true hy
      rw [if_neg (nn hy)] at hk
      cases hdn : d.c.down with
      | true =>
        rw [hdn, if_pos rfl] at hk
        refine We ?_
        have c21 := hx; have c22 := hp1; have c23 := hp2; have c24 := ht1; have c25 := ht2; have us := an x0 (an xd (an xl (an k2 (an k3 (an k4 (an z0 (an i0 (an kd (an xq (an v1 (an v2 (an v3 (an y0 hdn)))))))))))))
        exact W105
      | false =>
        rw [hdn, if_neg (by decide)] at hk
        refine We ?_
        have c21 := hx; have c22 := hp1; have c23 := hp2; have c24 := ht1; have c25 := ht2; have us := an x0 (an xd (an xl (an k2 (an k3 (an k4 (an z0 (an i0 (an kd (an xq (an v1 (an v2 (an v3 (an y0 hdn)))))))))))))
        exact W105
    · have y0 : ((tupR g rest d.x true (sc ++ [c.c.nm, c.c.at_])).2 = 0) = False := eq_false hy
      rw [if_pos (show (tupR g rest d.x true (sc ++ [c.c.nm, c.c.at_])).2 ≠ 0 from hy)] at hk
      refine We ?_
      have c21 := hx; have c22 := hp1; have c23 := hp2; have c24 := ht1; have c25 := hn; have us := an x0 (an xd (an xl (an k2 (an k3 (an k4 (an z0 (an i0 (an kd (an xq (an v1 (an v2 (an v3 y0))))))))))))
      exact W105
end Go.Proofs.YtdmkfkjdielmiaaDoor
namespace Go.Proofs.YtdmkfkjdielmiaaDoor
open Go Go.Proofs.YtdmkfkjdielmiaaDoor.Ab
variable [Glo] [U8] [CAr]
set_option maxHeartbeats 4000000
set_option maxRecDepth 20000
open FN54 in
theorem rtup_A {g : Ph → Sc → Ex × Int} {B : Nat} (hg : RefAt g B) : ∀ L : List Cl, RTupAt g B L
  | [] => fun b p key sc H K hT hk => by
    have hx := fun H K hk => hg p sc H K hT.plow hk
    rw [phW, loV] at hx
    rw [phW]
    rw [tupR] at hk
    have x0 := hT.sc
    have xd := hT.sc
    have xl := hT.sc
    refine We ?_
    have c21 := hx; have us := eq_self (0 : Nat)
    exact W106
  | c :: rest => fun b p key sc H K hT hk => by
    have hR := rtup_A hg rest
    by_cases hs : c.c.k = 4 ∨ c.c.k = 3 ∧ key = true
    · rcases hs with h | ⟨h, h'⟩
      · exact rt4_A hg _ rest c rfl hR b p key sc H K hT hk h
      · exact rt3t_A hg _ rest c rfl hR b p key sc H K hT hk h h'
    by_cases hz : (g c.x sc).2 = 0
    case neg => exact rtf_A hg _ rest c rfl hR b p key sc H K hT hk hs hz
    by_cases h3 : c.c.k = 3
    · exact rt3_A hg _ rest c rfl hR b p key sc H K hT hk h3 (by cases key with | true => exact absurd (.inr ⟨h3, rfl⟩) hs | false => rfl) hz
    by_cases h2 : c.c.k = 2
    · exact rt2_A hg _ rest c rfl hR b p key sc H K hT hk h2 hz
    have h4 : c.c.k ≠ 4 := fun e => hs (.inl e)
    by_cases hl : (rest.getLastD c).c.k = 4
    · exact rtS_A hg _ rest c rfl hR b p key sc H K hT hk h2 h3 h4 hl hz
    · exact rtF_A hg _ rest c rfl hR b p key sc H K hT hk h2 h3 h4 hl hz
end Go.Proofs.YtdmkfkjdielmiaaDoor
namespace Go.Proofs.YtdmkfkjdielmiaaDoor
open Go Go.Proofs.YtdmkfkjdielmiaaDoor.Ab
variable [Glo] [U8] [CAr]
set_option maxHeartbeats 4000000
set_option maxRecDepth 20000
namespace FN17
def tks : Nat → List Nat | 0 => [1, 2, 4] | 1 => [1, 2, 4, 6] | 2 => [1, 2, 4, 6, 16] | 3 => [4, 5] | 4 => [1, 2, 4, 20] | 5 => [1, 2, 4, 20, 21] | 6 => [2, 4, 32] | 7 => [4, 5] | 8 => [4, 5] | 9 => [1, 2, 4, 20, 37] | 10 => [4, 5] | 11 => [1, 2, 4, 20, 45] | 12 => [4, 5] | 13 => [1, 2, 4, 20, 51] | 14 => [4, 5] | 15 => [1, 2, 4, 20, 54] | 16 => [1, 2, 4, 61] | 17 => [4, 5] | 18 => [2, 4, 7, 8] | 19 => [4, 5] | 20 => [1, 2, 4, 20, 76] | 21 => [4, 5] | 22 => [1, 2, 4, 20, 83] | 23 => [4, 5] | 24 => [1, 2, 4, 20, 90] | 25 => [1, 2, 4, 20, 90] | 26 => [4, 5] | 27 => [1, 2, 4, 20, 98] | 28 => [1, 2, 4, 9] | 29 => [1, 2, 4, 9, 104] | 30 => [4, 5] | 31 => [4, 5] | 32 => [1, 2, 4, 20, 117] | 33 => [4, 5] | 34 => [1, 2, 4, 20, 124] | 35 => [1, 2, 4, 129] | 36 => [4, 5] | 37 => [1, 2, 4, 131] | 38 => [1, 2, 4, 10] | 39 => [1, 2, 4, 10, 139] | 40 => [4, 5] | 41 => [2, 4, 6, 11] | 42 => [2, 4, 6, 11, 150] | 43 => [4, 5] | 44 => [2, 4, 11, 154] | 45 => [2, 4, 11, 154, 155] | 46 => [4, 5] | 47 => [2, 4, 11, 154, 169] | 48 => [4, 5] | 49 => [2, 4, 11, 154, 176] | 50 => [4, 5] | 51 => [2, 4, 11, 189] | 52 => [2, 4, 12] | 53 => [4, 12, 199] | 54 => [4, 12] | 55 => [4, 5] | 56 => [4, 5] | _ => []
def tmu : List Nat := []
def tin : List Nat := [0, 1]
def tnd : Nat → Nat | 31 => 10 | 46 => 12 | 50 => 11 | _ => 0
abbrev tfn := @Tryd.func17
end FN17
attribute [go_sem] FN17.tks FN17.tmu FN17.tin FN17.tnd Tryd.ntmps17 Tryd.results17
theorem allR_all {g : Ph → Sc → Ex × Int} {sc : Sc} : ∀ {l : List Ph}, (allR g l sc).2 = 0 → ∀ p, p ∈ l → (g p sc).2 = 0
  | [], _, _, h => by cases h
  | q :: l, hz, p, hp => by
    rw [allR] at hz
    split at hz
    · exact absurd hz (by assumption)
    · rename_i h1
      split at hz
      · exact absurd hz (by assumption)
      · rename_i h2
        rcases List.mem_cons.1 hp with rfl | hp
        · simpa using h1
        · exact allR_all (by simpa using h2) p hp
theorem opE_ne : ∀ p, p ∈ opE → p.2 ≠ [] := by decide
end Go.Proofs.YtdmkfkjdielmiaaDoor
namespace Go.Proofs.YtdmkfkjdielmiaaDoor
open Go Go.Proofs.YtdmkfkjdielmiaaDoor.Ab
variable [Glo] [U8] [CAr]
set_option maxHeartbeats 4000000
set_option maxRecDepth 20000
open FN17 in
theorem loweredB_A {g : Ph → Sc → Ex × Int} (h : Phh) (l : List Ph) (c : List Cl) (ok : PhhOk h) (hl : l.length ≤ 1048576) (sc : Sc) (hform : formQ h.k l.length ≠ 0) (H : Heap) (K : V → Heap → Prop) (hk : K (loV (lowR1 g h l c sc)) H) :
    ACalls Tryd.prog 17 [phW h l c, .d (.sl 1 (sc.map strRow))] H K := by
  have i1 : (formQ h.k l.length = 0) = False := eq_false hform
  have hF := phraseFault_A h l c hl
  rw [phW] at hF ⊢
  have hn := none_A
  rw [lowR1, if_pos hform] at hk
  refine We ?_
  have c21 := hF; have c22 := hn; have us := i1
  exact W107
end Go.Proofs.YtdmkfkjdielmiaaDoor
namespace Go.Proofs.YtdmkfkjdielmiaaDoor
open Go Go.Proofs.YtdmkfkjdielmiaaDoor.Ab
variable [Glo] [U8] [CAr]
set_option maxHeartbeats 4000000
set_option maxRecDepth 20000
open FN17 in
theorem lowered1_A {g : Ph → Sc → Ex × Int} {B : Nat} (hg : RefAt g B) (h : Phh) (l : List Ph) (c : List Cl) (hkind : h.k = 1) (ok : PhhOk h) (hl : l.length ≤ 1048576) (sc : Sc) (hsc : sc.length ≤ 10000000) (hp : ∀ p, p ∈ l → PLow B p sc) (hform : formQ h.k l.length = 0) (H : Heap) (K : V → Heap → Prop) (hk : K (loV (lowR1 g h l c sc)) H) :
    ACalls Tryd.prog 17 [phW h l c, .d (.sl 1 (sc.map strRow))] H K := by
  have o1 := ok.it
  have o2 := ok.nm
  have o3 := ok.tn
  have hF := phraseFault_A h l c hl
  rw [hform, phW_k hkind] at hF
  have hn := none_A
  rw [lowR1, if_neg (nn hform)] at hk
  rw [phW_k hkind]
  rw [if_pos hkind] at hk
  have hm := itemMay_A h.it (by omega)
  have he : itemFault h.it = if itemB h.it = true then 0 else 12 := rfl
  by_cases h2 : h.it.k = 1
  · have i2 : (h.it.k = 1) = True := eq_true h2
    rw [if_pos (.inr h2)] at hk
    refine We ?_
    have c21 := hF; have c22 := hm; have c23 := hn; have us := i2
    exact W107
  · have i2 : (h.it.k = 1) = False := eq_false h2
    cases hb : itemB h.it with
    | true =>
      rw [hb] at hm he
      have hno : ¬(itemFault h.it ≠ 0 ∨ h.it.k = 1) := by rw [he]; simp [h2]
      rw [if_neg hno] at hk
      refine We ?_
      have c21 := hF; have c22 := hm; have c23 := hn; have us := i2
      exact W107
    | false =>
      rw [hb] at hm he
      have hno : itemFault h.it ≠ 0 ∨ h.it.k = 1 := .inl (by rw [he]; decide)
      rw [if_pos hno] at hk
      refine We ?_
      have c21 := hF; have c22 := hm; have c23 := hn; have us := i2
      exact W107
end Go.Proofs.YtdmkfkjdielmiaaDoor
namespace Go.Proofs.YtdmkfkjdielmiaaDoor
open Go Go.Proofs.YtdmkfkjdielmiaaDoor.Ab
variable [Glo] [U8] [CAr]
set_option maxHeartbeats 4000000
set_option maxRecDepth 20000
open FN17 in
theorem lowered2_A {g : Ph → Sc → Ex × Int} {B : Nat} (hg : RefAt g B) (h : Phh) (l : List Ph) (c : List Cl) (hkind : h.k = 2) (ok : PhhOk h) (hl : l.length ≤ 1048576) (sc : Sc) (hsc : sc.length ≤ 10000000) (hp : ∀ p, p ∈ l → PLow B p sc) (hform : formQ h.k l.length = 0) (H : Heap) (K : V → Heap → Prop) (hk : K (loV (lowR1 g h l c sc)) H) :
    ACalls Tryd.prog 17 [phW h l c, .d (.sl 1 (sc.map strRow))] H K := by
  have o1 := ok.it
  have o2 := ok.nm
  have o3 := ok.tn
  have hF := phraseFault_A h l c hl
  rw [hform, phW_k hkind] at hF
  have hn := none_A
  rw [lowR1, if_neg (nn hform)] at hk
  rw [phW_k hkind]
  rw [if_neg (by omega), if_pos hkind] at hk
  have hv := visible_A h.nm sc (by omega)
  refine We ?_
  have c21 := hF; have c22 := hv; have us := eq_self (0 : Nat)
  exact W107
end Go.Proofs.YtdmkfkjdielmiaaDoor
namespace Go.Proofs.YtdmkfkjdielmiaaDoor
open Go Go.Proofs.YtdmkfkjdielmiaaDoor.Ab
variable [Glo] [U8] [CAr]
set_option maxHeartbeats 4000000
set_option maxRecDepth 20000
open FN17 in
theorem lowered11_A {g : Ph → Sc → Ex × Int} {B : Nat} (hg : RefAt g B) (h : Phh) (l : List Ph) (c : List Cl) (hkind : h.k = 11) (ok : PhhOk h) (hl : l.length ≤ 1048576) (sc : Sc) (hsc : sc.length ≤ 10000000) (hp : ∀ p, p ∈ l → PLow B p sc) (hform : formQ h.k l.length = 0) (H : Heap) (K : V → Heap → Prop) (hk : K (loV (lowR1 g h l c sc)) H) :
    ACalls Tryd.prog 17 [phW h l c, .d (.sl 1 (sc.map strRow))] H K := by
  have o1 := ok.it
  have o2 := ok.nm
  have o3 := ok.tn
  have hF := phraseFault_A h l c hl
  rw [hform, phW_k hkind] at hF
  have hn := none_A
  rw [lowR1, if_neg (nn hform)] at hk
  rw [phW_k hkind]
  rw [if_neg (by omega), if_neg (by omega), if_neg (by omega), if_pos hkind] at hk
  refine We ?_
  have c21 := hF; have us := eq_self (0 : Nat)
  exact W107
end Go.Proofs.YtdmkfkjdielmiaaDoor
namespace Go.Proofs.YtdmkfkjdielmiaaDoor
open Go Go.Proofs.YtdmkfkjdielmiaaDoor.Ab
variable [Glo] [U8] [CAr]
set_option maxHeartbeats 4000000
set_option maxRecDepth 20000
open FN17 in
theorem lowered27_A {g : Ph → Sc → Ex × Int} {B : Nat} (hg : RefAt g B) (h : Phh) (l : List Ph) (c : List Cl) (hkind : h.k = 27) (ok : PhhOk h) (hl : l.length ≤ 1048576) (sc : Sc) (hsc : sc.length ≤ 10000000) (hp : ∀ p, p ∈ l → PLow B p sc) (hform : formQ h.k l.length = 0) (H : Heap) (K : V → Heap → Prop) (hk : K (loV (lowR1 g h l c sc)) H) :
    ACalls Tryd.prog 17 [phW h l c, .d (.sl 1 (sc.map strRow))] H K := by
  have o1 := ok.it
  have o2 := ok.nm
  have o3 := ok.tn
  have hF := phraseFault_A h l c hl
  rw [hform, phW_k hkind] at hF
  have hn := none_A
  rw [lowR1, if_neg (nn hform)] at hk
  rw [phW_k hkind]
  rw [if_neg (by omega), if_neg (by omega), if_pos hkind] at hk
  have hv := visible_A sDot sc (by omega)
  refine We ?_
  have c21 := hF; have c22 := hv; have us := eq_self (0 : Nat)
  exact W107
end Go.Proofs.YtdmkfkjdielmiaaDoor
namespace Go.Proofs.YtdmkfkjdielmiaaDoor
open Go Go.Proofs.YtdmkfkjdielmiaaDoor.Ab
variable [Glo] [U8] [CAr]
set_option maxHeartbeats 4000000
set_option maxRecDepth 20000
open FN17 in
theorem lowered9_A {g : Ph → Sc → Ex × Int} {B : Nat} (hg : RefAt g B) (h : Phh) (l : List Ph) (c : List Cl) (hkind : h.k = 9) (ok : PhhOk h) (hl : l.length ≤ 1048576) (sc : Sc) (hsc : sc.length ≤ 10000000) (hp : ∀ p, p ∈ l → PLow B p sc) (hform : formQ h.k l.length = 0) (H : Heap) (K : V → Heap → Prop) (hk : K (loV (lowR1 g h l c sc)) H) :
    ACalls Tryd.prog 17 [phW h l c, .d (.sl 1 (sc.map strRow))] H K := by
  have o1 := ok.it
  have o2 := ok.nm
  have o3 := ok.tn
  have hF := phraseFault_A h l c hl
  rw [hform, phW_k hkind] at hF
  have hn := none_A
  rw [lowR1, if_neg (nn hform)] at hk
  rw [phW_k hkind]
  rw [if_neg (by omega), if_neg (by omega), if_neg (by omega), if_neg (by omega), if_pos hkind] at hk
  have hst := stepMay_A h.ax h.tk h.tn
  have hv := visible_A sDot sc (by omega)
  cases hb : stepB h.ax h.tk with
  | true =>
    rw [hb] at hst
    rw [stepR, hb, if_pos rfl] at hk
    refine We ?_
    have c21 := hF; have c22 := hst; have c23 := hv; have us := eq_self (0 : Nat)
    exact W107
  | false =>
    rw [hb] at hst
    rw [stepR, hb, if_neg (by decide)] at hk
    refine We ?_
    have c21 := hF; have c22 := hst; have c23 := hn; have us := eq_self (0 : Nat)
    exact W107
end Go.Proofs.YtdmkfkjdielmiaaDoor
