/- Lowering: the lowerer, quantified phrases. No condition but that the tables of package unicode/utf8 and of the core's functions are there. -/
import Derived.Test.YtdmkfkjdielmiaaDoorP19
import Derived.Test.YtdmkfkjdielmiaaDoorP37
set_option linter.all false
set_option linter.unusedSimpArgs false
set_option linter.unusedVariables false
namespace Go.Proofs.YtdmkfkjdielmiaaDoor
open Go Go.Proofs.YtdmkfkjdielmiaaDoor.Ab
variable [Glo] [U8] [CAr]
set_option maxHeartbeats 4000000
set_option maxRecDepth 20000
theorem arg_at {l : List Ph} {i : Nat} (h : i < l.length) : l[i]? = some (argAt l i) := by
  rw [argAt, List.getD_eq_getElem?_getD, List.getElem?_eq_getElem h]; rfl
namespace FN99
def tks : Nat → List Nat | 0 => [0, 2, 4, 6] | 1 => [0, 2, 4, 6, 12] | 2 => [6] | 3 => [0, 2, 4, 6, 7] | 4 => [4, 6, 7, 8] | 5 => [4, 6, 7, 8, 37] | 6 => [6] | 7 => [6] | _ => []
def tmu : List Nat := []
def tin : List Nat := [0, 1, 2]
def txv : Nat → Nat × Nat × List Ce | 4 => (14, 13, [.q 0 0 true, .q 0 0 false, .q 0 0 false, .q 0 0 false, .q 0 0 false, .q 0 0 true, .q 0 0 false, .q 0 0 false, .q 0 0 false, .q 0 0 false, .t, .q 0 0 false, .q 0 0 false, .a]) | _ => (0, 0, [])
def tnd : Nat → Nat | 6 => 10 | 7 => 10 | _ => 0
abbrev tfn := @Tryd.func99
end FN99
attribute [go_sem] FN99.tks FN99.tmu FN99.tin FN99.txv FN99.tnd Tryd.ntmps99 Tryd.results99
open FN99 in
theorem quant23_A {f : Ph → Sc → Int → Ex × Int} {id B : Nat} (hf : LowAt f id B) (h : Phh) (l : List Ph) (c : List Cl) (hkind : h.k = 23) (ok : PhhOk h) (hl : l.length ≤ 1048576) (sc : Sc) (hsc : sc.length ≤ 10000000) (hp : ∀ p, p ∈ l → PLow B p sc) (hl2 : l.length = 2) (hp1 : ∀ p, p ∈ l → PLow B p (sc ++ [h.nm])) (H : Heap) (K : V → Heap → Prop) (hr : H[id]? = some (lwC 0))
    (hk : K (exW (quantP f h.k h.nm l sc 0).1) (H.set id (lwC (quantP f h.k h.nm l sc 0).2))) :
    ACalls Tryd.prog 99 [.pt id 0 0 0, phW h l c, .d (.sl 1 (sc.map strRow))] H K := by
  have hid := lt_of_get hr
  obtain ⟨ga, sa, gs, ss, gsa, ssa, gl0, glk, sl0, slk⟩ := atH hr
  have hsm := lw_keep hr
  have o1 := ok.it
  have o2 := ok.nm
  have o3 := ok.tn
  have hz : ((0 : Int) = 0) = True := eq_true rfl
  have hw := fun e G K hk => wrong_A id e 0 (H ++ G) K (ga G) hk
  have x0 : l[0]? = some (argAt l 0) := arg_at (by omega)
  have x1 : l[1]? = some (argAt l 1) := arg_at (by omega)
  have l0 : ((0 : Int) < (l.length : Int)) = True := eq_true (by omega)
  have l1 : ((1 : Int) < (l.length : Int)) = True := eq_true (by omega)
  have i23 : (h.k = 23) = True := eq_true (by omega)
  have hn := name_A h.nm (by omega)
  rw [quantP] at hk
  cases hv : varB h.nm with
  | false =>
    rw [hv] at hn
    rw [hv, if_pos rfl] at hk
    refine We ?_
    have c21 := hn; have c31 := hw; have us := eq_self (0 : Nat)
    exact W77
  | true =>
    rw [hv] at hn
    rw [hv, if_neg (by decide), quantE, if_pos hkind] at hk
    have hx := fun G K hk => hf.app (hp _ (List.mem_of_getElem? x0)) hr G K hk
    have hy := fun G K hk => hf.set (hp1 _ (List.mem_of_getElem? x1)) hr (f (argAt l 0) sc 0).2 G K hk
    generalize argAt l 0 = a at x0 hx hy hk
    generalize argAt l 1 = b at x1 hy hk
    have hwi := with_A sc [h.nm] (by omega) (by simp)
    rw [phW] at hx hy
    generalize f a sc 0 = r1 at hx hy hk
    generalize f b (sc ++ [h.nm]) r1.2 = r2 at hy hk
    obtain ⟨v, f1⟩ := r1
    obtain ⟨w, f2⟩ := r2
    have hcall := call_A sBoolean [w]
    have hno := nothing_A
    have htr := truth_A true
    rw [if_pos rfl] at htr
    have hch := choose_A (eCall sBoolean [w]) (eBool 1) eNone
    have hlo := loop_A h.nm [] v (eIf (eCall sBoolean [w]) (eBool 1) eNone)
    have hca := call_A sExists [eFor h.nm [] v (eIf (eCall sBoolean [w]) (eBool 1) eNone)]
    simp only [exW, exV, List.map_cons, List.map_nil, exD_1] at hcall hch hlo hca
    refine We ?_
    have c21 := hn; have c22 := hx; have c23 := hy; have c24 := hwi; have c25 := hcall; have c26 := hno; have c27 := htr; have c28 := hch; have c29 := hlo; have c210 := hca; have us := an i23 (an x0 (an x1 (an l0 l1)))
    exact W78
open FN99 in
theorem quant24_A {f : Ph → Sc → Int → Ex × Int} {id B : Nat} (hf : LowAt f id B) (h : Phh) (l : List Ph) (c : List Cl) (hkind : h.k = 24) (ok : PhhOk h) (hl : l.length ≤ 1048576) (sc : Sc) (hsc : sc.length ≤ 10000000) (hp : ∀ p, p ∈ l → PLow B p sc) (hl2 : l.length = 2) (hp1 : ∀ p, p ∈ l → PLow B p (sc ++ [h.nm])) (H : Heap) (K : V → Heap → Prop) (hr : H[id]? = some (lwC 0))
    (hk : K (exW (quantP f h.k h.nm l sc 0).1) (H.set id (lwC (quantP f h.k h.nm l sc 0).2))) :
    ACalls Tryd.prog 99 [.pt id 0 0 0, phW h l c, .d (.sl 1 (sc.map strRow))] H K := by
  have hid := lt_of_get hr
  obtain ⟨ga, sa, gs, ss, gsa, ssa, gl0, glk, sl0, slk⟩ := atH hr
  have hsm := lw_keep hr
  have o1 := ok.it
  have o2 := ok.nm
  have o3 := ok.tn
  have hz : ((0 : Int) = 0) = True := eq_true rfl
  have hw := fun e G K hk => wrong_A id e 0 (H ++ G) K (ga G) hk
  have x0 : l[0]? = some (argAt l 0) := arg_at (by omega)
  have x1 : l[1]? = some (argAt l 1) := arg_at (by omega)
  have l0 : ((0 : Int) < (l.length : Int)) = True := eq_true (by omega)
  have l1 : ((1 : Int) < (l.length : Int)) = True := eq_true (by omega)
  have i23 : (h.k = 23) = False := eq_false (by omega)
  have hn := name_A h.nm (by omega)
  rw [quantP] at hk
  cases hv : varB h.nm with
  | false =>
    rw [hv] at hn
    rw [hv, if_pos rfl] at hk
    refine We ?_
    have c21 := hn; have c31 := hw; have us := eq_self (0 : Nat)
    exact W77
  | true =>
    rw [hv] at hn
    rw [hv, if_neg (by decide), quantE, if_neg (by omega)] at hk
    have hx := fun G K hk => hf.app (hp _ (List.mem_of_getElem? x0)) hr G K hk
    have hy := fun G K hk => hf.set (hp1 _ (List.mem_of_getElem? x1)) hr (f (argAt l 0) sc 0).2 G K hk
    generalize argAt l 0 = a at x0 hx hy hk
    generalize argAt l 1 = b at x1 hy hk
    have hwi := with_A sc [h.nm] (by omega) (by simp)
    rw [phW] at hx hy
    generalize f a sc 0 = r1 at hx hy hk
    generalize f b (sc ++ [h.nm]) r1.2 = r2 at hy hk
    obtain ⟨v, f1⟩ := r1
    obtain ⟨w, f2⟩ := r2
    have hcall := call_A sBoolean [w]
    have hno := nothing_A
    have htr := truth_A true
    rw [if_pos rfl] at htr
    have hch := choose_A (eCall sBoolean [w]) eNone (eBool 1)
    have hlo := loop_A h.nm [] v (eIf (eCall sBoolean [w]) eNone (eBool 1))
    have hca := call_A sEmpty [eFor h.nm [] v (eIf (eCall sBoolean [w]) eNone (eBool 1))]
    simp only [exW, exV, List.map_cons, List.map_nil, exD_1] at hcall hch hlo hca
    refine We ?_
    have c21 := hn; have c22 := hx; have c23 := hy; have c24 := hwi; have c25 := hcall; have c26 := hno; have c27 := htr; have c28 := hch; have c29 := hlo; have c210 := hca; have us := an i23 (an x0 (an x1 (an l0 l1)))
    exact W79
end Go.Proofs.YtdmkfkjdielmiaaDoor
namespace Go.Proofs.YtdmkfkjdielmiaaDoor
open Go Go.Proofs.YtdmkfkjdielmiaaDoor.Ab
variable [Glo] [U8] [CAr] [CCa]
set_option maxHeartbeats 4000000
set_option maxRecDepth 20000
theorem wd00 : (([116, 114, 117, 101] : List UInt8) = [116, 114, 117, 101]) = True := eq_true (by decide)
theorem wd01 : (([116, 114, 117, 101] : List UInt8) = [102, 97, 108, 115, 101]) = False := eq_false (by decide)
theorem wd02 : (([116, 114, 117, 101] : List UInt8) = [112, 111, 115, 105, 116, 105, 111, 110]) = False := eq_false (by decide)
theorem wd03 : (([116, 114, 117, 101] : List UInt8) = [108, 97, 115, 116]) = False := eq_false (by decide)
theorem wd10 : (([102, 97, 108, 115, 101] : List UInt8) = [116, 114, 117, 101]) = False := eq_false (by decide)
theorem wd11 : (([102, 97, 108, 115, 101] : List UInt8) = [102, 97, 108, 115, 101]) = True := eq_true (by decide)
theorem wd12 : (([102, 97, 108, 115, 101] : List UInt8) = [112, 111, 115, 105, 116, 105, 111, 110]) = False := eq_false (by decide)
theorem wd13 : (([102, 97, 108, 115, 101] : List UInt8) = [108, 97, 115, 116]) = False := eq_false (by decide)
theorem wd20 : (([112, 111, 115, 105, 116, 105, 111, 110] : List UInt8) = [116, 114, 117, 101]) = False := eq_false (by decide)
theorem wd21 : (([112, 111, 115, 105, 116, 105, 111, 110] : List UInt8) = [102, 97, 108, 115, 101]) = False := eq_false (by decide)
theorem wd22 : (([112, 111, 115, 105, 116, 105, 111, 110] : List UInt8) = [112, 111, 115, 105, 116, 105, 111, 110]) = True := eq_true (by decide)
theorem wd23 : (([112, 111, 115, 105, 116, 105, 111, 110] : List UInt8) = [108, 97, 115, 116]) = False := eq_false (by decide)
theorem wd30 : (([108, 97, 115, 116] : List UInt8) = [116, 114, 117, 101]) = False := eq_false (by decide)
theorem wd31 : (([108, 97, 115, 116] : List UInt8) = [102, 97, 108, 115, 101]) = False := eq_false (by decide)
theorem wd32 : (([108, 97, 115, 116] : List UInt8) = [112, 111, 115, 105, 116, 105, 111, 110]) = False := eq_false (by decide)
theorem wd33 : (([108, 97, 115, 116] : List UInt8) = [108, 97, 115, 116]) = True := eq_true (by decide)
namespace FN95
def tks : Nat → List Nat | 0 => [0, 2, 4, 6] | 1 => [0, 2, 4, 6, 10] | 2 => [0, 2, 4, 6, 10, 11] | 3 => [0, 2, 4, 6, 10, 11] | 4 => [0, 2, 4, 6, 10, 11] | 5 => [0, 2, 4, 6, 11] | 6 => [0, 2, 4, 6, 19] | 7 => [6] | 8 => [0, 2, 4, 6, 23] | 9 => [0, 2, 4, 6, 23, 24] | 10 => [6] | 11 => [0, 2, 4, 6, 29] | 12 => [6] | 13 => [6] | 14 => [0, 2, 4, 6, 7, 8] | 15 => [0, 2, 4, 6, 7, 46] | 16 => [6] | 17 => [0, 2, 4, 6, 7, 55] | 18 => [6] | 19 => [6] | _ => []
def tmu : List Nat := []
def tin : List Nat := [0, 1, 2]
abbrev tfn := @Tryd.func95
end FN95
attribute [go_sem] FN95.tks FN95.tmu FN95.tin Tryd.ntmps95 Tryd.results95
open FN95 in
theorem lcall_A {f : Ph → Sc → Int → Ex × Int} {id B : Nat} (hf : LowAt f id B) (h : Phh) (l : List Ph) (c : List Cl) (ok : PhhOk h) (hl : l.length ≤ 1048576) (sc : Sc) (hsc : sc.length ≤ 10000000) (hp : ∀ p, p ∈ l → PLow B p sc) (H : Heap) (K : V → Heap → Prop) (hr : H[id]? = some (lwC 0))
    (hk : K (exW (callP f h.nm l sc 0).1) (H.set id (lwC (callP f h.nm l sc 0).2))) :
    ACalls Tryd.prog 95 [.pt id 0 0 0, phW h l c, .d (.sl 1 (sc.map strRow))] H K := by
  have hid := lt_of_get hr
  obtain ⟨ga, sa, gs, ss, gsa, ssa, gl0, glk, sl0, slk⟩ := atH hr
  have hsm := lw_keep hr
  have hz : ((0 : Int) = 0) = True := eq_true rfl
  have o2 := ok.nm
  have hw := fun e G K hk => wrong_A id e 0 (H ++ G) K (ga G) hk
  have ha := fun G K hk => args_app hf l hl sc hp hr G K hk
  rw [callP] at hk
  by_cases w0 : h.nm = sTrue
  · rw [if_pos (by rw [w0]; decide)] at hk
    by_cases hn : l.length = 0
    · have i1 : ((0 : Int) < (l.length : Int)) = False := eq_false (by omega)
      rw [if_neg (show ¬ l.length ≠ 0 from fun e => e hn), w0] at hk
      rw [if_neg (by decide), if_neg (by decide), hsm] at hk
      have hs := truth_A true
      refine We ?_
      have c21 := hs; have us := an w0 i1
      exact W80
    · have i1 : ((0 : Int) < (l.length : Int)) = True := eq_true (by omega)
      rw [if_pos (show l.length ≠ 0 from hn)] at hk
      refine We ?_
      have c31 := hw; have us := an w0 i1
      exact W80
  have v0 : (h.nm = sTrue) = False := eq_false w0
  rw [sTrue] at v0
  by_cases w1 : h.nm = sFalse
  · rw [if_pos (by rw [w1]; decide)] at hk
    by_cases hn : l.length = 0
    · have i1 : ((0 : Int) < (l.length : Int)) = False := eq_false (by omega)
      rw [if_neg (show ¬ l.length ≠ 0 from fun e => e hn), w1] at hk
      rw [if_neg (by decide), if_neg (by decide), hsm] at hk
      have hs := truth_A false
      refine We ?_
      have c21 := hs; have us := an w1 i1
      exact W81
    · have i1 : ((0 : Int) < (l.length : Int)) = True := eq_true (by omega)
      rw [if_pos (show l.length ≠ 0 from hn)] at hk
      refine We ?_
      have c31 := hw; have us := an w1 i1
      exact W81
  have v1 : (h.nm = sFalse) = False := eq_false w1
  rw [sFalse] at v1
  by_cases w2 : h.nm = sPosition
  · rw [if_pos (by rw [w2]; decide)] at hk
    by_cases hn : l.length = 0
    · have i1 : ((0 : Int) < (l.length : Int)) = False := eq_false (by omega)
      rw [if_neg (show ¬ l.length ≠ 0 from fun e => e hn), w2] at hk
      rw [if_pos rfl] at hk
      have hs := fun G K hk => seen_A id sAt sc 0 (by omega) (H ++ G) K (ga G) hk
      refine We ?_
      have c21 := hs; have us := an w2 i1
      exact W82
    · have i1 : ((0 : Int) < (l.length : Int)) = True := eq_true (by omega)
      rw [if_pos (show l.length ≠ 0 from hn)] at hk
      refine We ?_
      have c31 := hw; have us := an w2 i1
      exact W82
  have v2 : (h.nm = sPosition) = False := eq_false w2
  rw [sPosition] at v2
  by_cases w3 : h.nm = sLastW
  · rw [if_pos (by rw [w3]; decide)] at hk
    by_cases hn : l.length = 0
    · have i1 : ((0 : Int) < (l.length : Int)) = False := eq_false (by omega)
      rw [if_neg (show ¬ l.length ≠ 0 from fun e => e hn), w3] at hk
      rw [if_neg (by decide), if_pos rfl] at hk
      have hs := fun G K hk => seen_A id sLast sc 0 (by omega) (H ++ G) K (ga G) hk
      refine We ?_
      have c21 := hs; have us := an w3 i1
      exact W83
    · have i1 : ((0 : Int) < (l.length : Int)) = True := eq_true (by omega)
      rw [if_pos (show l.length ≠ 0 from hn)] at hk
      refine We ?_
      have c31 := hw; have us := an w3 i1
      exact W83
  have v3 : (h.nm = sLastW) = False := eq_false w3
  rw [sLastW] at v3
  rw [if_neg (by unfold wordB; simp [w0, w1, w2, w3])] at hk
  have hgl : glob 3 = some [.m [.s] (mapKsS CCa.L) (mapVsS CCa.L)] := CCa.at_
  obtain ⟨g1, g2⟩ := mapGetES CCa.perm calledE_nodup h.nm (.s [])
  cases hlk : lookS calledE h.nm with
  | none =>
    rw [hlk] at g1 g2 hk
    have g1 : mget (mapKsS CCa.L) (mapVsS CCa.L) [.s h.nm] (.s []) = .s [] := g1
    have g2 : mhas (mapKsS CCa.L) [.s h.nm] = false := g2
    refine We ?_
    have c31 := hw; have us := an v0 (an v1 (an v2 (an v3 (an hgl (an g1 g2)))))
    exact W84
  | some s =>
    rw [hlk] at g1 g2 hk
    have g1 : mget (mapKsS CCa.L) (mapVsS CCa.L) [.s h.nm] (.s []) = .s s := g1
    have g2 : mhas (mapKsS CCa.L) [.s h.nm] = true := g2
    have hgl2 : glob 4 = some [.m [.s] (mapKs CAr.L) (mapVs CAr.L)] := CAr.at_
    obtain ⟨g3, g4⟩ := mapGetE CAr.perm coreArE_nodup s (.i .i64 0)
    have har : ∀ p, p ∈ calledE → (lookE coreArE p.2).isSome = true := by decide
    obtain ⟨m, hm⟩ := Option.isSome_iff_exists.1 (har _ ((lookS_iff calledE_nodup).1 hlk))
    rw [hm] at g3
    have g3 : mget (mapKs CAr.L) (mapVs CAr.L) [.s s] (.i .i64 0) = .i .i64 m := g3
    have hq : argsQ s = m := by rw [argsQ, hm]
    replace hk : K (exW (if argsQ s ≠ l.length then wrongQ 11 0 else (eCall s (argsP f l sc 0).1, (argsP f l sc 0).2)).1) (H.set id (lwC (if argsQ s ≠ l.length then wrongQ 11 0 else (eCall s (argsP f l sc 0).1, (argsP f l sc 0).2)).2)) := hk
    rw [hq] at hk
    by_cases hml : m = (l.length : Int)
    · have i1 : (m = (l.length : Int)) = True := eq_true hml
      rw [if_neg (fun e => e hml)] at hk
      refine We ?_
      have c21 := ha; have us := an v0 (an v1 (an v2 (an v3 (an hgl (an g1 (an g2 (an hgl2 (an g3 i1))))))))
      exact W85
    · have i1 : (m = (l.length : Int)) = False := eq_false hml
      rw [if_pos hml] at hk
      refine We ?_
      have c31 := hw; have us := an v0 (an v1 (an v2 (an v3 (an hgl (an g1 (an g2 (an hgl2 (an g3 i1))))))))
      exact W84
end Go.Proofs.YtdmkfkjdielmiaaDoor
namespace Go.Proofs.YtdmkfkjdielmiaaDoor
open Go Go.Proofs.YtdmkfkjdielmiaaDoor.Ab
variable [Glo] [U8] [CAr]
set_option maxHeartbeats 4000000
set_option maxRecDepth 20000
namespace FN100
def tks : Nat → List Nat | 0 => [0, 2, 4, 6] | 1 => [0, 2, 4, 6, 7] | 2 => [0, 2, 4, 6, 7, 12] | 3 => [6] | 4 => [6] | _ => []
def tmu : List Nat := []
def tin : List Nat := [0, 1, 2]
def txt : Nat → Nat × List Cd | 4 => (9, [.q 0 0, .q 0 0, .q 0 0, .q 0 0, .q 0 0, .q 0 0, .q 0 0, .q 0 0, .t]) | _ => (0, [])
abbrev tfn := @Tryd.func100
end FN100
attribute [go_sem] FN100.tks FN100.tmu FN100.tin FN100.txt Tryd.ntmps100 Tryd.results100
open FN100 in
theorem flwor_A {f : Ph → Sc → Int → Ex × Int} {id B b : Nat} (h : Phh) (l : List Ph) (c : List Cl) (a0 : Ph) (h0 : l[0]? = some a0) (okc : ClsOk c) (hTup : TupAt f id B c) (sc : Sc) (hT : TLow B b c a0 sc) (H : Heap) (K : V → Heap → Prop) (hr : H[id]? = some (lwC 0))
    (hk : K (exW (flworP f c a0 sc 0).1) (H.set id (lwC (flworP f c a0 sc 0).2))) :
    ACalls Tryd.prog 100 [.pt id 0 0 0, phW h l c, .d (.sl 1 (sc.map strRow))] H K := by
  have hid := lt_of_get hr
  obtain ⟨ga, sa, gs, ss, gsa, ssa, gl0, glk, sl0, slk⟩ := atH hr
  have hc := clauses_A c okc
  have hw := fun e G K hk => wrong_A id e 0 (H ++ G) K (ga G) hk
  have ht := fun G K hk => hTup.app hT false hr G K hk
  rw [phW] at ht
  have hl0 := lt_of_get h0
  have x0 := h0
  have xd := h0
  have xl := h0
  by_cases hz : clsQ c 0 = 0
  · have z0 : (clsQ c 0 = 0) = True := eq_true hz
    rw [flworP, if_neg (nn hz)] at hk
    rw [hz] at hc
    refine We ?_
    have c21 := hc; have c22 := ht; have us := an x0 (an xd xl)
    exact W69
  · have z0 : (clsQ c 0 = 0) = False := eq_false hz
    rw [flworP, if_pos hz] at hk
    refine We ?_
    have c21 := hc; have c31 := hw; have us := an x0 (an xd (an xl z0))
    exact W69
end Go.Proofs.YtdmkfkjdielmiaaDoor
namespace Go.Proofs.YtdmkfkjdielmiaaDoor
open Go Go.Proofs.YtdmkfkjdielmiaaDoor.Ab
variable [Glo] [U8] [CAr]
set_option maxHeartbeats 4000000
set_option maxRecDepth 20000
namespace FN43
def tks : Nat → List Nat | 0 => [0, 2, 4, 6] | 1 => [0, 2, 4, 6, 16] | 2 => [0, 2, 4, 6, 16, 17] | 3 => [6] | 4 => [0, 2, 4, 6, 16, 23] | 5 => [0, 2, 4, 6, 7] | 6 => [0, 2, 4, 6, 7, 8] | 7 => [0, 2, 4, 6, 7, 8, 44] | 8 => [0, 6, 7, 8, 9] | 9 => [0, 6, 7, 8, 9, 51] | 10 => [6] | 11 => [6] | 12 => [6] | 13 => [0, 2, 4, 6, 16, 75] | 14 => [0, 2, 4, 6, 10] | 15 => [0, 2, 6, 10, 86, 87, 88] | 16 => [0, 2, 6, 10, 86, 87, 88, 89] | 17 => [0, 2, 6, 10, 12, 86, 87, 88] | 18 => [0, 2, 6, 10, 13, 86, 87, 88] | 19 => [0, 2, 6, 10, 14, 86, 87, 88] | 20 => [0, 2, 6, 10, 86, 87, 88] | 21 => [0, 2, 6, 10, 86, 87, 88] | 22 => [6] | 23 => [0, 2, 4, 6, 16, 116] | 24 => [0, 2, 4, 6, 116] | 25 => [6] | 26 => [6] | _ => []
def tmu : List Nat := []
def tin : List Nat := [0, 1, 2]
def txt : Nat → Nat × List Cd | 12 => (10, [.q 0 1, .q 0 0, .q 0 0, .q 0 0, .q 0 0, .q 0 0, .q 0 0, .q 0 0, .q 0 0, .t]) | _ => (0, [])
def txv : Nat → Nat × Nat × List Ce | 18 => (7, 6, [.q 0 0 true, .q 0 0 false, .q 0 0 true, .q 0 0 false, .q 0 0 false, .t, .a]) | 19 => (8, 7, [.q 0 0 false, .q 0 0 false, .q 0 0 false, .q 0 0 false, .q 0 0 false, .q 0 0 false, .q 0 0 false, .a]) | _ => (0, 0, [])
def tnd : Nat → Nat | 20 => 9 | _ => 0
abbrev tfn := @Tryd.func43
end FN43
attribute [go_sem] FN43.tks FN43.tmu FN43.tin FN43.txt FN43.txv FN43.tnd Tryd.ntmps43 Tryd.results43
theorem wrong_set (id : Nat) (e f : Int) {H : Heap} {o : Ob} (hr : H[id]? = some o) (G : Heap) (K : V → Heap → Prop) (hk : K (exW (wrongQ e f).1) (H.set id (lwC (wrongQ e f).2) ++ G)) :
    ACalls Tryd.prog 36 [.pt id 0 0 0, .d (.i .i64 e)] (H.set id (lwC f) ++ G) K := by
  have a := atH hr
  refine wrong_A id e f _ K (a.gsa _ _) ?_
  rw [a.ssa]
  exact hk
end Go.Proofs.YtdmkfkjdielmiaaDoor
namespace Go.Proofs.YtdmkfkjdielmiaaDoor
open Go Go.Proofs.YtdmkfkjdielmiaaDoor.Ab
variable [Glo] [U8] [CAr]
set_option maxHeartbeats 4000000
set_option maxRecDepth 20000
open FN43 in
theorem more28_A {f : Ph → Sc → Int → Ex × Int} {id B : Nat} (hf : LowAt f id B) (h : Phh) (l : List Ph) (c : List Cl) (hkind : h.k = 28) (ok : PhhOk h) (hl : l.length ≤ 1048576) (sc : Sc) (hsc : sc.length ≤ 10000000) (hp : ∀ p, p ∈ l → PLow B p sc) (okc : ClsOk c) (b : Nat) (hT : TLow B b c (argAt l 0) sc) (hl1 : l.length = 1) (hTup : TupAt f id B c) (H : Heap) (K : V → Heap → Prop) (hr : H[id]? = some (lwC 0))
    (hk : K (exW (flworP f c (argAt l 0) sc 0).1) (H.set id (lwC (flworP f c (argAt l 0) sc 0).2))) :
    ACalls Tryd.prog 43 [.pt id 0 0 0, phW h l c, .d (.sl 1 (sc.map strRow))] H K := by
  have hid := lt_of_get hr
  obtain ⟨ga, sa, gs, ss, gsa, ssa, gl0, glk, sl0, slk⟩ := atH hr
  have hsm := lw_keep hr
  have o1 := ok.it
  have o2 := ok.nm
  have o3 := ok.tn
  have hz : ((0 : Int) = 0) = True := eq_true rfl
  have hw := fun e G K hk => wrong_A id e 0 (H ++ G) K (ga G) hk
  have x0 : l[0]? = some (argAt l 0) := arg_at (by omega)
  have hq := fun G K hk => flwor_A h l c _ x0 okc hTup sc hT (H ++ G) K (ga G) hk
  rw [phW_k hkind] at hq
  rw [phW_k hkind]
  refine We ?_
  have c21 := hq; have us := eq_self (0 : Nat)
  exact W77
end Go.Proofs.YtdmkfkjdielmiaaDoor
namespace Go.Proofs.YtdmkfkjdielmiaaDoor
open Go Go.Proofs.YtdmkfkjdielmiaaDoor.Ab
variable [Glo] [U8] [CAr]
set_option maxHeartbeats 4000000
set_option maxRecDepth 20000
open FN15 in
theorem lower28_A {f : Ph → Sc → Int → Ex × Int} {id B : Nat} (hf : LowAt f id B) (h : Phh) (l : List Ph) (c : List Cl) (hkind : h.k = 28) (ok : PhhOk h) (hl : l.length ≤ 1048576) (sc : Sc) (hsc : sc.length ≤ 10000000) (hp : ∀ p, p ∈ l → PLow B p sc) (hform : formQ h.k l.length = 0) (H : Heap) (K : V → Heap → Prop) (hr : H[id]? = some (lwC 0)) (okc : ClsOk c) (b : Nat) (hT : TLow B b c (argAt l 0) sc) (hl1 : l.length = 1) (hTup : TupAt f id B c)
    (hk : K (exW (lowP1 f h l c sc 0).1) (H.set id (lwC (lowP1 f h l c sc 0).2))) :
    ACalls Tryd.prog 15 [.pt id 0 0 0, phW h l c, .d (.sl 1 (sc.map strRow))] H K := by
  have hid := lt_of_get hr
  obtain ⟨ga, sa, gs, ss, gsa, ssa, gl0, glk, sl0, slk⟩ := atH hr
  have hsm := lw_keep hr
  have o1 := ok.it
  have o2 := ok.nm
  have o3 := ok.tn
  have hz : ((0 : Int) = 0) = True := eq_true rfl
  have hF := form_A h l c hl
  rw [hform, phW_k hkind] at hF
  have hw := fun e G K hk => wrong_A id e 0 (H ++ G) K (ga G) hk
  rw [lowP1, if_neg (nn (x := (0 : Int)) rfl), if_neg (nn hform)] at hk
  rw [phW_k hkind]
  rw [if_neg (by omega), if_neg (by omega), if_neg (by omega), if_neg (by omega), if_neg (by omega), if_neg (by omega), if_neg (by omega), if_neg (by omega), if_neg (by omega), if_neg (by omega), if_neg (by omega), if_neg (by omega), if_neg (by omega), if_neg (by omega)] at hk
  have hq := fun G K hk => more28_A hf h l c hkind ok hl sc hsc hp okc b hT hl1 hTup (H ++ G) K (ga G) hk
  rw [phW_k hkind] at hq
  refine We ?_
  have c21 := hF; have c22 := hq; have us := eq_self (0 : Nat)
  exact W75
end Go.Proofs.YtdmkfkjdielmiaaDoor
namespace Go.Proofs.YtdmkfkjdielmiaaDoor
open Go Go.Proofs.YtdmkfkjdielmiaaDoor.Ab
variable [Glo] [U8] [CAr]
set_option maxHeartbeats 4000000
set_option maxRecDepth 20000
open FN43 in
theorem more21_A {f : Ph → Sc → Int → Ex × Int} {id B : Nat} (hf : LowAt f id B) (h : Phh) (l : List Ph) (c : List Cl) (hkind : h.k = 21) (ok : PhhOk h) (hl : l.length ≤ 1048576) (sc : Sc) (hsc : sc.length ≤ 10000000) (hp : ∀ p, p ∈ l → PLow B p sc) (hl2 : l.length = 2) (hp1 : ∀ p, p ∈ l → PLow B p (sc ++ [sDot])) (H : Heap) (K : V → Heap → Prop) (hr : H[id]? = some (lwC 0))
    (hk : K (exW (pathP f l sc 0).1) (H.set id (lwC (pathP f l sc 0).2))) :
    ACalls Tryd.prog 43 [.pt id 0 0 0, phW h l c, .d (.sl 1 (sc.map strRow))] H K := by
  have hid := lt_of_get hr
  obtain ⟨ga, sa, gs, ss, gsa, ssa, gl0, glk, sl0, slk⟩ := atH hr
  have hsm := lw_keep hr
  have o1 := ok.it
  have o2 := ok.nm
  have o3 := ok.tn
  have hz : ((0 : Int) = 0) = True := eq_true rfl
  have hw := fun e G K hk => wrong_A id e 0 (H ++ G) K (ga G) hk
  have x0 : l[0]? = some (argAt l 0) := arg_at (by omega)
  have x1 : l[1]? = some (argAt l 1) := arg_at (by omega)
  have l0 : ((0 : Int) < (l.length : Int)) = True := eq_true (by omega)
  have l1 : ((1 : Int) < (l.length : Int)) = True := eq_true (by omega)
  have hx := fun G K hk => hf.app (hp _ (List.mem_of_getElem? x0)) hr G K hk
  have hy := fun G K hk => hf.set (hp1 _ (List.mem_of_getElem? x1)) hr (f (argAt l 0) sc 0).2 G K hk
  rw [pathP] at hk
  rw [phW_k hkind]
  rw [phW] at hx hy
  generalize argAt l 0 = a at x0 hx hy hk
  generalize argAt l 1 = b at x1 hy hk
  generalize f a sc 0 = r1 at hx hy hk
  obtain ⟨v, f1⟩ := r1
  have hwf := fun e G K hk => wrong_set id e f1 hr G K hk
  have hst := step_A b.h.ax b.h.tk b.h.tn
  rw [tsV] at hst
  by_cases s1 : b.h.k = 9
  · have i1 : (b.h.k = 9) = True := eq_true s1
    by_cases s2 : b.args.length = 0
    · have i2 : ((b.args.length : Int) = 0) = True := eq_true (by omega)
      rw [if_pos ⟨s1, s2⟩] at hk
      cases hb : stepB b.h.ax b.h.tk with
      | true =>
        rw [hb, if_pos rfl] at hst hk
        refine We ?_
        have c21 := hx; have c22 := hst; have us := an x0 (an x1 (an l0 (an l1 (an i1 i2))))
        exact W86
      | false =>
        rw [hb, if_neg (by decide)] at hst hk
        refine We ?_
        have c21 := hx; have c22 := hst; have c31 := hwf; have us := an x0 (an x1 (an l0 (an l1 (an i1 i2))))
        exact W86
    · have i2 : ((b.args.length : Int) = 0) = False := eq_false (by omega)
      rw [if_neg (fun e => s2 e.2)] at hk
      generalize f b (sc ++ [sDot]) f1 = r2 at hy hk
      obtain ⟨w, f2⟩ := r2
      have hwi := with_A sc [sDot] (by omega) (by simp)
      have hlo := loop_A sDot [] v w
      have hca := call_A sDdo [eFor sDot [] v w]
      simp only [exW, exV, List.map_cons, List.map_nil, exD_1] at hlo hca
      refine We ?_
      have c21 := hx; have c22 := hy; have c23 := hwi; have c24 := hlo; have c25 := hca; have us := an x0 (an x1 (an l0 (an l1 (an i1 i2))))
      exact W87
  · have i1 : (b.h.k = 9) = False := eq_false s1
    rw [if_neg (fun e => s1 e.1)] at hk
    generalize f b (sc ++ [sDot]) f1 = r2 at hy hk
    obtain ⟨w, f2⟩ := r2
    have hwi := with_A sc [sDot] (by omega) (by simp)
    have hlo := loop_A sDot [] v w
    have hca := call_A sDdo [eFor sDot [] v w]
    simp only [exW, exV, List.map_cons, List.map_nil, exD_1] at hlo hca
    refine We ?_
    have c21 := hx; have c22 := hy; have c23 := hwi; have c24 := hlo; have c25 := hca; have us := an x0 (an x1 (an l0 (an l1 i1)))
    exact W87
end Go.Proofs.YtdmkfkjdielmiaaDoor
namespace Go.Proofs.YtdmkfkjdielmiaaDoor
open Go Go.Proofs.YtdmkfkjdielmiaaDoor.Ab
variable [Glo] [U8] [CAr]
set_option maxHeartbeats 4000000
set_option maxRecDepth 20000
open FN15 in
theorem lower21_A {f : Ph → Sc → Int → Ex × Int} {id B : Nat} (hf : LowAt f id B) (h : Phh) (l : List Ph) (c : List Cl) (hkind : h.k = 21) (ok : PhhOk h) (hl : l.length ≤ 1048576) (sc : Sc) (hsc : sc.length ≤ 10000000) (hp : ∀ p, p ∈ l → PLow B p sc) (hform : formQ h.k l.length = 0) (H : Heap) (K : V → Heap → Prop) (hr : H[id]? = some (lwC 0)) (hl2 : l.length = 2) (hp1 : ∀ p, p ∈ l → PLow B p (sc ++ [sDot]))
    (hk : K (exW (lowP1 f h l c sc 0).1) (H.set id (lwC (lowP1 f h l c sc 0).2))) :
    ACalls Tryd.prog 15 [.pt id 0 0 0, phW h l c, .d (.sl 1 (sc.map strRow))] H K := by
  have hid := lt_of_get hr
  obtain ⟨ga, sa, gs, ss, gsa, ssa, gl0, glk, sl0, slk⟩ := atH hr
  have hsm := lw_keep hr
  have o1 := ok.it
  have o2 := ok.nm
  have o3 := ok.tn
  have hz : ((0 : Int) = 0) = True := eq_true rfl
  have hF := form_A h l c hl
  rw [hform, phW_k hkind] at hF
  have hw := fun e G K hk => wrong_A id e 0 (H ++ G) K (ga G) hk
  rw [lowP1, if_neg (nn (x := (0 : Int)) rfl), if_neg (nn hform)] at hk
  rw [phW_k hkind]
  rw [if_neg (by omega), if_neg (by omega), if_neg (by omega), if_neg (by omega), if_neg (by omega), if_neg (by omega), if_neg (by omega), if_neg (by omega), if_neg (by omega), if_neg (by omega), if_neg (by omega), if_pos hkind] at hk
  have hq := fun G K hk => more21_A hf h l c hkind ok hl sc hsc hp hl2 hp1 (H ++ G) K (ga G) hk
  rw [phW_k hkind] at hq
  refine We ?_
  have c21 := hF; have c22 := hq; have us := eq_self (0 : Nat)
  exact W75
end Go.Proofs.YtdmkfkjdielmiaaDoor
namespace Go.Proofs.YtdmkfkjdielmiaaDoor
open Go Go.Proofs.YtdmkfkjdielmiaaDoor.Ab
variable [Glo] [U8] [CAr]
set_option maxHeartbeats 4000000
set_option maxRecDepth 20000
open FN43 in
theorem more23_A {f : Ph → Sc → Int → Ex × Int} {id B : Nat} (hf : LowAt f id B) (h : Phh) (l : List Ph) (c : List Cl) (hkind : h.k = 23) (ok : PhhOk h) (hl : l.length ≤ 1048576) (sc : Sc) (hsc : sc.length ≤ 10000000) (hp : ∀ p, p ∈ l → PLow B p sc) (hl2 : l.length = 2) (hp1 : ∀ p, p ∈ l → PLow B p (sc ++ [h.nm])) (H : Heap) (K : V → Heap → Prop) (hr : H[id]? = some (lwC 0))
    (hk : K (exW (quantP f h.k h.nm l sc 0).1) (H.set id (lwC (quantP f h.k h.nm l sc 0).2))) :
    ACalls Tryd.prog 43 [.pt id 0 0 0, phW h l c, .d (.sl 1 (sc.map strRow))] H K := by
  have hid := lt_of_get hr
  obtain ⟨ga, sa, gs, ss, gsa, ssa, gl0, glk, sl0, slk⟩ := atH hr
  have hsm := lw_keep hr
  have o1 := ok.it
  have o2 := ok.nm
  have o3 := ok.tn
  have hz : ((0 : Int) = 0) = True := eq_true rfl
  have hw := fun e G K hk => wrong_A id e 0 (H ++ G) K (ga G) hk
  have hq := fun G K hk => quant23_A hf h l c hkind ok hl sc hsc hp hl2 hp1 (H ++ G) K (ga G) hk
  rw [phW_k hkind] at hq
  rw [phW_k hkind]
  refine We ?_
  have c21 := hq; have us := eq_self (0 : Nat)
  exact W77
end Go.Proofs.YtdmkfkjdielmiaaDoor
namespace Go.Proofs.YtdmkfkjdielmiaaDoor
open Go Go.Proofs.YtdmkfkjdielmiaaDoor.Ab
variable [Glo] [U8] [CAr]
set_option maxHeartbeats 4000000
set_option maxRecDepth 20000
open FN15 in
theorem lower23_A {f : Ph → Sc → Int → Ex × Int} {id B : Nat} (hf : LowAt f id B) (h : Phh) (l : List Ph) (c : List Cl) (hkind : h.k = 23) (ok : PhhOk h) (hl : l.length ≤ 1048576) (sc : Sc) (hsc : sc.length ≤ 10000000) (hp : ∀ p, p ∈ l → PLow B p sc) (hform : formQ h.k l.length = 0) (H : Heap) (K : V → Heap → Prop) (hr : H[id]? = some (lwC 0)) (hl2 : l.length = 2) (hp1 : ∀ p, p ∈ l → PLow B p (sc ++ [h.nm]))
    (hk : K (exW (lowP1 f h l c sc 0).1) (H.set id (lwC (lowP1 f h l c sc 0).2))) :
    ACalls Tryd.prog 15 [.pt id 0 0 0, phW h l c, .d (.sl 1 (sc.map strRow))] H K := by
  have hid := lt_of_get hr
  obtain ⟨ga, sa, gs, ss, gsa, ssa, gl0, glk, sl0, slk⟩ := atH hr
  have hsm := lw_keep hr
  have o1 := ok.it
  have o2 := ok.nm
  have o3 := ok.tn
  have hz : ((0 : Int) = 0) = True := eq_true rfl
  have hF := form_A h l c hl
  rw [hform, phW_k hkind] at hF
  have hw := fun e G K hk => wrong_A id e 0 (H ++ G) K (ga G) hk
  rw [lowP1, if_neg (nn (x := (0 : Int)) rfl), if_neg (nn hform)] at hk
  rw [phW_k hkind]
  rw [if_neg (by omega), if_neg (by omega), if_neg (by omega), if_neg (by omega), if_neg (by omega), if_neg (by omega), if_neg (by omega), if_neg (by omega), if_neg (by omega), if_neg (by omega), if_neg (by omega), if_neg (by omega), if_neg (by omega), if_pos (by omega)] at hk
  have hq := fun G K hk => more23_A hf h l c hkind ok hl sc hsc hp hl2 hp1 (H ++ G) K (ga G) hk
  rw [phW_k hkind] at hq
  refine We ?_
  have c21 := hF; have c22 := hq; have us := eq_self (0 : Nat)
  exact W75
end Go.Proofs.YtdmkfkjdielmiaaDoor
namespace Go.Proofs.YtdmkfkjdielmiaaDoor
open Go Go.Proofs.YtdmkfkjdielmiaaDoor.Ab
variable [Glo] [U8] [CAr]
set_option maxHeartbeats 4000000
set_option maxRecDepth 20000
open FN43 in
theorem more24_A {f : Ph → Sc → Int → Ex × Int} {id B : Nat} (hf : LowAt f id B) (h : Phh) (l : List Ph) (c : List Cl) (hkind : h.k = 24) (ok : PhhOk h) (hl : l.length ≤ 1048576) (sc : Sc) (hsc : sc.length ≤ 10000000) (hp : ∀ p, p ∈ l → PLow B p sc) (hl2 : l.length = 2) (hp1 : ∀ p, p ∈ l → PLow B p (sc ++ [h.nm])) (H : Heap) (K : V → Heap → Prop) (hr : H[id]? = some (lwC 0))
    (hk : K (exW (quantP f h.k h.nm l sc 0).1) (H.set id (lwC (quantP f h.k h.nm l sc 0).2))) :
    ACalls Tryd.prog 43 [.pt id 0 0 0, phW h l c, .d (.sl 1 (sc.map strRow))] H K := by
  have hid := lt_of_get hr
  obtain ⟨ga, sa, gs, ss, gsa, ssa, gl0, glk, sl0, slk⟩ := atH hr
  have hsm := lw_keep hr
  have o1 := ok.it
  have o2 := ok.nm
  have o3 := ok.tn
  have hz : ((0 : Int) = 0) = True := eq_true rfl
  have hw := fun e G K hk => wrong_A id e 0 (H ++ G) K (ga G) hk
  have hq := fun G K hk => quant24_A hf h l c hkind ok hl sc hsc hp hl2 hp1 (H ++ G) K (ga G) hk
  rw [phW_k hkind] at hq
  rw [phW_k hkind]
  refine We ?_
  have c21 := hq; have us := eq_self (0 : Nat)
  exact W77
end Go.Proofs.YtdmkfkjdielmiaaDoor
