/- Lowering of phrases: what the program computes and what the reference does, in plain words; they agree. No condition. -/
import Derived.Test.YtdmkfkjdielmiaaDoorP28
import Derived.Test.YtdmkfkjdielmiaaDoorP29
import Derived.Test.YtdmkfkjdielmiaaDoorP19
import Derived.Test.YtdmkfkjdielmiaaDoorP25
set_option linter.all false
set_option linter.unusedSimpArgs false
set_option linter.unusedVariables false
namespace Go.Proofs.YtdmkfkjdielmiaaDoor
open Go Go.Proofs.YtdmkfkjdielmiaaDoor.Ab
variable [Glo]
set_option maxRecDepth 20000
set_option maxHeartbeats 1000000
abbrev Sc := List (List UInt8)
def sDot : List UInt8 := [46]
def sAt : List UInt8 := [46, 97, 116]
def sLast : List UInt8 := [46, 108, 97, 115, 116]
def sAll : List UInt8 := [46, 97, 108, 108]
def sBoolean : List UInt8 := [98, 111, 111, 108, 101, 97, 110]
def sNeg : List UInt8 := [110, 101, 103]
def sDdo : List UInt8 := [100, 100, 111]
def sHolds : List UInt8 := [104, 111, 108, 100, 115]
def sCount : List UInt8 := [99, 111, 117, 110, 116]
def sExists : List UInt8 := [101, 120, 105, 115, 116, 115]
def sEmpty : List UInt8 := [101, 109, 112, 116, 121]
def sTrue : List UInt8 := [116, 114, 117, 101]
def sFalse : List UInt8 := [102, 97, 108, 115, 101]
def sPosition : List UInt8 := [112, 111, 115, 105, 116, 105, 111, 110]
def sLastW : List UInt8 := [108, 97, 115, 116]
def calledE : List (List UInt8 × List UInt8) := [([98, 111, 111, 108, 101, 97, 110], [98, 111, 111, 108, 101, 97, 110]), ([99, 111, 110, 99, 97, 116], [99, 111, 110, 99, 97, 116]), ([99, 111, 110, 116, 97, 105, 110, 115], [99, 111, 110, 116, 97, 105, 110, 115]), ([99, 111, 117, 110, 116], [99, 111, 117, 110, 116]), ([100, 97, 116, 97], [100, 97, 116, 97]), ([100, 105, 115, 116, 105, 110, 99, 116, 45, 118, 97, 108, 117, 101, 115], [100, 105, 115, 116, 105, 110, 99, 116]), ([101, 109, 112, 116, 121], [101, 109, 112, 116, 121]), ([101, 120, 105, 115, 116, 115], [101, 120, 105, 115, 116, 115]), ([105, 110, 116, 101, 103, 101, 114], [105, 110, 116, 101, 103, 101, 114]), ([109, 97, 120], [109, 97, 120]), ([109, 105, 110], [109, 105, 110]), ([110, 97, 109, 101], [110, 97, 109, 101]), ([110, 111, 116], [110, 111, 116]), ([114, 101, 118, 101, 114, 115, 101], [114, 101, 118, 101, 114, 115, 101]), ([115, 116, 97, 114, 116, 115, 45, 119, 105, 116, 104], [115, 116, 97, 114, 116, 115]), ([115, 116, 114, 105, 110, 103], [115, 116, 114, 105, 110, 103]), ([115, 116, 114, 105, 110, 103, 45, 108, 101, 110, 103, 116, 104], [108, 101, 110, 103, 116, 104]), ([115, 117, 98, 115, 116, 114, 105, 110, 103], [115, 117, 98, 115, 116, 114, 105, 110, 103]), ([115, 117, 109], [115, 117, 109])]
def opE : List (List UInt8 × List UInt8) := [([33, 61], [33, 61]), ([42], [42]), ([43], [43]), ([45], [45]), ([60], [60]), ([60, 60], [60, 60]), ([60, 61], [60, 61]), ([61], [61]), ([62], [62]), ([62, 61], [62, 61]), ([62, 62], [62, 62]), ([97, 110, 100], [97, 110, 100]), ([100, 105, 118], [100, 105, 118]), ([101, 120, 99, 101, 112, 116], [101, 120, 99, 101, 112, 116]), ([105, 110, 116, 101, 114, 115, 101, 99, 116], [105, 110, 116, 101, 114, 115, 101, 99, 116]), ([105, 115], [105, 115]), ([109, 111, 100], [109, 111, 100]), ([111, 114], [111, 114]), ([116, 111], [116, 111]), ([117, 110, 105, 111, 110], [117, 110, 105, 111, 110]), ([124], [117, 110, 105, 111, 110])]
theorem calledE_nodup : (calledE.map (·.1)).Nodup := by decide
theorem opE_nodup : (opE.map (·.1)).Nodup := by decide
def xh0 : Xh := ⟨0, ⟨0, 0, []⟩, [], [], 0, 0, 0, []⟩
def eNone : Ex := .mk { xh0 with k := 3 } []
def eCall (s : List UInt8) (l : List Ex) : Ex := .mk { xh0 with k := 8, nm := s } l
def eVar (s : List UInt8) : Ex := .mk { xh0 with k := 2, nm := s } []
def eLit (x : It) : Ex := .mk { xh0 with k := 1, it := x } []
def eBool (n : Int) : Ex := eLit ⟨4, n, []⟩
def eIf (a b c : Ex) : Ex := .mk { xh0 with k := 7 } [a, b, c]
def eFor (nm at_ : List UInt8) (v b : Ex) : Ex := .mk { xh0 with k := 5, nm := nm, at_ := at_ } [v, b]
def eLet (nm : List UInt8) (v b : Ex) : Ex := .mk { xh0 with k := 4, nm := nm } [v, b]
def eStep (ax tk : Int) (tn : List UInt8) (l : List Ex) : Ex := .mk { xh0 with k := 9, ax := ax, tk := tk, tn := tn } l
def eRoot : Ex := .mk { xh0 with k := 11 } []
def eSeq (l : List Ex) : Ex := .mk { xh0 with k := 3 } l
def eMake (n : Int) (nm : List UInt8) (l : List Ex) : Ex := .mk { xh0 with k := 10, n := n, nm := nm } l
def eSorted (n : Int) (nm at_ : List UInt8) (l : List Ex) : Ex := .mk { xh0 with k := 6, n := n, nm := nm, at_ := at_ } l
def formQ (k : Int) (n : Nat) : Int :=
  if k = 1 ∨ k = 2 ∨ k = 11 ∨ k = 27 ∨ k = 9 then (if n = 0 then 0 else 11)
  else if k = 10 ∨ k = 26 ∨ k = 28 then (if n = 1 then 0 else 11)
  else if k = 21 ∨ k = 23 ∨ k = 24 ∨ k = 25 then (if n = 2 then 0 else 11)
  else if k = 7 then (if n = 3 then 0 else 11)
  else if k = 3 ∨ k = 8 then 0
  else if k = 22 then (if n = 0 then 11 else 0)
  else 3
def clsQ : List Cl → Nat → Int
  | [], _ => 0
  | c :: r, n =>
    if ¬(1 ≤ c.c.k ∧ c.c.k ≤ 4) then 3
    else if c.c.k = 3 ∧ ((r.head?.map fun d => decide (d.c.k ≠ 4)).getD false) = true then 4
    else if c.c.k = 4 ∧ (r ≠ [] ∨ n ≠ 1) then 4
    else if (c.c.k = 1 ∨ c.c.k = 2) ∧ bindQ c.c.nm c.c.at_ (decide (c.c.k = 2)) ≠ 0 then bindQ c.c.nm c.c.at_ (decide (c.c.k = 2))
    else clsQ r (if c.c.k = 1 then n + 1 else n)
def wrongQ (e flt : Int) : Ex × Int := (eNone, if flt = 0 then e else flt)
def seenP (s : List UInt8) (sc : Sc) (flt : Int) : Ex × Int := if s ∈ sc then (eVar s, flt) else wrongQ 6 flt
section
variable (f : Ph → Sc → Int → Ex × Int)
def argsP : List Ph → Sc → Int → List Ex × Int
  | [], _, flt => ([], flt)
  | p :: l, sc, flt => ((f p sc flt).1 :: (argsP l sc (f p sc flt).2).1, (argsP l sc (f p sc flt).2).2)
def innerQ (c : Clh) (sc : Sc) : Sc := if c.at_ = [] then sc ++ [c.nm] else sc ++ [c.nm, c.at_]
def tupP : List Cl → Ph → Bool → Sc → Int → Ex × Int
  | [], p, _, sc, flt => f p sc flt
  | c :: l, p, key, sc, flt =>
    if c.c.k = 3 then
      (if key = true then tupP l p key sc flt else (eIf (eCall sBoolean [(f c.x sc flt).1]) (tupP l p key sc (f c.x sc flt).2).1 eNone, (tupP l p key sc (f c.x sc flt).2).2))
    else if c.c.k = 2 then (eLet c.c.nm (f c.x sc flt).1 (tupP l p key (sc ++ [c.c.nm]) (f c.x sc flt).2).1, (tupP l p key (sc ++ [c.c.nm]) (f c.x sc flt).2).2)
    else if c.c.k = 4 then tupP l p key sc flt
    else if (l.getLastD c).c.k ≠ 4 then (eFor c.c.nm c.c.at_ (f c.x sc flt).1 (tupP l p key (innerQ c.c sc) (f c.x sc flt).2).1, (tupP l p key (innerQ c.c sc) (f c.x sc flt).2).2)
    else (eSorted (if (l.getLastD c).c.down = true then 1 else 0) c.c.nm c.c.at_ [(f c.x sc flt).1, (tupP l (l.getLastD c).x true (innerQ c.c sc) (f c.x sc flt).2).1, (tupP l p false (innerQ c.c sc) (tupP l (l.getLastD c).x true (innerQ c.c sc) (f c.x sc flt).2).2).1],
      (tupP l p false (innerQ c.c sc) (tupP l (l.getLastD c).x true (innerQ c.c sc) (f c.x sc flt).2).2).2)
def fBody (c x : Ex) : Ex := eLet sAll x (eLet sLast (eCall sCount [eVar sAll]) (eFor sDot sAt (eVar sAll) (eIf (eCall sHolds [c, eVar sAt]) (eVar sDot) eNone)))
def filS (sc : Sc) : Sc := sc ++ [sAll, sLast, sDot, sAt]
def filP (sc : Sc) : List Ph → Ex → Int → Ex × Int
  | [], x, flt => (x, flt)
  | q :: l, x, flt => filP sc l (fBody (f q (filS sc) flt).1 x) (f q (filS sc) flt).2
def wordB (s : List UInt8) : Prop := s = sTrue ∨ s = sFalse ∨ s = sPosition ∨ s = sLastW
instance (s : List UInt8) : Decidable (wordB s) := by unfold wordB; exact inferInstance
def callP (nm : List UInt8) (args : List Ph) (sc : Sc) (flt : Int) : Ex × Int :=
  if wordB nm then
    (if args.length ≠ 0 then wrongQ 11 flt else if nm = sPosition then seenP sAt sc flt else if nm = sLastW then seenP sLast sc flt else (eBool (if nm = sTrue then 1 else 0), flt))
  else match lookS calledE nm with
    | none => wrongQ 6 flt
    | some s => if argsQ s ≠ args.length then wrongQ 11 flt else (eCall s (argsP f args sc flt).1, (argsP f args sc flt).2)
def ph0 : Ph := .mk ⟨0, ⟨0, 0, []⟩, [], 0, 0, 0, []⟩ [] []
def argAt (l : List Ph) (i : Nat) : Ph := l.getD i ph0
def quantE (k : Int) (nm : List UInt8) (v c : Ex) : Ex := if k = 23 then eCall sExists [eFor nm [] v (eIf (eCall sBoolean [c]) (eBool 1) eNone)] else eCall sEmpty [eFor nm [] v (eIf (eCall sBoolean [c]) eNone (eBool 1))]
def quantP (k : Int) (nm : List UInt8) (args : List Ph) (sc : Sc) (flt : Int) : Ex × Int :=
  if varB nm = false then wrongQ 10 flt
  else (quantE k nm (f (argAt args 0) sc flt).1 (f (argAt args 1) (sc ++ [nm]) (f (argAt args 0) sc flt).2).1, (f (argAt args 1) (sc ++ [nm]) (f (argAt args 0) sc flt).2).2)
def isStep (p : Ph) : Prop := p.h.k = 9 ∧ p.args.length = 0
instance (p : Ph) : Decidable (isStep p) := by unfold isStep; exact inferInstance
def pathP (args : List Ph) (sc : Sc) (flt : Int) : Ex × Int :=
  if isStep (argAt args 1) then
    (if stepB (argAt args 1).h.ax (argAt args 1).h.tk = true then (eStep (argAt args 1).h.ax (argAt args 1).h.tk (argAt args 1).h.tn [(f (argAt args 0) sc flt).1], (f (argAt args 0) sc flt).2) else wrongQ 3 (f (argAt args 0) sc flt).2)
  else (eCall sDdo [eFor sDot [] (f (argAt args 0) sc flt).1 (f (argAt args 1) (sc ++ [sDot]) (f (argAt args 0) sc flt).2).1], (f (argAt args 1) (sc ++ [sDot]) (f (argAt args 0) sc flt).2).2)
def flworP (cls : List Cl) (p : Ph) (sc : Sc) (flt : Int) : Ex × Int := if clsQ cls 0 ≠ 0 then wrongQ (clsQ cls 0) flt else tupP f cls p false sc flt
def stepP (h : Phh) (sc : Sc) (flt : Int) : Ex × Int := if stepB h.ax h.tk = true then (eStep h.ax h.tk h.tn [(seenP sDot sc flt).1], (seenP sDot sc flt).2) else wrongQ 3 flt
def makeE (h : Phh) (l : List Ex) : Ex := eMake h.n (if h.n = 3 then [] else h.nm) l
def ifE (l : List Ex) : Ex := eIf (eCall sBoolean [l.getD 0 eNone]) (l.getD 1 eNone) (l.getD 2 eNone)
def lowP1 (h : Phh) (args : List Ph) (cls : List Cl) (sc : Sc) (flt : Int) : Ex × Int :=
  if flt ≠ 0 then (eNone, flt)
  else if formQ h.k args.length ≠ 0 then wrongQ (formQ h.k args.length) flt
  else if h.k = 1 then (if itemFault h.it ≠ 0 ∨ h.it.k = 1 then wrongQ 12 flt else (eLit h.it, flt))
  else if h.k = 2 then seenP h.nm sc flt
  else if h.k = 27 then seenP sDot sc flt
  else if h.k = 11 then (eRoot, flt)
  else if h.k = 3 then (eSeq (argsP f args sc flt).1, (argsP f args sc flt).2)
  else if h.k = 7 then (ifE (argsP f args sc flt).1, (argsP f args sc flt).2)
  else if h.k = 26 then (eCall sNeg (argsP f args sc flt).1, (argsP f args sc flt).2)
  else if h.k = 25 then (match lookS opE h.nm with
    | none => wrongQ 6 flt
    | some s => (eCall s (argsP f args sc flt).1, (argsP f args sc flt).2))
  else if h.k = 9 then stepP h sc flt
  else if h.k = 10 then (if madeQ h.n h.nm ≠ 0 then wrongQ (madeQ h.n h.nm) flt else (makeE h (argsP f args sc flt).1, (argsP f args sc flt).2))
  else if h.k = 8 then callP f h.nm args sc flt
  else if h.k = 21 then pathP f args sc flt
  else if h.k = 22 then filP f sc (args.drop 1) (f (argAt args 0) sc flt).1 (f (argAt args 0) sc flt).2
  else if h.k = 23 ∨ h.k = 24 then quantP f h.k h.nm args sc flt
  else flworP f cls (argAt args 0) sc flt
end
def lowP : Nat → Ph → Sc → Int → Ex × Int
  | 0, _, _, flt => (eNone, flt)
  | n + 1, p, sc, flt => lowP1 (lowP n) p.h p.args p.cls sc flt
def visR (s : List UInt8) (sc : Sc) : Ex × Int := if s ∈ sc then (eVar s, 0) else (eNone, 6)
section
variable (g : Ph → Sc → Ex × Int)
def allR : List Ph → Sc → List Ex × Int
  | [], _ => ([], 0)
  | p :: l, sc => if (g p sc).2 ≠ 0 then ([], (g p sc).2) else if (allR l sc).2 ≠ 0 then ([], (allR l sc).2) else ((g p sc).1 :: (allR l sc).1, 0)
def tupR : List Cl → Ph → Bool → Sc → Ex × Int
  | [], p, _, sc => g p sc
  | c :: l, p, key, sc =>
    if c.c.k = 4 ∨ (c.c.k = 3 ∧ key = true) then tupR l p key sc
    else if (g c.x sc).2 ≠ 0 then (eNone, (g c.x sc).2)
    else if c.c.k = 3 then (eIf (eCall sBoolean [(g c.x sc).1]) (tupR l p key sc).1 eNone, (tupR l p key sc).2)
    else if c.c.k = 2 then (eLet c.c.nm (g c.x sc).1 (tupR l p key (sc ++ [c.c.nm])).1, (tupR l p key (sc ++ [c.c.nm])).2)
    else if (l.getLastD c).c.k ≠ 4 then (eFor c.c.nm c.c.at_ (g c.x sc).1 (tupR l p key (innerQ c.c sc)).1, (tupR l p key (innerQ c.c sc)).2)
    else if (tupR l (l.getLastD c).x true (innerQ c.c sc)).2 ≠ 0 then (eNone, (tupR l (l.getLastD c).x true (innerQ c.c sc)).2)
    else (eSorted (if (l.getLastD c).c.down = true then 1 else 0) c.c.nm c.c.at_ [(g c.x sc).1, (tupR l (l.getLastD c).x true (innerQ c.c sc)).1, (tupR l p false (innerQ c.c sc)).1], (tupR l p false (innerQ c.c sc)).2)
def filR (sc : Sc) : List Ph → Ex → Int → Ex × Int
  | [], x, e => (x, e)
  | q :: l, x, e => if e ≠ 0 then (x, e) else filR sc l (fBody (g q (filS sc)).1 x) (g q (filS sc)).2
def callR (nm : List UInt8) (args : List Ph) (sc : Sc) : Ex × Int :=
  if wordB nm then
    (if args.length ≠ 0 then (eNone, 11) else if nm = sTrue then (eBool 1, 0) else if nm = sFalse then (eBool 0, 0) else if nm = sPosition then visR sAt sc else visR sLast sc)
  else match lookS calledE nm with
    | none => (eNone, 6)
    | some s => if argsQ s ≠ args.length then (eNone, 11) else (eCall s (allR g args sc).1, (allR g args sc).2)
def someR (k : Int) (nm : List UInt8) (args : List Ph) (sc : Sc) : Ex × Int :=
  if varB nm = false then (eNone, 10)
  else if (g (argAt args 0) sc).2 ≠ 0 then (eNone, (g (argAt args 0) sc).2)
  else (quantE k nm (g (argAt args 0) sc).1 (g (argAt args 1) (sc ++ [nm])).1, (g (argAt args 1) (sc ++ [nm])).2)
def pathR (args : List Ph) (sc : Sc) : Ex × Int :=
  if (g (argAt args 0) sc).2 ≠ 0 then (eNone, (g (argAt args 0) sc).2)
  else if isStep (argAt args 1) then
    (if stepB (argAt args 1).h.ax (argAt args 1).h.tk = true then (eStep (argAt args 1).h.ax (argAt args 1).h.tk (argAt args 1).h.tn [(g (argAt args 0) sc).1], 0) else (eNone, 3))
  else (eCall sDdo [eFor sDot [] (g (argAt args 0) sc).1 (g (argAt args 1) (sc ++ [sDot])).1], (g (argAt args 1) (sc ++ [sDot])).2)
def flworR (cls : List Cl) (p : Ph) (sc : Sc) : Ex × Int := if clsQ cls 0 ≠ 0 then (eNone, clsQ cls 0) else tupR g cls p false sc
def stepR (h : Phh) (sc : Sc) : Ex × Int := if stepB h.ax h.tk = true then (eStep h.ax h.tk h.tn [(visR sDot sc).1], (visR sDot sc).2) else (eNone, 3)
def lowR1 (h : Phh) (args : List Ph) (cls : List Cl) (sc : Sc) : Ex × Int :=
  if formQ h.k args.length ≠ 0 then (eNone, formQ h.k args.length)
  else if h.k = 1 then (if itemFault h.it ≠ 0 ∨ h.it.k = 1 then (eNone, 12) else (eLit h.it, 0))
  else if h.k = 2 then visR h.nm sc
  else if h.k = 27 then visR sDot sc
  else if h.k = 11 then (eRoot, 0)
  else if h.k = 9 then stepR h sc
  else if h.k = 21 then pathR g args sc
  else if h.k = 22 then filR g sc (args.drop 1) (g (argAt args 0) sc).1 (g (argAt args 0) sc).2
  else if h.k = 23 ∨ h.k = 24 then someR g h.k h.nm args sc
  else if h.k = 28 then flworR g cls (argAt args 0) sc
  else if h.k = 8 then callR g h.nm args sc
  else if h.k = 25 ∧ lookS opE h.nm = none then (eNone, 6)
  else if h.k = 10 ∧ madeQ h.n h.nm ≠ 0 then (eNone, madeQ h.n h.nm)
  else if (allR g args sc).2 ≠ 0 then (eNone, (allR g args sc).2)
  else if h.k = 7 then (ifE (allR g args sc).1, 0)
  else if h.k = 26 then (eCall sNeg [(allR g args sc).1.getD 0 eNone], 0)
  else if h.k = 25 then (eCall ((lookS opE h.nm).getD []) [(allR g args sc).1.getD 0 eNone, (allR g args sc).1.getD 1 eNone], 0)
  else if h.k = 10 then (makeE h (allR g args sc).1, 0)
  else (eSeq (allR g args sc).1, 0)
end
def lowR : Nat → Ph → Sc → Ex × Int
  | 0, _, _ => (eNone, 0)
  | n + 1, p, sc => lowR1 (lowR n) p.h p.args p.cls sc
def Agr (a b : Ex × Int) : Prop := a.2 = b.2 ∧ (b.2 = 0 → a.1 = b.1)
structure Agree (f : Ph → Sc → Int → Ex × Int) (g : Ph → Sc → Ex × Int) : Prop where
  ok : ∀ p sc, Agr (f p sc 0) (g p sc)
  bad : ∀ p sc flt, flt ≠ 0 → (f p sc flt).2 = flt
theorem Agr.rfl' (a : Ex × Int) : Agr a a := ⟨rfl, fun _ => rfl⟩
theorem nn {x : Int} (h : x = 0) : ¬ x ≠ 0 := fun e => e h
theorem wrong_bad {e flt : Int} (h : flt ≠ 0) : (wrongQ e flt).2 = flt := if_neg h
theorem wrong_ok {e : Int} {x : Ex} (h : e ≠ 0) : Agr (wrongQ e 0) (x, e) := ⟨by simp [wrongQ], fun e' => absurd e' h⟩
theorem seen_ok (s : List UInt8) (sc : Sc) : Agr (seenP s sc 0) (visR s sc) := by
  unfold seenP visR
  split
  · exact Agr.rfl' _
  · exact wrong_ok (by decide)
section
variable {f : Ph → Sc → Int → Ex × Int} {g : Ph → Sc → Ex × Int} (A : Agree f g)
include A
theorem args_bad : ∀ (l : List Ph) (sc : Sc) (flt : Int), flt ≠ 0 → (argsP f l sc flt).2 = flt
  | [], _, _, _ => rfl
  | p :: l, sc, flt, h => by
    rw [argsP]
    simp only [A.bad p sc flt h]
    exact args_bad l sc flt h
theorem args_ok : ∀ (l : List Ph) (sc : Sc), (argsP f l sc 0).2 = (allR g l sc).2 ∧ ((allR g l sc).2 = 0 → (argsP f l sc 0).1 = (allR g l sc).1)
  | [], _ => ⟨rfl, fun _ => rfl⟩
  | p :: l, sc => by
    obtain ⟨h1, h2⟩ := A.ok p sc
    obtain ⟨h3, h4⟩ := args_ok l sc
    rw [argsP, allR]
    by_cases hz : (g p sc).2 = 0
    · rw [if_neg (nn hz)]
      simp only [h1, hz, h3]
      by_cases hy : (allR g l sc).2 = 0
      · rw [if_neg (nn hy)]
        exact ⟨hy, fun _ => by simp only [h2 hz, h4 hy]⟩
      · rw [if_pos hy]
        exact ⟨rfl, fun e => absurd e hy⟩
    · rw [if_pos hz]
      simp only [h1]
      exact ⟨args_bad A l sc _ hz, fun e => absurd e hz⟩
theorem tup_bad : ∀ (l : List Cl) (p : Ph) (key : Bool) (sc : Sc) (flt : Int), flt ≠ 0 → (tupP f l p key sc flt).2 = flt
  | [], p, key, sc, flt, h => A.bad p sc flt h
  | c :: l, p, key, sc, flt, h => by
    have hb := A.bad c.x sc flt h
    rw [tupP]
    split
    · split
      · exact tup_bad l p key sc flt h
      · simp only [hb]; exact tup_bad l p key sc flt h
    · split
      · simp only [hb]; exact tup_bad l p key _ flt h
      · split
        · exact tup_bad l p key sc flt h
        · split
          · simp only [hb]; exact tup_bad l p key _ flt h
          · simp only [hb, tup_bad l _ true _ flt h]; exact tup_bad l p false _ flt h
theorem tup_ok : ∀ (l : List Cl) (p : Ph) (key : Bool) (sc : Sc), Agr (tupP f l p key sc 0) (tupR g l p key sc)
  | [], p, key, sc => A.ok p sc
  | c :: l, p, key, sc => by
    obtain ⟨h1, h2⟩ := A.ok c.x sc
    rw [tupP, tupR]
    by_cases k4 : c.c.k = 4
    · rw [if_neg (by omega), if_neg (by omega), if_pos k4, if_pos (.inl k4)]
      exact tup_ok l p key sc
    by_cases k3 : c.c.k = 3
    · rw [if_pos k3]
      cases key with
      | true => rw [if_pos rfl, if_pos (.inr ⟨k3, rfl⟩)]; exact tup_ok l p true sc
      | false =>
        have hno : ¬(c.c.k = 4 ∨ c.c.k = 3 ∧ false = true) := by simp [k4]
        rw [if_neg (by simp), if_neg hno]
        obtain ⟨h3, h4⟩ := tup_ok l p false sc
        by_cases hz : (g c.x sc).2 = 0
        · rw [if_neg (nn hz), if_pos k3]
          simp only [h1, hz]
          exact ⟨h3, fun e => by simp only [h2 hz, h4 e]⟩
        · rw [if_pos hz]
          exact ⟨by simp only [h1]; exact tup_bad A l p false sc _ hz, fun e => absurd e hz⟩
    have hno : ¬(c.c.k = 4 ∨ c.c.k = 3 ∧ key = true) := by simp [k4, k3]
    rw [if_neg k3, if_neg hno]
    by_cases hz : (g c.x sc).2 = 0
    case neg =>
      rw [if_pos hz]
      split
      · exact ⟨by simp only [h1]; exact tup_bad A l p key _ _ hz, fun e => absurd e hz⟩
      · split
        · exact ⟨by simp only [h1]; exact tup_bad A l p key _ _ hz, fun e => absurd e hz⟩
        · exact ⟨by simp only [h1, tup_bad A l _ true _ _ hz]; exact tup_bad A l p false _ _ hz, fun e => absurd e hz⟩
    rw [if_neg (nn hz), if_neg k3]
    by_cases k2 : c.c.k = 2
    · rw [if_pos k2, if_pos k2]
      obtain ⟨h3, h4⟩ := tup_ok l p key (sc ++ [c.c.nm])
      simp only [h1, hz]
      exact ⟨h3, fun e => by simp only [h2 hz, h4 e]⟩
    rw [if_neg k2, if_neg k4, if_neg k2]
    by_cases kl : (l.getLastD c).c.k ≠ 4
    · rw [if_pos kl, if_pos kl]
      obtain ⟨h3, h4⟩ := tup_ok l p key (innerQ c.c sc)
      simp only [h1, hz]
      exact ⟨h3, fun e => by simp only [h2 hz, h4 e]⟩
    rw [if_neg kl, if_neg kl]
    obtain ⟨h3, h4⟩ := tup_ok l (l.getLastD c).x true (innerQ c.c sc)
    obtain ⟨h5, h6⟩ := tup_ok l p false (innerQ c.c sc)
    simp only [h1, hz, h3]
    by_cases hy : (tupR g l (l.getLastD c).x true (innerQ c.c sc)).2 = 0
    · rw [if_neg (nn hy)]
      simp only [hy]
      exact ⟨h5, fun e => by simp only [h2 hz, h4 hy, h6 e]⟩
    · rw [if_pos hy]
      exact ⟨tup_bad A l p false _ _ hy, fun e => absurd e hy⟩
theorem fil_bad (sc : Sc) : ∀ (l : List Ph) (x : Ex) (flt : Int), flt ≠ 0 → (filP f sc l x flt).2 = flt
  | [], _, _, _ => rfl
  | q :: l, x, flt, h => by
    rw [filP, A.bad q _ flt h]
    exact fil_bad sc l _ flt h
theorem fil_ok (sc : Sc) : ∀ (l : List Ph) (x y : Ex) (e : Int), (e = 0 → x = y) → Agr (filP f sc l x e) (filR g sc l y e)
  | [], x, y, e, h => ⟨rfl, h⟩
  | q :: l, x, y, e, h => by
    rw [filR]
    by_cases he : e = 0
    · subst he
      obtain ⟨h1, h2⟩ := A.ok q (filS sc)
      rw [if_neg (nn (x := (0 : Int)) rfl), filP, h1]
      exact fil_ok sc l _ _ _ fun hz => by rw [h2 hz, h rfl]
    · rw [if_pos he]
      exact ⟨fil_bad A sc (q :: l) x e he, fun e' => absurd e' he⟩
theorem low1_bad (h : Phh) (args : List Ph) (cls : List Cl) (sc : Sc) (flt : Int) (hf : flt ≠ 0) : (lowP1 f h args cls sc flt).2 = flt := by
  rw [lowP1, if_pos hf]
theorem low1_ok (h : Phh) (args : List Ph) (cls : List Cl) (sc : Sc) : Agr (lowP1 f h args cls sc 0) (lowR1 g h args cls sc) := by
  obtain ⟨a1, a2⟩ := args_ok A args sc
  rw [lowP1, lowR1, if_neg (nn (x := (0 : Int)) rfl)]
  by_cases hf : formQ h.k args.length = 0
  case neg => rw [if_pos hf, if_pos hf]; exact wrong_ok hf
  rw [if_neg (nn hf), if_neg (nn hf)]
  by_cases c1 : h.k = 1
  · rw [if_pos c1, if_pos c1]
    split
    · exact wrong_ok (by decide)
    · exact Agr.rfl' _
  rw [if_neg c1, if_neg c1]
  by_cases c2 : h.k = 2
  · rw [if_pos c2, if_pos c2]; exact seen_ok _ _
  rw [if_neg c2, if_neg c2]
  by_cases c27 : h.k = 27
  · rw [if_pos c27, if_pos c27]; exact seen_ok _ _
  rw [if_neg c27, if_neg c27]
  by_cases c11 : h.k = 11
  · rw [if_pos c11, if_pos c11]; exact Agr.rfl' _
  rw [if_neg c11, if_neg c11]
  have look : ∀ {α : Type} {c d : Prop} [Decidable c] [Decidable d] {x y : α}, ¬ c → (if c then x else y) = y := fun h => if_neg h
  by_cases c3 : h.k = 3
  · rw [if_pos c3]
    iterate 6 rw [if_neg (by omega)]
    rw [if_neg (by omega), if_neg (by omega)]
    by_cases hz : (allR g args sc).2 = 0
    · rw [if_neg (nn hz)]
      iterate 4 rw [if_neg (by omega)]
      exact ⟨a1.trans hz, fun _ => by simp only [a2 hz]⟩
    · rw [if_pos hz]; exact ⟨a1, fun e => absurd e hz⟩
  rw [if_neg c3]
  by_cases c7 : h.k = 7
  · rw [if_pos c7]
    iterate 6 rw [if_neg (by omega)]
    rw [if_neg (by omega), if_neg (by omega)]
    by_cases hz : (allR g args sc).2 = 0
    · rw [if_neg (nn hz), if_pos c7]
      exact ⟨a1.trans hz, fun _ => by simp only [a2 hz]⟩
    · rw [if_pos hz]; exact ⟨a1, fun e => absurd e hz⟩
  rw [if_neg c7]
  have allR_len : ∀ (l : List Ph), (allR g l sc).2 = 0 → (allR g l sc).1.length = l.length := by
    intro l
    induction l with
    | nil => intro _; rfl
    | cons p l ih =>
      intro hz
      rw [allR] at hz ⊢
      split at hz
      · exact absurd hz (by assumption)
      · rename_i h1
        rw [if_neg h1]
        split at hz
        · exact absurd hz (by assumption)
        · rename_i h2
          rw [if_neg h2, List.length_cons, List.length_cons, ih (by simpa using h2)]
  by_cases c26 : h.k = 26
  · rw [if_pos c26]
    iterate 6 rw [if_neg (by omega)]
    rw [if_neg (by omega), if_neg (by omega)]
    by_cases hz : (allR g args sc).2 = 0
    · rw [if_neg (nn hz), if_neg c7, if_pos c26]
      refine ⟨a1.trans hz, fun _ => ?_⟩
      have hl := allR_len args hz
      have hn : args.length = 1 := by
        unfold formQ at hf
        rw [if_neg (by omega), if_pos (by omega)] at hf
        split at hf
        · assumption
        · omega
      rw [a2 hz]
      obtain ⟨x, hx⟩ := List.length_eq_one_iff.1 (hl.trans hn)
      rw [hx]; rfl
    · rw [if_pos hz]; exact ⟨a1, fun e => absurd e hz⟩
  rw [if_neg c26]
  by_cases c25 : h.k = 25
  · rw [if_pos c25]
    iterate 6 rw [if_neg (by omega)]
    cases ho : lookS opE h.nm with
    | none => rw [if_pos ⟨c25, rfl⟩]; exact wrong_ok (by decide)
    | some s =>
      rw [if_neg (by simp), if_neg (by omega)]
      by_cases hz : (allR g args sc).2 = 0
      · rw [if_neg (nn hz), if_neg c7, if_neg c26, if_pos c25]
        refine ⟨a1.trans hz, fun _ => ?_⟩
        have hl := allR_len args hz
        have hn : args.length = 2 := by
          unfold formQ at hf
          rw [if_neg (by omega), if_neg (by omega), if_pos (by omega)] at hf
          split at hf
          · assumption
          · omega
        simp only [a2 hz]
        match hx : (allR g args sc).1, hl.trans hn with
        | [x, y], _ => rfl
      · rw [if_pos hz]; exact ⟨a1, fun e => absurd e hz⟩
  rw [if_neg c25]
  by_cases c9 : h.k = 9
  · rw [if_pos c9, if_pos c9]
    unfold stepP stepR
    split
    · obtain ⟨s1, s2⟩ := seen_ok sDot sc
      exact ⟨s1, fun e => by simp only [s2 e]⟩
    · exact wrong_ok (by decide)
  rw [if_neg c9, if_neg c9]
  by_cases c10 : h.k = 10
  · rw [if_pos c10]
    have e25 : ¬(h.k = 25 ∧ lookS opE h.nm = none) := fun e => c25 e.1
    by_cases hm : madeQ h.n h.nm = 0
    · have e10 : ¬(h.k = 10 ∧ madeQ h.n h.nm ≠ 0) := fun e => e.2 hm
      rw [if_neg (nn hm)]
      iterate 5 rw [if_neg (by omega)]
      rw [if_neg e25, if_neg e10]
      by_cases hz : (allR g args sc).2 = 0
      · rw [if_neg (nn hz), if_neg c7, if_neg c26, if_neg c25, if_pos c10]
        exact ⟨a1.trans hz, fun _ => by simp only [a2 hz]⟩
      · rw [if_pos hz]; exact ⟨a1, fun e => absurd e hz⟩
    · have e10 : h.k = 10 ∧ madeQ h.n h.nm ≠ 0 := ⟨c10, hm⟩
      have hm' : madeQ h.n h.nm ≠ 0 := hm
      rw [if_pos hm']
      iterate 5 rw [if_neg (by omega)]
      rw [if_neg e25, if_pos e10]
      exact wrong_ok hm
  rw [if_neg c10]
  by_cases c8 : h.k = 8
  · rw [if_pos c8]
    iterate 4 rw [if_neg (by omega)]
    rw [if_pos c8]
    unfold callP callR
    split
    · rename_i hw
      split
      · exact wrong_ok (by decide)
      · by_cases w1 : h.nm = sTrue
        · rw [w1]; exact Agr.rfl' _
        by_cases w2 : h.nm = sFalse
        · rw [w2]; exact Agr.rfl' _
        rw [if_neg w1, if_neg w2, if_neg w1]
        split
        · exact seen_ok _ _
        · rename_i w3
          have w4 : h.nm = sLastW := by rcases hw with h | h | h | h <;> first | assumption | contradiction
          rw [if_pos w4]; exact seen_ok _ _
    · split
      · exact wrong_ok (by decide)
      · split
        · exact wrong_ok (by decide)
        · exact ⟨a1, fun e => by simp only [a2 e]⟩
  rw [if_neg c8]
  by_cases c21 : h.k = 21
  · rw [if_pos c21, if_pos c21]
    unfold pathP pathR
    obtain ⟨h1, h2⟩ := A.ok (argAt args 0) sc
    by_cases hz : (g (argAt args 0) sc).2 = 0
    · rw [if_neg (nn hz)]
      simp only [h1, hz]
      split
      · split
        · exact ⟨rfl, fun _ => by simp only [h2 hz]⟩
        · exact wrong_ok (by decide)
      · obtain ⟨h3, h4⟩ := A.ok (argAt args 1) (sc ++ [sDot])
        exact ⟨h3, fun e => by simp only [h2 hz, h4 e]⟩
    · rw [if_pos hz]
      refine ⟨?_, fun e => absurd e hz⟩
      split
      · split
        · exact h1
        · rw [wrong_bad (by rw [h1]; exact hz)]; exact h1
      · simp only [h1]; exact A.bad _ _ _ hz
  rw [if_neg c21, if_neg c21]
  by_cases c22 : h.k = 22
  · rw [if_pos c22, if_pos c22]
    obtain ⟨h1, h2⟩ := A.ok (argAt args 0) sc
    rw [h1]
    exact fil_ok A sc _ _ _ _ h2
  rw [if_neg c22, if_neg c22]
  by_cases c23 : h.k = 23 ∨ h.k = 24
  · rw [if_pos c23, if_pos c23]
    unfold quantP someR
    split
    · exact wrong_ok (by decide)
    · obtain ⟨h1, h2⟩ := A.ok (argAt args 0) sc
      obtain ⟨h3, h4⟩ := A.ok (argAt args 1) (sc ++ [h.nm])
      by_cases hz : (g (argAt args 0) sc).2 = 0
      · rw [if_neg (nn hz)]
        simp only [h1, hz]
        exact ⟨h3, fun e => by simp only [h2 hz, h4 e]⟩
      · rw [if_pos hz]
        exact ⟨by simp only [h1]; exact A.bad _ _ _ hz, fun e => absurd e hz⟩
  rw [if_neg c23, if_neg c23]
  have c28 : h.k = 28 := by
    unfold formQ at hf
    repeat' split at hf
    all_goals omega
  rw [if_pos c28]
  unfold flworP flworR
  by_cases hc : clsQ cls 0 = 0
  · rw [if_neg (nn hc), if_neg (nn hc)]; exact tup_ok A cls _ _ _
  · rw [if_pos hc, if_pos hc]; exact wrong_ok hc
end
theorem low_agree : ∀ n : Nat, Agree (lowP n) (lowR n)
  | 0 => ⟨fun p sc => Agr.rfl' _, fun p sc flt h => rfl⟩
  | n + 1 => ⟨fun p sc => low1_ok (low_agree n) p.h p.args p.cls sc, fun p sc flt h => low1_bad (low_agree n) p.h p.args p.cls sc flt h⟩
end Go.Proofs.YtdmkfkjdielmiaaDoor
namespace Go.Proofs.YtdmkfkjdielmiaaDoor
open Go Go.Proofs.YtdmkfkjdielmiaaDoor.Ab
variable [Glo] [U8] [CAr]
set_option maxHeartbeats 4000000
set_option maxRecDepth 20000
open FN44 in
theorem chk1_A (h : Xh) (l : List Ex) (hkind : h.k = 1) (ok : XhOk h) (hl : l.length ≤ 1048576) (hcount : coreMany h.k < 0 ∨ coreMany h.k = (l.length : Int)) (sc : List (List UInt8)) (hsc : sc.length + 2 ≤ 50000000) (hown : exOwn h l.length sc = 0) (id : Nat) (a b c : Int)
    (ih : ∀ x, x ∈ l → ∀ (sc' : List (List UInt8)), sc'.length ≤ sc.length + 2 → ChkAt id x sc')
    (H : Heap) (K : V → Heap → Prop) (hr : H[id]? = some (cntW a b c)) (hk : ∀ a' b' c', (efQ (.mk h l) sc = 0 → a' = a + exHow 5 6 (.mk h l) ∧ b' = b + exHow 10 10 (.mk h l) ∧ c' = c + exN (.mk h l)) → K (.d (.i .i64 (efQ (.mk h l) sc))) (H.set id (cntW a' b' c'))) :
    ACalls Tryd.prog 44 [exV h l, .d (.sl 1 (sc.map strRow)), .pt id 0 0 0] H K := by
  have hM := many_A 1
  have cm : coreMany 1 = 0 := rfl
  rw [efQ_eq (by omega) hcount, if_pos hown] at hk
  rw [exHow, exHow, exN, hkind] at hk
  rw [hkind, cm] at hcount
  have hO := fun H K hk => own_A h l ok hl sc (by omega) H K hk
  rw [hown, exV_k hkind] at hO
  rw [exV_k hkind]
  have hid := lt_of_get hr
  have hr' := hr
  rw [cntW, cntC] at hr'
  have hss : ∀ X Y, (H.set id X).set id Y = H.set id Y := fun X Y => List.set_set ..
  have hgs : ∀ X, (H.set id X)[id]? = some X := fun X => get_self hr X
  have m2 : ((0 : Int) = (l.length : Int)) = True := eq_true (by omega)
  rw [cm] at hM
  refine We ?_
  have c21 := hM; have c22 := hO; have us := an m2 (an hr' (an hss hgs))
  (repeat' (first | with_reducible (first | refine And.intro ?_ ?_ | intro _ | (refine hKv _ _ (AWp_nop ?_); clear hKv Kv) | (refine hKA ?_; clear hKA hKB KA KB) | (refine hKB ?_; clear hKA hKB KA KB) | refine Wp ?_ | fail) | ((first | with_reducible (first | (refine hKv _ _ ?_; clear hKv Kv) | (refine Wr ?_; intro Kv hKv) | refine AWp_retR ?_ | fail) | refine Wc ?_ | fail); try simp (dsimp := false) only [go_sem, Nat.reduceAdd, Nat.reduceBEq, Nat.reduceEqDiff, Nat.reduceLT, Nat.reduceLeDiff, Nat.reduceMul, Int.reduceToNat, reduceCtorEq, ↓reduceIte, us, Bool.false_and, Bool.true_and, Int.reduceEq, Int.reduceLE, Int.reduceLT, Int.reduceNeg, List.length_set, List.map_cons, List.map_nil, hid, not_false_eq_true, not_true_eq_false, wI_add]) | (refine AWp_condC rfl ?_; intro KA KB hKA hKB; try simp only [onB_true, onB_false, onB_dec, onB_ndec, onB_not, onB_and, onB_or]) | (refine AWp_condA rfl ?_ ?_) | with_reducible (first | refine onB_of ?_ ?_ | rfl) | omega))
  all_goals first
    | assumption
    | omega
    | skip
  refine AWp_whileG (fun i : Nat => i ≤ l.length ∧ efL (l.drop i) (if i = 0 then sc else exInner h sc) (exInner h sc) = efL l sc (exInner h sc))
    (fun i => [(1, .d (.sl 1 (sc.map strRow))), (2, .pt id 0 0 0), (3, .rp [.i .i64 1, .i .i64 h.it.k, .i .i64 h.it.n, .s h.it.s, .s h.nm, .s h.at_, .i .i64 h.n, .i .i64 h.ax, .i .i64 h.tk, .s h.tn, .sl 11 (l.map exD)]), (68, .d (.sl 11 (l.map exD))), (69, .d (.i .i64 l.length)), (70, .d (.i .i64 i))])
    (fun i => H.set id (cntW (a + exHows 5 6 (l.take i)) (b + exHows 10 10 (l.take i)) (c + 1 + exNs (l.take i)))) (fun i => l.length - i) 0 ⟨Nat.zero_le _, rfl⟩ ⟨[], ?_⟩ ?_ ?_ ?_ ?_
  · simp [cntW, cntC, exHows, exNs]
  · simp (dsimp := false) only [go_sem, Nat.reduceAdd, Nat.reduceBEq, Nat.reduceEqDiff, Nat.reduceLT, Nat.reduceLeDiff, Nat.reduceMul, Int.reduceToNat, reduceCtorEq, ↓reduceIte, not_true_eq_false, not_false_eq_true, Bool.true_and, Bool.false_and, Int.reduceEq, Int.reduceLT, Int.reduceLE, Int.reduceNeg, List.map_cons, List.map_nil, m2, hr', hid, hss, hgs, wI_add, List.length_set]
    first | done | (simp [hid]; done)
  · intro i _; simp
  · intro i _; exact closed_set (closed_self H) (cntC_bel _ _ _ _)
  rintro i ⟨hi, hv⟩
  have t2 : ((0 : Int) ≤ (i : Int)) = True := eq_true (by omega)
  have y1 := exNs_le_take l i
  have y2 := exHows_le 5 6 (l.take i)
  have y3 := exHows_le 10 10 (l.take i)
  by_cases hil : i < l.length
  case neg =>
    have t1 : ((i : Int) < (l.length : Int)) = False := eq_false (by omega)
    rw [List.drop_eq_nil_of_le (by omega), efL_nil] at hv
    rw [List.take_of_length_le (by omega)]
    replace hk := hk (a + exHows 5 6 l) (b + exHows 10 10 l) (c + 1 + exNs l) (fun _ => ⟨by simp; try omega, by simp; try omega, by simp; omega⟩)
    rw [← hv] at hk
    have us := an t1 t2
    exact W42
  exact absurd hil (by omega)
end Go.Proofs.YtdmkfkjdielmiaaDoor
