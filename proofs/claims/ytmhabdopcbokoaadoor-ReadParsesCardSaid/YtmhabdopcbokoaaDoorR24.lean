/- The grammar of queries, in plain words: what a parser of tokens makes, level by level. No condition. -/
import Derived.Test.YtmhabdopcbokoaaDoorR23
set_option linter.all false
set_option linter.unusedSimpArgs false
set_option linter.unusedVariables false
namespace Go.Proofs.YtmhabdopcbokoaaDoor.Gq
open Go Go.Proofs.YtmhabdopcbokoaaDoor.Ab
variable [Glo]
set_option maxRecDepth 20000
structure Ps where
  p : Nat
  e : Int
abbrev Bs := List UInt8
def tokAt (L : List Tk) (i : Nat) : Tk := L.getD i ⟨0, [], 0⟩
def isK (t : Tk) : Bool := decide (t.k = 5) || decide (t.k = 1)
def isN (L : List Tk) (s : Bs) (st : Ps) : Bool := decide (st.e = 0) && (isK (tokAt L st.p) && decide ((tokAt L st.p).s = s))
def wrongP (e : Int) (st : Ps) : Ps := if st.e = 0 then ⟨st.p, e⟩ else st
def stuckP (L : List Tk) (st : Ps) : Ps := wrongP (if L.length ≤ st.p then 5 else 4) st
def nxt (st : Ps) : Ps := ⟨st.p + 1, st.e⟩
def hasP (L : List Tk) (s : Bs) (st : Ps) : Ps := if isN L s st = true then nxt st else st
def mustP (L : List Tk) (s : Bs) (st : Ps) : Ps := if isN L s st = true then nxt st else stuckP L st
def kindT (L : List Tk) (k : Int) (st : Ps) : Bs := if st.e = 0 ∧ (tokAt L st.p).k = k then (tokAt L st.p).s else []
def kindP (L : List Tk) (k : Int) (st : Ps) : Ps := if st.e = 0 then (if (tokAt L st.p).k = k then nxt st else stuckP L st) else st
def levP (n : Int) (st : Ps) : Ps := if 30 < n then wrongP 8 st else st
def mkAt (L : List Tk) (i : Nat) (s : Bs) : Bool := decide ((tokAt L i).k = 5) && decide ((tokAt L i).s = s)
def opensP (L : List Tk) (s : Bs) (st : Ps) : Bool := isN L s st && decide ((tokAt L (st.p + 1)).k = 4)
abbrev PR := Ph × Ps
def ph0 : Phh := ⟨0, ⟨0, 0, []⟩, [], 0, 0, 0, []⟩
def pNil : Ph := .mk ph0 [] []
def pSeq (l : List Ph) : Ph := .mk { ph0 with k := 3 } l []
def pStep (ax tk : Int) (tn : Bs) : Ph := .mk { ph0 with k := 9, ax := ax, tk := tk, tn := tn } [] []
def pPath (a b : Ph) : Ph := .mk { ph0 with k := 21 } [a, b] []
def pRoot : Ph := .mk { ph0 with k := 11 } [] []
def pAll : Ph := pStep 3 1 []
def sComma : Bs := [44]
def sFor : Bs := [102, 111, 114]
def sLet : Bs := [108, 101, 116]
def sSome : Bs := [115, 111, 109, 101]
def sEvery : Bs := [101, 118, 101, 114, 121]
def sIf : Bs := [105, 102]
def sIn : Bs := [105, 110]
def sSatisfies : Bs := [115, 97, 116, 105, 115, 102, 105, 101, 115]
def sThen : Bs := [116, 104, 101, 110]
def sElse : Bs := [101, 108, 115, 101]
def sAt : Bs := [97, 116]
def sBe : Bs := [58, 61]
def sWhere : Bs := [119, 104, 101, 114, 101]
def sOrder : Bs := [111, 114, 100, 101, 114]
def sBy : Bs := [98, 121]
def sDescending : Bs := [100, 101, 115, 99, 101, 110, 100, 105, 110, 103]
def sReturn : Bs := [114, 101, 116, 117, 114, 110]
def sOpen : Bs := [40]
def sClose : Bs := [41]
def sOpenB : Bs := [91]
def sCloseB : Bs := [93]
def sOpenC : Bs := [123]
def sCloseC : Bs := [125]
def sMinus : Bs := [45]
def sSlash : Bs := [47]
def sSlash2 : Bs := [47, 47]
def sColon2 : Bs := [58, 58]
def sAtS : Bs := [64]
def sDot : Bs := [46]
def sDot2 : Bs := [46, 46]
def sStar : Bs := [42]
def sNode : Bs := [110, 111, 100, 101]
def sText : Bs := [116, 101, 120, 116]
def sComment : Bs := [99, 111, 109, 109, 101, 110, 116]
def sElement : Bs := [101, 108, 101, 109, 101, 110, 116]
def sAttribute : Bs := [97, 116, 116, 114, 105, 98, 117, 116, 101]
def moreP (L : List Tk) (sep : Bs) (f : Ps → PR) : Nat → List Ph → Ps → List Ph × Ps
  | 0, l, st => (l, st)
  | k + 1, l, st => if isN L sep st = true then moreP L sep f k (l ++ [(f (nxt st)).1]) (f (nxt st)).2 else (l, st)
def exprF (L : List Tk) (al : Ps → PR) (n : Int) (st : Ps) : PR :=
  let r := al (levP n st)
  if isN L sComma r.2 = true then
    let q := moreP L sComma al (L.length + 1) [r.1] r.2
    (pSeq q.1, q.2)
  else r
def clF (x : Ph) (k : Int) (nm at_ : Bs) (d : Bool) : Cl := .mk ⟨k, nm, at_, d⟩ x
def forT (L : List Tk) (st : Ps) : Bs × Bs × Ps :=
  let v := kindT L 4 st
  let s1 := kindP L 4 st
  if isN L sAt s1 = true then (v, kindT L 4 (nxt s1), mustP L sIn (kindP L 4 (nxt s1))) else (v, [], mustP L sIn s1)
def letT (L : List Tk) (st : Ps) : Bs × Ps := (kindT L 4 st, mustP L sBe (kindP L 4 st))
def clsP (L : List Tk) (al : Ps → PR) : Nat → List Cl → Ps → List Cl × Ps
  | 0, l, st => (l, st)
  | k + 1, l, st =>
    if opensP L sFor st = true then
      let t := forT L (nxt st)
      clsP L al k (l ++ [clF (al t.2.2).1 1 t.1 t.2.1 false]) (al t.2.2).2
    else if opensP L sLet st = true then
      let t := letT L (nxt st)
      clsP L al k (l ++ [clF (al t.2).1 2 t.1 [] false]) (al t.2).2
    else (l, st)
def whereF (L : List Tk) (al : Ps → PR) (q : List Cl × Ps) : List Cl × Ps :=
  if isN L sWhere q.2 = true then (q.1 ++ [clF (al (nxt q.2)).1 3 [] [] false], (al (nxt q.2)).2) else q
def orderF (L : List Tk) (al : Ps → PR) (q : List Cl × Ps) : List Cl × Ps :=
  if isN L sOrder q.2 = true then
    let r := al (mustP L sBy (nxt q.2))
    (q.1 ++ [clF r.1 4 [] [] (isN L sDescending r.2)], hasP L sDescending r.2)
  else q
def flworF (L : List Tk) (al : Ps → PR) (st : Ps) : PR :=
  let q := orderF L al (whereF L al (clsP L al (L.length + 1) [] st))
  let r := al (mustP L sReturn q.2)
  (.mk { ph0 with k := 28 } [r.1] q.1, r.2)
def opsL (r : Nat) : List Bs :=
  match r with
  | 0 => [[111, 114]]
  | 1 => [[97, 110, 100]]
  | 2 => [[61], [33, 61], [60], [60, 61], [62], [62, 61], [105, 115], [60, 60], [62, 62]]
  | 3 => [[116, 111]]
  | 4 => [[43], [45]]
  | 5 => [[42], [100, 105, 118], [109, 111, 100]]
  | 6 => [[124], [117, 110, 105, 111, 110]]
  | _ => [[105, 110, 116, 101, 114, 115, 101, 99, 116], [101, 120, 99, 101, 112, 116]]
def opN (L : List Tk) (r : Nat) (st : Ps) : Bool := decide (st.e = 0) && (isK (tokAt L st.p) && decide ((tokAt L st.p).s ∈ opsL r))
def pBin (s : Bs) (a b : Ph) : Ph := .mk { ph0 with k := 25, nm := s } [a, b] []
def binL (L : List Tk) (r : Nat) (f : Ps → PR) : Nat → Ph → Ps → PR
  | 0, x, st => (x, st)
  | k + 1, x, st =>
    if opN L r st = true then
      let y := f (nxt st)
      if r = 2 ∨ r = 3 then (pBin (tokAt L st.p).s x y.1, y.2) else binL L r f k (pBin (tokAt L st.p).s x y.1) y.2
    else (x, st)
def opsF (L : List Tk) (mi : Ps → PR) : Nat → Ps → PR
  | 0, st => mi st
  | j + 1, st => binL L (7 - j) (opsF L mi j) (L.length + 1) (opsF L mi j st).1 (opsF L mi j st).2
def pMinus (x : Ph) : Ph := .mk { ph0 with k := 26 } [x] []
def minusF (L : List Tk) (mi way : Ps → PR) (n : Int) (st : Ps) : PR :=
  if isN L sMinus st = true then
    let r := mi (levP (n + 1) (nxt st))
    (pMinus r.1, r.2)
  else way st
def stepsB (L : List Tk) (st : Ps) : Bool :=
  !decide ((tokAt L st.p).k = 0) && (!decide ((tokAt L st.p).k = 5) || decide ((tokAt L st.p).s ∈ [sDot2, sDot, sAtS, sStar, sOpen]))
def wayL (L : List Tk) (pc : Ps → PR) : Nat → Ph → Ps → PR
  | 0, x, st => (x, st)
  | k + 1, x, st =>
    if isN L sSlash2 st = true then wayL L pc k (pPath (pPath x pAll) (pc (nxt st)).1) (pc (nxt st)).2
    else if isN L sSlash st = true then wayL L pc k (pPath x (pc (nxt st)).1) (pc (nxt st)).2
    else (x, st)
def wayF (L : List Tk) (pc : Ps → PR) (st : Ps) : PR :=
  if isN L sSlash2 st = true then wayL L pc (L.length + 1) (pPath (pPath pRoot pAll) (pc (nxt st)).1) (pc (nxt st)).2
  else if isN L sSlash st = true then
    (if stepsB L (nxt st) = true then wayL L pc (L.length + 1) (pPath pRoot (pc (nxt st)).1) (pc (nxt st)).2
    else wayL L pc (L.length + 1) pRoot (nxt st))
  else wayL L pc (L.length + 1) (pc st).1 (pc st).2
def kindsL : List Bs := [sNode, sText, sComment]
def axesL : List Bs := [[99, 104, 105, 108, 100], [100, 101, 115, 99, 101, 110, 100, 97, 110, 116], [100, 101, 115, 99, 101, 110, 100, 97, 110, 116, 45, 111, 114, 45, 115, 101, 108, 102], [115, 101, 108, 102], [112, 97, 114, 101, 110, 116], [97, 110, 99, 101, 115, 116, 111, 114], [97, 110, 99, 101, 115, 116, 111, 114, 45, 111, 114, 45, 115, 101, 108, 102], [102, 111, 108, 108, 111, 119, 105, 110, 103], [112, 114, 101, 99, 101, 100, 105, 110, 103], [102, 111, 108, 108, 111, 119, 105, 110, 103, 45, 115, 105, 98, 108, 105, 110, 103], [112, 114, 101, 99, 101, 100, 105, 110, 103, 45, 115, 105, 98, 108, 105, 110, 103], [97, 116, 116, 114, 105, 98, 117, 116, 101]]
def idx1 (l : List Bs) (s : Bs) : Int := 1 + txtAt l s
def testF (L : List Tk) (ax : Int) (st : Ps) : PR :=
  if isN L sStar st = true then (pStep ax 5 [], nxt st)
  else
    let s := kindT L 1 st
    let s1 := kindP L 1 st
    if idx1 kindsL s ≠ 0 ∧ isN L sOpen s1 = true then (pStep ax (idx1 kindsL s) [], mustP L sClose (nxt s1))
    else (pStep ax 4 s, s1)
def makesB (L : List Tk) (st : Ps) : Bool :=
  decide ((tokAt L st.p).k = 1) && (((decide ((tokAt L st.p).s = sElement) || decide ((tokAt L st.p).s = sAttribute)) && (decide ((tokAt L (st.p + 1)).k = 1) && mkAt L (st.p + 2) sOpenC)) ||
    (decide ((tokAt L st.p).s = sText) && mkAt L (st.p + 1) sOpenC))
def childB (L : List Tk) (st : Ps) : Bool :=
  isN L sStar st || (decide ((tokAt L st.p).k = 1) && ((!mkAt L (st.p + 1) sOpen || (decide ((tokAt L st.p).s ∈ kindsL) && mkAt L (st.p + 2) sClose)) && !makesB L st))
def filtF (L : List Tk) (ex : Ps → PR) (r : PR) : PR :=
  if isN L sOpenB r.2 = true then
    let q := moreP L sOpenB (fun st => ((ex st).1, mustP L sCloseB (ex st).2)) (L.length + 1) [r.1] r.2
    (.mk { ph0 with k := 22 } q.1 [], q.2)
  else r
def stepF (L : List Tk) (J : Ph) (first : Ps → PR) (st : Ps) : PR :=
  if (tokAt L st.p).k = 1 ∧ mkAt L (st.p + 1) sColon2 = true then
    (if idx1 axesL (tokAt L st.p).s = 0 then (J, wrongP 6 st) else testF L (idx1 axesL (tokAt L st.p).s) (nxt (nxt st)))
  else if isN L sAtS st = true then testF L 12 (nxt st)
  else if isN L sDot2 st = true then (pStep 5 1 [], nxt st)
  else if childB L st = true then testF L 1 st
  else first st
def paceF (L : List Tk) (J : Ph) (ex first : Ps → PR) (n : Int) (st : Ps) : PR :=
  let s1 := levP n st
  if s1.e ≠ 0 then (pNil, s1) else filtF L ex (stepF L J first s1)
def madeF (L : List Tk) (ex : Ps → PR) (st : Ps) : PR :=
  let s := (tokAt L st.p).s
  let s1 := nxt st
  let k : Int := if s = sElement then 1 else if s = sAttribute then 2 else 3
  let nm := if s = sElement ∨ s = sAttribute then kindT L 1 s1 else []
  let s2 := if s = sElement ∨ s = sAttribute then kindP L 1 s1 else s1
  let s3 := mustP L sOpenC s2
  if isN L sCloseC s3 = true then (.mk { ph0 with k := 10, n := k, nm := nm } [pSeq []] [], nxt s3)
  else (.mk { ph0 with k := 10, n := k, nm := nm } [(ex s3).1] [], mustP L sCloseC (ex s3).2)
def callF (L : List Tk) (al : Ps → PR) (st : Ps) : PR :=
  let nm := kindT L 1 st
  let s2 := mustP L sOpen (kindP L 1 st)
  if isN L sClose s2 = true then (.mk { ph0 with k := 8, nm := nm } [] [], nxt s2)
  else
    let q := moreP L sComma al (L.length + 1) [(al s2).1] (al s2).2
    (.mk { ph0 with k := 8, nm := nm } q.1 [], mustP L sClose q.2)
def firstF (L : List Tk) (ex al : Ps → PR) (st : Ps) : PR :=
  if st.e ≠ 0 then (pNil, st)
  else if (tokAt L st.p).k = 2 then (.mk { ph0 with k := 1, it := ⟨2, (tokAt L st.p).n, []⟩ } [] [], nxt st)
  else if (tokAt L st.p).k = 3 then (.mk { ph0 with k := 1, it := ⟨3, 0, (tokAt L st.p).s⟩ } [] [], nxt st)
  else if (tokAt L st.p).k = 4 then (.mk { ph0 with k := 2, nm := (tokAt L st.p).s } [] [], nxt st)
  else if isN L sDot st = true then (.mk { ph0 with k := 27 } [] [], nxt st)
  else if isN L sOpen st = true then
    (if isN L sClose (nxt st) = true then (pSeq [], nxt (nxt st)) else ((ex (nxt st)).1, mustP L sClose (ex (nxt st)).2))
  else if makesB L st = true then madeF L ex st
  else if (tokAt L st.p).k = 1 then callF L al st
  else (pNil, stuckP L st)
def quantF (L : List Tk) (al : Ps → PR) (k : Int) (st : Ps) : PR :=
  let v := kindT L 4 (nxt st)
  let a := al (mustP L sIn (kindP L 4 (nxt st)))
  let b := al (mustP L sSatisfies a.2)
  (.mk { ph0 with k := k, nm := v } [a.1, b.1] [], b.2)
def ifF (L : List Tk) (ex al : Ps → PR) (st : Ps) : PR :=
  let c := ex (nxt (nxt st))
  let a := al (mustP L sThen (mustP L sClose c.2))
  let b := al (mustP L sElse a.2)
  (.mk { ph0 with k := 7 } [c.1, a.1, b.1] [], b.2)
def aloneF (L : List Tk) (ex al ops : Ps → PR) (n : Int) (st : Ps) : PR :=
  let s1 := levP n st
  if s1.e ≠ 0 then (pNil, s1)
  else if opensP L sFor s1 = true ∨ opensP L sLet s1 = true then flworF L al s1
  else if opensP L sSome s1 = true ∨ opensP L sEvery s1 = true then quantF L al (if isN L sSome s1 = true then 23 else 24) s1
  else if isN L sIf s1 = true ∧ mkAt L (s1.p + 1) sOpen = true then ifF L ex al s1
  else ops s1
structure Gr where
  ex : Ps → PR
  al : Ps → PR
  pc : Ps → PR
  mi : Ps → PR
def grF (L : List Tk) (J : Ph) (S : Gr) (n : Int) : Gr :=
  let mi := minusF L S.mi (wayF L S.pc) n
  ⟨exprF L S.al n, aloneF L S.ex S.al (opsF L mi 8) n, paceF L J S.ex (firstF L S.ex S.al) n, mi⟩
def gr (L : List Tk) (J : Ph) : Nat → Int → Gr
  | 0, _ => ⟨fun st => (pNil, st), fun st => (pNil, st), fun st => (pNil, st), fun st => (pNil, st)⟩
  | m + 1, n => grF L J (gr L J m (n + 1)) n
end Go.Proofs.YtmhabdopcbokoaaDoor.Gq
namespace Go.Proofs.YtmhabdopcbokoaaDoor.Gq
open Go Go.Proofs.YtmhabdopcbokoaaDoor.Ab
variable [Glo]
set_option maxRecDepth 20000
structure Le (L : List Tk) (a b : Ps) : Prop where
  lo : a.p ≤ b.p
  hi : b.p ≤ L.length
  er : a.e ≠ 0 → b = a
section
variable {L : List Tk} {a b c st : Ps} {s : Bs}
theorem Le.refl (h : a.p ≤ L.length) : Le L a a := ⟨Nat.le_refl _, h, fun _ => rfl⟩
theorem Le.trans (h : Le L a b) (k : Le L b c) : Le L a c := ⟨Nat.le_trans h.lo k.lo, k.hi, fun he => by
  have e1 := h.er he
  rw [e1] at k
  exact k.er he⟩
theorem Le.e0 (h : Le L a b) (hb : b.e = 0) : a.e = 0 := Decidable.by_contra fun he => by rw [h.er he] at hb; exact he hb
theorem tokAt_lt {i : Nat} (h : (tokAt L i).k ≠ 0) : i < L.length := by
  refine Decidable.by_contra fun hn => h ?_
  rw [tokAt, List.getD_eq_getElem?_getD, List.getElem?_eq_none (by omega)]
  rfl
theorem isK_ne {t : Tk} (h : isK t = true) : t.k ≠ 0 := by
  intro h0
  rw [isK, h0] at h
  cases h
theorem isN_e (h : isN L s st = true) : st.e = 0 := by
  unfold isN at h
  simp only [Bool.and_eq_true, decide_eq_true_eq] at h
  exact h.1
theorem isN_lt (h : isN L s st = true) : st.p < L.length := by
  unfold isN at h
  simp only [Bool.and_eq_true, decide_eq_true_eq] at h
  exact tokAt_lt (isK_ne h.2.1)
theorem opN_e {r : Nat} (h : opN L r st = true) : st.e = 0 := by
  unfold opN at h
  simp only [Bool.and_eq_true, decide_eq_true_eq] at h
  exact h.1
theorem opN_lt {r : Nat} (h : opN L r st = true) : st.p < L.length := by
  unfold opN at h
  simp only [Bool.and_eq_true, decide_eq_true_eq] at h
  exact tokAt_lt (isK_ne h.2.1)
theorem Le_nxt (h : st.p < L.length) (he : st.e = 0) : Le L st (nxt st) := ⟨by show st.p ≤ st.p + 1; omega, by show st.p + 1 ≤ _; omega, fun h => absurd he h⟩
theorem Le_nx (h : isN L s st = true) : Le L st (nxt st) := Le_nxt (isN_lt h) (isN_e h)
theorem Le_wrong (e : Int) (h : st.p ≤ L.length) : Le L st (wrongP e st) := by
  unfold wrongP
  split
  · rename_i he
    exact ⟨Nat.le_refl _, h, fun hn => absurd he hn⟩
  · exact .refl h
theorem Le_stuck (h : st.p ≤ L.length) : Le L st (stuckP L st) := Le_wrong _ h
theorem Le_has (h : st.p ≤ L.length) : Le L st (hasP L s st) := by
  unfold hasP
  split
  · rename_i hn; exact Le_nx hn
  · exact .refl h
theorem Le_must (h : st.p ≤ L.length) : Le L st (mustP L s st) := by
  unfold mustP
  split
  · rename_i hn; exact Le_nx hn
  · exact Le_stuck h
theorem Le_kind {k : Int} (hk : k ≠ 0) (h : st.p ≤ L.length) : Le L st (kindP L k st) := by
  unfold kindP
  split
  · rename_i he
    split
    · rename_i hk2; exact Le_nxt (tokAt_lt (by omega)) he
    · exact Le_stuck h
  · exact .refl h
theorem Le_lev (n : Int) (h : st.p ≤ L.length) : Le L st (levP n st) := by
  unfold levP
  split
  · exact Le_wrong _ h
  · exact .refl h
def Mo (L : List Tk) (f : Ps → PR) : Prop := ∀ st, st.p ≤ L.length → Le L st (f st).2
variable {f g : Ps → PR}
theorem Le_more (hf : Mo L f) : ∀ (k : Nat) (l : List Ph) (st : Ps), st.p ≤ L.length → Le L st (moreP L s f k l st).2
  | 0, l, st, h => .refl h
  | k + 1, l, st, h => by
    unfold moreP
    split
    · rename_i hn
      have h1 := Le_nx hn
      have h2 := hf _ h1.hi
      exact (h1.trans h2).trans (Le_more hf k _ _ h2.hi)
    · exact .refl h
theorem Mo_expr (hf : Mo L f) (n : Int) : Mo L (exprF L f n) := fun st h => by
  have h1 := Le_lev (L := L) n h
  have h2 := hf _ h1.hi
  unfold exprF
  simp only []
  split
  · exact (h1.trans h2).trans (Le_more hf _ _ _ h2.hi)
  · exact h1.trans h2
theorem Le_for (h : st.p ≤ L.length) : Le L st (forT L st).2.2 := by
  have h1 := Le_kind (L := L) (k := 4) (by decide) h
  unfold forT
  simp only []
  split
  · rename_i hn
    have h2 := Le_nx hn
    have h3 := Le_kind (L := L) (k := 4) (by decide) h2.hi
    exact ((h1.trans h2).trans h3).trans (Le_must h3.hi)
  · exact h1.trans (Le_must h1.hi)
theorem Le_let (h : st.p ≤ L.length) : Le L st (letT L st).2 := (Le_kind (L := L) (k := 4) (by decide) h).trans (Le_must (Le_kind (L := L) (k := 4) (by decide) h).hi)
theorem opens_N (h : opensP L s st = true) : isN L s st = true := by
  unfold opensP at h
  simp only [Bool.and_eq_true] at h
  exact h.1
theorem Le_cls (hf : Mo L f) : ∀ (k : Nat) (l : List Cl) (st : Ps), st.p ≤ L.length → Le L st (clsP L f k l st).2
  | 0, l, st, h => .refl h
  | k + 1, l, st, h => by
    unfold clsP
    split
    · rename_i hn
      have h1 := Le_nx (opens_N hn)
      have h2 := Le_for h1.hi
      have h3 := hf _ h2.hi
      exact ((h1.trans h2).trans h3).trans (Le_cls hf k _ _ h3.hi)
    · split
      · rename_i hn
        have h1 := Le_nx (opens_N hn)
        have h2 := Le_let h1.hi
        have h3 := hf _ h2.hi
        exact ((h1.trans h2).trans h3).trans (Le_cls hf k _ _ h3.hi)
      · exact .refl h
theorem Le_where (hf : Mo L f) (q : List Cl × Ps) (h : q.2.p ≤ L.length) : Le L q.2 (whereF L f q).2 := by
  unfold whereF
  split
  · rename_i hn
    have h1 := Le_nx hn
    exact h1.trans (hf _ h1.hi)
  · exact .refl h
theorem Le_order (hf : Mo L f) (q : List Cl × Ps) (h : q.2.p ≤ L.length) : Le L q.2 (orderF L f q).2 := by
  unfold orderF
  split
  · rename_i hn
    have h1 := Le_nx hn
    have h2 := Le_must (L := L) (s := sBy) h1.hi
    have h3 := hf _ h2.hi
    exact ((h1.trans h2).trans h3).trans (Le_has h3.hi)
  · exact .refl h
theorem Mo_flwor (hf : Mo L f) : Mo L (flworF L f) := fun st h => by
  have h1 := Le_cls hf (L.length + 1) [] st h
  have h2 := Le_where hf _ h1.hi
  have h3 := Le_order hf _ h2.hi
  have h4 := Le_must (L := L) (s := sReturn) h3.hi
  exact (((h1.trans h2).trans h3).trans h4).trans (hf _ h4.hi)
theorem Le_bin (hf : Mo L f) (r : Nat) : ∀ (k : Nat) (x : Ph) (st : Ps), st.p ≤ L.length → Le L st (binL L r f k x st).2
  | 0, x, st, h => .refl h
  | k + 1, x, st, h => by
    unfold binL
    split
    · rename_i hn
      have h1 := Le_nxt (opN_lt hn) (opN_e hn)
      have h2 := hf _ h1.hi
      simp only []
      split
      · exact h1.trans h2
      · exact (h1.trans h2).trans (Le_bin hf r k _ _ h2.hi)
    · exact .refl h
theorem Mo_ops (hf : Mo L f) : ∀ j : Nat, Mo L (opsF L f j)
  | 0 => hf
  | j + 1 => fun st h => (Mo_ops hf j st h).trans (Le_bin (Mo_ops hf j) _ _ _ _ (Mo_ops hf j st h).hi)
theorem Mo_minus (hf : Mo L f) (hg : Mo L g) (n : Int) : Mo L (minusF L f g n) := fun st h => by
  unfold minusF
  split
  · rename_i hn
    have h1 := Le_nx hn
    have h2 := Le_lev (L := L) (n + 1) h1.hi
    exact (h1.trans h2).trans (hf _ h2.hi)
  · exact hg _ h
theorem Le_wayL (hf : Mo L f) : ∀ (k : Nat) (x : Ph) (st : Ps), st.p ≤ L.length → Le L st (wayL L f k x st).2
  | 0, x, st, h => .refl h
  | k + 1, x, st, h => by
    unfold wayL
    split
    · rename_i hn
      have h1 := Le_nx hn
      have h2 := hf _ h1.hi
      exact (h1.trans h2).trans (Le_wayL hf k _ _ h2.hi)
    · split
      · rename_i hn
        have h1 := Le_nx hn
        have h2 := hf _ h1.hi
        exact (h1.trans h2).trans (Le_wayL hf k _ _ h2.hi)
      · exact .refl h
theorem Mo_way (hf : Mo L f) : Mo L (wayF L f) := fun st h => by
  unfold wayF
  split
  · rename_i hn
    have h1 := Le_nx hn
    have h2 := hf _ h1.hi
    exact (h1.trans h2).trans (Le_wayL hf _ _ _ h2.hi)
  · split
    · rename_i hn
      have h1 := Le_nx hn
      have h2 := hf _ h1.hi
      split
      · exact (h1.trans h2).trans (Le_wayL hf _ _ _ h2.hi)
      · exact h1.trans (Le_wayL hf _ _ _ h1.hi)
    · exact (hf _ h).trans (Le_wayL hf _ _ _ (hf _ h).hi)
theorem Mo_test (ax : Int) : Mo L (testF L ax) := fun st h => by
  unfold testF
  simp only []
  split
  · rename_i hn; exact Le_nx hn
  · have h1 := Le_kind (L := L) (k := 1) (by decide) h
    split
    · rename_i hn
      have h2 := Le_nx hn.2
      exact (h1.trans h2).trans (Le_must h2.hi)
    · exact h1
theorem Le_filt (hf : Mo L f) (r : PR) (h : r.2.p ≤ L.length) : Le L r.2 (filtF L f r).2 := by
  unfold filtF
  split
  · exact Le_more (fun st h => (hf st h).trans (Le_must (hf st h).hi)) _ _ _ h
  · exact .refl h
theorem mkAt_k {i : Nat} (h : mkAt L i s = true) : (tokAt L i).k ≠ 0 := by
  unfold mkAt at h
  simp only [Bool.and_eq_true, decide_eq_true_eq] at h
  omega
theorem Le_step {J : Ph} (hf : Mo L f) (h : st.p ≤ L.length) (he : st.e = 0) : Le L st (stepF L J f st).2 := by
  unfold stepF
  split
  · rename_i hc
    split
    · exact Le_wrong _ h
    · have h1 : Le L st (nxt st) := Le_nxt (tokAt_lt (by omega)) he
      have h2 : Le L (nxt st) (nxt (nxt st)) := Le_nxt (tokAt_lt (mkAt_k hc.2)) he
      exact (h1.trans h2).trans (Mo_test _ _ h2.hi)
  · split
    · rename_i hn
      have h1 := Le_nx hn
      exact h1.trans (Mo_test _ _ h1.hi)
    · split
      · rename_i hn; exact Le_nx hn
      · split
        · exact Mo_test _ _ h
        · exact hf _ h
theorem Mo_pace {J : Ph} (hf : Mo L f) (hg : Mo L g) (n : Int) : Mo L (paceF L J f g n) := fun st h => by
  have h1 := Le_lev (L := L) n h
  unfold paceF
  simp only []
  split
  · exact h1
  · rename_i he
    have he := Decidable.not_not.1 he
    have h2 := Le_step (J := J) hg h1.hi he
    exact (h1.trans h2).trans (Le_filt hf _ h2.hi)
theorem Le_made (hf : Mo L f) (h : st.p < L.length) (he : st.e = 0) : Le L st (madeF L f st).2 := by
  have h1 := Le_nxt h he
  unfold madeF
  simp only []
  have h2 : Le L (nxt st) (if (tokAt L st.p).s = sElement ∨ (tokAt L st.p).s = sAttribute then kindP L 1 (nxt st) else nxt st) := by
    split
    · exact Le_kind (by decide) h1.hi
    · exact .refl h1.hi
  generalize (if (tokAt L st.p).s = sElement ∨ (tokAt L st.p).s = sAttribute then kindP L 1 (nxt st) else nxt st) = s2 at h2 ⊢
  have h3 := Le_must (L := L) (s := sOpenC) h2.hi
  have h4 := (h1.trans h2).trans h3
  split
  · rename_i hn; exact h4.trans (Le_nx hn)
  · have h5 := hf _ h4.hi
    exact (h4.trans h5).trans (Le_must h5.hi)
theorem Mo_call (hf : Mo L f) : Mo L (callF L f) := fun st h => by
  have h1 := Le_kind (L := L) (k := 1) (by decide) h
  have h2 := Le_must (L := L) (s := sOpen) h1.hi
  have h3 := h1.trans h2
  unfold callF
  simp only []
  split
  · rename_i hn; exact h3.trans (Le_nx hn)
  · have h4 := hf _ h3.hi
    have h5 := Le_more (s := sComma) hf (L.length + 1) [(f (mustP L sOpen (kindP L 1 st))).1] _ h4.hi
    exact ((h3.trans h4).trans h5).trans (Le_must h5.hi)
theorem makes_k (h : makesB L st = true) : (tokAt L st.p).k = 1 := by
  unfold makesB at h
  simp only [Bool.and_eq_true, decide_eq_true_eq] at h
  exact h.1
theorem Mo_first (hf : Mo L f) (hg : Mo L g) : Mo L (firstF L f g) := fun st h => by
  unfold firstF
  split
  · exact .refl h
  · rename_i he
    have he := Decidable.not_not.1 he
    split
    · exact Le_nxt (tokAt_lt (by omega)) he
    · split
      · exact Le_nxt (tokAt_lt (by omega)) he
      · split
        · exact Le_nxt (tokAt_lt (by omega)) he
        · split
          · rename_i hn; exact Le_nx hn
          · split
            · rename_i hn
              have h1 := Le_nx hn
              split
              · rename_i hn2; exact h1.trans (Le_nx hn2)
              · have h2 := hf _ h1.hi
                exact (h1.trans h2).trans (Le_must h2.hi)
            · split
              · rename_i hm
                exact Le_made hf (tokAt_lt (by have := makes_k hm; omega)) he
              · split
                · exact Mo_call hg _ h
                · exact Le_stuck h
theorem Le_quant (hf : Mo L f) (k : Int) (h : st.p < L.length) (he : st.e = 0) : Le L st (quantF L f k st).2 := by
  have h1 := Le_nxt h he
  have h2 := Le_kind (L := L) (k := 4) (by decide) h1.hi
  have h3 := Le_must (L := L) (s := sIn) h2.hi
  have h4 := hf _ h3.hi
  have h5 := Le_must (L := L) (s := sSatisfies) h4.hi
  exact ((((h1.trans h2).trans h3).trans h4).trans h5).trans (hf _ h5.hi)
theorem Le_if (hf : Mo L f) (hg : Mo L g) (h : st.p + 1 < L.length) (he : st.e = 0) : Le L st (ifF L f g st).2 := by
  have h1 := Le_nxt (L := L) (st := st) (by omega) he
  have h2 := h1.trans (Le_nxt (L := L) (st := nxt st) h he)
  have h3 := hf _ h2.hi
  have h4 := Le_must (L := L) (s := sClose) h3.hi
  have h5 := Le_must (L := L) (s := sThen) h4.hi
  have h6 := hg _ h5.hi
  have h7 := Le_must (L := L) (s := sElse) h6.hi
  exact (((((h2.trans h3).trans h4).trans h5).trans h6).trans h7).trans (hg _ h7.hi)
theorem Mo_alone {o : Ps → PR} (hf : Mo L f) (hg : Mo L g) (ho : Mo L o) (n : Int) : Mo L (aloneF L f g o n) := fun st h => by
  have h1 := Le_lev (L := L) n h
  unfold aloneF
  simp only []
  split
  · exact h1
  · rename_i he
    have he := Decidable.not_not.1 he
    split
    · exact h1.trans (Mo_flwor hg _ h1.hi)
    · split
      · rename_i hq
        have hl : (levP n st).p < L.length := by
          rcases hq with hq | hq
          · exact isN_lt (opens_N hq)
          · exact isN_lt (opens_N hq)
        exact h1.trans (Le_quant hg _ hl he)
      · split
        · rename_i hi
          exact h1.trans (Le_if hf hg (tokAt_lt (mkAt_k hi.2)) he)
        · exact h1.trans (ho _ h1.hi)
structure MoG (L : List Tk) (S : Gr) : Prop where
  ex : Mo L S.ex
  al : Mo L S.al
  pc : Mo L S.pc
  mi : Mo L S.mi
theorem MoG_F {J : Ph} {S : Gr} (h : MoG L S) (n : Int) : MoG L (grF L J S n) :=
  have hm := Mo_minus h.mi (Mo_way h.pc) n
  ⟨Mo_expr h.al n, Mo_alone h.ex h.al (Mo_ops hm 8) n, Mo_pace h.ex (Mo_first h.ex h.al) n, hm⟩
theorem MoG_gr {J : Ph} : ∀ (m : Nat) (n : Int), MoG L (gr L J m n)
  | 0, n => ⟨fun _ h => .refl h, fun _ h => .refl h, fun _ h => .refl h, fun _ h => .refl h⟩
  | m + 1, n => MoG_F (MoG_gr m (n + 1)) n
end
end Go.Proofs.YtmhabdopcbokoaaDoor.Gq
