/- The grammar in plain words: what is made is not larger than four times the tokens that are passed, and one. No condition. -/
import Derived.Test.YtmhabdopcbokoaaDoorR42
import Derived.Test.YtmhabdopcbokoaaDoorR18
set_option linter.all false
set_option linter.unusedSimpArgs false
set_option linter.unusedVariables false
namespace Go.Proofs.YtmhabdopcbokoaaDoor.Gq
open Go Go.Proofs.YtmhabdopcbokoaaDoor.Ab
variable [Glo]
set_option maxRecDepth 20000
theorem phNs_app (x : Ph) : ∀ l : List Ph, phNs (l ++ [x]) = phNs l + phN x
  | [] => by rw [List.nil_append, phNs_cons, phNs_nil]; omega
  | y :: l => by rw [List.cons_append, phNs_cons, phNs_cons, phNs_app x l]; omega
theorem clNs_app (x : Cl) : ∀ l : List Cl, clNs (l ++ [x]) = clNs l + clN x
  | [] => by rw [List.nil_append, clNs_cons, clNs_nil]; omega
  | y :: l => by rw [List.cons_append, clNs_cons, clNs_cons, clNs_app x l]; omega
theorem clF_N (x : Ph) (k : Int) (a b : Bs) (d : Bool) : clN (clF x k a b d) = phN x + 1 := by rw [clF, clN_eq]
theorem nil_N : phN pNil = 1 := by rw [pNil, phN_eq, phNs_nil, clNs_nil]
theorem step_N (a b : Int) (s : Bs) : phN (pStep a b s) = 1 := by rw [pStep, phN_eq, phNs_nil, clNs_nil]
theorem seq_N (l : List Ph) : phN (pSeq l) = phNs l + 1 := by rw [pSeq, phN_eq, clNs_nil]
theorem path_N (a b : Ph) : phN (pPath a b) = phN a + phN b + 1 := by rw [pPath, phN_eq, phNs_cons, phNs_cons, phNs_nil, clNs_nil]; omega
theorem root_N : phN pRoot = 1 := by rw [pRoot, phN_eq, phNs_nil, clNs_nil]
theorem all_N : phN pAll = 1 := by rw [pAll, step_N]
theorem bin_N (s : Bs) (a b : Ph) : phN (pBin s a b) = phN a + phN b + 1 := by rw [pBin, phN_eq, phNs_cons, phNs_cons, phNs_nil, clNs_nil]; omega
theorem minus_N (a : Ph) : phN (pMinus a) = phN a + 1 := by rw [pMinus, phN_eq, phNs_cons, phNs_nil, clNs_nil]
section
variable {L : List Tk} {st : Ps} {s : Bs}
def Sz (L : List Tk) (f : Ps → PR) : Prop := ∀ st, st.p ≤ L.length → phN (f st).1 + 4 * st.p ≤ 4 * (f st).2.p + 1
variable {f g : Ps → PR}
theorem Sz_more (hm : Mo L f) (hf : Sz L f) : ∀ (k : Nat) (l : List Ph) (st : Ps), st.p ≤ L.length → phNs (moreP L s f k l st).1 + 4 * st.p ≤ phNs l + 4 * (moreP L s f k l st).2.p
  | 0, l, st, h => Nat.le_refl _
  | k + 1, l, st, h => by
    unfold moreP
    split
    · rename_i hn
      have h1 := (Le_nx hn).hi
      have h2 := hf _ h1
      have h3 := Sz_more hm hf k (l ++ [(f (nxt st)).1]) _ (hm _ h1).hi
      have h4 : (nxt st).p = st.p + 1 := rfl
      rw [phNs_app] at h3
      omega
    · simp only []; omega
theorem Sz_more1 (hm : Mo L f) (hf : Sz L f) (k : Nat) (l : List Ph) (hn : isN L s st = true) : phNs (moreP L s f (k + 1) l st).1 + 4 * st.p + 3 ≤ phNs l + 4 * (moreP L s f (k + 1) l st).2.p := by
  unfold moreP
  rw [if_pos hn]
  have h1 := (Le_nx hn).hi
  have h2 := hf _ h1
  have h3 := Sz_more (s := s) hm hf k (l ++ [(f (nxt st)).1]) _ (hm _ h1).hi
  have h4 : (nxt st).p = st.p + 1 := rfl
  rw [phNs_app] at h3
  omega
theorem Sz_expr (hm : Mo L f) (hf : Sz L f) (n : Int) : Sz L (exprF L f n) := fun st h => by
  have h1 := Le_lev (L := L) n h
  have h2 := hf _ h1.hi
  have h3 := h1.lo
  unfold exprF
  simp only []
  split
  · rename_i hn
    have h4 := Sz_more1 (l := [(f (levP n st)).1]) (k := L.length) hm hf hn
    rw [phNs_cons, phNs_nil] at h4
    simp only [seq_N]
    omega
  · omega
theorem Sz_cls (hm : Mo L f) (hf : Sz L f) : ∀ (k : Nat) (l : List Cl) (st : Ps), st.p ≤ L.length → clNs (clsP L f k l st).1 + 4 * st.p ≤ clNs l + 4 * (clsP L f k l st).2.p
  | 0, l, st, h => Nat.le_refl _
  | k + 1, l, st, h => by
    unfold clsP
    have h4 : (nxt st).p = st.p + 1 := rfl
    split
    · rename_i hn
      have h1 := Le_nx (opens_N hn)
      have h2 := Le_for h1.hi
      have h3 := hf _ h2.hi
      have h5 := Sz_cls hm hf k (l ++ [clF (f (forT L (nxt st)).2.2).1 1 (forT L (nxt st)).1 (forT L (nxt st)).2.1 false]) _ (hm _ h2.hi).hi
      have h6 := h2.lo
      rw [clNs_app, clF_N] at h5
      simp only []
      omega
    · split
      · rename_i hn
        have h1 := Le_nx (opens_N hn)
        have h2 := Le_let h1.hi
        have h3 := hf _ h2.hi
        have h5 := Sz_cls hm hf k (l ++ [clF (f (letT L (nxt st)).2).1 2 (letT L (nxt st)).1 [] false]) _ (hm _ h2.hi).hi
        have h6 := h2.lo
        rw [clNs_app, clF_N] at h5
        simp only []
        omega
      · simp only []; omega
theorem Sz_cls1 (hm : Mo L f) (hf : Sz L f) (k : Nat) (l : List Cl) (hop : opensP L sFor st = true ∨ opensP L sLet st = true) : clNs (clsP L f (k + 1) l st).1 + 4 * st.p + 2 ≤ clNs l + 4 * (clsP L f (k + 1) l st).2.p := by
  unfold clsP
  have h4 : (nxt st).p = st.p + 1 := rfl
  split
  · rename_i hn
    have h1 := Le_nx (opens_N hn)
    have h2 := Le_for h1.hi
    have h3 := hf _ h2.hi
    have h5 := Sz_cls hm hf k (l ++ [clF (f (forT L (nxt st)).2.2).1 1 (forT L (nxt st)).1 (forT L (nxt st)).2.1 false]) _ (hm _ h2.hi).hi
    have h6 := h2.lo
    rw [clNs_app, clF_N] at h5
    simp only []
    omega
  · rename_i hno
    have hn := hop.resolve_left hno
    rw [if_pos hn]
    have h1 := Le_nx (opens_N hn)
    have h2 := Le_let h1.hi
    have h3 := hf _ h2.hi
    have h5 := Sz_cls hm hf k (l ++ [clF (f (letT L (nxt st)).2).1 2 (letT L (nxt st)).1 [] false]) _ (hm _ h2.hi).hi
    have h6 := h2.lo
    rw [clNs_app, clF_N] at h5
    simp only []
    omega
theorem Sz_where (hm : Mo L f) (hf : Sz L f) (q : List Cl × Ps) (h : q.2.p ≤ L.length) : clNs (whereF L f q).1 + 4 * q.2.p ≤ clNs q.1 + 4 * (whereF L f q).2.p := by
  unfold whereF
  split
  · rename_i hn
    have h1 := Le_nx hn
    have h2 := hf _ h1.hi
    have h4 : (nxt q.2).p = q.2.p + 1 := rfl
    simp only [clNs_app, clF_N]
    omega
  · omega
theorem Sz_order (hm : Mo L f) (hf : Sz L f) (q : List Cl × Ps) (h : q.2.p ≤ L.length) : clNs (orderF L f q).1 + 4 * q.2.p ≤ clNs q.1 + 4 * (orderF L f q).2.p := by
  unfold orderF
  split
  · rename_i hn
    have h1 := Le_nx hn
    have h2 := Le_must (L := L) (s := sBy) h1.hi
    have h3 := hf _ h2.hi
    have h4 : (nxt q.2).p = q.2.p + 1 := rfl
    have h5 := (Le_has (L := L) (s := sDescending) (hm _ h2.hi).hi).lo
    have h6 := h2.lo
    simp only [clNs_app, clF_N]
    omega
  · omega
theorem Sz_flwor (hm : Mo L f) (hf : Sz L f) (h : st.p ≤ L.length) (hop : opensP L sFor st = true ∨ opensP L sLet st = true) : phN (flworF L f st).1 + 4 * st.p ≤ 4 * (flworF L f st).2.p + 1 := by
  have h1 := Le_cls hm (L.length + 1) [] st h
  have h2 := Le_where hm _ h1.hi
  have h3 := Le_order hm _ h2.hi
  have h4 := Le_must (L := L) (s := sReturn) h3.hi
  have s1 := Sz_cls1 hm hf L.length [] hop
  have s2 := Sz_where hm hf _ h1.hi
  have s3 := Sz_order hm hf _ h2.hi
  have s4 := hf _ h4.hi
  have h5 := h4.lo
  rw [clNs_nil] at s1
  unfold flworF
  simp only [phN_eq, phNs_cons, phNs_nil]
  omega
theorem Sz_bin (hm : Mo L f) (hf : Sz L f) (r : Nat) : ∀ (k : Nat) (x : Ph) (st : Ps), st.p ≤ L.length → phN (binL L r f k x st).1 + 4 * st.p ≤ phN x + 4 * (binL L r f k x st).2.p
  | 0, x, st, h => Nat.le_refl _
  | k + 1, x, st, h => by
    unfold binL
    split
    · rename_i hn
      have h1 := Le_nxt (opN_lt hn) (opN_e hn)
      have h2 := hf _ h1.hi
      have h4 : (nxt st).p = st.p + 1 := rfl
      simp only []
      split
      · simp only [bin_N]
        omega
      · have h3 := Sz_bin hm hf r k (pBin (tokAt L st.p).s x (f (nxt st)).1) _ (hm _ h1.hi).hi
        rw [bin_N] at h3
        omega
    · simp only []; omega
theorem Sz_ops (hm : Mo L f) (hf : Sz L f) : ∀ j : Nat, Sz L (opsF L f j)
  | 0 => hf
  | j + 1 => fun st h => by
    have h1 := Sz_ops hm hf j st h
    have h2 := Sz_bin (Mo_ops hm j) (Sz_ops hm hf j) (7 - j) (L.length + 1) (opsF L f j st).1 _ (Mo_ops hm j st h).hi
    unfold opsF
    omega
theorem Sz_minus (hf : Sz L f) (hg : Sz L g) (n : Int) : Sz L (minusF L f g n) := fun st h => by
  unfold minusF
  split
  · rename_i hn
    have h1 := Le_nx hn
    have h2 := Le_lev (L := L) (n + 1) h1.hi
    have h3 := hf _ h2.hi
    have h4 : (nxt st).p = st.p + 1 := rfl
    have h5 := h2.lo
    simp only [minus_N]
    omega
  · exact hg _ h
theorem Sz_wayL (hm : Mo L f) (hf : Sz L f) : ∀ (k : Nat) (x : Ph) (st : Ps), st.p ≤ L.length → phN (wayL L f k x st).1 + 4 * st.p ≤ phN x + 4 * (wayL L f k x st).2.p
  | 0, x, st, h => Nat.le_refl _
  | k + 1, x, st, h => by
    have h4 : (nxt st).p = st.p + 1 := rfl
    unfold wayL
    split
    · rename_i hn
      have h1 := Le_nx hn
      have h2 := hf _ h1.hi
      have h3 := Sz_wayL hm hf k (pPath (pPath x pAll) (f (nxt st)).1) _ (hm _ h1.hi).hi
      rw [path_N, path_N, all_N] at h3
      omega
    · split
      · rename_i hn
        have h1 := Le_nx hn
        have h2 := hf _ h1.hi
        have h3 := Sz_wayL hm hf k (pPath x (f (nxt st)).1) _ (hm _ h1.hi).hi
        rw [path_N] at h3
        omega
      · simp only []; omega
theorem Sz_way (hm : Mo L f) (hf : Sz L f) : Sz L (wayF L f) := fun st h => by
  have h4 : (nxt st).p = st.p + 1 := rfl
  unfold wayF
  split
  · rename_i hn
    have h1 := Le_nx hn
    have h2 := hf _ h1.hi
    have h3 := Sz_wayL hm hf (L.length + 1) (pPath (pPath pRoot pAll) (f (nxt st)).1) _ (hm _ h1.hi).hi
    rw [path_N, path_N, all_N, root_N] at h3
    omega
  · split
    · rename_i hn
      have h1 := Le_nx hn
      have h2 := hf _ h1.hi
      split
      · have h3 := Sz_wayL hm hf (L.length + 1) (pPath pRoot (f (nxt st)).1) _ (hm _ h1.hi).hi
        rw [path_N, root_N] at h3
        omega
      · have h3 := Sz_wayL hm hf (L.length + 1) pRoot _ h1.hi
        rw [root_N] at h3
        omega
    · have h2 := hf _ h
      have h3 := Sz_wayL hm hf (L.length + 1) (f st).1 _ (hm _ h).hi
      omega
theorem Sz_test (ax : Int) : Sz L (testF L ax) := fun st h => by
  have h1 := (Mo_test (L := L) ax st h).lo
  have h2 : phN (testF L ax st).1 = 1 := by
    unfold testF
    simp only []
    split
    · exact step_N _ _ _
    · split
      · exact step_N _ _ _
      · exact step_N _ _ _
  omega
theorem Sz_filt (hm : Mo L f) (hf : Sz L f) (r : PR) (h : r.2.p ≤ L.length) {b : Nat} (hb : phN r.1 + b ≤ 4 * r.2.p + 1) : phN (filtF L f r).1 + b ≤ 4 * (filtF L f r).2.p + 1 := by
  unfold filtF
  split
  · rename_i hn
    have hm2 : Mo L fun st => ((f st).1, mustP L sCloseB (f st).2) := fun st h => (hm st h).trans (Le_must (hm st h).hi)
    have hf2 : Sz L fun st => ((f st).1, mustP L sCloseB (f st).2) := fun st h => by
      have h1 := hf st h
      have h2 := (Le_must (L := L) (s := sCloseB) (hm st h).hi).lo
      simp only []
      omega
    have h4 := Sz_more1 (l := [r.1]) (k := L.length) hm2 hf2 hn
    rw [phNs_cons, phNs_nil] at h4
    simp only [phN_eq, clNs_nil]
    omega
  · exact hb
theorem Sz_step (hf : Sz L f) (h : st.p ≤ L.length) (he : st.e = 0) : phN (stepF L pNil f st).1 + 4 * st.p ≤ 4 * (stepF L pNil f st).2.p + 1 := by
  have h4 : (nxt st).p = st.p + 1 := rfl
  have h5 : (nxt (nxt st)).p = st.p + 2 := rfl
  unfold stepF
  split
  · rename_i hc
    split
    · have h1 := (Le_wrong (L := L) 6 h).lo
      simp only [nil_N]
      omega
    · have h2 : (nxt (nxt st)).p ≤ L.length := tokAt_lt (mkAt_k hc.2)
      have h3 := Sz_test (L := L) (idx1 axesL (tokAt L st.p).s) _ h2
      omega
  · split
    · rename_i hn
      have h3 := Sz_test (L := L) 12 _ (Le_nx hn).hi
      omega
    · split
      · simp only [step_N]
        omega
      · split
        · exact Sz_test _ _ h
        · exact hf _ h
theorem Sz_pace (hmf : Mo L f) (hf : Sz L f) (hmg : Mo L g) (hg : Sz L g) (n : Int) : Sz L (paceF L pNil f g n) := fun st h => by
  have h1 := Le_lev (L := L) n h
  have h2 := h1.lo
  unfold paceF
  simp only []
  split
  · simp only [nil_N]
    omega
  · rename_i he
    have he := Decidable.not_not.1 he
    have h3 := Le_step (J := pNil) hmg h1.hi he
    have h5 := Sz_step hg h1.hi he
    have h6 := Sz_filt hmf hf _ h3.hi h5
    omega
theorem Sz_made (hm : Mo L f) (hf : Sz L f) (h : st.p < L.length) (he : st.e = 0) : phN (madeF L f st).1 + 4 * st.p ≤ 4 * (madeF L f st).2.p + 1 := by
  have h1 := Le_nxt h he
  unfold madeF
  simp only []
  have h2 : Le L (nxt st) (if (tokAt L st.p).s = sElement ∨ (tokAt L st.p).s = sAttribute then kindP L 1 (nxt st) else nxt st) := by
    split
    · exact Le_kind (by decide) h1.hi
    · exact .refl h1.hi
  generalize (if (tokAt L st.p).s = sElement ∨ (tokAt L st.p).s = sAttribute then kindP L 1 (nxt st) else nxt st) = s2 at h2 ⊢
  have h3 := Le_must (L := L) (s := sOpenC) h2.hi
  have h4 := h2.trans h3
  have l4 := h4.lo
  have e4 : (nxt st).p = st.p + 1 := rfl
  split
  · simp only [phN_eq, phNs_cons, phNs_nil, clNs_nil, seq_N, nxt]
    omega
  · have h5 := hm _ h4.hi
    have h6 := hf _ h4.hi
    have h7 := (Le_must (L := L) (s := sCloseC) h5.hi).lo
    simp only [phN_eq, phNs_cons, phNs_nil, clNs_nil]
    omega
theorem Sz_call (hm : Mo L f) (hf : Sz L f) (h : st.p ≤ L.length) (he : st.e = 0) (hk : (tokAt L st.p).k = 1) : phN (callF L f st).1 + 4 * st.p ≤ 4 * (callF L f st).2.p + 1 := by
  have e1 : kindP L 1 st = nxt st := by rw [kindP, if_pos he, if_pos hk]
  have h1 : (nxt st).p ≤ L.length := tokAt_lt (by omega)
  have e4 : (nxt st).p = st.p + 1 := rfl
  have h2 := Le_must (L := L) (s := sOpen) h1
  have l2 := h2.lo
  unfold callF
  simp only [e1]
  split
  · simp only [phN_eq, phNs_nil, clNs_nil, nxt]
    simp only [nxt] at l2
    omega
  · have h4 := hm _ h2.hi
    have s4 := hf _ h2.hi
    have h5 := Le_more (s := sComma) hm (L.length + 1) [(f (mustP L sOpen (nxt st))).1] _ h4.hi
    have s5 := Sz_more (s := sComma) hm hf (L.length + 1) [(f (mustP L sOpen (nxt st))).1] _ h4.hi
    have h6 := (Le_must (L := L) (s := sClose) h5.hi).lo
    rw [phNs_cons, phNs_nil] at s5
    simp only [phN_eq, clNs_nil]
    omega
theorem Sz_first (hmf : Mo L f) (hf : Sz L f) (hmg : Mo L g) (hg : Sz L g) : Sz L (firstF L f g) := fun st h => by
  have e4 : (nxt st).p = st.p + 1 := rfl
  unfold firstF
  split
  · simp only [nil_N]; omega
  · rename_i he
    have he := Decidable.not_not.1 he
    split
    · simp only [phN_eq, phNs_nil, clNs_nil]; omega
    · split
      · simp only [phN_eq, phNs_nil, clNs_nil]; omega
      · split
        · simp only [phN_eq, phNs_nil, clNs_nil]; omega
        · split
          · simp only [phN_eq, phNs_nil, clNs_nil]; omega
          · split
            · rename_i hn
              have h1 := Le_nx hn
              split
              · simp only [seq_N, phNs_nil, nxt]; omega
              · have h2 := hmf _ h1.hi
                have h3 := hf _ h1.hi
                have h5 := (Le_must (L := L) (s := sClose) h2.hi).lo
                simp only []
                omega
            · split
              · rename_i hm
                exact Sz_made hmf hf (tokAt_lt (by have := makes_k hm; omega)) he
              · split
                · rename_i hk
                  exact Sz_call hmg hg h he hk
                · have h1 := (Le_stuck (L := L) h).lo
                  simp only [nil_N]
                  omega
theorem Sz_quant (hm : Mo L f) (hf : Sz L f) (k : Int) (h : st.p < L.length) (he : st.e = 0) : phN (quantF L f k st).1 + 4 * st.p ≤ 4 * (quantF L f k st).2.p + 1 := by
  have e4 : (nxt st).p = st.p + 1 := rfl
  have h1 := Le_nxt h he
  have h2 := Le_kind (L := L) (k := 4) (by decide) h1.hi
  have h3 := Le_must (L := L) (s := sIn) h2.hi
  have h4 := hm _ h3.hi
  have s4 := hf _ h3.hi
  have h5 := Le_must (L := L) (s := sSatisfies) h4.hi
  have s6 := hf _ h5.hi
  have l1 := h2.lo
  have l2 := h3.lo
  have l3 := h5.lo
  unfold quantF
  simp only [phN_eq, phNs_cons, phNs_nil, clNs_nil]
  omega
theorem Sz_if (hmf : Mo L f) (hf : Sz L f) (hmg : Mo L g) (hg : Sz L g) (h : st.p + 1 < L.length) (he : st.e = 0) : phN (ifF L f g st).1 + 4 * st.p ≤ 4 * (ifF L f g st).2.p + 1 := by
  have e4 : (nxt (nxt st)).p = st.p + 2 := rfl
  have h2 : (nxt (nxt st)).p ≤ L.length := h
  have h3 := hmf _ h2
  have s3 := hf _ h2
  have h4 := Le_must (L := L) (s := sClose) h3.hi
  have h5 := Le_must (L := L) (s := sThen) h4.hi
  have h6 := hmg _ h5.hi
  have s6 := hg _ h5.hi
  have h7 := Le_must (L := L) (s := sElse) h6.hi
  have s8 := hg _ h7.hi
  have l4 := h4.lo
  have l5 := h5.lo
  have l7 := h7.lo
  unfold ifF
  simp only [phN_eq, phNs_cons, phNs_nil, clNs_nil]
  omega
theorem Sz_alone {o : Ps → PR} (hmf : Mo L f) (hf : Sz L f) (hmg : Mo L g) (hg : Sz L g) (ho : Sz L o) (n : Int) : Sz L (aloneF L f g o n) := fun st h => by
  have h1 := Le_lev (L := L) n h
  have l1 := h1.lo
  unfold aloneF
  simp only []
  split
  · simp only [nil_N]; omega
  · rename_i he
    have he := Decidable.not_not.1 he
    split
    · rename_i hop
      have := Sz_flwor hmg hg h1.hi hop
      omega
    · split
      · rename_i hq
        have hl : (levP n st).p < L.length := by
          rcases hq with hq | hq
          · exact isN_lt (opens_N hq)
          · exact isN_lt (opens_N hq)
        have := Sz_quant hmg hg (if isN L sSome (levP n st) = true then 23 else 24) hl he
        omega
      · split
        · rename_i hi
          have := Sz_if hmf hf hmg hg (tokAt_lt (mkAt_k hi.2)) he
          omega
        · have := ho _ h1.hi
          omega
structure SzG (L : List Tk) (S : Gr) : Prop where
  ex : Sz L S.ex
  al : Sz L S.al
  pc : Sz L S.pc
  mi : Sz L S.mi
theorem SzG_F {S : Gr} (hm : MoG L S) (h : SzG L S) (n : Int) : SzG L (grF L pNil S n) :=
  have hmi := Sz_minus h.mi (Sz_way hm.pc h.pc) n
  ⟨Sz_expr hm.al h.al n, Sz_alone hm.ex h.ex hm.al h.al (Sz_ops (Mo_minus hm.mi (Mo_way hm.pc) n) hmi 8) n, Sz_pace hm.ex h.ex (Mo_first hm.ex hm.al) (Sz_first hm.ex h.ex hm.al h.al) n, hmi⟩
theorem Sz_nil : Sz L fun st => (pNil, st) := fun st h => by
  simp only [nil_N]
  omega
theorem SzG_gr : ∀ (m : Nat) (n : Int), SzG L (gr L pNil m n)
  | 0, n => ⟨Sz_nil, Sz_nil, Sz_nil, Sz_nil⟩
  | m + 1, n => SzG_F (MoG_gr m (n + 1)) (SzG_gr m (n + 1)) n
end
theorem endP_N (L : List Tk) (r : PR) : (endP L r).1 = pNil ∨ (endP L r).1 = r.1 := by
  unfold endP
  simp only []
  generalize (if r.2.e = 0 then (if r.2.p < L.length then (4 : Int) else 0) else r.2.e) = ee
  split
  · exact .inl rfl
  · exact .inr rfl
theorem parse_N (L : List Tk) : phN (parseP pNil L).1 ≤ 801 := by
  have hn := nil_N
  unfold parseP
  split
  · show phN pNil ≤ 801
    omega
  · rename_i h200
    split
    · show phN pNil ≤ 801
      omega
    · have h1 := (SzG_gr (L := L) 40 1).ex ⟨0, 0⟩ (Nat.zero_le _)
      have h2 := ((MoG_gr (L := L) (J := pNil) 40 1).ex ⟨0, 0⟩ (Nat.zero_le _)).hi
      rcases endP_N L ((gr L pNil 40 1).ex ⟨0, 0⟩) with e | e <;> rw [e]
      · omega
      · simp only [] at h1
        omega
end Go.Proofs.YtmhabdopcbokoaaDoor.Gq
namespace Go.Proofs.YtmhabdopcbokoaaDoor.Gq
open Go Go.Proofs.YtmhabdopcbokoaaDoor.Ab
variable [Glo]
set_option maxHeartbeats 4000000
set_option maxRecDepth 20000
theorem phNs_all {l : List Ph} {n : Nat} (h : phNs l ≤ n) : l.length ≤ n := Nat.le_trans (phNs_len l) h
theorem clNs_all {l : List Cl} {n : Nat} (h : clNs l ≤ n) : l.length ≤ n := Nat.le_trans (clNs_len l) h
namespace FN6
def tks : Nat → List Nat | 0 => [2, 3] | 1 => [2, 3, 66] | 2 => [4] | 3 => [2, 3, 5] | 4 => [2, 3, 5, 71] | 5 => [2, 3, 5] | 6 => [2, 3, 5, 85] | 7 => [4] | 8 => [2, 3, 6] | 9 => [2, 3, 6, 90] | 10 => [2, 3, 6] | 11 => [2, 3, 6, 7] | 12 => [2, 3, 6, 7, 8] | 13 => [2, 3, 6, 136] | 14 => [4] | 15 => [4] | _ => []
def tmu : List Nat := []
def tin : List Nat := [0, 1]
def tro : Nat → List Nat | 11 => [7] | 12 => [8] | _ => []
def tnd : Nat → Nat | 6 => 11 | _ => 0
abbrev tfn := @Tryd.func6
end FN6
attribute [go_sem] FN6.tks FN6.tmu FN6.tin FN6.tro FN6.tnd Tryd.ntmps6 Tryd.results6
open FN6 in
theorem samePhrase_A : ∀ (n : Nat) (x : Ph), phN x ≤ n → n ≤ 1000 → ∀ (H : Heap) (K : V → Heap → Prop), K (.d (.b true)) H → ACalls Tryd.prog 6 [phV x, phV x] H K
  | 0, .mk h l c, hn, _, _, _, _ => by rw [phN_eq] at hn; omega
  | n + 1, .mk h l c, hn, hn2, H, K, hk => by
    have hN := phN_eq h l c
    have hl : l.length ≤ 1000 := phNs_all (by omega)
    have hc : c.length ≤ 1000 := clNs_all (by omega)
    have ih : ∀ y, y ∈ l → ∀ H K, K (.d (.b true)) H → ACalls Tryd.prog 6 [phV y, phV y] H K := fun y hy H K hk => by
      have := phN_args (p := .mk h l c) hy
      exact samePhrase_A n y (by omega) (by omega) H K hk
    have ic : ∀ y, y ∈ c → ∀ H K, K (.d (.b true)) H → ACalls Tryd.prog 6 [phV y.x, phV y.x] H K := fun y hy H K hk => by
      have := phN_cls (p := .mk h l c) hy
      exact samePhrase_A n y.x (by omega) (by omega) H K hk
    clear samePhrase_A
    simp only [phV, phW, mkh, mka, mkc] at ih ic ⊢
    by_cases hln : l = []
    · by_cases hcn : c = []
      · skip
        subst hln
        rw [aD_nil]
        subst hcn
        rw [cD_nil]
        refine We ?_
        have us := eq_self (0 : Nat)
        refine W66 ?_
        all_goals first
          | omega
          | skip
        refine AWp_while0 (fun i : Nat => i ≤ 0) (fun i => [(2, .rp [.i .i64 h.k, .i .i64 h.it.k, .i .i64 h.it.n, .s h.it.s, .s h.nm, .i .i64 h.n, .i .i64 h.ax, .i .i64 h.tk, .s h.tn, .c (.slice none 0 0), .c (.slice none 0 0)]), (3, .rp [.i .i64 h.k, .i .i64 h.it.k, .i .i64 h.it.n, .s h.it.s, .s h.nm, .i .i64 h.n, .i .i64 h.ax, .i .i64 h.tk, .s h.tn, .c (.slice none 0 0), .c (.slice none 0 0)]), (5, .d (.i .i64 i))]) (fun i => 0 - i) 0 (Nat.zero_le _) ?_ ?_
        · simp (dsimp := false) only [go_sem, Nat.reduceAdd, Nat.reduceBEq, Nat.reduceEqDiff, Nat.reduceLT, Nat.reduceLeDiff, Nat.reduceMul, Int.reduceToNat, reduceCtorEq, ↓reduceIte, not_true_eq_false, not_false_eq_true, Bool.true_and, Bool.false_and, Bool.or_false, Bool.false_or, Int.reduceEq, Int.reduceLT, Int.reduceLE, Int.reduceNeg, List.map_cons, List.map_nil, List.length_set, eq_self, ne_eq, List.getElem?_map]
          first | done | (simp; done) | (simp; omega)
        rintro i hi
        have t2 : ((0 : Int) ≤ (i : Int)) = True := eq_true (by omega)
        obtain rfl : i = 0 := by simpa using hi
        have zk : ((0 : Nat) : Int) = 0 := rfl
        have us := zk
        refine W66 ?_
        all_goals first
          | omega
          | skip
        refine AWp_while0 (fun i : Nat => i ≤ 0) (fun i => [(2, .rp [.i .i64 h.k, .i .i64 h.it.k, .i .i64 h.it.n, .s h.it.s, .s h.nm, .i .i64 h.n, .i .i64 h.ax, .i .i64 h.tk, .s h.tn, .c (.slice none 0 0), .c (.slice none 0 0)]), (3, .rp [.i .i64 h.k, .i .i64 h.it.k, .i .i64 h.it.n, .s h.it.s, .s h.nm, .i .i64 h.n, .i .i64 h.ax, .i .i64 h.tk, .s h.tn, .c (.slice none 0 0), .c (.slice none 0 0)]), (6, .d (.i .i64 i))]) (fun i => 0 - i) 0 (Nat.zero_le _) ?_ ?_
        · simp (dsimp := false) only [go_sem, Nat.reduceAdd, Nat.reduceBEq, Nat.reduceEqDiff, Nat.reduceLT, Nat.reduceLeDiff, Nat.reduceMul, Int.reduceToNat, reduceCtorEq, ↓reduceIte, not_true_eq_false, not_false_eq_true, Bool.true_and, Bool.false_and, Bool.or_false, Bool.false_or, Int.reduceEq, Int.reduceLT, Int.reduceLE, Int.reduceNeg, List.map_cons, List.map_nil, List.length_set, eq_self, ne_eq, List.getElem?_map, zk]
          first | done | (simp; done) | (simp; omega)
        rintro i hi
        have t2 : ((0 : Int) ≤ (i : Int)) = True := eq_true (by omega)
        obtain rfl : i = 0 := by simpa using hi
        have zk : ((0 : Nat) : Int) = 0 := rfl
        have us := zk
        exact W67
      · skip
        subst hln
        rw [aD_nil]
        rw [cD_ne hcn]
        refine We ?_
        have us := eq_self (0 : Nat)
        refine W66 ?_
        all_goals first
          | omega
          | skip
        refine AWp_while0 (fun i : Nat => i ≤ 0) (fun i => [(2, .rp [.i .i64 h.k, .i .i64 h.it.k, .i .i64 h.it.n, .s h.it.s, .s h.nm, .i .i64 h.n, .i .i64 h.ax, .i .i64 h.tk, .s h.tn, .c (.slice none 0 0), .sl 15 (c.map clD)]), (3, .rp [.i .i64 h.k, .i .i64 h.it.k, .i .i64 h.it.n, .s h.it.s, .s h.nm, .i .i64 h.n, .i .i64 h.ax, .i .i64 h.tk, .s h.tn, .c (.slice none 0 0), .sl 15 (c.map clD)]), (5, .d (.i .i64 i))]) (fun i => 0 - i) 0 (Nat.zero_le _) ?_ ?_
        · simp (dsimp := false) only [go_sem, Nat.reduceAdd, Nat.reduceBEq, Nat.reduceEqDiff, Nat.reduceLT, Nat.reduceLeDiff, Nat.reduceMul, Int.reduceToNat, reduceCtorEq, ↓reduceIte, not_true_eq_false, not_false_eq_true, Bool.true_and, Bool.false_and, Bool.or_false, Bool.false_or, Int.reduceEq, Int.reduceLT, Int.reduceLE, Int.reduceNeg, List.map_cons, List.map_nil, List.length_set, eq_self, ne_eq, List.getElem?_map]
          first | done | (simp; done) | (simp; omega)
        rintro i hi
        have t2 : ((0 : Int) ≤ (i : Int)) = True := eq_true (by omega)
        obtain rfl : i = 0 := by simpa using hi
        have zk : ((0 : Nat) : Int) = 0 := rfl
        have us := zk
        refine W66 ?_
        all_goals first
          | omega
          | skip
        refine AWp_while0 (fun i : Nat => i ≤ c.length) (fun i => [(2, .rp [.i .i64 h.k, .i .i64 h.it.k, .i .i64 h.it.n, .s h.it.s, .s h.nm, .i .i64 h.n, .i .i64 h.ax, .i .i64 h.tk, .s h.tn, .c (.slice none 0 0), .sl 15 (c.map clD)]), (3, .rp [.i .i64 h.k, .i .i64 h.it.k, .i .i64 h.it.n, .s h.it.s, .s h.nm, .i .i64 h.n, .i .i64 h.ax, .i .i64 h.tk, .s h.tn, .c (.slice none 0 0), .sl 15 (c.map clD)]), (6, .d (.i .i64 i))]) (fun i => c.length - i) 0 (Nat.zero_le _) ?_ ?_
        · simp (dsimp := false) only [go_sem, Nat.reduceAdd, Nat.reduceBEq, Nat.reduceEqDiff, Nat.reduceLT, Nat.reduceLeDiff, Nat.reduceMul, Int.reduceToNat, reduceCtorEq, ↓reduceIte, not_true_eq_false, not_false_eq_true, Bool.true_and, Bool.false_and, Bool.or_false, Bool.false_or, Int.reduceEq, Int.reduceLT, Int.reduceLE, Int.reduceNeg, List.map_cons, List.map_nil, List.length_set, eq_self, ne_eq, List.getElem?_map, zk]
          first | done | (simp; done) | (simp; omega)
        rintro i hi
        have t2 : ((0 : Int) ≤ (i : Int)) = True := eq_true (by omega)
        by_cases hil : i < c.length
        case neg =>
          have t1 : ((i : Int) < (c.length : Int)) = False := eq_false (by omega)
          have us := an t1 t2
          exact W67
        have t1 : ((i : Int) < (c.length : Int)) = True := eq_true (by omega)
        obtain ⟨y, hy⟩ : ∃ y, c[i]? = some y := ⟨c[i], List.getElem?_eq_getElem hil⟩
        have hcc := ic y (List.mem_of_getElem? hy)
        have hbb : (y.c.down == y.c.down) = true := beq_self_eq_true _
        have c21 := hcc; have us := an hy (an t1 (an t2 hbb))
        refine W68 ?_ ?_ ?_ ?_ <;> try exact trivial
        all_goals first
          | omega
          | exact ⟨i + 1, by omega, by omega, by simp⟩
          | exact ⟨rfl, i + 1, by omega, by omega, rfl, by omega, by omega⟩
          | (refine ⟨rfl, i + 1, by omega, by omega, ?_⟩; simp; done)
    · by_cases hcn : c = []
      · skip
        rw [aD_ne hln]
        subst hcn
        rw [cD_nil]
        refine We ?_
        have us := eq_self (0 : Nat)
        refine W66 ?_
        all_goals first
          | omega
          | skip
        refine AWp_while0 (fun i : Nat => i ≤ l.length) (fun i => [(2, .rp [.i .i64 h.k, .i .i64 h.it.k, .i .i64 h.it.n, .s h.it.s, .s h.nm, .i .i64 h.n, .i .i64 h.ax, .i .i64 h.tk, .s h.tn, .sl 11 (l.map phD), .c (.slice none 0 0)]), (3, .rp [.i .i64 h.k, .i .i64 h.it.k, .i .i64 h.it.n, .s h.it.s, .s h.nm, .i .i64 h.n, .i .i64 h.ax, .i .i64 h.tk, .s h.tn, .sl 11 (l.map phD), .c (.slice none 0 0)]), (5, .d (.i .i64 i))]) (fun i => l.length - i) 0 (Nat.zero_le _) ?_ ?_
        · simp (dsimp := false) only [go_sem, Nat.reduceAdd, Nat.reduceBEq, Nat.reduceEqDiff, Nat.reduceLT, Nat.reduceLeDiff, Nat.reduceMul, Int.reduceToNat, reduceCtorEq, ↓reduceIte, not_true_eq_false, not_false_eq_true, Bool.true_and, Bool.false_and, Bool.or_false, Bool.false_or, Int.reduceEq, Int.reduceLT, Int.reduceLE, Int.reduceNeg, List.map_cons, List.map_nil, List.length_set, eq_self, ne_eq, List.getElem?_map]
          first | done | (simp; done) | (simp; omega)
        rintro i hi
        have t2 : ((0 : Int) ≤ (i : Int)) = True := eq_true (by omega)
        by_cases hil : i < l.length
        case neg =>
          have t1 : ((i : Int) < (l.length : Int)) = False := eq_false (by omega)
          have us := an t1 t2
          refine W66 ?_
          all_goals first
            | omega
            | skip
          refine AWp_while0 (fun i : Nat => i ≤ 0) (fun i => [(2, .rp [.i .i64 h.k, .i .i64 h.it.k, .i .i64 h.it.n, .s h.it.s, .s h.nm, .i .i64 h.n, .i .i64 h.ax, .i .i64 h.tk, .s h.tn, .sl 11 (l.map phD), .c (.slice none 0 0)]), (3, .rp [.i .i64 h.k, .i .i64 h.it.k, .i .i64 h.it.n, .s h.it.s, .s h.nm, .i .i64 h.n, .i .i64 h.ax, .i .i64 h.tk, .s h.tn, .sl 11 (l.map phD), .c (.slice none 0 0)]), (6, .d (.i .i64 i))]) (fun i => 0 - i) 0 (Nat.zero_le _) ?_ ?_
          · simp (dsimp := false) only [go_sem, Nat.reduceAdd, Nat.reduceBEq, Nat.reduceEqDiff, Nat.reduceLT, Nat.reduceLeDiff, Nat.reduceMul, Int.reduceToNat, reduceCtorEq, ↓reduceIte, not_true_eq_false, not_false_eq_true, Bool.true_and, Bool.false_and, Bool.or_false, Bool.false_or, Int.reduceEq, Int.reduceLT, Int.reduceLE, Int.reduceNeg, List.map_cons, List.map_nil, List.length_set, eq_self, ne_eq, List.getElem?_map, t1, t2]
            first | done | (simp; done) | (simp; omega)
          rintro i hi
          have t2 : ((0 : Int) ≤ (i : Int)) = True := eq_true (by omega)
          obtain rfl : i = 0 := by simpa using hi
          have zk : ((0 : Nat) : Int) = 0 := rfl
          have us := zk
          exact W67
        have t1 : ((i : Int) < (l.length : Int)) = True := eq_true (by omega)
        obtain ⟨y, hy⟩ : ∃ y, l[i]? = some y := ⟨l[i], List.getElem?_eq_getElem hil⟩
        have hcc := ih y (List.mem_of_getElem? hy)
        have c21 := hcc; have us := an hy (an t1 t2)
        refine W69 ?_ ?_ ?_ ?_ <;> try exact trivial
        all_goals first
          | omega
          | exact ⟨i + 1, by omega, by omega, by simp⟩
          | exact ⟨rfl, i + 1, by omega, by omega, rfl, by omega, by omega⟩
          | (refine ⟨rfl, i + 1, by omega, by omega, ?_⟩; simp; done)
      · skip
        rw [aD_ne hln]
        rw [cD_ne hcn]
        refine We ?_
        have us := eq_self (0 : Nat)
        refine W66 ?_
        all_goals first
          | omega
          | skip
        refine AWp_while0 (fun i : Nat => i ≤ l.length) (fun i => [(2, .rp [.i .i64 h.k, .i .i64 h.it.k, .i .i64 h.it.n, .s h.it.s, .s h.nm, .i .i64 h.n, .i .i64 h.ax, .i .i64 h.tk, .s h.tn, .sl 11 (l.map phD), .sl 15 (c.map clD)]), (3, .rp [.i .i64 h.k, .i .i64 h.it.k, .i .i64 h.it.n, .s h.it.s, .s h.nm, .i .i64 h.n, .i .i64 h.ax, .i .i64 h.tk, .s h.tn, .sl 11 (l.map phD), .sl 15 (c.map clD)]), (5, .d (.i .i64 i))]) (fun i => l.length - i) 0 (Nat.zero_le _) ?_ ?_
        · simp (dsimp := false) only [go_sem, Nat.reduceAdd, Nat.reduceBEq, Nat.reduceEqDiff, Nat.reduceLT, Nat.reduceLeDiff, Nat.reduceMul, Int.reduceToNat, reduceCtorEq, ↓reduceIte, not_true_eq_false, not_false_eq_true, Bool.true_and, Bool.false_and, Bool.or_false, Bool.false_or, Int.reduceEq, Int.reduceLT, Int.reduceLE, Int.reduceNeg, List.map_cons, List.map_nil, List.length_set, eq_self, ne_eq, List.getElem?_map]
          first | done | (simp; done) | (simp; omega)
        rintro i hi
        have t2 : ((0 : Int) ≤ (i : Int)) = True := eq_true (by omega)
        by_cases hil : i < l.length
        case neg =>
          have t1 : ((i : Int) < (l.length : Int)) = False := eq_false (by omega)
          have us := an t1 t2
          refine W66 ?_
          all_goals first
            | omega
            | skip
          refine AWp_while0 (fun i : Nat => i ≤ c.length) (fun i => [(2, .rp [.i .i64 h.k, .i .i64 h.it.k, .i .i64 h.it.n, .s h.it.s, .s h.nm, .i .i64 h.n, .i .i64 h.ax, .i .i64 h.tk, .s h.tn, .sl 11 (l.map phD), .sl 15 (c.map clD)]), (3, .rp [.i .i64 h.k, .i .i64 h.it.k, .i .i64 h.it.n, .s h.it.s, .s h.nm, .i .i64 h.n, .i .i64 h.ax, .i .i64 h.tk, .s h.tn, .sl 11 (l.map phD), .sl 15 (c.map clD)]), (6, .d (.i .i64 i))]) (fun i => c.length - i) 0 (Nat.zero_le _) ?_ ?_
          · simp (dsimp := false) only [go_sem, Nat.reduceAdd, Nat.reduceBEq, Nat.reduceEqDiff, Nat.reduceLT, Nat.reduceLeDiff, Nat.reduceMul, Int.reduceToNat, reduceCtorEq, ↓reduceIte, not_true_eq_false, not_false_eq_true, Bool.true_and, Bool.false_and, Bool.or_false, Bool.false_or, Int.reduceEq, Int.reduceLT, Int.reduceLE, Int.reduceNeg, List.map_cons, List.map_nil, List.length_set, eq_self, ne_eq, List.getElem?_map, t1, t2]
            first | done | (simp; done) | (simp; omega)
          rintro i hi
          have t2 : ((0 : Int) ≤ (i : Int)) = True := eq_true (by omega)
          by_cases hil : i < c.length
          case neg =>
            have t1 : ((i : Int) < (c.length : Int)) = False := eq_false (by omega)
            have us := an t1 t2
            exact W67
          have t1 : ((i : Int) < (c.length : Int)) = True := eq_true (by omega)
          obtain ⟨y, hy⟩ : ∃ y, c[i]? = some y := ⟨c[i], List.getElem?_eq_getElem hil⟩
          have hcc := ic y (List.mem_of_getElem? hy)
          have hbb : (y.c.down == y.c.down) = true := beq_self_eq_true _
          have c21 := hcc; have us := an hy (an t1 (an t2 hbb))
          refine W68 ?_ ?_ ?_ ?_ <;> try exact trivial
          all_goals first
            | omega
            | exact ⟨i + 1, by omega, by omega, by simp⟩
            | exact ⟨rfl, i + 1, by omega, by omega, rfl, by omega, by omega⟩
            | (refine ⟨rfl, i + 1, by omega, by omega, ?_⟩; simp; done)
        have t1 : ((i : Int) < (l.length : Int)) = True := eq_true (by omega)
        obtain ⟨y, hy⟩ : ∃ y, l[i]? = some y := ⟨l[i], List.getElem?_eq_getElem hil⟩
        have hcc := ih y (List.mem_of_getElem? hy)
        have c21 := hcc; have us := an hy (an t1 t2)
        refine W69 ?_ ?_ ?_ ?_ <;> try exact trivial
        all_goals first
          | omega
          | exact ⟨i + 1, by omega, by omega, by simp⟩
          | exact ⟨rfl, i + 1, by omega, by omega, rfl, by omega, by omega⟩
          | (refine ⟨rfl, i + 1, by omega, by omega, ?_⟩; simp; done)
end Go.Proofs.YtmhabdopcbokoaaDoor.Gq
