/- The grammar of queries: what a refused step makes hangs on nothing that counts. No condition. -/
import Derived.Test.YtmhabdopcbokoaaDoorR24
import Derived.Test.YtmhabdopcbokoaaDoorR18
set_option linter.all false
set_option linter.unusedSimpArgs false
set_option linter.unusedVariables false
namespace Go.Proofs.YtmhabdopcbokoaaDoor.Gq
open Go Go.Proofs.YtmhabdopcbokoaaDoor.Ab
variable [Glo]
set_option maxRecDepth 20000
def Agr {α : Type} (a b : α × Ps) : Prop := a.2 = b.2 ∧ (a.2.e = 0 → a.1 = b.1)
theorem Agr.refl {α : Type} (a : α × Ps) : Agr a a := ⟨rfl, fun _ => rfl⟩
section
variable {L : List Tk} {st : Ps} {s : Bs} {f f' g g' : Ps → PR}
def Ag (L : List Tk) (f f' : Ps → PR) : Prop := ∀ st, st.p ≤ L.length → Agr (f st) (f' st)
theorem Agr_more (hm : Mo L f) (hf : Ag L f f') : ∀ (k : Nat) (l l' : List Ph) (st : Ps), st.p ≤ L.length → (st.e = 0 → l = l') → Agr (moreP L s f k l st) (moreP L s f' k l' st)
  | 0, l, l', st, h, hl => ⟨rfl, hl⟩
  | k + 1, l, l', st, h, hl => by
    unfold moreP
    split
    · rename_i hn
      have h1 := Le_nx hn
      have h2 := hm _ h1.hi
      obtain ⟨e1, e2⟩ := hf _ h1.hi
      rw [← e1]
      exact Agr_more hm hf k _ _ _ h2.hi fun he => by rw [hl (isN_e hn), e2 he]
    · exact ⟨rfl, hl⟩
theorem Ag_expr (hm : Mo L f) (hf : Ag L f f') (n : Int) : Ag L (exprF L f n) (exprF L f' n) := fun st h => by
  have h1 := Le_lev (L := L) n h
  have h2 := hm _ h1.hi
  obtain ⟨e1, e2⟩ := hf _ h1.hi
  unfold exprF
  simp only []
  rw [← e1]
  split
  · have := Agr_more (s := sComma) hm hf (L.length + 1) [(f (levP n st)).1] [(f' (levP n st)).1] _ h2.hi fun he => by rw [e2 he]
    exact ⟨this.1, fun he => congrArg pSeq (this.2 he)⟩
  · exact ⟨e1, e2⟩
theorem Agr_cls (hm : Mo L f) (hf : Ag L f f') : ∀ (k : Nat) (l l' : List Cl) (st : Ps), st.p ≤ L.length → (st.e = 0 → l = l') → Agr (clsP L f k l st) (clsP L f' k l' st)
  | 0, l, l', st, h, hl => ⟨rfl, hl⟩
  | k + 1, l, l', st, h, hl => by
    unfold clsP
    split
    · rename_i hn
      have h1 := Le_nx (opens_N hn)
      have h2 := Le_for h1.hi
      have h3 := hm _ h2.hi
      obtain ⟨e1, e2⟩ := hf _ h2.hi
      simp only []
      rw [← e1]
      exact Agr_cls hm hf k _ _ _ h3.hi fun he => by rw [hl (isN_e (opens_N hn)), e2 he]
    · split
      · rename_i hn
        have h1 := Le_nx (opens_N hn)
        have h2 := Le_let h1.hi
        have h3 := hm _ h2.hi
        obtain ⟨e1, e2⟩ := hf _ h2.hi
        simp only []
        rw [← e1]
        exact Agr_cls hm hf k _ _ _ h3.hi fun he => by rw [hl (isN_e (opens_N hn)), e2 he]
      · exact ⟨rfl, hl⟩
theorem Agr_where (hm : Mo L f) (hf : Ag L f f') (q q' : List Cl × Ps) (h : q.2.p ≤ L.length) (hq : Agr q q') : Agr (whereF L f q) (whereF L f' q') := by
  obtain ⟨l, a⟩ := q
  obtain ⟨l', a'⟩ := q'
  obtain ⟨rfl, hl⟩ := hq
  simp only [] at h hl
  unfold whereF
  simp only []
  split
  · rename_i hn
    have h1 := Le_nx hn
    obtain ⟨e1, e2⟩ := hf _ h1.hi
    exact ⟨e1, fun he => by simp only [] at he ⊢; rw [hl (isN_e hn), e2 he]⟩
  · exact ⟨rfl, hl⟩
theorem Agr_order (hm : Mo L f) (hf : Ag L f f') (q q' : List Cl × Ps) (h : q.2.p ≤ L.length) (hq : Agr q q') : Agr (orderF L f q) (orderF L f' q') := by
  obtain ⟨l, a⟩ := q
  obtain ⟨l', a'⟩ := q'
  obtain ⟨rfl, hl⟩ := hq
  simp only [] at h hl
  unfold orderF
  simp only []
  split
  · rename_i hn
    have h1 := Le_nx hn
    have h2 := Le_must (L := L) (s := sBy) h1.hi
    have h3 := hm _ h2.hi
    obtain ⟨e1, e2⟩ := hf _ h2.hi
    rw [← e1]
    exact ⟨rfl, fun he => by simp only [] at he ⊢; rw [hl (isN_e hn), e2 ((Le_has h3.hi).e0 he)]⟩
  · exact ⟨rfl, hl⟩
theorem Ag_flwor (hm : Mo L f) (hf : Ag L f f') : Ag L (flworF L f) (flworF L f') := fun st h => by
  have h1 := Le_cls hm (L.length + 1) [] st h
  have h2 := Le_where hm _ h1.hi
  have h3 := Le_order hm _ h2.hi
  have a1 := Agr_cls hm hf (L.length + 1) [] [] st h fun _ => rfl
  have a2 := Agr_where hm hf _ _ h1.hi a1
  have a3 := Agr_order hm hf _ _ h2.hi a2
  have h4 := Le_must (L := L) (s := sReturn) h3.hi
  obtain ⟨e1, e2⟩ := hf _ h4.hi
  unfold flworF
  simp only []
  rw [← a3.1]
  refine ⟨e1, fun he => ?_⟩
  simp only [] at he ⊢
  have h5 := h4.trans (hm _ h4.hi)
  rw [a3.2 (h5.e0 he), e2 he]
theorem Agr_bin (hm : Mo L f) (hf : Ag L f f') (r : Nat) : ∀ (k : Nat) (x x' : Ph) (st : Ps), st.p ≤ L.length → (st.e = 0 → x = x') → Agr (binL L r f k x st) (binL L r f' k x' st)
  | 0, x, x', st, h, hl => ⟨rfl, hl⟩
  | k + 1, x, x', st, h, hl => by
    unfold binL
    split
    · rename_i hn
      have h1 := Le_nxt (opN_lt hn) (opN_e hn)
      have h2 := hm _ h1.hi
      obtain ⟨e1, e2⟩ := hf _ h1.hi
      simp only []
      rw [← e1]
      split
      · exact ⟨rfl, fun he => by simp only [] at he ⊢; rw [hl (opN_e hn), e2 he]⟩
      · exact Agr_bin hm hf r k _ _ _ h2.hi fun he => by rw [hl (opN_e hn), e2 he]
    · exact ⟨rfl, hl⟩
theorem Ag_ops (hm : Mo L f) (hf : Ag L f f') : ∀ j : Nat, Ag L (opsF L f j) (opsF L f' j)
  | 0 => hf
  | j + 1 => fun st h => by
    have a1 := Ag_ops hm hf j st h
    unfold opsF
    rw [← a1.1]
    exact Agr_bin (Mo_ops hm j) (Ag_ops hm hf j) _ _ _ _ _ (Mo_ops hm j st h).hi a1.2
theorem Ag_minus (hf : Ag L f f') (hg : Ag L g g') (n : Int) : Ag L (minusF L f g n) (minusF L f' g' n) := fun st h => by
  unfold minusF
  split
  · rename_i hn
    have h1 := Le_nx hn
    obtain ⟨e1, e2⟩ := hf _ (Le_lev (L := L) (n + 1) h1.hi).hi
    exact ⟨e1, fun he => congrArg pMinus (e2 he)⟩
  · exact hg _ h
theorem Agr_wayL (hm : Mo L f) (hf : Ag L f f') : ∀ (k : Nat) (x x' : Ph) (st : Ps), st.p ≤ L.length → (st.e = 0 → x = x') → Agr (wayL L f k x st) (wayL L f' k x' st)
  | 0, x, x', st, h, hl => ⟨rfl, hl⟩
  | k + 1, x, x', st, h, hl => by
    unfold wayL
    split
    · rename_i hn
      have h1 := Le_nx hn
      obtain ⟨e1, e2⟩ := hf _ h1.hi
      rw [← e1]
      exact Agr_wayL hm hf k _ _ _ (hm _ h1.hi).hi fun he => by rw [hl (isN_e hn), e2 he]
    · split
      · rename_i hn
        have h1 := Le_nx hn
        obtain ⟨e1, e2⟩ := hf _ h1.hi
        rw [← e1]
        exact Agr_wayL hm hf k _ _ _ (hm _ h1.hi).hi fun he => by rw [hl (isN_e hn), e2 he]
      · exact ⟨rfl, hl⟩
theorem Ag_way (hm : Mo L f) (hf : Ag L f f') : Ag L (wayF L f) (wayF L f') := fun st h => by
  unfold wayF
  split
  · rename_i hn
    have h1 := Le_nx hn
    obtain ⟨e1, e2⟩ := hf _ h1.hi
    rw [← e1]
    exact Agr_wayL hm hf _ _ _ _ (hm _ h1.hi).hi fun he => by rw [e2 he]
  · split
    · rename_i hn
      have h1 := Le_nx hn
      obtain ⟨e1, e2⟩ := hf _ h1.hi
      split
      · rw [← e1]
        exact Agr_wayL hm hf _ _ _ _ (hm _ h1.hi).hi fun he => by rw [e2 he]
      · exact Agr_wayL hm hf _ _ _ _ h1.hi fun he => rfl
    · obtain ⟨e1, e2⟩ := hf _ h
      rw [← e1]
      exact Agr_wayL hm hf _ _ _ _ (hm _ h).hi e2
theorem Agr_filt (hm : Mo L f) (hf : Ag L f f') (r r' : PR) (h : r.2.p ≤ L.length) (hr : Agr r r') : Agr (filtF L f r) (filtF L f' r') := by
  obtain ⟨x, a⟩ := r
  obtain ⟨x', a'⟩ := r'
  obtain ⟨rfl, hl⟩ := hr
  simp only [] at h hl
  unfold filtF
  simp only []
  split
  · have hm2 : Mo L fun st => ((f st).1, mustP L sCloseB (f st).2) := fun st h => (hm st h).trans (Le_must (hm st h).hi)
    have hf2 : Ag L (fun st => ((f st).1, mustP L sCloseB (f st).2)) fun st => ((f' st).1, mustP L sCloseB (f' st).2) := fun st h => by
      obtain ⟨e1, e2⟩ := hf st h
      refine ⟨congrArg (mustP L sCloseB) e1, fun he => ?_⟩
      exact e2 ((Le_must (L := L) (s := sCloseB) (hm st h).hi).e0 he)
    have := Agr_more (s := sOpenB) hm2 hf2 (L.length + 1) [x] [x'] _ h fun he => by rw [hl he]
    exact ⟨this.1, fun he => congrArg (fun l => Ph.mk { ph0 with k := 22 } l []) (this.2 he)⟩
  · exact ⟨rfl, hl⟩
theorem wrong_ne {e : Int} (h : e ≠ 0) (st : Ps) : (wrongP e st).e ≠ 0 := by
  unfold wrongP
  split
  · exact h
  · assumption
theorem Agr_step {J J' : Ph} (hf : Ag L f f') (h : st.p ≤ L.length) : Agr (stepF L J f st) (stepF L J' f' st) := by
  unfold stepF
  split
  · split
    · exact ⟨rfl, fun he => absurd he (wrong_ne (by decide) st)⟩
    · exact .refl _
  · split
    · exact .refl _
    · split
      · exact .refl _
      · split
        · exact .refl _
        · exact hf _ h
theorem Ag_pace {J J' : Ph} (hm : Mo L f) (hf : Ag L f f') (hn : Mo L g) (hg : Ag L g g') (n : Int) : Ag L (paceF L J f g n) (paceF L J' f' g' n) := fun st h => by
  have h1 := Le_lev (L := L) n h
  unfold paceF
  simp only []
  split
  · exact .refl _
  · rename_i he
    exact Agr_filt hm hf _ _ (Le_step hn h1.hi (Decidable.not_not.1 he)).hi (Agr_step hg h1.hi)
theorem Agr_made (hm : Mo L f) (hf : Ag L f f') (h : st.p < L.length) (he : st.e = 0) : Agr (madeF L f st) (madeF L f' st) := by
  have h1 := Le_nxt h he
  unfold madeF
  simp only []
  have h2 : Le L (nxt st) (if (tokAt L st.p).s = sElement ∨ (tokAt L st.p).s = sAttribute then kindP L 1 (nxt st) else nxt st) := by
    split
    · exact Le_kind (by decide) h1.hi
    · exact .refl h1.hi
  generalize (if (tokAt L st.p).s = sElement ∨ (tokAt L st.p).s = sAttribute then kindP L 1 (nxt st) else nxt st) = s2 at h2 ⊢
  have h3 := Le_must (L := L) (s := sOpenC) h2.hi
  split
  · exact .refl _
  · obtain ⟨e1, e2⟩ := hf _ h3.hi
    rw [← e1]
    exact ⟨rfl, fun he => by simp only [] at he ⊢; rw [e2 ((Le_must (L := L) (s := sCloseC) (hm _ h3.hi).hi).e0 he)]⟩
theorem Ag_call (hm : Mo L f) (hf : Ag L f f') : Ag L (callF L f) (callF L f') := fun st h => by
  have h1 := Le_kind (L := L) (k := 1) (by decide) h
  have h2 := Le_must (L := L) (s := sOpen) h1.hi
  unfold callF
  simp only []
  split
  · exact .refl _
  · obtain ⟨e1, e2⟩ := hf _ h2.hi
    have h4 := hm _ h2.hi
    rw [← e1]
    have a := Agr_more (s := sComma) hm hf (L.length + 1) [(f (mustP L sOpen (kindP L 1 st))).1] [(f' (mustP L sOpen (kindP L 1 st))).1] _ h4.hi fun he => by rw [e2 he]
    have h5 := Le_more (s := sComma) hm (L.length + 1) [(f (mustP L sOpen (kindP L 1 st))).1] _ h4.hi
    rw [← a.1]
    exact ⟨rfl, fun he => by simp only [] at he ⊢; rw [a.2 ((Le_must (L := L) (s := sClose) h5.hi).e0 he)]⟩
theorem Ag_first (hm : Mo L f) (hf : Ag L f f') (hn : Mo L g) (hg : Ag L g g') : Ag L (firstF L f g) (firstF L f' g') := fun st h => by
  unfold firstF
  split
  · exact .refl _
  · rename_i he
    have he := Decidable.not_not.1 he
    split
    · exact .refl _
    · split
      · exact .refl _
      · split
        · exact .refl _
        · split
          · exact .refl _
          · split
            · rename_i hx
              have h1 := Le_nx hx
              split
              · exact .refl _
              · obtain ⟨e1, e2⟩ := hf _ h1.hi
                rw [← e1]
                exact ⟨rfl, fun he => e2 ((Le_must (L := L) (s := sClose) (hm _ h1.hi).hi).e0 he)⟩
            · split
              · rename_i hm2
                exact Agr_made hm hf (tokAt_lt (by have := makes_k hm2; omega)) he
              · split
                · exact Ag_call hn hg _ h
                · exact .refl _
theorem Agr_quant (hm : Mo L f) (hf : Ag L f f') (k : Int) (h : st.p < L.length) (he : st.e = 0) : Agr (quantF L f k st) (quantF L f' k st) := by
  have h1 := Le_nxt h he
  have h2 := Le_kind (L := L) (k := 4) (by decide) h1.hi
  have h3 := Le_must (L := L) (s := sIn) h2.hi
  have h4 := hm _ h3.hi
  have h5 := Le_must (L := L) (s := sSatisfies) h4.hi
  obtain ⟨e1, e2⟩ := hf _ h3.hi
  obtain ⟨e3, e4⟩ := hf _ h5.hi
  unfold quantF
  simp only []
  rw [← e1]
  exact ⟨e3, fun he => by simp only [] at he ⊢; rw [e4 he, e2 ((h5.trans (hm _ h5.hi)).e0 he)]⟩
theorem Agr_if (hm : Mo L f) (hf : Ag L f f') (hn : Mo L g) (hg : Ag L g g') (h : st.p + 1 < L.length) (he : st.e = 0) : Agr (ifF L f g st) (ifF L f' g' st) := by
  have h1 := Le_nxt (L := L) (st := st) (by omega) he
  have h2 := h1.trans (Le_nxt (L := L) (st := nxt st) h he)
  have h3 := hm _ h2.hi
  have h4 := Le_must (L := L) (s := sClose) h3.hi
  have h5 := Le_must (L := L) (s := sThen) h4.hi
  have h6 := hn _ h5.hi
  have h7 := Le_must (L := L) (s := sElse) h6.hi
  have h8 := h7.trans (hn _ h7.hi)
  obtain ⟨e1, e2⟩ := hf _ h2.hi
  obtain ⟨e3, e4⟩ := hg _ h5.hi
  obtain ⟨e5, e6⟩ := hg _ h7.hi
  unfold ifF
  simp only []
  rw [← e1, ← e3]
  exact ⟨e5, fun he => by
    simp only [] at he ⊢
    have := h8.e0 he
    rw [e6 he, e4 this, e2 (((h4.trans h5).trans h6).e0 this)]⟩
theorem Ag_alone {o o' : Ps → PR} (hm : Mo L f) (hf : Ag L f f') (hn : Mo L g) (hg : Ag L g g') (ho : Ag L o o') (n : Int) : Ag L (aloneF L f g o n) (aloneF L f' g' o' n) := fun st h => by
  have h1 := Le_lev (L := L) n h
  unfold aloneF
  simp only []
  split
  · exact .refl _
  · rename_i he
    have he := Decidable.not_not.1 he
    split
    · exact Ag_flwor hn hg _ h1.hi
    · split
      · rename_i hq
        have hl : (levP n st).p < L.length := by
          rcases hq with hq | hq
          · exact isN_lt (opens_N hq)
          · exact isN_lt (opens_N hq)
        exact Agr_quant hn hg _ hl he
      · split
        · rename_i hi
          exact Agr_if hm hf hn hg (tokAt_lt (mkAt_k hi.2)) he
        · exact ho _ h1.hi
structure AgG (L : List Tk) (S T : Gr) : Prop where
  ex : Ag L S.ex T.ex
  al : Ag L S.al T.al
  pc : Ag L S.pc T.pc
  mi : Ag L S.mi T.mi
theorem AgG_F {J J' : Ph} {S T : Gr} (hm : MoG L S) (h : AgG L S T) (n : Int) : AgG L (grF L J S n) (grF L J' T n) := by
  have hi := Ag_minus h.mi (Ag_way hm.pc h.pc) n
  exact ⟨Ag_expr hm.al h.al n, Ag_alone hm.ex h.ex hm.al h.al (Ag_ops (Mo_minus hm.mi (Mo_way hm.pc) n) hi 8) n, Ag_pace hm.ex h.ex (Mo_first hm.ex hm.al) (Ag_first hm.ex h.ex hm.al h.al) n, hi⟩
theorem AgG_gr {J J' : Ph} : ∀ (m : Nat) (n : Int), AgG L (gr L J m n) (gr L J' m n)
  | 0, n => ⟨fun _ _ => .refl _, fun _ _ => .refl _, fun _ _ => .refl _, fun _ _ => .refl _⟩
  | m + 1, n => AgG_F (MoG_gr m (n + 1)) (AgG_gr m (n + 1)) n
theorem way_err (hp : ∀ st : Ps, st.e ≠ 0 → f st = (pNil, st)) (h : st.e ≠ 0) : wayF L f st = (pNil, st) := by
  have hn : ∀ s, isN L s st = false := fun s => by
    cases hx : isN L s st with
    | false => rfl
    | true => exact absurd (isN_e hx) h
  unfold wayF
  rw [hn, hn, hp _ h]
  simp only [Bool.false_eq_true, if_false]
  unfold wayL
  rw [hn, hn]
  simp
theorem minus_err (hp : ∀ st : Ps, st.e ≠ 0 → f st = (pNil, st)) (n : Int) (h : st.e ≠ 0) : minusF L g (wayF L f) n st = (pNil, st) := by
  have hn : isN L sMinus st = false := by
    cases hx : isN L sMinus st with
    | false => rfl
    | true => exact absurd (isN_e hx) h
  unfold minusF
  rw [hn]
  simpa using way_err hp h
theorem ops_err (hp : ∀ st : Ps, st.e ≠ 0 → f st = (pNil, st)) (h : st.e ≠ 0) : ∀ j : Nat, opsF L f j st = (pNil, st)
  | 0 => hp _ h
  | j + 1 => by
    unfold opsF
    rw [ops_err hp h j]
    simp only []
    unfold binL
    have hn : opN L (7 - j) st = false := by
      cases hx : opN L (7 - j) st with
      | false => rfl
      | true => exact absurd (opN_e hx) h
    rw [hn]
    simp
theorem pace_err {J : Ph} (n : Int) (h : st.e ≠ 0) : paceF L J f g n st = (pNil, st) := by
  have : levP n st = st := by
    unfold levP wrongP
    rw [if_neg h]
    split <;> rfl
  unfold paceF
  simp only []
  rw [this, if_pos h]
end
end Go.Proofs.YtmhabdopcbokoaaDoor.Gq
namespace Go.Proofs.YtmhabdopcbokoaaDoor.Gq
open Go Go.Proofs.YtmhabdopcbokoaaDoor.Ab
variable [Glo]
set_option maxHeartbeats 4000000
set_option maxRecDepth 20000
def gpO (L : List Tk) (n : Int) (st : Ps) : Ob := .row 0 42 4 [[.d (.sl 3 (L.map tkD)), .d (.i .i64 st.p), .d (.i .i64 n), .d (.i .i64 st.e)]]
theorem gp_bel (m : Nat) (a b c d : D) : ObBel m (.row 0 42 4 [[.d a, .d b, .d c, .d d]]) := by
  intro row hr v hv
  simp at hr
  subst hr
  simp at hv
  rcases hv with rfl | rfl | rfl | rfl <;> exact .d _
theorem tokAt_get {L : List Tk} {i : Nat} (h : i < L.length) : L[i]? = some (tokAt L i) := by
  rw [tokAt, List.getD_eq_getElem?_getD, List.getElem?_eq_getElem h]; rfl
theorem tokAt_nil {L : List Tk} {i : Nat} (h : ¬ i < L.length) : tokAt L i = ⟨0, [], 0⟩ := by
  rw [tokAt, List.getD_eq_getElem?_getD, List.getElem?_eq_none (by omega)]; rfl
namespace FN39
def tks : Nat → List Nat | 0 => [0, 1, 4] | 1 => [0, 1, 4, 16] | 2 => [4] | 3 => [4] | _ => []
def tmu : List Nat := []
def tin : List Nat := [0, 1]
def tnd : Nat → Nat | 1 => 11 | 2 => 12 | _ => 0
abbrev tfn := @Tryd.func39
end FN39
attribute [go_sem] FN39.tks FN39.tmu FN39.tin FN39.tnd Tryd.ntmps39 Tryd.results39
open FN39 in
theorem gToken_A (L : List Tk) (hL : L.length ≤ 200) (id : Nat) (n : Int) (st : Ps) (hp : st.p ≤ L.length) (a : Nat) (ha : a ≤ 2) (H : Heap) (K : V → Heap → Prop) (hr : H[id]? = some (gpO L n st)) (hk : K (tkV (tokAt L (st.p + a))) H) :
    ACalls Tryd.prog 39 [.pt id 0 0 0, .d (.i .i64 a)] H K := by
  have hid := lt_of_get hr
  rw [gpO] at hr
  obtain ⟨ga, sa, gs, ss, gsa, ssa, gl0, glk, sl0, slk⟩ := atH hr
  by_cases h : st.p + a < L.length
  · have h1 : (((st.p : Int) + (a : Int)) < (L.length : Int)) = True := eq_true (by omega)
    have h2 : ((0 : Int) ≤ (st.p : Int) + (a : Int)) = True := eq_true (by omega)
    have h3 : ((st.p : Int) + (a : Int)).toNat = st.p + a := by omega
    have hx := tokAt_get h
    generalize tokAt L (st.p + a) = t at hx hk
    refine We ?_
    have us := an hr (an h1 (an h2 (an h3 hx)))
    exact W7
  · have h1 : (((st.p : Int) + (a : Int)) < (L.length : Int)) = False := eq_false (by omega)
    rw [tokAt_nil h] at hk
    refine We ?_
    have us := an hr h1
    exact W8
namespace FN33
def tks : Nat → List Nat | 0 => [0, 1, 8] | 1 => [] | _ => []
def tmu : List Nat := []
def tin : List Nat := [0, 1]
abbrev tfn := @Tryd.func33
end FN33
attribute [go_sem] FN33.tks FN33.tmu FN33.tin Tryd.ntmps33 Tryd.results33
open FN33 in
theorem gWrong_A (L : List Tk) (id : Nat) (n : Int) (st : Ps) (e : Int) (H : Heap) (K : V → Heap → Prop) (hr : H[id]? = some (gpO L n st)) (hk : K (.tu []) (H.set id (gpO L n (wrongP e st)))) :
    ACalls Tryd.prog 33 [.pt id 0 0 0, .d (.i .i64 e)] H K := by
  have hid := lt_of_get hr
  by_cases hf : st.e = 0
  · rw [wrongP, if_pos hf] at hk
    have h1 : (st.e = 0) = True := eq_true hf
    rw [gpO] at hr
    refine We ?_
    have us := an hr h1
    (repeat' (first | with_reducible (first | refine And.intro ?_ ?_ | intro _ | (refine hKv _ _ (AWp_nop ?_); clear hKv Kv) | (refine hKA ?_; clear hKA hKB KA KB) | (refine hKB ?_; clear hKA hKB KA KB) | refine Wp ?_ | fail) | ((first | with_reducible (first | (refine hKv _ _ ?_; clear hKv Kv) | (refine Wr ?_; intro Kv hKv) | refine AWp_retR ?_ | fail) | refine Wc ?_ | fail); try simp (dsimp := false) only [go_sem, Nat.reduceAdd, Nat.reduceBEq, Nat.reduceEqDiff, Nat.reduceLT, Nat.reduceLeDiff, Nat.reduceMul, Int.reduceToNat, reduceCtorEq, ↓reduceIte, us, hid]) | (refine AWp_condC rfl ?_; intro KA KB hKA hKB; try simp only [onB_true, onB_false, onB_dec, onB_ndec, onB_not, onB_and, onB_or]) | (refine AWp_condA rfl ?_ ?_) | with_reducible (first | refine onB_of ?_ ?_ | rfl) | omega))
    all_goals try (refine AWp_skip ?_; simp (dsimp := false) only [go_sem, Nat.reduceAdd, Nat.reduceBEq, Nat.reduceEqDiff, Nat.reduceLT, Nat.reduceLeDiff, Nat.reduceMul, Int.reduceToNat, reduceCtorEq, ↓reduceIte, hr, h1, hid])
    all_goals first
      | omega
      | exact keepS hk (by simp) (closed_set (closed_self H) (gp_bel _ _ _ _ _)) (by simp [Bel_tu])
  · rw [wrongP, if_neg hf, set_same hr] at hk
    have h1 : (st.e = 0) = False := eq_false hf
    rw [gpO] at hr
    refine We ?_
    have us := an hr h1
    (repeat' (first | with_reducible (first | refine And.intro ?_ ?_ | intro _ | (refine hKv _ _ (AWp_nop ?_); clear hKv Kv) | (refine hKA ?_; clear hKA hKB KA KB) | (refine hKB ?_; clear hKA hKB KA KB) | refine Wp ?_ | fail) | ((first | with_reducible (first | (refine hKv _ _ ?_; clear hKv Kv) | (refine Wr ?_; intro Kv hKv) | refine AWp_retR ?_ | fail) | refine Wc ?_ | fail); try simp (dsimp := false) only [go_sem, Nat.reduceAdd, Nat.reduceBEq, Nat.reduceEqDiff, Nat.reduceLT, Nat.reduceLeDiff, Nat.reduceMul, Int.reduceToNat, reduceCtorEq, ↓reduceIte, us, hid]) | (refine AWp_condC rfl ?_; intro KA KB hKA hKB; try simp only [onB_true, onB_false, onB_dec, onB_ndec, onB_not, onB_and, onB_or]) | (refine AWp_condA rfl ?_ ?_) | with_reducible (first | refine onB_of ?_ ?_ | rfl) | omega))
    all_goals try (refine AWp_skip ?_; simp (dsimp := false) only [go_sem, Nat.reduceAdd, Nat.reduceBEq, Nat.reduceEqDiff, Nat.reduceLT, Nat.reduceLeDiff, Nat.reduceMul, Int.reduceToNat, reduceCtorEq, ↓reduceIte, hr, h1, hid])
    all_goals first
      | omega
      | exact keepS hk (Nat.le_refl _) (closed_self H) (by simp [Bel_tu])
namespace FN51
def tks : Nat → List Nat | 0 => [0, 11] | 1 => [] | 2 => [] | _ => []
def tmu : List Nat := []
def tin : List Nat := [0]
def tnd : Nat → Nat | 0 => 9 | _ => 0
abbrev tfn := @Tryd.func51
end FN51
attribute [go_sem] FN51.tks FN51.tmu FN51.tin FN51.tnd Tryd.ntmps51 Tryd.results51
open FN51 in
theorem gStuck_A (L : List Tk) (hL : L.length ≤ 200) (id : Nat) (n : Int) (st : Ps) (hp : st.p ≤ L.length) (H : Heap) (K : V → Heap → Prop) (hr : H[id]? = some (gpO L n st)) (hk : K (.tu []) (H.set id (gpO L n (stuckP L st)))) :
    ACalls Tryd.prog 51 [.pt id 0 0 0] H K := by
  have hid := lt_of_get hr
  have hw := fun e K hk => gWrong_A L id n st e H K hr hk
  rw [stuckP] at hk
  rw [gpO] at hr
  by_cases h : L.length ≤ st.p
  · have h1 : ((L.length : Int) ≤ (st.p : Int)) = True := eq_true (by omega)
    rw [if_pos h] at hk
    refine We ?_
    have c21 := hw; have us := an hr h1
    (repeat' (first | with_reducible (first | refine And.intro ?_ ?_ | intro _ | (refine hKv _ _ (AWp_nop ?_); clear hKv Kv) | (refine hKA ?_; clear hKA hKB KA KB) | (refine hKB ?_; clear hKA hKB KA KB) | refine Wp ?_ | fail) | ((first | with_reducible (first | (refine hKv _ _ ?_; clear hKv Kv) | (refine Wr ?_; intro Kv hKv) | refine AWp_retR ?_ | fail) | refine Wc ?_ | fail); try simp (dsimp := false) only [go_sem, Nat.reduceAdd, Nat.reduceBEq, Nat.reduceEqDiff, Nat.reduceLT, Nat.reduceLeDiff, Nat.reduceMul, Int.reduceToNat, reduceCtorEq, ↓reduceIte, us, hid]) | (refine AWp_condC rfl ?_; intro KA KB hKA hKB; try simp only [onB_true, onB_false, onB_dec, onB_ndec, onB_not, onB_and, onB_or]) | (refine AWp_condA rfl ?_ ?_) | with_reducible (first | refine onB_of ?_ ?_ | rfl) | omega))
    all_goals try (refine AWp_skip ?_; simp (dsimp := false) only [go_sem, Nat.reduceAdd, Nat.reduceBEq, Nat.reduceEqDiff, Nat.reduceLT, Nat.reduceLeDiff, Nat.reduceMul, Int.reduceToNat, reduceCtorEq, ↓reduceIte, hr, h1, hid])
    all_goals first
      | omega
      | exact keepS hk (by simp) (closed_set (closed_self H) (gp_bel _ _ _ _ _)) (by simp [Bel_tu])
  · have h1 : ((L.length : Int) ≤ (st.p : Int)) = False := eq_false (by omega)
    rw [if_neg h] at hk
    refine We ?_
    have c21 := hw; have us := an hr h1
    (repeat' (first | with_reducible (first | refine And.intro ?_ ?_ | intro _ | (refine hKv _ _ (AWp_nop ?_); clear hKv Kv) | (refine hKA ?_; clear hKA hKB KA KB) | (refine hKB ?_; clear hKA hKB KA KB) | refine Wp ?_ | fail) | ((first | with_reducible (first | (refine hKv _ _ ?_; clear hKv Kv) | (refine Wr ?_; intro Kv hKv) | refine AWp_retR ?_ | fail) | refine Wc ?_ | fail); try simp (dsimp := false) only [go_sem, Nat.reduceAdd, Nat.reduceBEq, Nat.reduceEqDiff, Nat.reduceLT, Nat.reduceLeDiff, Nat.reduceMul, Int.reduceToNat, reduceCtorEq, ↓reduceIte, us, hid]) | (refine AWp_condC rfl ?_; intro KA KB hKA hKB; try simp only [onB_true, onB_false, onB_dec, onB_ndec, onB_not, onB_and, onB_or]) | (refine AWp_condA rfl ?_ ?_) | with_reducible (first | refine onB_of ?_ ?_ | rfl) | omega))
    all_goals try (refine AWp_skip ?_; simp (dsimp := false) only [go_sem, Nat.reduceAdd, Nat.reduceBEq, Nat.reduceEqDiff, Nat.reduceLT, Nat.reduceLeDiff, Nat.reduceMul, Int.reduceToNat, reduceCtorEq, ↓reduceIte, hr, h1, hid])
    all_goals first
      | omega
      | exact keepS hk (by simp) (closed_set (closed_self H) (gp_bel _ _ _ _ _)) (by simp [Bel_tu])
theorem isN_F {L : List Tk} {s : Bs} {st : Ps} (h : st.e ≠ 0) : isN L s st = false := by rw [isN, decide_eq_false h, Bool.false_and]
namespace FN18
def tks : Nat → List Nat | 0 => [0, 1] | 1 => [0, 1, 5] | 2 => [4] | _ => []
def tmu : List Nat := []
def tin : List Nat := [0, 1]
def tro : Nat → List Nat | 1 => [5] | _ => []
abbrev tfn := @Tryd.func18
end FN18
attribute [go_sem] FN18.tks FN18.tmu FN18.tin FN18.tro Tryd.ntmps18 Tryd.results18
open FN18 in
theorem gIs_A (L : List Tk) (hL : L.length ≤ 200) (id : Nat) (n : Int) (st : Ps) (hp : st.p ≤ L.length) (s : Bs) (H : Heap) (K : V → Heap → Prop) (hr : H[id]? = some (gpO L n st)) (hk : K (.d (.b (isN L s st))) H) :
    ACalls Tryd.prog 18 [.pt id 0 0 0, .d (.s s)] H K := by
  have hid := lt_of_get hr
  have ht := fun K hk => gToken_A L hL id n st hp 0 (by omega) H K hr hk
  rw [Nat.add_zero] at ht
  rw [gpO] at hr
  rw [isN] at hk
  generalize tokAt L st.p = t at ht hk
  obtain ⟨k, x, m⟩ := t
  simp only [tkV, isK] at ht hk
  by_cases he : st.e = 0
  · have h1 : (st.e = 0) = True := eq_true he
    rw [decide_eq_true he, Bool.true_and] at hk
    by_cases h5 : k = 5
    · have h2 : (k = 5) = True := eq_true h5
      rw [decide_eq_true h5, Bool.true_or, Bool.true_and] at hk
      refine We ?_
      have c11 := ht; have us := an hr (an h1 h2)
      exact W9
    · have h2 : (k = 5) = False := eq_false h5
      rw [decide_eq_false h5, Bool.false_or] at hk
      by_cases h3 : k = 1
      · have h3' : (k = 1) = True := eq_true h3
        rw [decide_eq_true h3, Bool.true_and] at hk
        refine We ?_
        have c11 := ht; have us := an hr (an h1 (an h2 h3'))
        exact W9
      · have h3' : (k = 1) = False := eq_false h3
        rw [decide_eq_false h3, Bool.false_and] at hk
        refine We ?_
        have c11 := ht; have us := an hr (an h1 (an h2 h3'))
        exact W9
  · have h1 : (st.e = 0) = False := eq_false he
    rw [decide_eq_false he, Bool.false_and] at hk
    refine We ?_
    have c11 := ht; have us := an hr h1
    exact W9
end Go.Proofs.YtmhabdopcbokoaaDoor.Gq
