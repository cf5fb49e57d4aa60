/- A region, a piece of code, a function, over the abstract reading: what is asked, and that the model then does so. No condition. -/
import Derived.Test.YtmhabdopcbokoaaDoorR8
set_option linter.all false
set_option linter.unusedSimpArgs false
set_option linter.unusedVariables false
namespace Go.Proofs.YtmhabdopcbokoaaDoor.Ab
open Go
variable [Glo]
def dstOk (n : Nat) (d : Option Tmp) : Prop := match d with | some x => x < n | none => True
def vcOps (P : Program) (n : Nat) (M : List Nat) (all : List Oper) : List Oper → Frame → Heap → (Frame → Heap → Prop) → Prop
  | [], F, H, K => K F H
  | o :: rest, F, H, K =>
    match o.guard with
    | none => dstOk n o.dst ∧ vcOp P M o F H fun v H' => vcOps P n M all rest (F.put o.dst v) H' K
    | some (j, want) =>
      match (all[j]?).bind (·.dst) with
      | some d =>
        (match F.get d with
        | .d (.b t) => d < n ∧ dstOk n o.dst ∧ (match want with
            | true => onB t (vcOp P M o (F.put (some d) (.d (.b true))) H fun v H' => vcOps P n M all rest ((F.put (some d) (.d (.b true))).put o.dst v) H' K)
                (vcOps P n M all rest ((F.put (some d) (.d (.b false))).put o.dst .un) H K)
            | false => onB t (vcOps P n M all rest ((F.put (some d) (.d (.b true))).put o.dst .un) H K)
                (vcOp P M o (F.put (some d) (.d (.b false))) H fun v H' => vcOps P n M all rest ((F.put (some d) (.d (.b false))).put o.dst v) H' K))
        | .un => dstOk n o.dst ∧ vcOps P n M all rest (F.put o.dst .un) H K
        | _ => False)
      | none => False
def canon (KS : List Nat) (F : Frame) : Frame := KS.map fun x => (x, F.get x)
section
variable {P : Program} {n : Nat} {dfs : List Deferred}
theorem canon_get (KS : List Nat) (F : Frame) (x : Nat) : (canon KS F).get x = if x ∈ KS then F.get x else .top := by
  induction KS with
  | nil => simp [canon, Frame.get]
  | cons k ks ih =>
    simp only [canon, List.map_cons, Frame.get, List.lookup_cons] at ih ⊢
    by_cases hx : x = k
    · subst hx; simp
    · have : (x == k) = false := by simpa using hx
      rw [this]
      simp only [List.mem_cons, hx, false_or]
      exact ih
theorem Sat.canon {w : World} {H : Heap} {σ : Conc} {F : Frame} {tmps : Array Value} (h : Sat n w H σ F tmps) (KS : List Nat) : Sat n w H σ (canon KS F) tmps :=
  ⟨h.ok, h.size, fun x => by
    rw [canon_get]
    split
    · exact h.slot x
    · exact .top _⟩
theorem Sat.know {w : World} {H : Heap} {σ : Conc} {F : Frame} {tmps : Array Value} (h : Sat n w H σ F tmps) {d : Nat} {v : V} (hv : VRel w (Own H σ) H σ v (tmps.getD d undef)) : Sat n w H σ (F.put (some d) v) tmps :=
  ⟨h.ok, h.size, fun x => by
    rw [get_put_some]
    split
    · rename_i hx; subst hx; exact hv
    · exact h.slot x⟩
theorem dstOk_spec {d : Option Tmp} (h : dstOk n d) : ∀ x, d = some x → x < n := fun x hx => by subst hx; exact h
theorem vcOps_wp {M : List Nat} {all : List Oper} {Q : Exit → Act → World → Prop} {w0 : World} {H0 : Heap} {σ0 : Conc} :
    ∀ (l : List Oper) (F : Frame) (H : Heap) (K : Frame → Heap → Prop) (w : World) (σ : Conc) (a : Act), vcOps P n M all l F H K → Sat n w H σ F a.tmps → Pres w0 H0 σ0 w H σ → a.defers = dfs →
    (∀ F' H' w' σ' a', K F' H' → Sat n w' H' σ' F' a'.tmps → Pres w0 H0 σ0 w' H' σ' → a'.defers = dfs → Q .normal a' w') → wpList P all.toArray Q l a w
  | [], F, H, K, w, σ, a, h, hs, hp, hd, hQ => hQ F H w σ a h hs hp hd
  | o :: rest, F, H, K, w, σ, a, h, hs, hp, hd, hQ => by
    have hput : ∀ v, (a.put o.dst v).defers = dfs := fun v => by cases ho : o.dst <;> simpa [Act.put, ho] using hd
    have step : ∀ (F1 : Frame), Sat n w H σ F1 a.tmps → dstOk n o.dst → vcOp P M o F1 H (fun v H' => vcOps P n M all rest (F1.put o.dst v) H' K) → o.wp P a w (wpList P all.toArray Q rest) Q := fun F1 hs1 hd1 h1 =>
      vcOp_wp h1 hs1 fun v val w' H' σ' hk hv hw' hp' =>
        vcOps_wp rest (F1.put o.dst v) H' K w' σ' (a.put o.dst val) hk ((hs1.pres hp' hw').put (dstOk_spec hd1) hv) (hp.trans hp') (hput val) hQ
    unfold vcOps at h
    unfold wpList
    cases hg : o.guard with
    | none =>
      rw [hg] at h
      rw [if_pos (by simp [Region.wanted, hg])]
      exact .inl (step F hs h.1 h.2)
    | some jw =>
      obtain ⟨j, want⟩ := jw
      rw [hg] at h
      simp only [] at h
      split at h
      case h_2 => exact h.elim
      rename_i d hdst
      have hy : yielded all.toArray a.tmps j = match a.tmps[d]? with | some (.bool b) => some b | _ => none := by
        unfold yielded
        rw [List.getElem?_toArray, hdst]
        rfl
      split at h
      · rename_i t ht
        obtain ⟨hdn, hdo, h12⟩ := h
        have h1 : t = want → vcOp P M o (F.put (some d) (.d (.b want))) H fun v H' => vcOps P n M all rest ((F.put (some d) (.d (.b want))).put o.dst v) H' K := fun e => by
          subst e; cases t <;> simp only [onB] at h12 <;> simpa using h12
        have h2 : t = (!want) → vcOps P n M all rest ((F.put (some d) (.d (.b (!want)))).put o.dst .un) H K := fun e => by
          subst e; cases want <;> simp only [onB] at h12 <;> simpa using h12
        have hsl := hs.slot d
        rw [ht] at hsl
        have hval := hsl.inv_d.inv_b
        have hlt : d < a.tmps.size := by rw [hs.size]; exact hdn
        have hget : a.tmps[d]? = some (.bool t) := by
          rw [Array.getD_eq_getD_getElem?, Array.getElem?_eq_getElem hlt] at hval
          rw [Array.getElem?_eq_getElem hlt]
          exact congrArg some hval
        rw [hget] at hy
        by_cases htw : t = want
        · subst htw
          rw [if_pos (by simp [Region.wanted, hg, hy])]
          exact .inl (step _ (hs.know (by rw [hval]; exact .d _ _ (.b _))) hdo (h1 rfl))
        · have htn : t = !want := by cases t <;> cases want <;> simp_all
          rw [if_neg (by simp [Region.wanted, hg, hy, htw])]
          have hs' : Sat n w H σ (F.put (some d) (.d (.b (!want)))) a.tmps := hs.know (by rw [hval, htn]; exact .d _ _ (.b _))
          exact vcOps_wp rest _ H K w σ (a.put o.dst undef) (h2 htn) (hs'.put (dstOk_spec hdo) .un) hp (hput undef) hQ
      · rename_i ht
        have hsl := hs.slot d
        rw [ht] at hsl
        have hval : a.tmps.getD d undef = undef := by
          generalize a.tmps.getD d undef = u at hsl
          cases hsl; rfl
        have hne : (match a.tmps[d]? with | some (.bool b) => some b | _ => none : Option Bool) = none := by
          rw [Array.getD_eq_getD_getElem?] at hval
          cases hq : a.tmps[d]? with
          | none => rfl
          | some u =>
            rw [hq] at hval
            simp only [Option.getD_some] at hval
            subst hval
            rfl
        rw [hne] at hy
        rw [if_neg (by simp [Region.wanted, hg, hy])]
        exact vcOps_wp rest _ H K w σ (a.put o.dst undef) h.2 (hs.put (dstOk_spec h.1) .un) hp (hput undef) hQ
      · exact h.elim
def AWp (P : Program) (n : Nat) (dfs : List Deferred) (H0 : Heap) (c : Code) (Q : Exit → Frame → Heap → Prop) (F : Frame) (H : Heap) : Prop :=
  ∀ (w0 : World) (σ0 : Conc) (w : World) (σ : Conc) (a : Act), WOk w0 H0 σ0 → Pres w0 H0 σ0 w H σ → Sat n w H σ F a.tmps → a.defers = dfs →
    c.wp P (fun e a' w' => ∃ F' H' σ', Q e F' H' ∧ Pres w0 H0 σ0 w' H' σ' ∧ Sat n w' H' σ' F' a'.tmps ∧ a'.defers = dfs) a w
def thenA (next : Frame → Heap → Prop) (Q : Exit → Frame → Heap → Prop) : Exit → Frame → Heap → Prop
  | .normal, F, H => next F H
  | e, F, H => Q e F H
def inBlockA (id : Nat) (Q : Exit → Frame → Heap → Prop) : Exit → Frame → Heap → Prop
  | .exit id', F, H => if id' = id then Q .normal F H else Q (.exit id') F H
  | e, F, H => Q e F H
variable {H0 : Heap} {Q : Exit → Frame → Heap → Prop} {F : Frame} {H : Heap}
theorem AWp.mono {c : Code} {Q' : Exit → Frame → Heap → Prop} (h : AWp P n dfs H0 c Q F H) (hq : ∀ e F H, Q e F H → Q' e F H) : AWp P n dfs H0 c Q' F H :=
  fun w0 σ0 w σ a hw hp hs hd => Code.wp_mono (fun _ _ _ ⟨F', H', σ', hQ, rest⟩ => ⟨F', H', σ', hq _ _ _ hQ, rest⟩) (h w0 σ0 w σ a hw hp hs hd)
theorem AWp_skip (h : Q .normal F H) : AWp P n dfs H0 .skip Q F H :=
  fun _ _ _ σ _ _ hp hs hd => wp_skip ⟨F, H, σ, h, hp, hs, hd⟩
theorem AWp_ret (h : Q .ret F H) : AWp P n dfs H0 .ret Q F H :=
  fun _ _ _ σ _ _ hp hs hd => wp_ret ⟨F, H, σ, h, hp, hs, hd⟩
theorem AWp_exit {id : Nat} (h : Q (.exit id) F H) : AWp P n dfs H0 (.exit id) Q F H :=
  fun _ _ _ σ _ _ hp hs hd => wp_exit ⟨F, H, σ, h, hp, hs, hd⟩
theorem AWp_seq0 {x y : Code} (h : AWp P n dfs H0 x (thenA (fun F' H' => AWp P n dfs H0 y Q F' H') Q) F H) : AWp P n dfs H0 (.seq x y) Q F H :=
  fun w0 σ0 w σ a hw hp hs hd => wp_seq (Code.wp_mono (fun e a' w' ⟨F', H', σ', hQ, hp', hs', hd'⟩ => by
    cases e with
    | normal => exact hQ w0 σ0 w' σ' a' hw hp' hs' hd'
    | _ => exact ⟨F', H', σ', hQ, hp', hs', hd'⟩) (h w0 σ0 w σ a hw hp hs hd))
theorem AWp_seq {x y : Code} (h : AWp P n dfs H0 x (thenA (fun F' H' => AWp P n dfs H0 y Q F' H') Q) F H) : AWp P n dfs H0 (.seq x y) Q F H := AWp_seq0 h
theorem AWp_block0 {id : Nat} {c : Code} (h : AWp P n dfs H0 c (inBlockA id Q) F H) : AWp P n dfs H0 (.block id c) Q F H :=
  fun w0 σ0 w σ a hw hp hs hd => wp_block (Code.wp_mono (fun e a' w' ⟨F', H', σ', hQ, hp', hs', hd'⟩ => by
    cases e with
    | exit id' =>
      simp only [inBlockA] at hQ
      simp only [Exit.inBlock]
      split at hQ
      · rename_i he; rw [if_pos he]; exact ⟨F', H', σ', hQ, hp', hs', hd'⟩
      · rename_i he; rw [if_neg he]; exact ⟨F', H', σ', hQ, hp', hs', hd'⟩
    | _ => exact ⟨F', H', σ', hQ, hp', hs', hd'⟩) (h w0 σ0 w σ a hw hp hs hd))
theorem AWp_block {id : Nat} {c : Code} (h : AWp P n dfs H0 c (inBlockA id Q) F H) : AWp P n dfs H0 (.block id c) Q F H := AWp_block0 h
class Nrm (Q : Exit → Frame → Heap → Prop) (R : outParam (Frame → Heap → Prop)) : Prop where
  spec : ∀ F H, R F H → Q .normal F H
instance nrm_thenA {y : Frame → Heap → Prop} {Q : Exit → Frame → Heap → Prop} : Nrm (thenA y Q) y := ⟨fun _ _ h => h⟩
instance nrm_blk {j : Nat} {Q : Exit → Frame → Heap → Prop} {R : Frame → Heap → Prop} [h : Nrm Q R] : Nrm (inBlockA j Q) R := ⟨h.spec⟩
theorem AWp_skipN {R : Frame → Heap → Prop} [ho : Nrm Q R] (h : R F H) : AWp P n dfs H0 .skip Q F H := AWp_skip (ho.spec F H h)
inductive Out : Nat → (Exit → Frame → Heap → Prop) → (Frame → Heap → Prop) → Prop where
  | thenA {i : Nat} {y : Frame → Heap → Prop} {Q : Exit → Frame → Heap → Prop} {R : Frame → Heap → Prop} : Out i Q R → Out i (thenA y Q) R
  | out {i j : Nat} {Q : Exit → Frame → Heap → Prop} {R : Frame → Heap → Prop} : (Nat.beq i j = false) → Out i Q R → Out i (inBlockA j Q) R
  | hit {i : Nat} {Q : Exit → Frame → Heap → Prop} {R : Frame → Heap → Prop} [h : Nrm Q R] : Out i (inBlockA i Q) R
theorem Out_spec {i : Nat} {Q : Exit → Frame → Heap → Prop} {R : Frame → Heap → Prop} (h : Out i Q R) : ∀ F H, R F H → Q (.exit i) F H := by
  induction h with
  | thenA _ ih => exact ih
  | out hne _ ih =>
    intro F H hr
    show if _ = _ then _ else _
    rw [if_neg (by intro e; subst e; simp at hne)]
    exact ih F H hr
  | hit =>
    rename_i hn
    intro F H hr
    show if _ = _ then _ else _
    rw [if_pos rfl]
    exact hn.spec F H hr
theorem AWp_exitO {i : Nat} {R : Frame → Heap → Prop} (ho : Out i Q R) (h : R F H) : AWp P n dfs H0 (.exit i) Q F H := AWp_exit (Out_spec ho F H h)
class Rtn (Q : Exit → Frame → Heap → Prop) (R : outParam (Exit → Frame → Heap → Prop)) : Prop where
  spec : ∀ F H, R .ret F H → Q .ret F H
instance rtn_thenA {y : Frame → Heap → Prop} {Q R : Exit → Frame → Heap → Prop} [h : Rtn Q R] : Rtn (thenA y Q) R := ⟨h.spec⟩
instance rtn_blk {j : Nat} {Q R : Exit → Frame → Heap → Prop} [h : Rtn Q R] : Rtn (inBlockA j Q) R := ⟨h.spec⟩
theorem AWp_retR {R : Exit → Frame → Heap → Prop} [ho : Rtn Q R] (h : R .ret F H) : AWp P n dfs H0 .ret Q F H := AWp_ret (ho.spec F H h)
theorem AWp_cond {c : Operand} {x y : Code} {t : Bool} (hc : ev F c = .d (.b t)) (h : onB t (AWp P n dfs H0 x Q F H) (AWp P n dfs H0 y Q F H)) : AWp P n dfs H0 (.cond c x y) Q F H :=
  have h1 := h.1
  have h2 := h.2
  fun w0 σ0 w σ a hw hp hs hd => by
    have hv := hs.ev c
    rw [hc] at hv
    refine wp_cond hv.inv_d.inv_b ?_
    cases t
    · exact h2 rfl w0 σ0 w σ a hw hp hs hd
    · exact h1 rfl w0 σ0 w σ a hw hp hs hd
theorem AWp_condA {c : Operand} {x y : Code} (hc : ev F c = .ab) (h1 : AWp P n dfs H0 x Q F H) (h2 : AWp P n dfs H0 y Q F H) : AWp P n dfs H0 (.cond c x y) Q F H :=
  fun w0 σ0 w σ a hw hp hs hd => by
    have hv := hs.ev c
    rw [hc] at hv
    obtain ⟨t, ht⟩ := hv.inv_ab
    refine wp_cond ht ?_
    cases t
    · exact h2 w0 σ0 w σ a hw hp hs hd
    · exact h1 w0 σ0 w σ a hw hp hs hd
theorem AWp_region {id : Nat} {l : List Oper} (M KS : List Nat) (h : vcOps P n M l l F H fun F' H' => Q .normal (canon KS F') H') : AWp P n dfs H0 (.region id l.toArray false) Q F H :=
  fun _ _ w σ a hw hp hs hd => wp_region_lit (vcOps_wp l F H _ w σ a h hs hp hd fun F' H' w' σ' a' hk hs' hp' hd' => ⟨canon KS F', H', σ', hk, hp', hs'.canon KS, hd'⟩)
theorem AWp_reg {id : Nat} {l : List Oper} (M : List Nat) (ks : Nat → List Nat) (h : vcOps P n M l l F H fun F' H' => Q .normal (canon (ks id) F') H') : AWp P n dfs H0 (.region id l.toArray false) Q F H := AWp_region M (ks id) h
theorem AWp_condC {c : Operand} {x y : Code} {t : Bool} (hc : ev F c = .d (.b t)) (h : ∀ A B : Prop, (AWp P n dfs H0 x Q F H → A) → (AWp P n dfs H0 y Q F H → B) → onB t A B) : AWp P n dfs H0 (.cond c x y) Q F H :=
  AWp_cond hc (h _ _ id id)
theorem AWp_regC {id : Nat} {l : List Oper} {R : Frame → Heap → Prop} (M : List Nat) (ks : Nat → List Nat) [ho : Nrm Q R] (h : ∀ Kv : Frame → Heap → Prop, (∀ F' H', R F' H' → Kv F' H') → vcOps P n M l l F H fun F' H' => Kv (canon (ks id) F') H') :
    AWp P n dfs H0 (.region id l.toArray false) Q F H := AWp_reg M ks (h _ fun F' H' hr => ho.spec F' H' hr)
theorem AWp_regE {id : Nat} {l : List Oper} (M : List Nat) (ks : Nat → List Nat) (h : ∀ Kv : Frame → Heap → Prop, (∀ F' H', Q .normal F' H' → Kv F' H') → vcOps P n M l l F H fun F' H' => Kv (canon (ks id) F') H') :
    AWp P n dfs H0 (.region id l.toArray false) Q F H := AWp_reg M ks (h _ fun F' H' hr => hr)
inductive Bel (m : Nat) : V → Prop where
  | top : Bel m .top
  | un : Bel m .un
  | d (x : D) : Bel m (.d x)
  | ag (cs : List V) : (∀ c, c ∈ cs → Bel m c) → Bel m (.ag cs)
  | tu (cs : List V) : (∀ c, c ∈ cs → Bel m c) → Bel m (.tu cs)
  | os (id ver : Nat) : id < m → Bel m (.os id ver)
  | pt (id ver i c : Nat) : id < m → Bel m (.pt id ver i c)
  | rp (row : List D) : Bel m (.rp row)
  | em : Bel m .em
  | ab : Bel m .ab
  | vw (id ver n : Nat) : id < m → Bel m (.vw id ver n)
  | sd (id ver : Nat) : id < m → Bel m (.sd id ver)
  | fn (g : Nat) (cs : List V) : (∀ c, c ∈ cs → Bel m c) → Bel m (.fn g cs)
  | mp (sh : List Kd) (ks : List (List D)) (cs : List V) : (∀ c, c ∈ cs → Bel m c) → Bel m (.mp sh ks cs)
  | mo (id ver : Nat) : id < m → Bel m (.mo id ver)
theorem Bel_top (m : Nat) : Bel m .top = True := eq_true .top
theorem Bel_un (m : Nat) : Bel m .un = True := eq_true .un
theorem Bel_d (m : Nat) (x : D) : Bel m (.d x) = True := eq_true (.d x)
theorem Bel_rp (m : Nat) (row : List D) : Bel m (.rp row) = True := eq_true (.rp row)
theorem Bel_ab (m : Nat) : Bel m .ab = True := eq_true .ab
theorem Bel_em (m : Nat) : Bel m .em = True := eq_true .em
theorem Bel_os (m id ver : Nat) : Bel m (.os id ver) = (id < m) := propext ⟨fun h => by cases h; assumption, .os id ver⟩
theorem Bel_vw (m id ver n : Nat) : Bel m (.vw id ver n) = (id < m) := propext ⟨fun h => by cases h; assumption, .vw id ver n⟩
theorem Bel_sd (m id ver : Nat) : Bel m (.sd id ver) = (id < m) := propext ⟨fun h => by cases h; assumption, .sd id ver⟩
theorem Bel_pt (m id ver i c : Nat) : Bel m (.pt id ver i c) = (id < m) := propext ⟨fun h => by cases h; assumption, .pt id ver i c⟩
theorem Bel_ag (m : Nat) (cs : List V) : Bel m (.ag cs) = (∀ c, c ∈ cs → Bel m c) := propext ⟨fun h => by cases h; assumption, .ag cs⟩
theorem Bel_tu (m : Nat) (cs : List V) : Bel m (.tu cs) = (∀ c, c ∈ cs → Bel m c) := propext ⟨fun h => by cases h; assumption, .tu cs⟩
theorem Bel_mp (m : Nat) (sh : List Kd) (ks : List (List D)) (cs : List V) : Bel m (.mp sh ks cs) = (∀ c, c ∈ cs → Bel m c) := propext ⟨fun h => by cases h; assumption, .mp sh ks cs⟩
theorem Bel_mo (m id ver : Nat) : Bel m (.mo id ver) = (id < m) := propext ⟨fun h => by cases h; assumption, .mo id ver⟩
theorem Bel_fn (m g : Nat) (cs : List V) : Bel m (.fn g cs) = (∀ c, c ∈ cs → Bel m c) := propext ⟨fun h => by cases h; assumption, .fn g cs⟩
theorem VRel.bel {w : World} {o : Nat → Prop} {H : Heap} {σ : Conc} {v : V} {val : Value} (h : VRel w o H σ v val) : Bel H.length v := by
  have mem : ∀ {cs : List V} {vs : Array Value}, cs.length = vs.size → (∀ (j : Nat) (c : V) (u : Value), cs[j]? = some c → vs[j]? = some u → Bel H.length c) → ∀ c, c ∈ cs → Bel H.length c := fun {cs vs} hl ih c hc => by
    obtain ⟨j, hj, rfl⟩ := List.getElem_of_mem hc
    have hv : j < vs.size := by omega
    exact ih j _ vs[j] (List.getElem?_eq_getElem hj) (by simp [hv])
  induction h with
  | top => exact .top
  | un => exact .un
  | d x v _ => exact .d x
  | ag cs vs hl _ ih => exact .ag cs (mem hl ih)
  | tu cs vs hl _ ih => exact .tu cs (mem hl ih)
  | os id ver v hid _ => exact .os id ver hid
  | pt id ver i c v hid _ => exact .pt id ver i c hid
  | rp row => exact .rp row
  | em => exact .em
  | ab => exact .ab
  | vw id ver n v hid _ => exact .vw id ver n hid
  | sd id ver p hid _ => exact .sd id ver hid
  | fn g cs vs hl _ ih => exact .fn g cs (mem hl ih)
  | mp sh ks cs vs hl _ ih => exact .mp sh ks cs (mem hl ih)
  | mo id ver v hid _ => exact .mo id ver hid
theorem Bel.mono {m m' : Nat} (hm : m ≤ m') {v : V} (h : Bel m v) : Bel m' v := by
  induction h with
  | top => exact .top
  | un => exact .un
  | d x => exact .d x
  | ag cs _ ih => exact .ag cs ih
  | tu cs _ ih => exact .tu cs ih
  | os id ver hid => exact .os id ver (by omega)
  | pt id ver i c hid => exact .pt id ver i c (by omega)
  | rp row => exact .rp row
  | em => exact .em
  | ab => exact .ab
  | vw id ver n hid => exact .vw id ver n (by omega)
  | sd id ver hid => exact .sd id ver (by omega)
  | fn g cs _ ih => exact .fn g cs ih
  | mp sh ks cs _ ih => exact .mp sh ks cs ih
  | mo id ver hid => exact .mo id ver (by omega)
theorem own_app {H G : Heap} {σ : Conc} (b : Nat) : Own H σ b → Own (H ++ G) σ b :=
  fun ⟨id, v, e, s, r, c, hr, hc⟩ => ⟨id, v, e, s, r, c, by rw [List.getElem?_append_left (List.getElem?_eq_some_iff.1 hr).1]; exact hr, hc⟩
theorem cut_rel {w : World} {H G : Heap} {σ : Conc} {v : V} {val : Value} (h : VRel w (Own (H ++ G) σ) (H ++ G) σ v val) (hb : Bel H.length v) : VRel w (Own H σ) H σ v val := by
  have dcut : ∀ {x : D} {u : Value}, DRel w (Own (H ++ G) σ) x u → DRel w (Own H σ) x u := fun hx => hx.mono (Nat.le_refl _) (fun _ _ _ => rfl) (fun b _ ho => own_app b ho)
  induction h with
  | top => exact .top _
  | un => exact .un
  | d x v hx => exact .d _ _ (dcut hx)
  | ag cs vs hl hr ih =>
    rw [Bel_ag] at hb
    exact .ag cs vs hl fun j c u hj hu => ih j c u hj hu (hb c (List.mem_of_getElem? hj))
  | tu cs vs hl hr ih =>
    rw [Bel_tu] at hb
    exact .tu cs vs hl fun j c u hj hu => ih j c u hj hu (hb c (List.mem_of_getElem? hj))
  | os id ver v hid hv =>
    rw [Bel_os] at hb
    exact .os id ver v hb fun v' e s r hr => hv v' e s r (by rw [List.getElem?_append_left hb]; exact hr)
  | pt id ver i c v hid hv =>
    rw [Bel_pt] at hb
    exact .pt id ver i c v hb fun v' e s r hr => hv v' e s r (by rw [List.getElem?_append_left hb]; exact hr)
  | rp row b off f h1 h2 h3 h4 => exact .rp row b off f h1 (fun ho => h2 (own_app b ho)) h3 fun j x hx => dcut (h4 j x hx)
  | em a => exact .em a
  | ab t => exact .ab t
  | sd id ver p hid hv =>
    rw [Bel_sd] at hb
    exact .sd id ver p hb fun v' e s r hr => hv v' e s r (by rw [List.getElem?_append_left hb]; exact hr)
  | vw id ver n v hid hv =>
    rw [Bel_vw] at hb
    exact .vw id ver n v hb fun v' e s r hr => hv v' e s r (by rw [List.getElem?_append_left hb]; exact hr)
  | fn g cs vs hl hr ih =>
    rw [Bel_fn] at hb
    exact .fn g cs vs hl fun j c u hj hu => ih j c u hj hu (hb c (List.mem_of_getElem? hj))
  | mp sh ks cs vs hl hr ih =>
    rw [Bel_mp] at hb
    exact .mp sh ks cs vs hl fun j c u hj hu => ih j c u hj hu (hb c (List.mem_of_getElem? hj))
  | mo id ver v hid hv =>
    rw [Bel_mo] at hb
    exact .mo id ver v hb fun v' e s r hr => hv v' e s r (by rw [List.getElem?_append_left hb]; exact hr)
def Closed (H0 H : Heap) : Prop := ∀ (id ver e sz : Nat) (rows : List (List V)), H[id]? = some (Ob.row ver e sz rows) → H0[id]? = some (Ob.row ver e sz rows) ∨ ∀ row, row ∈ rows → ∀ v, v ∈ row → Bel H.length v
theorem cut_state {w0 w : World} {H0 H G : Heap} {σ0 σ : Conc} {F : Frame} {tmps : Array Value} (h0 : WOk w0 H0 σ0) (hp : Pres w0 H0 σ0 w (H ++ G) σ) (hs : Sat n w (H ++ G) σ F tmps) (hl : H0.length ≤ H.length) (hc : Closed H0 H)
    {F' : Frame} (hf : ∀ x, F'.get x = .top ∨ F'.get x = F.get x ∧ Bel H.length (F'.get x)) : Pres w0 H0 σ0 w H σ ∧ Sat n w H σ F' tmps := by
  have get : ∀ {id ob}, H[id]? = some ob → (H ++ G)[id]? = some ob := fun {id ob} h => by rw [List.getElem?_append_left (List.getElem?_eq_some_iff.1 h).1]; exact h
  refine ⟨⟨hp.os, hp.tape, hp.output, hp.size, hp.blk, fun b hb ho => hp.own b hb (own_app b ho), hl, fun id v e sz rows hid hr => hp.keep id v e sz rows hid (get hr)⟩, ⟨⟨?_, ?_, ?_, hs.ok.nil⟩, hs.size, ?_⟩⟩
  · intro id ver e sz rows hr
    rcases hs.ok.obj id ver e sz rows (get hr) with hn | ⟨g, cap, cur, a, b, c, d, f, h6, h7⟩ | ⟨g, cap, es, clock, sh, ks, vs, hg, hh, a1, a2, a3, a4, a5⟩
    · exact .inl hn
    rotate_left
    · refine .inr <| .inr ⟨g, cap, es, clock, sh, ks, vs, hg, hh, a1, a2, a3, a4, cut_rel a5 ?_⟩
      rcases hc id ver e sz rows hr with hsame | hbel
      · rcases h0.obj id ver e sz rows hsame with ⟨_, h'⟩ | ⟨_, _, _, _, _, _, _, _, _, k7⟩ | ⟨_, _, _, _, _, _, _, _, _, _, k2, _, _, k7⟩
        · rw [a2] at h'; cases h'
        · rw [a2] at k7
          obtain ⟨_, _, _, hv⟩ := k7 0 0 _ _ rfl rfl
          exact hv.bel.mono hl
        · rw [a2] at k2
          simp only [List.cons.injEq, V.mp.injEq, and_true] at k2
          obtain ⟨rfl, rfl, rfl⟩ := k2
          exact k7.bel.mono hl
      · rw [a2] at hbel
        exact hbel _ (List.mem_singleton.2 rfl) _ (List.mem_singleton.2 rfl)
    · refine .inr <| .inl ⟨g, cap, cur, a, b, c, d, f, h6, fun i j row v hi hj => ?_⟩
      obtain ⟨cv, p, q, r⟩ := h7 i j row v hi hj
      refine ⟨cv, p, q, cut_rel r ?_⟩
      rcases hc id ver e sz rows hr with hsame | hbel
      · rcases h0.obj id ver e sz rows hsame with ⟨_, rfl⟩ | ⟨_, _, _, _, _, _, _, _, _, k7⟩ | ⟨_, _, _, _, _, _, _, _, _, k1, k2, _, _, k7⟩
        · simp at hi
        rotate_left
        · subst k2
          have hi0 : i = 0 := by have := (List.getElem?_eq_some_iff.1 hi).1; simp at this; exact this
          subst hi0
          simp at hi
          subst hi
          have hj0 : j = 0 := by have := (List.getElem?_eq_some_iff.1 hj).1; simp at this; exact this
          subst hj0
          simp at hj
          subst hj
          exact k7.bel.mono hl
        · obtain ⟨_, _, _, hv⟩ := k7 i j row v hi hj
          exact hv.bel.mono hl
      · exact hbel row (List.mem_of_getElem? hi) v (List.mem_of_getElem? hj)
  · intro id id' v e s r v' e' s' r' g c c' hr hr' hσ hσ'
    exact hs.ok.inj _ _ _ _ _ _ _ _ _ _ _ _ _ (get hr) (get hr') hσ hσ'
  · intro g row hg
    obtain ⟨h1, h2, f, h3, h4⟩ := hs.ok.glob g row hg
    exact ⟨h1, fun ho => h2 (own_app g ho), f, h3, fun j x hx => (h4 j x hx).mono (Nat.le_refl _) (fun _ _ _ => rfl) (fun b _ ho => own_app b ho)⟩
  · intro x
    rcases hf x with h | ⟨h, hb⟩
    · rw [h]; exact .top _
    · rw [h] at hb ⊢
      exact cut_rel (hs.slot x) hb
inductive Fz (m : Nat) (H : Heap) : V → V → Prop where
  | same (v : V) : Fz m H v v
  | nil (sz : Nat) : Fz m H (.d (.c (.slice none 0 0))) (.d (.sl sz []))
  | os (id ver e sz : Nat) (rows : List (List V)) (ds : List (List D)) : m ≤ id → H[id]? = some (Ob.row ver e sz rows) → dsRows rows = some ds → Fz m H (.os id ver) (.d (.sl sz ds))
  | ag (cs cs' : List V) : cs.length = cs'.length → (∀ (j : Nat) (c c' : V), cs[j]? = some c → cs'[j]? = some c' → Fz m H c c') → Fz m H (.ag cs) (.ag cs')
  | tu (cs cs' : List V) : cs.length = cs'.length → (∀ (j : Nat) (c c' : V), cs[j]? = some c → cs'[j]? = some c' → Fz m H c c') → Fz m H (.tu cs) (.tu cs')
theorem dsRows_get : ∀ {R : List (List V)} {l : List (List D)}, dsRows R = some l → R.length = l.length ∧ ∀ (i : Nat) (r : List D), l[i]? = some r → R[i]? = some (r.map V.d) := by
  intro R l h
  obtain rfl := dsRows_eq h
  refine ⟨by simp, fun i r hr => by rw [List.getElem?_map, hr]; rfl⟩
theorem os_data {w : World} {H : Heap} {σ : Conc} {o' : Nat → Prop} (hw : WOk w H σ) {id ver e sz : Nat} {rows : List (List V)} {ds : List (List D)} {v : Value} (hr : H[id]? = some (Ob.row ver e sz rows)) (hd : dsRows rows = some ds)
    (ho' : ∀ b, o' b → Own H σ b) (hno : ∀ cap g, σ id = .blk g cap → ¬ o' g) (hv : VRel w (Own H σ) H σ (.os id ver) v) : DRel w o' (.sl sz ds) v := by
  have hnz := hv.nz_os hr
  obtain ⟨_, hv⟩ := hv.inv_os hr
  obtain rfl := hv rfl
  obtain ⟨hlen, hget⟩ := dsRows_get hd
  rcases hw.objs hr hnz with ⟨⟨a, hn⟩, rfl⟩ | ⟨g, cap, cur, hg, hh, hcap, _, hcur, hrow, hcell⟩
  · rw [hn]
    obtain rfl : ds = [] := by
      cases ds with
      | nil => rfl
      | cons _ _ => simp at hlen
    exact .nil _ _ _
  · rw [hg, hlen]
    refine .sl sz ds g 0 cap (fun i j => (cur[i * sz + j]?).getD undef) (by omega) (Array.getElem?_eq_some_iff.1 hh).1 (hno _ _ hg) (fun i r hr => ?_) (fun i j r x hr hx => ?_) (fun i j r x hr hx => ?_)
    · have := hrow i _ (hget i r hr)
      simpa using this
    · obtain ⟨cv, h1, _, h2⟩ := hcell i j _ (.d x) (hget i r hr) (by rw [List.getElem?_map, hx]; rfl)
      rw [cell_of_row w g _ cur e (0, 0) hh, Nat.zero_add, h1]
      rfl
    · obtain ⟨cv, h1, _, h2⟩ := hcell i j _ (.d x) (hget i r hr) (by rw [List.getElem?_map, hx]; rfl)
      simp only [h1, Option.getD_some]
      exact h2.inv_d.mono (Nat.le_refl _) (fun _ _ _ => rfl) (fun b _ hb => ho' b hb)
def Ent (H0 : Heap) (F : Frame) (H : Heap) (F' : Frame) (H' : Heap) : Prop :=
  (∃ G, H = H' ++ G) ∧ H0.length ≤ H'.length ∧ Closed H0 H' ∧ ∀ x, F'.get x = .top ∨ F'.get x = F.get x ∧ Bel H'.length (F'.get x)
theorem AWp_ent {c : Code} {F' : Frame} {H' : Heap} (he : Ent H0 F H F' H') (h : AWp P n dfs H0 c Q F' H') : AWp P n dfs H0 c Q F H := by
  obtain ⟨⟨G, rfl⟩, hl, hc, hf⟩ := he
  intro w0 σ0 w σ a hw hp hs hd
  obtain ⟨hp', hs'⟩ := cut_state hw hp hs hl hc hf
  exact h w0 σ0 w σ a hw hp' hs' hd
theorem AWp_loop {c : Code} {ι : Type} (I : ι → Prop) (Fr : ι → Frame) (Hp : ι → Heap) (μ : ι → Nat) (i0 : ι) (h0 : I i0) (he : Ent H0 F H (Fr i0) (Hp i0))
    (hr : ∀ i, I i → AWp P n dfs H0 c (thenA (fun F' H' => ∃ i', I i' ∧ Ent H0 F' H' (Fr i') (Hp i') ∧ μ i' < μ i) Q) (Fr i) (Hp i)) : AWp P n dfs H0 (.loop c) Q F H := by
  refine AWp_ent he ?_
  intro w0 σ0 w σ a hw hp hs hd
  let J (k : Nat) (a : Act) (w : World) : Prop := ∃ i σ, I i ∧ μ i = k ∧ Pres w0 H0 σ0 w (Hp i) σ ∧ Sat n w (Hp i) σ (Fr i) a.tmps ∧ a.defers = dfs
  let m (a : Act) (w : World) : Nat := @dite _ (∃ k, J k a w) (Classical.propDecidable _) (fun h => Classical.choose (p := fun k => J k a w ∧ ∀ k', J k' a w → k ≤ k') (by
      obtain ⟨k, hk⟩ := h
      induction k using Nat.strongRecOn with
      | _ k ih =>
        by_cases hm : ∃ k', k' < k ∧ J k' a w
        · obtain ⟨k', hlt, hj⟩ := hm
          exact ih k' hlt hj
        · exact ⟨k, hk, fun k' hj => Nat.le_of_not_lt fun hlt => hm ⟨k', hlt, hj⟩⟩)) (fun _ => 0)
  have hm : ∀ a w, (∃ k, J k a w) → J (m a w) a w ∧ ∀ k', J k' a w → m a w ≤ k' := fun a w h => by
    have e : m a w = Classical.choose (p := fun k => J k a w ∧ ∀ k', J k' a w → k ≤ k') _ := dif_pos h
    rw [e]
    exact Classical.choose_spec (p := fun k => J k a w ∧ ∀ k', J k' a w → k ≤ k') _
  refine wp_loop (fun a w => ∃ k, J k a w) m ⟨_, i0, σ, h0, rfl, hp, hs, hd⟩ ?_
  intro a w hJ
  obtain ⟨⟨i, σ, hI, hμ, hp, hs, hd⟩, hmin⟩ := hm a w hJ
  refine Code.wp_mono ?_ (hr i hI w0 σ0 w σ a hw hp hs hd)
  rintro e a' w' ⟨F', H', σ', hQ, hp', hs', hd'⟩
  cases e with
  | normal =>
    obtain ⟨i', hI', ⟨⟨G, rfl⟩, hl, hc, hf⟩, hlt⟩ := hQ
    obtain ⟨hp2, hs2⟩ := cut_state hw hp' hs' hl hc hf
    have hj : J (μ i') a' w' := ⟨i', σ', hI', rfl, hp2, hs2, hd'⟩
    refine ⟨⟨_, hj⟩, ?_⟩
    have := (hm a' w' ⟨_, hj⟩).2 _ hj
    omega
  | _ => exact ⟨F', H', σ', hQ, hp', hs', hd'⟩
def vcRes1 (P : Program) (r : ResultVar) (F : Frame) (H : Heap) (K : V → Prop) : Prop :=
  match r with
  | .tmp t => K (F.get t)
  | .cell a t => vcLoad P t (F.get a) H K
def vcResL (P : Program) : List ResultVar → Frame → Heap → (List V → Prop) → Prop
  | [], _, _, K => K []
  | r :: rs, F, H, K => vcRes1 P r F H fun v => vcResL P rs F H fun vs => K (v :: vs)
def vcRes (P : Program) (rs : List ResultVar) (F : Frame) (H : Heap) (K : V → Prop) : Prop :=
  vcResL P rs F H fun vs => match vs with | [v] => K v | vs => K (.tu vs)
def resOf (tmps : Array Value) : ResultVar → Sem Value
  | .tmp t => pure (tmps.getD t undef)
  | .cell a t => do loadVar t (← asAddr (tmps.getD a undef))
theorem results_eq (fn : Func) (tmps : Array Value) : results fn tmps = (do let vs ← fn.results.mapM (resOf tmps); pure (if h : vs.size = 1 then vs[0] else .tuple vs)) := by
  unfold results
  congr 1
theorem vcRes1_run {w : World} {σ : Conc} {tmps : Array Value} {r : ResultVar} {K : V → Prop} (h : vcRes1 P r F H K) (hs : Sat n w H σ F tmps) :
    ∃ v val, (resOf tmps r).run P w = .ok val w ∧ VRel w (Own H σ) H σ v val ∧ K v := by
  cases r with
  | tmp t => exact ⟨_, _, rfl, hs.slot t, h⟩
  | cell a t =>
    obtain ⟨v, val, h1, h2, h3⟩ := vcLoad_run h hs.ok (hs.slot a)
    refine ⟨v, val, ?_, h2, h3⟩
    rw [← h1]
    have h' : vcLoad P t (F.get a) H K := h
    clear h h1 h2 h3
    have hsl := hs.slot a
    unfold vcLoad at h'
    split at h'
    · rename_i row hrow
      rw [hrow] at hsl
      obtain ⟨b, off, f, hv, _⟩ := hsl.inv_rp
      simp [resOf, hv, asAddr, Instr.loadAt, Instr.sureAddr]
    · rename_i id ver i c hrow
      rw [hrow] at hsl
      split at h'
      · rename_i hr
        obtain ⟨_, hv⟩ := hsl.inv_pt hr
        obtain ⟨g, cap, _, hv⟩ := hv h'.1
        simp [resOf, hv, asAddr, Instr.loadAt, Instr.sureAddr]
      · exact h'.elim
    · exact h'.elim
theorem vcResL_run {w : World} {σ : Conc} {tmps : Array Value} : ∀ {rs : List ResultVar} {K : List V → Prop}, vcResL P rs F H K → Sat n w H σ F tmps →
    ∃ vs vals, (rs.mapM (resOf tmps)).run P w = .ok vals w ∧ vs.length = vals.length ∧
      (∀ (j : Nat) (v : V) (u : Value), vs[j]? = some v → vals[j]? = some u → VRel w (Own H σ) H σ v u) ∧ K vs
  | [], K, h, _ => ⟨[], [], by simp, rfl, by simp, h⟩
  | r :: rs, K, h, hs => by
    obtain ⟨v, val, h1, h2, h3⟩ := vcRes1_run h hs
    obtain ⟨vs, vals, k1, k2, k3, k4⟩ := vcResL_run h3 hs
    refine ⟨v :: vs, val :: vals, ?_, by simp [k2], fun j x u hj hu => ?_, k4⟩
    · simp only [List.mapM_cons, Sem.run_bind, h1, Result.andThen_ok, k1, Sem.run_pure]
    · cases j with
      | zero =>
        obtain rfl : v = x := by simpa using hj
        obtain rfl : val = u := by simpa using hu
        exact h2
      | succ j => exact k3 j x u (by simpa using hj) (by simpa using hu)
theorem vcRes_run {w : World} {σ : Conc} {tmps : Array Value} {fn : Func} {K : V → Prop} (h : vcRes P fn.results.toList F H K) (hs : Sat n w H σ F tmps) :
    ∃ v val, (results fn tmps).run P w = .ok val w ∧ VRel w (Own H σ) H σ v val ∧ K v := by
  obtain ⟨vs, vals, h1, h2, h3, h4⟩ := vcResL_run h hs
  have hm : (fn.results.mapM (resOf tmps)).run P w = .ok vals.toArray w := by
    rw [Array.mapM_eq_mapM_toList]
    simp only [Sem.run_map, h1, Result.andThen_ok]
  have hrun : (results fn tmps).run P w = .ok (if h : vals.toArray.size = 1 then vals.toArray[0] else .tuple vals.toArray) w := by
    simp only [results_eq, Sem.run_bind, Sem.run_pure, hm, Result.andThen_ok]
  rw [hrun]
  by_cases hlen : vals.length = 1
  · obtain ⟨u, rfl⟩ := List.length_eq_one_iff.1 hlen
    obtain ⟨v, rfl⟩ := List.length_eq_one_iff.1 (h2.trans hlen)
    exact ⟨v, u, by simp, h3 0 v u rfl rfl, h4⟩
  · refine ⟨.tu vs, .tuple vals.toArray, by simp [hlen], .tu vs _ (by simpa using h2) (fun j c v hj hv => h3 j c v hj (by simpa using hv)), ?_⟩
    split at h4
    · rename_i v
      exact absurd (by rw [← h2]; rfl) hlen
    · exact h4
theorem Fz.rel {w : World} {H G : Heap} {σ : Conc} (hw : WOk w (H ++ G) σ) {v v' : V} {val : Value} (hf : Fz H.length (H ++ G) v v') (hb : Bel H.length v') (hv : VRel w (Own (H ++ G) σ) (H ++ G) σ v val) : VRel w (Own H σ) H σ v' val := by
  induction hf generalizing val with
  | same v => exact cut_rel hv hb
  | nil sz =>
    obtain rfl := hv.inv_d.inv_c
    exact .d _ _ (.nil _ _ _)
  | os id ver e sz rows ds hm hr hd =>
    refine .d _ _ (os_data hw hr hd (fun b hb => own_app b hb) (fun cap g hg ho => ?_) hv)
    obtain ⟨id', ver', e', sz', rows', cap', hr', hg'⟩ := ho
    have hlt := (List.getElem?_eq_some_iff.1 hr').1
    have := hw.inj id id' _ _ _ _ _ _ _ _ _ _ _ hr (by rw [List.getElem?_append_left hlt]; exact hr') hg hg'
    omega
  | ag cs cs' hl _ ih =>
    obtain ⟨vs, rfl, hl', hv⟩ := hv.inv_ag
    rw [Bel_ag] at hb
    refine .ag _ _ (by omega) fun j c' u hj hu => ?_
    have hlt : j < cs.length := by rw [hl]; exact (List.getElem?_eq_some_iff.1 hj).1
    exact ih j cs[j] c' (List.getElem?_eq_getElem hlt) hj (hb c' (List.mem_of_getElem? hj)) (hv j _ u (List.getElem?_eq_getElem hlt) hu)
  | tu cs cs' hl _ ih =>
    obtain ⟨vs, rfl, hl', hv⟩ := hv.inv_tu
    rw [Bel_tu] at hb
    refine .tu _ _ (by omega) fun j c' u hj hu => ?_
    have hlt : j < cs.length := by rw [hl]; exact (List.getElem?_eq_some_iff.1 hj).1
    exact ih j cs[j] c' (List.getElem?_eq_getElem hlt) hj (hb c' (List.mem_of_getElem? hj)) (hv j _ u (List.getElem?_eq_getElem hlt) hu)
def RetK (H0 : Heap) (K : V → Heap → Prop) (v : V) (H : Heap) : Prop :=
  ∃ H' G v', H = H' ++ G ∧ H0.length ≤ H'.length ∧ Closed H0 H' ∧ Fz H'.length H v v' ∧ Bel H'.length v' ∧ K v' H'
def fnPost (P : Program) (rs : List ResultVar) (H0 : Heap) (K : V → Heap → Prop) : Exit → Frame → Heap → Prop
  | .normal, F, H | .ret, F, H => vcRes P rs F H fun v => RetK H0 K v H
  | _, _, _ => False
instance rtn_fn {rs : List ResultVar} {H0 : Heap} {K : V → Heap → Prop} : Rtn (fnPost P rs H0 K) (fnPost P rs H0 K) := ⟨fun _ _ h => h⟩
def initF (KS : List Nat) (vs : List V) : Frame := KS.map fun x => (x, vs.getD x .un)
theorem initF_get (KS : List Nat) (vs : List V) (x : Nat) : (initF KS vs).get x = if x ∈ KS then vs.getD x .un else .top := by
  induction KS with
  | nil => simp [initF, Frame.get]
  | cons k ks ih =>
    simp only [initF, List.map_cons, Frame.get, List.lookup_cons] at ih ⊢
    by_cases hx : x = k
    · subst hx; simp
    · have : (x == k) = false := by simpa using hx
      rw [this]
      simp only [List.mem_cons, hx, false_or]
      exact ih
theorem ACalls_of {f : Nat} {fn : Func} {c : Code} {vs : List V} {K : V → Heap → Prop} (hf : P.funcs[f]? = some fn) (hb : fn.body = some c) (KS : List Nat) (hn : vs.length ≤ fn.ntmps)
    (h : ∀ F, F = initF KS vs → AWp P fn.ntmps [] H c (fnPost P fn.results.toList H K) F H) : ACalls P f vs H K := by
  replace h : AWp P fn.ntmps [] H c (fnPost P fn.results.toList H K) (initF KS vs) H := h _ rfl
  intro w σ args hw hl hr
  refine calls_of_wp hf hb ?_
  have hsize : (args ++ Array.replicate (fn.ntmps - args.size) undef).size = fn.ntmps := by simp; omega
  refine Code.wp_mono ?_ (h w σ w σ _ hw (Pres.refl _ _ _) ⟨hw, hsize, fun x => ?_⟩ rfl)
  · rintro e a' w' ⟨F', H', σ', hQ, hp, hs, hd⟩
    have done : vcRes P fn.results.toList F' H' (fun v => RetK H K v H') →
        a'.defers = [] ∧ ∃ v, (results fn a'.tmps).run P w' = .ok v w' ∧ ∃ val u H'' σ'', Ending.returned v = .returned val ∧ K u H'' ∧ VRel w' (Own H'' σ'') H'' σ'' u val ∧ WOk w' H'' σ'' ∧ Pres w H σ w' H'' σ'' := by
      intro hres
      obtain ⟨v, val, h1, h2, H2, G, v2, rfl, hl2, hc2, hf2, hb2, hk⟩ := vcRes_run hres hs
      obtain ⟨hp2, hs2⟩ := cut_state (F' := []) hw hp hs hl2 hc2 (fun x => .inl rfl)
      exact ⟨hd, val, h1, val, v2, H2, σ', rfl, hk, hf2.rel hs.ok hb2 h2, hs2.ok, hp2⟩
    cases e with
    | normal => exact done hQ
    | ret => exact done hQ
    | _ => exact hQ.elim
  · rw [initF_get]
    split
    · rw [Array.getD_eq_getD_getElem?, Array.getElem?_append]
      rw [List.getD_eq_getElem?_getD]
      by_cases hx : x < args.size
      · rw [if_pos hx]
        have hx' : x < vs.length := by omega
        have h1 : vs[x]? = some vs[x] := List.getElem?_eq_getElem hx'
        have h2 : args[x]? = some args[x] := by simp [hx]
        rw [h1, h2]
        exact hr x _ _ h1 h2
      · rw [if_neg hx, List.getElem?_eq_none (by omega)]
        have : (Array.replicate (fn.ntmps - args.size) undef)[x - args.size]?.getD undef = undef := by
          rw [Array.getElem?_replicate]
          split <;> rfl
        rw [this]
        exact .un
    · exact .top _
end
theorem get_cons (k : Nat) (v : V) (F : List (Nat × V)) (x : Nat) : Frame.get ((k, v) :: F) x = if x = k then v else Frame.get F x := by
  have := get_put_some F k x v
  simpa [Frame.put] using this
theorem get_nil (x : Nat) : Frame.get [] x = .top := rfl
attribute [irreducible] AWp
end Go.Proofs.YtmhabdopcbokoaaDoor.Ab
