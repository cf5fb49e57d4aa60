/- Regions that draw their order, in which any number of operations turn objects, and others are guarded. No condition. -/
import Derived.Test.YtmhabdopcbokoaaDoorR15
import Derived.Test.YtmhabdopcbokoaaDoorR16
import Derived.Defers
set_option linter.all false
set_option linter.unusedSimpArgs false
set_option linter.unusedVariables false
namespace Go.Proofs.YtmhabdopcbokoaaDoor.Ab
open Go
variable [Glo]
section
variable {P : Program} {n : Nat} {dfs : List Deferred} {H : Heap}
def quietK (P : Program) (M : List Nat) (o : Oper) (F : Frame) (b f : Nat) (hs : List Heap) (pd : Nat → Heap → Prop) (v : V) (k : (Nat → Heap → Prop) → Prop) : Prop :=
  allH (fun H' => vcQ P M o F H' fun v' => v' = v) (hs.take b) ∧ k fun k Ha => pd k Ha ∧ (k < f → vcQ P M o F Ha fun v' => v' = v)
def vcU (P : Program) (n : Nat) (M : List Nat) (all : List Oper) (T : Frame → Heap → Prop) : List Cd → List Oper → List Heap → Heap → Frame → (Nat → Heap → Prop) → Prop
  | [], _, _, H, F, _ => T F H
  | _ :: _, [], _, _, _, _ => False
  | .q b f :: cs, o :: rest, hs, H, F, pd =>
    match o.guard with
    | none => dstOk n o.dst ∧ vcQ P M o F H fun v => quietK P M o F b f hs pd v fun pd' => vcU P n M all T cs rest hs H (F.put o.dst v) pd'
    | some (j, want) =>
      match (all[j]?).bind (·.dst) with
      | some d =>
        (match F.get d with
        | .d (.b t) => d < n ∧ dstOk n o.dst ∧ (match want with
            | true => onB t (vcQ P M o F H fun v => quietK P M o F b f hs pd v fun pd' => vcU P n M all T cs rest hs H (F.put o.dst v) pd') (vcU P n M all T cs rest hs H (F.put o.dst .un) pd)
            | false => onB t (vcU P n M all T cs rest hs H (F.put o.dst .un) pd) (vcQ P M o F H fun v => quietK P M o F b f hs pd v fun pd' => vcU P n M all T cs rest hs H (F.put o.dst v) pd'))
        | .un => dstOk n o.dst ∧ vcU P n M all T cs rest hs H (F.put o.dst .un) pd
        | _ => False)
      | none => False
  | .t :: cs, o :: rest, hs, H, F, pd => o.guard = none ∧ dstOk n o.dst ∧ vcE P M o F H fun v H1 => pd 0 H1 ∧ vcU P n M all T cs rest (H :: hs) H1 (F.put o.dst v) fun k => pd (k + 1)
  | .g :: cs, o :: rest, hs, H, F, pd => o.guard = none ∧ dstOk n o.dst ∧ vcE P M o F H (giveK fun v H1 => pd 0 H1 ∧ vcU P n M all T cs rest (H :: hs) H1 (F.put o.dst v) fun k => pd (k + 1))
variable {H0 : Heap} {Q : Exit → Frame → Heap → Prop} {F : Frame}
theorem vcU_nil {M : List Nat} {T : Frame → Heap → Prop} {l all : List Oper} {hs : List Heap} {pd : Nat → Heap → Prop} : vcU P n M all T [] l hs H F pd = T F H := Eq.trans rfl rfl
theorem vcU_q {M : List Nat} {T : Frame → Heap → Prop} {all : List Oper} {b f : Nat} {cs : List Cd} {d : Option Tmp} {op : Op} {ty : TypeId} {ps : String} {af : Array Edge} {rest : List Oper} {hs : List Heap} {pd : Nat → Heap → Prop} : vcU P n M all T (.q b f :: cs) (⟨d, op, ty, ps, af, none⟩ :: rest) hs H F pd = (dstOk n d ∧ vcQ P M ⟨d, op, ty, ps, af, none⟩ F H (lk (fun v => quietK P M ⟨d, op, ty, ps, af, none⟩ F b f hs pd v (lk (fun pd' => vcU P n M all T cs rest hs H (F.put d v) pd') .mk)) .mk)) := by
  rw [vcU]; rfl
def vcUg (P : Program) (n : Nat) (M : List Nat) (all : List Oper) (T : Frame → Heap → Prop) (b f : Nat) (cs : List Cd) (o : Oper) (rest : List Oper) (hs : List Heap) (H : Heap) (F : Frame) (pd : Nat → Heap → Prop) (want : Bool) (e : Nat) : V → Prop
  | .d (.b t) => e < n ∧ dstOk n o.dst ∧ (match want with
      | true => onB t (vcQ P M o F H fun v => quietK P M o F b f hs pd v fun pd' => vcU P n M all T cs rest hs H (F.put o.dst v) pd') (vcU P n M all T cs rest hs H (F.put o.dst .un) pd)
      | false => onB t (vcU P n M all T cs rest hs H (F.put o.dst .un) pd) (vcQ P M o F H fun v => quietK P M o F b f hs pd v fun pd' => vcU P n M all T cs rest hs H (F.put o.dst v) pd'))
  | .un => dstOk n o.dst ∧ vcU P n M all T cs rest hs H (F.put o.dst .un) pd
  | _ => False
theorem vcU_s {M : List Nat} {T : Frame → Heap → Prop} {all : List Oper} {b f j : Nat} {want : Bool} {cs : List Cd} {d : Option Tmp} {op : Op} {ty : TypeId} {ps : String} {af : Array Edge} {rest : List Oper} {hs : List Heap} {pd : Nat → Heap → Prop} : vcU P n M all T (.q b f :: cs) (⟨d, op, ty, ps, af, some (j, want)⟩ :: rest) hs H F pd = (match (all[j]?).bind (·.dst) with | some e => vcUg P n M all T b f cs ⟨d, op, ty, ps, af, some (j, want)⟩ rest hs H F pd want e (F.get e) | none => False) := by
  rw [vcU]
  simp only []
  cases (all[j]?).bind (·.dst) with
  | none => rfl
  | some e =>
    simp only []
    cases F.get e <;> first | rfl | (rename_i x; cases x <;> rfl)
theorem vcUg_un {M : List Nat} {T : Frame → Heap → Prop} {all : List Oper} {b f e : Nat} {want : Bool} {cs : List Cd} {o : Oper} {rest : List Oper} {hs : List Heap} {pd : Nat → Heap → Prop} : vcUg P n M all T b f cs o rest hs H F pd want e .un = (dstOk n o.dst ∧ vcU P n M all T cs rest hs H (F.put o.dst .un) pd) := Eq.trans rfl rfl
theorem vcUg_T {M : List Nat} {T : Frame → Heap → Prop} {all : List Oper} {b f e : Nat} {t : Bool} {cs : List Cd} {o : Oper} {rest : List Oper} {hs : List Heap} {pd : Nat → Heap → Prop} : vcUg P n M all T b f cs o rest hs H F pd true e (.d (.b t)) = (e < n ∧ dstOk n o.dst ∧ onB t (vcQ P M o F H (lk (fun v => quietK P M o F b f hs pd v (lk (fun pd' => vcU P n M all T cs rest hs H (F.put o.dst v) pd') .mk)) .mk)) (vcU P n M all T cs rest hs H (F.put o.dst .un) pd)) := Eq.trans rfl rfl
theorem vcUg_F {M : List Nat} {T : Frame → Heap → Prop} {all : List Oper} {b f e : Nat} {t : Bool} {cs : List Cd} {o : Oper} {rest : List Oper} {hs : List Heap} {pd : Nat → Heap → Prop} : vcUg P n M all T b f cs o rest hs H F pd false e (.d (.b t)) = (e < n ∧ dstOk n o.dst ∧ onB t (vcU P n M all T cs rest hs H (F.put o.dst .un) pd) (vcQ P M o F H (lk (fun v => quietK P M o F b f hs pd v (lk (fun pd' => vcU P n M all T cs rest hs H (F.put o.dst v) pd') .mk)) .mk))) := Eq.trans rfl rfl
theorem vcU_t {M : List Nat} {T : Frame → Heap → Prop} {all : List Oper} {cs : List Cd} {d : Option Tmp} {op : Op} {ty : TypeId} {ps : String} {af : Array Edge} {rest : List Oper} {hs : List Heap} {pd : Nat → Heap → Prop} : vcU P n M all T (.t :: cs) (⟨d, op, ty, ps, af, none⟩ :: rest) hs H F pd = (dstOk n d ∧ vcE P M ⟨d, op, ty, ps, af, none⟩ F H (lk (fun v H1 => pd 0 H1 ∧ vcU P n M all T cs rest (H :: hs) H1 (F.put d v) fun k => pd (k + 1)) .mk)) := by
  rw [vcU]; simp [lk]
theorem vcU_g {M : List Nat} {T : Frame → Heap → Prop} {all : List Oper} {cs : List Cd} {d : Option Tmp} {op : Op} {ty : TypeId} {ps : String} {af : Array Edge} {rest : List Oper} {hs : List Heap} {pd : Nat → Heap → Prop} : vcU P n M all T (.g :: cs) (⟨d, op, ty, ps, af, none⟩ :: rest) hs H F pd = (dstOk n d ∧ vcE P M ⟨d, op, ty, ps, af, none⟩ F H (lk (giveK (lk (fun v H1 => pd 0 H1 ∧ vcU P n M all T cs rest (H :: hs) H1 (F.put d v) fun k => pd (k + 1)) .mk)) .mk)) := by
  rw [vcU]; simp [lk]
theorem quietK_0 {M : List Nat} {o : Oper} {hs : List Heap} {pd : Nat → Heap → Prop} {v : V} {k : (Nat → Heap → Prop) → Prop} : quietK P M o F 0 0 hs pd v k = k pd := by
  simp [quietK, allH]
theorem quietK_n {M : List Nat} {o : Oper} {b f : Nat} {hs : List Heap} {pd : Nat → Heap → Prop} {v : V} {k : (Nat → Heap → Prop) → Prop} : quietK P M o F b f hs pd v k = (allH (fun H' => vcQ P M o F H' fun v' => v' = v) (hs.take b) ∧ k fun k Ha => pd k Ha ∧ (k < f → vcQ P M o F Ha fun v' => v' = v)) := Eq.trans rfl rfl
end
attribute [go_sem ↓ high] quietK_0
attribute [go_sem ↓ low] quietK_n
attribute [go_sem ↓] vcU_nil vcU_q vcU_s vcU_t vcU_g vcUg_un vcUg_T vcUg_F
end Go.Proofs.YtmhabdopcbokoaaDoor.Ab
namespace Go.Proofs.YtmhabdopcbokoaaDoor.Ab
open Go
variable [Glo]
section
variable {P : Program} {n : Nat} {dfs : List Deferred} {H0 H : Heap} {Q : Exit → Frame → Heap → Prop} {F : Frame}
structure Halt (p : Prop) : Prop where
  go : p
theorem halt_block {x y : Code} (k : Nat) (h : Halt (AWp P n dfs H0 (.seq (.block k x) y) Q F H)) : AWp P n dfs H0 (.seq (.block k x) y) Q F H := h.go
theorem AWp_cutG {x y : Code} {ι : Type} (I : ι → Prop) (Fr : ι → Frame) (Hp : ι → Heap) (hl : ∀ i, I i → H0.length ≤ (Hp i).length) (hc : ∀ i, I i → Closed H0 (Hp i))
    (h2 : ∀ i, I i → AWp P n dfs H0 y Q (Fr i) (Hp i))
    (h1 : AWp P n dfs H0 x (thenA (fun F' H' => ∃ i G', I i ∧ H' = Hp i ++ G' ∧ Sub (Hp i).length F' (Fr i)) Q) F H) : Halt (AWp P n dfs H0 (.seq x y) Q F H) :=
  ⟨AWp_seq (h1.mono fun e F' H' h => by
    cases e with
    | normal =>
      obtain ⟨i, G', hi, rfl, hs⟩ := h
      exact AWp_ent ⟨⟨G', rfl⟩, hl i hi, hc i hi, hs.ent⟩ (h2 i hi)
    | _ => exact h)⟩
theorem AWp_whileG {c : Code} {ι : Type} (I : ι → Prop) (Fr : ι → Frame) (Hp : ι → Heap) (μ : ι → Nat) (i0 : ι) (h0 : I i0) (hH : ∃ G', H = Hp i0 ++ G') (hs : Sub (Hp i0).length F (Fr i0)) (hl : ∀ i, I i → H0.length ≤ (Hp i).length) (hc : ∀ i, I i → Closed H0 (Hp i))
    (hr : ∀ i, I i → AWp P n dfs H0 c (thenA (fun F' H' => ∃ i' G', I i' ∧ μ i' < μ i ∧ H' = Hp i' ++ G' ∧ Sub (Hp i').length F' (Fr i')) Q) (Fr i) (Hp i)) : AWp P n dfs H0 (.loop c) Q F H := by
  obtain ⟨G0, rfl⟩ := hH
  refine AWp_loop I Fr Hp μ i0 h0 ⟨⟨G0, rfl⟩, hl _ h0, hc _ h0, hs.ent⟩ fun i hi => (hr i hi).mono fun e F' H' h => ?_
  cases e with
  | normal =>
    obtain ⟨i', G', h1, h2, rfl, h3⟩ := h
    exact ⟨i', h1, ⟨⟨G', rfl⟩, hl _ h1, hc _ h1, h3.ent⟩, h2⟩
  | _ => exact h
end
end Go.Proofs.YtmhabdopcbokoaaDoor.Ab
namespace Go.Proofs.YtmhabdopcbokoaaDoor.Ab
open Go
variable [Glo]
section
variable {P : Program} {H : Heap}
def ACallsD (P : Program) (f : Nat) (vs : List V) (H : Heap) (K : V → Heap → Prop) : Prop :=
  ∀ (w : World) (σ : Conc) (args : Array Value) (u : FrameMode), WOk w H σ → vs.length = args.size → (∀ (j : Nat) (v : V) (u : Value), vs[j]? = some v → args[j]? = some u → VRel w (Own H σ) H σ v u) →
    CallsD P f args u w fun e u' w' => u' = u ∧ ∃ val v H' σ', e = .returned val ∧ K v H' ∧ VRel w' (Own H' σ') H' σ' v val ∧ WOk w' H' σ' ∧ Pres w H σ w' H' σ'
theorem fnPost_end {fn : Func} {K : V → Heap → Prop} {w : World} {σ : Conc} (hw : WOk w H σ) {e : Exit} {a' : Act} {w' : World} (h : ∃ F' H' σ', fnPost P fn.results.toList H K e F' H' ∧ Pres w H σ w' H' σ' ∧ Sat fn.ntmps w' H' σ' F' a'.tmps ∧ a'.defers = []) :
    bodyPost P fn (fun e w' => ∃ val v H' σ', e = .returned val ∧ K v H' ∧ VRel w' (Own H' σ') H' σ' v val ∧ WOk w' H' σ' ∧ Pres w H σ w' H' σ') e a' w' := by
  obtain ⟨F', H', σ', hQ, hp, hs, hd⟩ := h
  have done : vcRes P fn.results.toList F' H' (fun v => RetK H K v H') →
      a'.defers = [] ∧ ∃ v, (results fn a'.tmps).run P w' = .ok v w' ∧ ∃ val u H'' σ'', Ending.returned v = .returned val ∧ K u H'' ∧ VRel w' (Own H'' σ'') H'' σ'' u val ∧ WOk w' H'' σ'' ∧ Pres w H σ w' H'' σ'' := by
    intro hres
    obtain ⟨v, val, h1, h2, H2, G, v2, rfl, hl2, hc2, hf2, hb2, hk⟩ := vcRes_run hres hs
    obtain ⟨hp2, hs2⟩ := cut_state (F' := []) hw hp hs hl2 hc2 (fun x => .inl rfl)
    exact ⟨hd, val, h1, val, v2, H2, σ', rfl, hk, hf2.rel hs.ok hb2 h2, hs2.ok, hp2⟩
  cases e with
  | normal => exact done hQ
  | ret => exact done hQ
  | _ => exact hQ.elim
theorem start_sat {n : Nat} {w : World} {σ : Conc} {vs : List V} {args : Array Value} (hw : WOk w H σ) (hl : vs.length = args.size) (hn : vs.length ≤ n) (hr : ∀ (j : Nat) (v : V) (u : Value), vs[j]? = some v → args[j]? = some u → VRel w (Own H σ) H σ v u) (KS : List Nat) :
    Sat n w H σ (initF KS vs) (args ++ Array.replicate (n - args.size) undef) := by
  have hsize : (args ++ Array.replicate (n - args.size) undef).size = n := by simp; omega
  refine ⟨hw, hsize, fun x => ?_⟩
  rw [initF_get]
  split
  · rw [Array.getD_eq_getD_getElem?, Array.getElem?_append]
    rw [List.getD_eq_getElem?_getD]
    by_cases hx : x < args.size
    · rw [if_pos hx]
      have hx' : x < vs.length := by omega
      have h1 : vs[x]? = some vs[x] := List.getElem?_eq_getElem hx'
      have h2 : args[x]? = some args[x] := by simp [hx]
      rw [h1, h2]
      exact hr x _ _ h1 h2
    · rw [if_neg hx, List.getElem?_eq_none (by omega)]
      have : (Array.replicate (n - args.size) undef)[x - args.size]?.getD undef = undef := by
        rw [Array.getElem?_replicate]
        split <;> rfl
      rw [this]
      exact .un
  · exact .top _
theorem ACallsD_of {f : Nat} {fn : Func} {c : Code} {vs : List V} {K : V → Heap → Prop} (hf : P.funcs[f]? = some fn) (hb : fn.body = some c) (KS : List Nat) (hn : vs.length ≤ fn.ntmps)
    (h : ∀ F, F = initF KS vs → AWp P fn.ntmps [] H c (fnPost P fn.results.toList H K) F H) : ACallsD P f vs H K := by
  replace h : AWp P fn.ntmps [] H c (fnPost P fn.results.toList H K) (initF KS vs) H := h _ rfl
  unfold AWp at h
  intro w σ args u hw hl hr
  refine callsD_of_wp hf hb ?_
  exact Code.wp_mono (fun e a' w' hq => fnPost_end hw hq) (h w σ w σ _ hw (Pres.refl _ _ _) (start_sat hw hl hn hr KS) rfl)
def Rest (w0 : World) (H0 : Heap) (σ0 : Conc) (K : V → Heap → Prop) : Ending → World → Prop := fun e w' => ∃ val v H' σ', e = .returned val ∧ K v H' ∧ VRel w' (Own H' σ') H' σ' v val ∧ WOk w' H' σ' ∧ Pres w0 H0 σ0 w' H' σ'
def AWpF (P : Program) (fn : Func) (H0 : Heap) (K : V → Heap → Prop) (c : Code) (F : Frame) (H : Heap) : Prop :=
  ∀ (w0 : World) (σ0 : Conc) (w : World) (σ : Conc) (a : Act), WOk w0 H0 σ0 → Pres w0 H0 σ0 w H σ → Sat fn.ntmps w H σ F a.tmps → a.defers = [] → c.wp P (bodyPostD P fn (Rest w0 H0 σ0 K)) a w
theorem ACalls_ofD {f : Nat} {fn : Func} {c : Code} {vs : List V} {K : V → Heap → Prop} (hf : P.funcs[f]? = some fn) (hb : fn.body = some c) (KS : List Nat) (hn : vs.length ≤ fn.ntmps)
    (h : ∀ F, F = initF KS vs → AWpF P fn H K c F H) : ACalls P f vs H K := by
  intro w σ args hw hl hr
  exact calls_of_wp_defers hf hb (h _ rfl w σ w σ _ hw (Pres.refl _ _ _) (start_sat hw hl hn hr KS) rfl)
variable {fn : Func} {H0 : Heap} {K : V → Heap → Prop} {F : Frame}
theorem fnPost_leaves {w0 : World} {σ0 : Conc} (hw : WOk w0 H0 σ0) {e : Exit} {a' : Act} {w' : World} (h : ∃ F' H' σ', fnPost P fn.results.toList H0 K e F' H' ∧ Pres w0 H0 σ0 w' H' σ' ∧ Sat fn.ntmps w' H' σ' F' a'.tmps ∧ a'.defers = []) :
    bodyPostD P fn (Rest w0 H0 σ0 K) e a' w' := by
  obtain ⟨F', H', σ', hQ, hp, hs, hd⟩ := h
  have done : vcRes P fn.results.toList F' H' (fun v => RetK H0 K v H') → Leaves P fn a'.tmps (Rest w0 H0 σ0 K) a'.defers .returning w' := by
    intro hres
    obtain ⟨v, val, h1, h2, H2, G, v2, rfl, hl2, hc2, hf2, hb2, hk⟩ := vcRes_run hres hs
    obtain ⟨hp2, hs2⟩ := cut_state (F' := []) hw hp hs hl2 hc2 (fun x => .inl rfl)
    rw [hd]
    exact ⟨val, h1, val, v2, H2, σ', rfl, hk, hf2.rel hs.ok hb2 h2, hs2.ok, hp2⟩
  cases e with
  | normal => exact done hQ
  | ret => exact done hQ
  | _ => exact hQ.elim
theorem AWpF_plain {c : Code} (h : AWp P fn.ntmps [] H0 c (fnPost P fn.results.toList H0 K) F H) : AWpF P fn H0 K c F H := by
  unfold AWp at h
  exact fun w0 σ0 w σ a hw hp hs hd => Code.wp_mono (fun e a' w' hq => fnPost_leaves hw hq) (h w0 σ0 w σ a hw hp hs hd)
theorem AWpF_seq {x y : Code} (h : AWp P fn.ntmps [] H0 x (thenA (fun F' H' => AWpF P fn H0 K y F' H') (fnPost P fn.results.toList H0 K)) F H) : AWpF P fn H0 K (.seq x y) F H := by
  unfold AWp at h
  exact fun w0 σ0 w σ a hw hp hs hd => wp_seq (Code.wp_mono (fun e a' w' ⟨F', H', σ', hQ, hp', hs', hd'⟩ => by
    cases e with
    | normal => exact hQ w0 σ0 w' σ' a' hw hp' hs' hd'
    | ret => exact fnPost_leaves (e := .ret) hw ⟨F', H', σ', (show fnPost P fn.results.toList H0 K .ret F' H' from hQ), hp', hs', hd'⟩
    | _ => exact hQ.elim) (h w0 σ0 w σ a hw hp hs hd))
def fnPostD (P : Program) (rs : List ResultVar) (g : Nat) (caps : List V) (H0 : Heap) (K : V → Heap → Prop) : Exit → Frame → Heap → Prop
  | .normal, F, H | .ret, F, H => ACallsD P g caps H (lk (fun _ H' => vcRes P rs F H' fun v => RetK H0 K v H') .mk)
  | _, _, _ => False
instance rtn_fnD {rs : List ResultVar} {g : Nat} {caps : List V} : Rtn (fnPostD P rs g caps H0 K) (fnPostD P rs g caps H0 K) := ⟨fun _ _ h => h⟩
def vcDefer (P : Program) (n : Nat) (o : Oper) (F : Frame) (H : Heap) (T : Nat → List V → Frame → Heap → Prop) : Prop :=
  match o.op with
  | .defer c => (match c.callee with
    | .value f => (match ev F f with
      | .fn g caps => o.guard = none ∧ c.args = #[] ∧ hasBody P g = true ∧ dstOk n o.dst ∧ T g caps (F.put o.dst .un) H
      | _ => False)
    | _ => False)
  | _ => False
theorem vcOps_wpA {n : Nat} {dfs : List Deferred} {M : List Nat} {all tl : List Oper} {Q : Exit → Act → World → Prop} {w0 : World} {H0 : Heap} {σ0 : Conc} :
    ∀ (l : List Oper) (F : Frame) (H : Heap) (K : Frame → Heap → Prop) (w : World) (σ : Conc) (a : Act), vcOps P n M all l F H K → Sat n w H σ F a.tmps → Pres w0 H0 σ0 w H σ → a.defers = dfs →
    (∀ F' H' w' σ' a', K F' H' → Sat n w' H' σ' F' a'.tmps → Pres w0 H0 σ0 w' H' σ' → a'.defers = dfs → wpList P all.toArray Q tl a' w') → wpList P all.toArray Q (l ++ tl) a w
  | [], F, H, K, w, σ, a, h, hs, hp, hd, hQ => by rw [List.nil_append]; exact hQ F H w σ a h hs hp hd
  | o :: rest, F, H, K, w, σ, a, h, hs, hp, hd, hQ => by
    have hput : ∀ v, (a.put o.dst v).defers = dfs := fun v => by cases ho : o.dst <;> simpa [Act.put, ho] using hd
    have step : ∀ (F1 : Frame), Sat n w H σ F1 a.tmps → dstOk n o.dst → vcOp P M o F1 H (fun v H' => vcOps P n M all rest (F1.put o.dst v) H' K) → o.wp P a w (wpList P all.toArray Q (rest ++ tl)) Q := fun F1 hs1 hd1 h1 =>
      vcOp_wp h1 hs1 fun v val w' H' σ' hk hv hw' hp' =>
        vcOps_wpA rest (F1.put o.dst v) H' K w' σ' (a.put o.dst val) hk ((hs1.pres hp' hw').put (dstOk_spec hd1) hv) (hp.trans hp') (hput val) hQ
    rw [List.cons_append]
    unfold vcOps at h
    unfold wpList
    cases hg : o.guard with
    | none =>
      rw [hg] at h
      rw [if_pos (by simp [Region.wanted, hg])]
      exact .inl (step F hs h.1 h.2)
    | some jw =>
      obtain ⟨j, want⟩ := jw
      rw [hg] at h
      simp only [] at h
      split at h
      case h_2 => exact h.elim
      rename_i d hdst
      have hy : yielded all.toArray a.tmps j = match a.tmps[d]? with | some (.bool b) => some b | _ => none := by
        unfold yielded
        rw [List.getElem?_toArray, hdst]
        rfl
      split at h
      · rename_i t ht
        obtain ⟨hdn, hdo, h12⟩ := h
        have h1 : t = want → vcOp P M o (F.put (some d) (.d (.b want))) H fun v H' => vcOps P n M all rest ((F.put (some d) (.d (.b want))).put o.dst v) H' K := fun e => by
          subst e; cases t <;> simp only [onB] at h12 <;> simpa using h12
        have h2 : t = (!want) → vcOps P n M all rest ((F.put (some d) (.d (.b (!want)))).put o.dst .un) H K := fun e => by
          subst e; cases want <;> simp only [onB] at h12 <;> simpa using h12
        have hsl := hs.slot d
        rw [ht] at hsl
        have hval := hsl.inv_d.inv_b
        have hlt : d < a.tmps.size := by rw [hs.size]; exact hdn
        have hget : a.tmps[d]? = some (.bool t) := by
          rw [Array.getD_eq_getD_getElem?, Array.getElem?_eq_getElem hlt] at hval
          rw [Array.getElem?_eq_getElem hlt]
          exact congrArg some hval
        rw [hget] at hy
        by_cases htw : t = want
        · subst htw
          rw [if_pos (by simp [Region.wanted, hg, hy])]
          exact .inl (step _ (hs.know (by rw [hval]; exact .d _ _ (.b _))) hdo (h1 rfl))
        · have htn : t = !want := by cases t <;> cases want <;> simp_all
          rw [if_neg (by simp [Region.wanted, hg, hy, htw])]
          have hs' : Sat n w H σ (F.put (some d) (.d (.b (!want)))) a.tmps := hs.know (by rw [hval, htn]; exact .d _ _ (.b _))
          exact vcOps_wpA rest _ H K w σ (a.put o.dst undef) (h2 htn) (hs'.put (dstOk_spec hdo) .un) hp (hput undef) hQ
      · rename_i ht
        have hsl := hs.slot d
        rw [ht] at hsl
        have hval : a.tmps.getD d undef = undef := by
          generalize a.tmps.getD d undef = u at hsl
          cases hsl; rfl
        have hne : (match a.tmps[d]? with | some (.bool b) => some b | _ => none : Option Bool) = none := by
          rw [Array.getD_eq_getD_getElem?] at hval
          cases hq : a.tmps[d]? with
          | none => rfl
          | some u =>
            rw [hq] at hval
            simp only [Option.getD_some] at hval
            subst hval
            rfl
        rw [hne] at hy
        rw [if_neg (by simp [Region.wanted, hg, hy])]
        exact vcOps_wpA rest _ H K w σ (a.put o.dst undef) h.2 (hs.put (dstOk_spec h.1) .un) hp (hput undef) hQ
      · exact h.elim
theorem fnPostD_leaves {w0 : World} {σ0 : Conc} (hw : WOk w0 H0 σ0) {w1 : World} {H1 : Heap} {σ1 : Conc} (hp1 : Pres w0 H0 σ0 w1 H1 σ1) {g : Nat} {caps : List V} {vs : Array Value} (hbody : hasBody P g = true) (hlen : caps.length = vs.size)
    (hcap : ∀ (j : Nat) (c : V) (v : Value), caps[j]? = some c → vs[j]? = some v → VRel w1 (Own H1 σ1) H1 σ1 c v) {e : Exit} {a' : Act} {w' : World}
    (h : ∃ F' H' σ', fnPostD P fn.results.toList g caps H0 K e F' H' ∧ Pres w1 H1 σ1 w' H' σ' ∧ Sat fn.ntmps w' H' σ' F' a'.tmps ∧ a'.defers = [{ target := .fn (.func g) vs, args := #[] }]) :
    bodyPostD P fn (Rest w0 H0 σ0 K) e a' w' := by
  obtain ⟨F', H', σ', hQ, hp', hs', hd'⟩ := h
  have done : ACallsD P g caps H' (fun _ H' => vcRes P fn.results.toList F' H' fun v => RetK H0 K v H') → Leaves P fn a'.tmps (Rest w0 H0 σ0 K) a'.defers .returning w' := by
    intro hcall
    rw [hd']
    refine leaves_cons (f := g) (args := #[] ++ vs) (by simp) (by simp [invoke, run_callFunc hbody]) ?_
    refine (hcall w' σ' (#[] ++ vs) .returning hs'.ok (by simp [hlen]) (fun j v u hj hu => ?_)).mono ?_
    · have hu' : vs[j]? = some u := by simpa using hu
      exact (hcap j v u hj hu').pres hp'
    · rintro e u' w'' ⟨rfl, val, v, H2, σ2, rfl, hk, hv, hw2, hp2⟩
      have hs3 : Sat fn.ntmps w'' H2 σ2 F' a'.tmps := hs'.pres hp2 hw2
      obtain ⟨v3, val3, k1, k2, H4, G, v4, rfl, hl4, hc4, hf4, hb4, hk4⟩ := vcRes_run hk hs3
      obtain ⟨hp5, hs5⟩ := cut_state (F' := []) hw ((hp1.trans hp').trans hp2) hs3 hl4 hc4 (fun x => .inl rfl)
      exact ⟨val3, k1, val3, v4, H4, σ2, rfl, hk4, hf4.rel hs3.ok hb4 k2, hs5.ok, hp5⟩
  cases e with
  | normal => exact done hQ
  | ret => exact done hQ
  | _ => exact hQ.elim
def AWpS (P : Program) (fn : Func) (H0 : Heap) (K : V → Heap → Prop) (x y : Code) (F : Frame) (H : Heap) : Prop :=
  ∀ (w0 : World) (σ0 : Conc) (w : World) (σ : Conc) (a : Act), WOk w0 H0 σ0 → Pres w0 H0 σ0 w H σ → Sat fn.ntmps w H σ F a.tmps → a.defers = [] →
    x.wp P (Exit.then (y.wp P (bodyPostD P fn (Rest w0 H0 σ0 K))) (bodyPostD P fn (Rest w0 H0 σ0 K))) a w
theorem AWpF_S {x y : Code} (h : AWpS P fn H0 K x y F H) : AWpF P fn H0 K (.seq x y) F H := fun w0 σ0 w σ a hw hp hs hd => wp_seq (h w0 σ0 w σ a hw hp hs hd)
theorem AWpS_skip {y : Code} (h : AWpF P fn H0 K y F H) : AWpS P fn H0 K .skip y F H := fun w0 σ0 w σ a hw hp hs hd => wp_skip (h w0 σ0 w σ a hw hp hs hd)
theorem AWpS_cond {c : Operand} {x z y : Code} {t : Bool} (hc : ev F c = .d (.b t)) (h : onB t (AWpS P fn H0 K x y F H) (AWpS P fn H0 K z y F H)) : AWpS P fn H0 K (.cond c x z) y F H :=
  have h1 := h.1
  have h2 := h.2
  fun w0 σ0 w σ a hw hp hs hd => by
    have hv := hs.ev c
    rw [hc] at hv
    refine wp_cond hv.inv_d.inv_b ?_
    cases t
    · exact h2 rfl w0 σ0 w σ a hw hp hs hd
    · exact h1 rfl w0 σ0 w σ a hw hp hs hd
theorem AWpS_seq {x z y : Code} (h : AWp P fn.ntmps [] H0 x (thenA (fun F' H' => AWpS P fn H0 K z y F' H') (fnPost P fn.results.toList H0 K)) F H) : AWpS P fn H0 K (.seq x z) y F H := by
  unfold AWp at h
  exact fun w0 σ0 w σ a hw hp hs hd => wp_seq (Code.wp_mono (fun e a' w' ⟨F', H', σ', hQ, hp', hs', hd'⟩ => by
    cases e with
    | normal => exact hQ w0 σ0 w' σ' a' hw hp' hs' hd'
    | ret => exact fnPost_leaves (e := .ret) hw ⟨F', H', σ', (show fnPost P fn.results.toList H0 K .ret F' H' from hQ), hp', hs', hd'⟩
    | _ => exact hQ.elim) (h w0 σ0 w σ a hw hp hs hd))
theorem defer_run {l : List Oper} {o : Oper} (M KS : List Nat) (T : Nat → List V → Frame → Heap → Prop) {Q : Exit → Act → World → Prop} {w0 w : World} {σ0 σ : Conc} {a : Act}
    (h : vcOps P fn.ntmps M (l ++ [o]) l F H fun F1 H1 => vcDefer P fn.ntmps o F1 H1 T) (hs : Sat fn.ntmps w H σ F a.tmps) (hp : Pres w0 H0 σ0 w H σ) (hd : a.defers = [])
    (hQ : ∀ (g : Nat) (caps : List V) (vs : Array Value) (F2 : Frame) (H2 : Heap) (w1 : World) (σ1 : Conc) (a1 : Act), T g caps F2 H2 → hasBody P g = true → caps.length = vs.size →
      (∀ (j : Nat) (c : V) (v : Value), caps[j]? = some c → vs[j]? = some v → VRel w1 (Own H2 σ1) H2 σ1 c v) → Pres w0 H0 σ0 w1 H2 σ1 → Sat fn.ntmps w1 H2 σ1 (canon KS F2) a1.tmps → a1.defers = [{ target := .fn (.func g) vs, args := #[] }] → Q .normal a1 w1) :
    wpList P (l ++ [o]).toArray Q (l ++ [o]) a w := by
  refine vcOps_wpA l F H _ w σ a h hs hp hd ?_
  intro F1 H1 w1 σ1 a1 h1 hs1 hp1 hd1
  unfold vcDefer at h1
  split at h1
  case h_2 => exact h1.elim
  rename_i c hop
  split at h1
  case h_2 => exact h1.elim
  rename_i f hcal
  split at h1
  case h_2 => exact h1.elim
  rename_i g caps hf
  obtain ⟨hg, hargs, hbody, hdst, h2⟩ := h1
  have hfv := hs1.ev f
  rw [hf] at hfv
  obtain ⟨vs, hval, hlen, hcap⟩ := hfv.inv_fn
  unfold wpList
  rw [if_pos (by simp [Region.wanted, hg])]
  left
  have hrun : (execOp a1.eval o).run P w1 = .ok (.defer { target := .fn (.func g) vs, args := #[] }) w1 := by
    simp [execOp, hop, resolve, hcal, hval, Deferred.ofValue, hargs]
  unfold Oper.wp
  rw [hrun, Oper.upon_defer]
  have hput : ∀ (x : Act) v, (x.put o.dst v).defers = x.defers := fun x v => by cases ho : o.dst <;> simp [Act.put]
  have hs2 : Sat fn.ntmps w1 H1 σ1 (F1.put o.dst .un) ((({ a1 with defers := { target := .fn (.func g) vs, args := #[] } :: a1.defers } : Act).put o.dst undef)).tmps :=
    hs1.put (a := ({ a1 with defers := { target := .fn (.func g) vs, args := #[] } :: a1.defers } : Act)) (dstOk_spec hdst) .un
  exact hQ g caps vs _ H1 w1 σ1 _ h2 hbody hlen hcap hp1 (hs2.canon KS) (by rw [hput]; simp [hd1])
theorem AWpF_defer {id : Nat} {l : List Oper} {o : Oper} {y : Code} (M KS : List Nat) {all : Array Oper} (hall : all = (l ++ [o]).toArray)
    (h : vcOps P fn.ntmps M (l ++ [o]) l F H fun F1 H1 => vcDefer P fn.ntmps o F1 H1 fun g caps F2 H2 => ∀ d, AWp P fn.ntmps [d] H2 y (fnPostD P fn.results.toList g caps H0 K) (canon KS F2) H2) :
    AWpF P fn H0 K (.seq (.region id all false) y) F H := by
  subst hall
  intro w0 σ0 w σ a hw hp hs hd
  refine wp_seq (wp_region_lit ?_)
  refine defer_run M KS _ h hs hp hd fun g caps vs F2 H2 w1 σ1 a1 hT hb hlen hcap hp1 hs1 hd1 => ?_
  show y.wp P (bodyPostD P fn (Rest w0 H0 σ0 K)) a1 w1
  have hy := hT { target := .fn (.func g) vs, args := #[] }
  unfold AWp at hy
  exact Code.wp_mono (fun e a' w' hq => fnPostD_leaves hw hp1 hb hlen hcap hq) (hy w1 σ1 w1 σ1 _ hs1.ok (Pres.refl _ _ _) hs1 hd1)
theorem AWpS_defer {id : Nat} {l : List Oper} {o : Oper} {x y : Code} (M KS : List Nat) {all : Array Oper} (hall : all = (l ++ [o]).toArray)
    (h : vcOps P fn.ntmps M (l ++ [o]) l F H fun F1 H1 => vcDefer P fn.ntmps o F1 H1 fun g caps F2 H2 => ∀ d, AWp P fn.ntmps [d] H2 x (thenA (fun F' H' => AWp P fn.ntmps [d] H2 y (fnPostD P fn.results.toList g caps H0 K) F' H') (fnPostD P fn.results.toList g caps H0 K)) (canon KS F2) H2) :
    AWpS P fn H0 K (.seq (.region id all false) x) y F H := by
  subst hall
  intro w0 σ0 w σ a hw hp hs hd
  refine wp_seq (wp_region_lit ?_)
  refine defer_run M KS _ h hs hp hd fun g caps vs F2 H2 w1 σ1 a1 hT hb hlen hcap hp1 hs1 hd1 => ?_
  show x.wp P (Exit.then (y.wp P (bodyPostD P fn (Rest w0 H0 σ0 K))) (bodyPostD P fn (Rest w0 H0 σ0 K))) a1 w1
  have hy := hT { target := .fn (.func g) vs, args := #[] }
  unfold AWp at hy
  refine Code.wp_mono (fun e a' w' hq => ?_) (hy w1 σ1 w1 σ1 _ hs1.ok (Pres.refl _ _ _) hs1 hd1)
  obtain ⟨F', H', σ', hQ, hp', hs', hd'⟩ := hq
  cases e with
  | normal =>
    exact Code.wp_mono (fun e a' w' hq => fnPostD_leaves hw hp1 hb hlen hcap hq) (hQ w1 σ1 w' σ' _ hs1.ok hp' hs' hd')
  | ret => exact fnPostD_leaves (e := .ret) hw hp1 hb hlen hcap ⟨F', H', σ', (show fnPostD P fn.results.toList g caps H0 K .ret F' H' from hQ), hp', hs', hd'⟩
  | _ => exact hQ.elim
theorem dfs3 (a b c : Oper) : #[a, b, c] = ([a, b] ++ [c]).toArray := rfl
theorem AWpF_deferC {id : Nat} {l : List Oper} {o : Oper} {y : Code} (M KS : List Nat) {all : Array Oper} (hall : all = (l ++ [o]).toArray)
    (h : ∀ KD : Nat → List V → Frame → Heap → Prop, (∀ g caps F2 H2, (∀ d, AWp P fn.ntmps [d] H2 y (fnPostD P fn.results.toList g caps H0 K) (canon KS F2) H2) → KD g caps F2 H2) →
      vcOps P fn.ntmps M (l ++ [o]) l F H fun F1 H1 => vcDefer P fn.ntmps o F1 H1 KD) : AWpF P fn H0 K (.seq (.region id all false) y) F H :=
  AWpF_defer M KS hall (h _ fun _ _ _ _ h => h)
theorem AWpS_deferC {id : Nat} {l : List Oper} {o : Oper} {x y : Code} (M KS : List Nat) {all : Array Oper} (hall : all = (l ++ [o]).toArray)
    (h : ∀ KD : Nat → List V → Frame → Heap → Prop, (∀ g caps F2 H2, (∀ d, AWp P fn.ntmps [d] H2 x (thenA (fun F' H' => AWp P fn.ntmps [d] H2 y (fnPostD P fn.results.toList g caps H0 K) F' H') (fnPostD P fn.results.toList g caps H0 K)) (canon KS F2) H2) → KD g caps F2 H2) →
      vcOps P fn.ntmps M (l ++ [o]) l F H fun F1 H1 => vcDefer P fn.ntmps o F1 H1 KD) : AWpS P fn H0 K (.seq (.region id all false) x) y F H :=
  AWpS_defer M KS hall (h _ fun _ _ _ _ h => h)
end
attribute [irreducible] AWpF AWpS
attribute [go_sem] fnPostD vcDefer
end Go.Proofs.YtmhabdopcbokoaaDoor.Ab
