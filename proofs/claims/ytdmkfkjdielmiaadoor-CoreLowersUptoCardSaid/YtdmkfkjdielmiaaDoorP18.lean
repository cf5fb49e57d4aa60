/- Regions that draw their order, in which any number of operations turn objects, and others are guarded. No condition. -/
import Derived.Test.YtdmkfkjdielmiaaDoorP16
set_option linter.all false
set_option linter.unusedSimpArgs false
set_option linter.unusedVariables false
namespace Go.Proofs.YtdmkfkjdielmiaaDoor.Ab
open Go
variable [Glo]
section
variable {P : Program} {n : Nat} {dfs : List Deferred} {H : Heap}
def quietK (P : Program) (M : List Nat) (o : Oper) (F : Frame) (b f : Nat) (hs : List Heap) (pd : Nat → Heap → Prop) (v : V) (k : (Nat → Heap → Prop) → Prop) : Prop :=
  allH (fun H' => vcQ P M o F H' fun v' => v' = v) (hs.take b) ∧ k fun k Ha => pd k Ha ∧ (k < f → vcQ P M o F Ha fun v' => v' = v)
def vcU (P : Program) (n : Nat) (M : List Nat) (all : List Oper) (T : Frame → Heap → Prop) : List Cd → List Oper → List Heap → Heap → Frame → (Nat → Heap → Prop) → Prop
  | [], _, _, H, F, _ => T F H
  | _ :: _, [], _, _, _, _ => False
  | .q b f :: cs, o :: rest, hs, H, F, pd =>
    match o.guard with
    | none => dstOk n o.dst ∧ vcQ P M o F H fun v => quietK P M o F b f hs pd v fun pd' => vcU P n M all T cs rest hs H (F.put o.dst v) pd'
    | some (j, want) =>
      match (all[j]?).bind (·.dst) with
      | some d =>
        (match F.get d with
        | .d (.b t) => d < n ∧ dstOk n o.dst ∧ (match want with
            | true => onB t (vcQ P M o F H fun v => quietK P M o F b f hs pd v fun pd' => vcU P n M all T cs rest hs H (F.put o.dst v) pd') (vcU P n M all T cs rest hs H (F.put o.dst .un) pd)
            | false => onB t (vcU P n M all T cs rest hs H (F.put o.dst .un) pd) (vcQ P M o F H fun v => quietK P M o F b f hs pd v fun pd' => vcU P n M all T cs rest hs H (F.put o.dst v) pd'))
        | .un => dstOk n o.dst ∧ vcU P n M all T cs rest hs H (F.put o.dst .un) pd
        | _ => False)
      | none => False
  | .t :: cs, o :: rest, hs, H, F, pd => o.guard = none ∧ dstOk n o.dst ∧ vcE P M o F H fun v H1 => pd 0 H1 ∧ vcU P n M all T cs rest (H :: hs) H1 (F.put o.dst v) fun k => pd (k + 1)
  | .g :: cs, o :: rest, hs, H, F, pd => o.guard = none ∧ dstOk n o.dst ∧ vcE P M o F H (giveK fun v H1 => pd 0 H1 ∧ vcU P n M all T cs rest (H :: hs) H1 (F.put o.dst v) fun k => pd (k + 1))
variable {H0 : Heap} {Q : Exit → Frame → Heap → Prop} {F : Frame}
theorem vcU_nil {M : List Nat} {T : Frame → Heap → Prop} {l all : List Oper} {hs : List Heap} {pd : Nat → Heap → Prop} : vcU P n M all T [] l hs H F pd = T F H := Eq.trans rfl rfl
theorem vcU_q {M : List Nat} {T : Frame → Heap → Prop} {all : List Oper} {b f : Nat} {cs : List Cd} {d : Option Tmp} {op : Op} {ty : TypeId} {ps : String} {af : Array Edge} {rest : List Oper} {hs : List Heap} {pd : Nat → Heap → Prop} : vcU P n M all T (.q b f :: cs) (⟨d, op, ty, ps, af, none⟩ :: rest) hs H F pd = (dstOk n d ∧ vcQ P M ⟨d, op, ty, ps, af, none⟩ F H (lk (fun v => quietK P M ⟨d, op, ty, ps, af, none⟩ F b f hs pd v (lk (fun pd' => vcU P n M all T cs rest hs H (F.put d v) pd') .mk)) .mk)) := by
  rw [vcU]; rfl
def vcUg (P : Program) (n : Nat) (M : List Nat) (all : List Oper) (T : Frame → Heap → Prop) (b f : Nat) (cs : List Cd) (o : Oper) (rest : List Oper) (hs : List Heap) (H : Heap) (F : Frame) (pd : Nat → Heap → Prop) (want : Bool) (e : Nat) : V → Prop
  | .d (.b t) => e < n ∧ dstOk n o.dst ∧ (match want with
      | true => onB t (vcQ P M o F H fun v => quietK P M o F b f hs pd v fun pd' => vcU P n M all T cs rest hs H (F.put o.dst v) pd') (vcU P n M all T cs rest hs H (F.put o.dst .un) pd)
      | false => onB t (vcU P n M all T cs rest hs H (F.put o.dst .un) pd) (vcQ P M o F H fun v => quietK P M o F b f hs pd v fun pd' => vcU P n M all T cs rest hs H (F.put o.dst v) pd'))
  | .un => dstOk n o.dst ∧ vcU P n M all T cs rest hs H (F.put o.dst .un) pd
  | _ => False
theorem vcU_s {M : List Nat} {T : Frame → Heap → Prop} {all : List Oper} {b f j : Nat} {want : Bool} {cs : List Cd} {d : Option Tmp} {op : Op} {ty : TypeId} {ps : String} {af : Array Edge} {rest : List Oper} {hs : List Heap} {pd : Nat → Heap → Prop} : vcU P n M all T (.q b f :: cs) (⟨d, op, ty, ps, af, some (j, want)⟩ :: rest) hs H F pd = (match (all[j]?).bind (·.dst) with | some e => vcUg P n M all T b f cs ⟨d, op, ty, ps, af, some (j, want)⟩ rest hs H F pd want e (F.get e) | none => False) := by
  rw [vcU]
  simp only []
  cases (all[j]?).bind (·.dst) with
  | none => rfl
  | some e =>
    simp only []
    cases F.get e <;> first | rfl | (rename_i x; cases x <;> rfl)
theorem vcUg_un {M : List Nat} {T : Frame → Heap → Prop} {all : List Oper} {b f e : Nat} {want : Bool} {cs : List Cd} {o : Oper} {rest : List Oper} {hs : List Heap} {pd : Nat → Heap → Prop} : vcUg P n M all T b f cs o rest hs H F pd want e .un = (dstOk n o.dst ∧ vcU P n M all T cs rest hs H (F.put o.dst .un) pd) := Eq.trans rfl rfl
theorem vcUg_T {M : List Nat} {T : Frame → Heap → Prop} {all : List Oper} {b f e : Nat} {t : Bool} {cs : List Cd} {o : Oper} {rest : List Oper} {hs : List Heap} {pd : Nat → Heap → Prop} : vcUg P n M all T b f cs o rest hs H F pd true e (.d (.b t)) = (e < n ∧ dstOk n o.dst ∧ onB t (vcQ P M o F H (lk (fun v => quietK P M o F b f hs pd v (lk (fun pd' => vcU P n M all T cs rest hs H (F.put o.dst v) pd') .mk)) .mk)) (vcU P n M all T cs rest hs H (F.put o.dst .un) pd)) := Eq.trans rfl rfl
theorem vcUg_F {M : List Nat} {T : Frame → Heap → Prop} {all : List Oper} {b f e : Nat} {t : Bool} {cs : List Cd} {o : Oper} {rest : List Oper} {hs : List Heap} {pd : Nat → Heap → Prop} : vcUg P n M all T b f cs o rest hs H F pd false e (.d (.b t)) = (e < n ∧ dstOk n o.dst ∧ onB t (vcU P n M all T cs rest hs H (F.put o.dst .un) pd) (vcQ P M o F H (lk (fun v => quietK P M o F b f hs pd v (lk (fun pd' => vcU P n M all T cs rest hs H (F.put o.dst v) pd') .mk)) .mk))) := Eq.trans rfl rfl
theorem vcU_t {M : List Nat} {T : Frame → Heap → Prop} {all : List Oper} {cs : List Cd} {d : Option Tmp} {op : Op} {ty : TypeId} {ps : String} {af : Array Edge} {rest : List Oper} {hs : List Heap} {pd : Nat → Heap → Prop} : vcU P n M all T (.t :: cs) (⟨d, op, ty, ps, af, none⟩ :: rest) hs H F pd = (dstOk n d ∧ vcE P M ⟨d, op, ty, ps, af, none⟩ F H (lk (fun v H1 => pd 0 H1 ∧ vcU P n M all T cs rest (H :: hs) H1 (F.put d v) fun k => pd (k + 1)) .mk)) := by
  rw [vcU]; simp [lk]
theorem vcU_g {M : List Nat} {T : Frame → Heap → Prop} {all : List Oper} {cs : List Cd} {d : Option Tmp} {op : Op} {ty : TypeId} {ps : String} {af : Array Edge} {rest : List Oper} {hs : List Heap} {pd : Nat → Heap → Prop} : vcU P n M all T (.g :: cs) (⟨d, op, ty, ps, af, none⟩ :: rest) hs H F pd = (dstOk n d ∧ vcE P M ⟨d, op, ty, ps, af, none⟩ F H (lk (giveK (lk (fun v H1 => pd 0 H1 ∧ vcU P n M all T cs rest (H :: hs) H1 (F.put d v) fun k => pd (k + 1)) .mk)) .mk)) := by
  rw [vcU]; simp [lk]
theorem quietK_0 {M : List Nat} {o : Oper} {hs : List Heap} {pd : Nat → Heap → Prop} {v : V} {k : (Nat → Heap → Prop) → Prop} : quietK P M o F 0 0 hs pd v k = k pd := by
  simp [quietK, allH]
theorem quietK_n {M : List Nat} {o : Oper} {b f : Nat} {hs : List Heap} {pd : Nat → Heap → Prop} {v : V} {k : (Nat → Heap → Prop) → Prop} : quietK P M o F b f hs pd v k = (allH (fun H' => vcQ P M o F H' fun v' => v' = v) (hs.take b) ∧ k fun k Ha => pd k Ha ∧ (k < f → vcQ P M o F Ha fun v' => v' = v)) := Eq.trans rfl rfl
end
attribute [go_sem ↓ high] quietK_0
attribute [go_sem ↓ low] quietK_n
attribute [go_sem ↓] vcU_nil vcU_q vcU_s vcU_t vcU_g vcUg_un vcUg_T vcUg_F
end Go.Proofs.YtdmkfkjdielmiaaDoor.Ab
namespace Go.Proofs.YtdmkfkjdielmiaaDoor.Ab
open Go
variable [Glo]
section
variable {P : Program} {n : Nat} {dfs : List Deferred} {H0 H : Heap} {Q : Exit → Frame → Heap → Prop} {F : Frame}
structure Halt (p : Prop) : Prop where
  go : p
theorem halt_block {x y : Code} (k : Nat) (h : Halt (AWp P n dfs H0 (.seq (.block k x) y) Q F H)) : AWp P n dfs H0 (.seq (.block k x) y) Q F H := h.go
theorem AWp_cutG {x y : Code} {ι : Type} (I : ι → Prop) (Fr : ι → Frame) (Hp : ι → Heap) (hl : ∀ i, I i → H0.length ≤ (Hp i).length) (hc : ∀ i, I i → Closed H0 (Hp i))
    (h2 : ∀ i, I i → AWp P n dfs H0 y Q (Fr i) (Hp i))
    (h1 : AWp P n dfs H0 x (thenA (fun F' H' => ∃ i G', I i ∧ H' = Hp i ++ G' ∧ Sub (Hp i).length F' (Fr i)) Q) F H) : Halt (AWp P n dfs H0 (.seq x y) Q F H) :=
  ⟨AWp_seq (h1.mono fun e F' H' h => by
    cases e with
    | normal =>
      obtain ⟨i, G', hi, rfl, hs⟩ := h
      exact AWp_ent ⟨⟨G', rfl⟩, hl i hi, hc i hi, hs.ent⟩ (h2 i hi)
    | _ => exact h)⟩
theorem AWp_whileG {c : Code} {ι : Type} (I : ι → Prop) (Fr : ι → Frame) (Hp : ι → Heap) (μ : ι → Nat) (i0 : ι) (h0 : I i0) (hH : ∃ G', H = Hp i0 ++ G') (hs : Sub (Hp i0).length F (Fr i0)) (hl : ∀ i, I i → H0.length ≤ (Hp i).length) (hc : ∀ i, I i → Closed H0 (Hp i))
    (hr : ∀ i, I i → AWp P n dfs H0 c (thenA (fun F' H' => ∃ i' G', I i' ∧ μ i' < μ i ∧ H' = Hp i' ++ G' ∧ Sub (Hp i').length F' (Fr i')) Q) (Fr i) (Hp i)) : AWp P n dfs H0 (.loop c) Q F H := by
  obtain ⟨G0, rfl⟩ := hH
  refine AWp_loop I Fr Hp μ i0 h0 ⟨⟨G0, rfl⟩, hl _ h0, hc _ h0, hs.ent⟩ fun i hi => (hr i hi).mono fun e F' H' h => ?_
  cases e with
  | normal =>
    obtain ⟨i', G', h1, h2, rfl, h3⟩ := h
    exact ⟨i', h1, ⟨⟨G', rfl⟩, hl _ h1, hc _ h1, h3.ent⟩, h2⟩
  | _ => exact h
end
end Go.Proofs.YtdmkfkjdielmiaaDoor.Ab
