/- The head of a drawn region, an operation a step, with what follows out of the way. No condition. -/
import Derived.Test.YtafbojmnmadlpaaDoorAb17
set_option linter.all false
set_option linter.unusedSimpArgs false
set_option linter.unusedVariables false
namespace Go.Proofs.YtafbojmnmadlpaaDoor.Ab
open Go
variable [Glo]
theorem vcD_0 {P : Program} {n : Nat} {M : List Nat} {all l : List Oper} {H : Heap} {T : Frame → Prop} {F : Frame} : vcD P n M all H T 0 l F = T F := by
  unfold vcD; rfl
theorem vcD_n {P : Program} {n k : Nat} {M : List Nat} {all rest : List Oper} {d : Option Tmp} {op : Op} {ty : TypeId} {ps : String} {af : Array Edge} {H : Heap} {T : Frame → Prop} {F : Frame} : vcD P n M all H T (k + 1) (⟨d, op, ty, ps, af, none⟩ :: rest) F = (dstOk n d ∧ vcQ P M ⟨d, op, ty, ps, af, none⟩ F H (lk (fun v => vcD P n M all H T k rest (F.put d v)) .mk)) := by
  rw [vcD]; rfl
def vcDg (P : Program) (n : Nat) (M : List Nat) (all : List Oper) (H : Heap) (T : Frame → Prop) (k : Nat) (o : Oper) (rest : List Oper) (want : Bool) (d : Nat) (F : Frame) (x : V) : Prop :=
  match x with
  | .d (.b t) => d < n ∧ dstOk n o.dst ∧ (match want with
      | true => onB t (vcQ P M o (F.put (some d) (.d (.b true))) H (lk (fun v => vcD P n M all H T k rest ((F.put (some d) (.d (.b true))).put o.dst v)) .mk))
          (vcD P n M all H T k rest ((F.put (some d) (.d (.b false))).put o.dst .un))
      | false => onB t (vcD P n M all H T k rest ((F.put (some d) (.d (.b true))).put o.dst .un))
          (vcQ P M o (F.put (some d) (.d (.b false))) H (lk (fun v => vcD P n M all H T k rest ((F.put (some d) (.d (.b false))).put o.dst v)) .mk)))
  | .un => dstOk n o.dst ∧ vcD P n M all H T k rest (F.put o.dst .un)
  | _ => False
theorem vcD_s {P : Program} {n k j : Nat} {M : List Nat} {all rest : List Oper} {d : Option Tmp} {op : Op} {ty : TypeId} {ps : String} {af : Array Edge} {want : Bool} {H : Heap} {T : Frame → Prop} {F : Frame} : vcD P n M all H T (k + 1) (⟨d, op, ty, ps, af, some (j, want)⟩ :: rest) F = (match (all[j]?).bind (·.dst) with | some e => vcDg P n M all H T k ⟨d, op, ty, ps, af, some (j, want)⟩ rest want e F (F.get e) | none => False) := by
  rw [vcD]
  simp only []
  cases (all[j]?).bind (·.dst) <;> rfl
theorem vcDg_un {P : Program} {n k : Nat} {M : List Nat} {all rest : List Oper} {o : Oper} {want : Bool} {e : Nat} {H : Heap} {T : Frame → Prop} {F : Frame} : vcDg P n M all H T k o rest want e F .un = (dstOk n o.dst ∧ vcD P n M all H T k rest (F.put o.dst .un)) := rfl
theorem vcDg_t {P : Program} {n k : Nat} {M : List Nat} {all rest : List Oper} {o : Oper} {e : Nat} {t : Bool} {H : Heap} {T : Frame → Prop} {F : Frame} : vcDg P n M all H T k o rest true e F (.d (.b t)) = (e < n ∧ dstOk n o.dst ∧ onB t (vcQ P M o (F.put (some e) (.d (.b true))) H (lk (fun v => vcD P n M all H T k rest ((F.put (some e) (.d (.b true))).put o.dst v)) .mk)) (vcD P n M all H T k rest ((F.put (some e) (.d (.b false))).put o.dst .un))) := rfl
theorem vcDg_f {P : Program} {n k : Nat} {M : List Nat} {all rest : List Oper} {o : Oper} {e : Nat} {t : Bool} {H : Heap} {T : Frame → Prop} {F : Frame} : vcDg P n M all H T k o rest false e F (.d (.b t)) = (e < n ∧ dstOk n o.dst ∧ onB t (vcD P n M all H T k rest ((F.put (some e) (.d (.b true))).put o.dst .un)) (vcQ P M o (F.put (some e) (.d (.b false))) H (lk (fun v => vcD P n M all H T k rest ((F.put (some e) (.d (.b false))).put o.dst v)) .mk))) := rfl
/-- One operation whose value alone counts, the rest out of the way. -/
theorem vcQ_o {P : Program} {M : List Nat} {o : Oper} {F : Frame} {H : Heap} {K : V → Prop} {u : Lk K} (hc : (match o.op with | .call _ => false | _ => true) = true) : vcQ P M o F H (lk K u) = vcOp P M o F H (lk (fun v H' => H' = H ∧ K v) .mk) := by
  unfold vcQ
  split
  · rename_i h; rw [h] at hc; cases hc
  · rfl
attribute [go_sem ↓ 2000] vcD_0 vcD_n vcD_s
attribute [go_sem ↓] vcDg_un vcDg_t vcDg_f
end Go.Proofs.YtafbojmnmadlpaaDoor.Ab
