/- Nodes as they are read. No condition. -/
import Derived.Test.YtpgdflhcmijaiaaDoorZ25
set_option linter.all false
set_option linter.unusedSimpArgs false
set_option linter.unusedVariables false
namespace Go.Proofs.YtpgdflhcmijaiaaDoor
open Go Go.Proofs.YtpgdflhcmijaiaaDoor.Ab
variable [Glo]
theorem typed_nds {ds : List D} {m : Nat} (h : Typed (.sl tyNd) ds m) : ∃ l : List Nd, ds = [.sl 6 (l.map ndD)] ∧ l.length * 6 ≤ m ∧
    ∀ x, x ∈ l → x.nm.length + x.vl.length + 6 ≤ m ∧ inR .i64 x.k ∧ inR .i64 x.sz ∧ inR .i64 x.lv ∧ inR .i64 x.up := by
  obtain ⟨xs, ws, rfl, h1, h2, h3⟩ := typed_list (p := fun (x : Nd) m => x.nm.length + x.vl.length + 6 ≤ m ∧ inR .i64 x.k ∧ inR .i64 x.sz ∧ inR .i64 x.lv ∧ inR .i64 x.up) (fun ds m h => typed_nd h) h
  refine ⟨xs, rfl, ?_, fun x hx => ?_⟩
  · have := len_sum (ws := ws) 6 fun i w hw => by
      have hi : i < xs.length := by
        have := List.getElem?_eq_some_iff.1 hw
        obtain ⟨h, _⟩ := this
        omega
      have := h3 i _ w (List.getElem?_eq_getElem hi) hw
      omega
    omega
  · obtain ⟨i, hi, rfl⟩ := List.mem_iff_getElem.1 hx
    obtain ⟨w, hw⟩ : ∃ w, ws[i]? = some w := ⟨ws[i]'(by omega), List.getElem?_eq_getElem (by omega)⟩
    have g := h3 i _ w (List.getElem?_eq_getElem hi) hw
    have := le_sum hw
    exact ⟨by omega, g.2⟩
end Go.Proofs.YtpgdflhcmijaiaaDoor
