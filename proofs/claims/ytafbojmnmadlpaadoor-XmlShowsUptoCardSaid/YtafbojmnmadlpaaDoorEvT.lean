/- A list of events, as a law's argument reads. No condition. -/
import Derived.Test.YtafbojmnmadlpaaDoorDat
import Derived.Test.YtafbojmnmadlpaaDoorLw
set_option linter.all false
set_option linter.unusedSimpArgs false
set_option linter.unusedVariables false
namespace Go.Proofs.YtafbojmnmadlpaaDoor
open Go Go.Proofs.YtafbojmnmadlpaaDoor.Ab
variable [Glo]
theorem typed_evs {ds : List D} {m : Nat} (h : Typed (.sl tyEv) ds m) : ∃ l : List Ev, ds = [.sl 3 (l.map evD)] ∧ l.length * 3 ≤ m ∧
    ∀ x, x ∈ l → x.nm.length + x.vl.length + 3 ≤ m ∧ inR .i64 x.k := by
  obtain ⟨xs, ws, rfl, h1, h2, h3⟩ := typed_list (p := fun (x : Ev) m => x.nm.length + x.vl.length + 3 ≤ m ∧ inR .i64 x.k) (fun ds m h => typed_ev h) h
  refine ⟨xs, rfl, ?_, fun x hx => ?_⟩
  · have := len_sum (ws := ws) 3 fun i w hw => by
      have hi : i < xs.length := by
        have := List.getElem?_eq_some_iff.1 hw
        obtain ⟨h, _⟩ := this
        omega
      have := h3 i _ w (List.getElem?_eq_getElem hi) hw
      omega
    omega
  · obtain ⟨i, hi, rfl⟩ := List.mem_iff_getElem.1 hx
    obtain ⟨w, hw⟩ : ∃ w, ws[i]? = some w := ⟨ws[i]'(by omega), List.getElem?_eq_getElem (by omega)⟩
    have g := h3 i _ w (List.getElem?_eq_getElem hi) hw
    have := le_sum hw
    exact ⟨by omega, g.2⟩
end Go.Proofs.YtafbojmnmadlpaaDoor
