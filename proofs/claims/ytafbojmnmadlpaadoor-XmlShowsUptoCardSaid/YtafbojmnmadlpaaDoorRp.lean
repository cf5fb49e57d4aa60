/- A byte turned into a text wherever it stands: strings.ReplaceAll. No condition but that what package bytealg calls its greatest length is there. -/
import Derived.Test.YtafbojmnmadlpaaDoorEs0
import Derived.Test.YtafbojmnmadlpaaDoorSh2
import Derived.Test.YtafbojmnmadlpaaDoorIn
import Derived.Test.YtafbojmnmadlpaaDoorMl
set_option linter.all false
set_option linter.unusedSimpArgs false
set_option linter.unusedVariables false
namespace Go.Proofs.YtafbojmnmadlpaaDoor
open Go Go.Proofs.YtafbojmnmadlpaaDoor.Ab
variable [Glo]
set_option maxHeartbeats 4000000
set_option maxRecDepth 20000
variable [Ml]
theorem count_le (c : UInt8) (s : List UInt8) : Lib.count s [c] ≤ s.length := by
  rw [Lib.count_one]
  exact List.count_le_length
theorem three_of_size {α : Type} {xs : Array α} (h : xs.size = 3) : ∃ a b c, xs = #[a, b, c] := by
  obtain ⟨l⟩ := xs
  match l, h with
  | [a, b, c], _ => exact ⟨a, b, c, rfl⟩
theorem replaceAll_A (s : List UInt8) (c : UInt8) (new : List UInt8) (hne : [c] ≠ new) (hs : s.length ≤ 1000000000) (hn : new.length ≤ 6) (H : Heap) (K : V → Heap → Prop) (hk : K (.d (.s (esc1 c new s))) H) :
    ACalls Tryd.prog 70 [.d (.s s), .d (.s [c]), .d (.s new)] H K := by
  obtain ⟨m, hm⟩ := Ml.maxl
  refine ACalls_below _ hk fun w σ args hw hl hr => ?_
  obtain ⟨a, b, d, rfl⟩ := three_of_size (xs := args) (by simpa using hl.symm)
  obtain rfl := (hr 0 _ a rfl rfl).inv_d.inv_s
  obtain rfl := (hr 1 _ b rfl rfl).inv_d.inv_s
  obtain rfl := (hr 2 _ d rfl rfl).inv_d.inv_s
  obtain ⟨_, _, f, f1, f2⟩ := hw.glob _ _ hm
  have hm0 : w.cell? ⟨Tryd.laysM155_ren.g 1, 0, none⟩ = some (.int .i64 m) := by
    have e1 : Tryd.laysM155_ren.g 1 = 4 := by first | rfl | kernel_rfl
    rw [e1, f1 0 _ rfl, (f2 0 _ rfl).inv_i]
  have hsz : (⟨s.toArray⟩ : ByteArray).size = s.length := by simp [ByteArray.size]
  have hnz : (⟨new.toArray⟩ : ByteArray).size = new.length := by simp [ByteArray.size]
  have hc1 := count_le c s
  have hcb : Lib.countB ⟨s.toArray⟩ ⟨[c].toArray⟩ = Lib.count s [c] := rfl
  have := Any.strings_ReplaceAll Tryd.laysM155.ton155 Tryd.extra155 ⟨s.toArray⟩ ⟨[c].toArray⟩ ⟨new.toArray⟩ m w (by rw [hsz]; omega) hm0 (by simp [ByteArray.size]) (by
    rw [hsz, hnz, hcb]
    have : Lib.count s [c] * new.length ≤ 1000000000 * 6 := Nat.mul_le_mul (by omega) hn
    omega)
  have e : Tryd.laysM155_ren.f 155 = 70 := by first | rfl | kernel_rfl
  rw [e] at this
  refine ⟨_, fun w' _ => .d _ _ (.s _), this.mono ?_⟩
  rintro e w' ⟨rfl, hb⟩
  refine ⟨?_, hb⟩
  rw [← replaceAll_one c new s hne]
end Go.Proofs.YtafbojmnmadlpaaDoor
