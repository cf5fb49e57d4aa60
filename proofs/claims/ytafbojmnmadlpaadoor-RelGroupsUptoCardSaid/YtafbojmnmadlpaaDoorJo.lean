/- Ways that meet again: what is shown once, for all of them. No condition. -/
import Derived.Test.YtafbojmnmadlpaaDoorAb17
set_option linter.all false
namespace Go.Proofs.YtafbojmnmadlpaaDoor
open Go Go.Proofs.YtafbojmnmadlpaaDoor.Ab
variable [Glo]
theorem regJ {Kv : Ab.Frame → Ab.Heap → Prop} {F : Ab.Frame} {H : Ab.Heap} {p : Prop} (g : Kv F H → p) (h : Kv F H) : p := g h
end Go.Proofs.YtafbojmnmadlpaaDoor
