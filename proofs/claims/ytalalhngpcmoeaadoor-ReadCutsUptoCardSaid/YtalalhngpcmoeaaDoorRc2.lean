/- One token: what the program's lexer finds. No condition but that the tables of package unicode/utf8, and the table of marks, are there. -/
import Derived.Test.YtalalhngpcmoeaaDoorRc1
import Derived.Test.YtalalhngpcmoeaaDoorMk
import Derived.Test.YtalalhngpcmoeaaDoorAbd
set_option linter.all false
set_option linter.unusedSimpArgs false
set_option linter.unusedVariables false
namespace Go.Proofs.YtalalhngpcmoeaaDoor
open Go Go.Proofs.YtalalhngpcmoeaaDoor.Ab
variable [Glo] [U8]
set_option maxHeartbeats 8000000
set_option maxRecDepth 20000
variable [Mk]
theorem lex_same {H : Heap} {id : Nat} {s : List UInt8} {p : Nat} {o : V} (hr : H[id]? = some (lexC s p o)) : H.set id (.row 0 77 3 [[.d (.s s), .d (.i .i64 p), o]]) = H := by
  obtain ⟨h, e⟩ := List.getElem?_eq_some_iff.1 hr
  rw [show (Ob.row 0 77 3 [[.d (.s s), .d (.i .i64 p), o]]) = H[id] from e.symm]
  exact List.set_getElem_self h
theorem lex_bel {m : Nat} {s : List UInt8} {p : Nat} {o : V} (h : Bel m o) : ObBel m (lexC s p o) := by
  intro row hr v hv
  simp at hr
  subst hr
  simp at hv
  rcases hv with rfl | rfl | rfl
  · exact .d _
  · exact .d _
  · exact h
theorem lex_ret {H G : Heap} {K : V → Heap → Prop} {id : Nat} {s : List UInt8} {p' : Nat} {o v : V} (hob : Bel H.length o) (hk : K v (H.set id (lexC s p' o))) (hb : Bel H.length v) : RetK H K v (H.set id (.row 0 77 3 [[.d (.s s), .d (.i .i64 p'), o]]) ++ G) :=
  dropS hk (by simp) (closed_set (closed_self H) (lex_bel hob)) (by simpa using hb)
theorem lex_ret0 {H G : Heap} {K : V → Heap → Prop} {id : Nat} {s : List UInt8} {p : Nat} {o v : V} (hr : H[id]? = some (lexC s p o)) (hob : Bel H.length o) (hk : K v (H.set id (lexC s p o))) (hb : Bel H.length v) : RetK H K v (H ++ G) := by
  have := lex_ret (G := G) hob hk hb
  rwa [lex_same hr] at this
def Hold (p : Prop) : Prop := p
theorem tok_bel {m : Nat} : ObBel m (.row 0 79 3 [[.d (.i .i64 0), .d (.s []), .d (.i .i64 0)]]) := obBel_data m 0 _ 3 [[.i .i64 0, .s [], .i .i64 0]]
theorem closed_set2 {H : Heap} {id : Nat} {s : List UInt8} {p : Nat} {o : V} {ob : Ob} (hid : id < H.length) (hob : Bel H.length o) (h : ObBel (H.length + 1) ob := by exact tok_bel) : Closed H (H.set id (.row 0 77 3 [[.d (.s s), .d (.i .i64 p), o]]) ++ [ob]) := by
  have h1 : Closed H (H ++ [ob]) := closed_app fun ob' h' => by
    rw [List.mem_singleton] at h'
    subst h'
    simpa using h
  have h2 := closed_set (id := id) (x := lexC s p o) h1 (lex_bel (hob.mono (by simp)))
  rwa [List.set_append_left _ _ hid] at h2
theorem mk_get (i : Nat) {m : List UInt8} (h : marksL[i]? = some m) : (marksRow.map V.d)[((i : Nat) : Int).toNat]? = some (.d (.s m)) := by
  simp [marksRow, h]
end Go.Proofs.YtalalhngpcmoeaaDoor
