/- Events as text: in plain words. No condition. -/
import Derived.Test.YtafbojmnmadlpaaDoorEcA
import Derived.Test.YtafbojmnmadlpaaDoorEc3
import Derived.Test.YtafbojmnmadlpaaDoorEs0
set_option linter.all false
set_option linter.unusedSimpArgs false
set_option linter.unusedVariables false
namespace Go.Proofs.YtafbojmnmadlpaaDoor
open Go Go.Proofs.YtafbojmnmadlpaaDoor.Ab
variable [Glo] [U8] [Ml]
/-- What is written, the names of what is open, and whether a tag is not closed yet. -/
structure Sw where
  acc : List UInt8
  names : List (List UInt8)
  bare : Bool
def swPre (b : Bool) (x : Ev) : List UInt8 := if b = true ∧ x.k ≠ 2 ∧ x.k ≠ 5 then [62] else []
def swTxt (y : Sw) (x : Ev) : List UInt8 :=
  if x.k = 1 then 60 :: x.nm
  else if x.k = 2 then 32 :: (x.nm ++ (61 :: 34 :: (escT x.vl ++ [34])))
  else if x.k = 3 then escT x.vl
  else if x.k = 4 then 60 :: 33 :: 45 :: 45 :: (x.vl ++ [45, 45, 62])
  else if y.bare = true then [47, 62] else 60 :: 47 :: (y.names.getLastD [] ++ [62])
def swStep (y : Sw) (x : Ev) : Sw :=
  ⟨y.acc ++ (swPre y.bare x ++ swTxt y x), if x.k = 1 then y.names ++ [x.nm] else if x.k = 5 then y.names.dropLast else y.names, if x.k = 1 then true else if x.k = 2 then y.bare else false⟩
def swAt (l : List Ev) (i : Nat) : Sw := (l.take i).foldl swStep ⟨[], [], false⟩
theorem swAt_succ {l : List Ev} {i : Nat} {x : Ev} (h : l[i]? = some x) : swAt l (i + 1) = swStep (swAt l i) x := by
  rw [swAt, take_of_get h, List.foldl_append]; rfl
def shown (l : List Ev) : List UInt8 := if eventsFault l = 0 then (swAt l l.length).acc else []
theorem evGo_ok1 {l : List Ev} {i : Nat} {x : Ev} {s : Es} (hx : l[i]? = some x) (h : evGo (l.drop i) s (decide (i = 0)) = 0) : 1 ≤ x.k ∧ x.k ≤ 5 ∧ evF1 s x (decide (i = 0)) = 0 ∧ evGo (l.drop (i + 1)) (evS s x) (decide (i + 1 = 0)) = 0 := by
  rw [evGo_step hx] at h
  split at h
  · omega
  · rename_i hk
    split at h
    · rename_i hf
      exact ⟨by omega, by omega, hf, h⟩
    · rename_i hf
      exact absurd h hf
theorem evF1_n1 {s : Es} {x : Ev} {f : Bool} (h : x.k = 5) (hf : evF1 s x f = 0) : s.n ≠ 0 := fun h0 => by
  rw [evF1, if_pos ⟨h0, .inl (by omega)⟩] at hf
  cases hf
structure SwOk (l : List Ev) (i : Nat) (s : Es) : Prop where
  hi : i ≤ l.length
  ev : evGo (l.drop i) s (decide (i = 0)) = 0
  n : (swAt l i).names.length = s.n
  nb : ∀ nm, nm ∈ (swAt l i).names → nm.length ≤ 1048576
  ab : (swAt l i).acc.length ≤ i * 7000000
  n20 : s.n ≤ 20
  ins : s.ins = !(swAt l i).bare
  tag : (swAt l i).bare = true ↔ ∃ x, 0 < i ∧ l[i - 1]? = some x ∧ (x.k = 1 ∨ x.k = 2)
theorem SwOk.zero {l : List Ev} (h : evGo l evSt true = 0) : SwOk l 0 evSt := ⟨Nat.zero_le _, h, rfl, by simp [swAt], by simp [swAt], by decide, rfl, by simp [swAt]⟩
theorem getLastD_len {L : List (List UInt8)} {m : Nat} (h : ∀ x, x ∈ L → x.length ≤ m) : (L.getLastD []).length ≤ m := by
  rcases L.eq_nil_or_concat with rfl | ⟨r, z, rfl⟩
  · simp
  · simp only [List.concat_eq_append, List.getLastD_concat]
    exact h z (by simp)
theorem SwOk.step {l : List Ev} {i : Nat} {s : Es} {x : Ev} (hS : EvSh l) (h : SwOk l i s) (hx : l[i]? = some x) : SwOk l (i + 1) (evS s x) := by
  obtain ⟨h1, h2, h3, h4⟩ := evGo_ok1 hx h.ev
  have hxs := hS.2 x (List.mem_of_getElem? hx)
  have hins := h.ins
  refine ⟨lt_of_get hx, h4, ?_, ?_, ?_, evS_n h.n20 h3, ?_, ?_⟩
  · rw [swAt_succ hx, swStep]
    have hn := h.n
    obtain hk | hk | hk | hk | hk : x.k = 1 ∨ x.k = 2 ∨ x.k = 3 ∨ x.k = 4 ∨ x.k = 5 := by omega
    · simp [evS, hk, hn]
    · simp [evS, hk, hn]
    · simp [evS, hk, hn]
    · simp [evS, hk, hn]
    · simp [evS, hk, hn]
  · intro nm hnm
    rw [swAt_succ hx, swStep] at hnm
    simp only [] at hnm
    split at hnm
    · rcases List.mem_append.1 hnm with hm | hm
      · exact h.nb nm hm
      · simp at hm; subst hm; omega
    · split at hnm
      · exact h.nb nm (List.dropLast_subset _ hnm)
      · exact h.nb nm hnm
  · rw [swAt_succ hx, swStep]
    show ((swAt l i).acc ++ (swPre _ x ++ swTxt _ x)).length ≤ _
    have hp : (swPre (swAt l i).bare x).length ≤ 1 := by unfold swPre; split <;> simp
    have he := escT_len x.vl
    have hg := getLastD_len h.nb
    have ht : (swTxt (swAt l i) x).length ≤ 6900000 := by
      unfold swTxt
      split
      · simp; omega
      · split
        · simp; omega
        · split
          · omega
          · split
            · simp; omega
            · split
              · simp
              · simp only [List.length_cons, List.length_append, List.length_nil]; omega
    have := h.ab
    rw [List.length_append, List.length_append]
    omega
  · rw [swAt_succ hx, swStep]
    show (evS s x).ins = !(if x.k = 1 then true else if x.k = 2 then (swAt l i).bare else false)
    obtain hk | hk | hk | hk | hk : x.k = 1 ∨ x.k = 2 ∨ x.k = 3 ∨ x.k = 4 ∨ x.k = 5 := by omega
    · simp [evS, hk]
    · have := (evF1_2i hk h3).2
      rw [this] at hins
      simp [evS, hk]
      simpa using hins.symm
    · simp [evS, hk]
    · simp [evS, hk]
    · simp [evS, hk]
  · rw [swAt_succ hx, swStep]
    show (if x.k = 1 then true else if x.k = 2 then (swAt l i).bare else false) = true ↔ _
    rw [Nat.add_sub_cancel]
    constructor
    · intro hb
      refine ⟨x, by omega, hx, ?_⟩
      by_cases hk : x.k = 1
      · exact .inl hk
      · rw [if_neg hk] at hb
        by_cases hk2 : x.k = 2
        · exact .inr hk2
        · rw [if_neg hk2] at hb
          cases hb
    · rintro ⟨z, _, hz, hk⟩
      rw [hx] at hz
      cases hz
      rcases hk with hk | hk
      · rw [if_pos hk]
      · have := (evF1_2i hk h3).2
        rw [this] at hins
        rw [if_neg (by omega), if_pos hk]
        simpa using hins.symm
end Go.Proofs.YtafbojmnmadlpaaDoor
