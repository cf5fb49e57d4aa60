/- Lowering: what is lowered is within bounds: its texts are no longer than memory, and it is no deeper than the phrase is great. No condition. -/
import Derived.Test.YtdmkfkjdielmiaaDoorP40
import Derived.Test.YtdmkfkjdielmiaaDoorP19
import Derived.Test.YtdmkfkjdielmiaaDoorP36
set_option linter.all false
set_option linter.unusedSimpArgs false
set_option linter.unusedVariables false
namespace Go.Proofs.YtdmkfkjdielmiaaDoor
open Go Go.Proofs.YtdmkfkjdielmiaaDoor.Ab
variable [Glo] [U8] [CAr] [COp] [CCa]
set_option maxHeartbeats 1000000
set_option maxRecDepth 20000
theorem ex_ok {h : Xh} {l : List Ex} (a : h.it.s.length ≤ 1048576) (b : h.nm.length ≤ 1048576) (c : h.at_.length ≤ 1048576) (d : h.tn.length ≤ 1048576) (e : l.length ≤ 1048576) (g : ∀ x, x ∈ l → ExOk x) : ExOk (.mk h l) := .mk h l a b c d e g
theorem ok_none : ExOk eNone := ex_ok (Nat.zero_le _) (Nat.zero_le _) (Nat.zero_le _) (Nat.zero_le _) (Nat.zero_le _) (fun x h => by cases h)
theorem ok_root : ExOk eRoot := ex_ok (Nat.zero_le _) (Nat.zero_le _) (Nat.zero_le _) (Nat.zero_le _) (Nat.zero_le _) (fun x h => by cases h)
theorem ok_var {s : List UInt8} (h : s.length ≤ 1048576) : ExOk (eVar s) := ex_ok (Nat.zero_le _) h (Nat.zero_le _) (Nat.zero_le _) (Nat.zero_le _) (fun x h => by cases h)
theorem ok_lit {x : It} (h : x.s.length ≤ 1048576) : ExOk (eLit x) := ex_ok h (Nat.zero_le _) (Nat.zero_le _) (Nat.zero_le _) (Nat.zero_le _) (fun x h => by cases h)
theorem ok_bool (n : Int) : ExOk (eBool n) := ok_lit (by simp)
theorem ok_call {s : List UInt8} {l : List Ex} (h : s.length ≤ 1048576) (hl : l.length ≤ 1048576) (g : ∀ x, x ∈ l → ExOk x) : ExOk (eCall s l) := ex_ok (Nat.zero_le _) h (Nat.zero_le _) (Nat.zero_le _) hl g
theorem all1 {a : Ex} (h : ExOk a) : ∀ x, x ∈ [a] → ExOk x := fun x hx => by rw [List.mem_singleton.1 hx]; exact h
theorem all2 {a b : Ex} (h : ExOk a) (g : ExOk b) : ∀ x, x ∈ [a, b] → ExOk x := fun x hx => by
  rcases List.mem_cons.1 hx with rfl | hx
  · exact h
  · exact all1 g x hx
theorem all3 {a b c : Ex} (h : ExOk a) (g : ExOk b) (k : ExOk c) : ∀ x, x ∈ [a, b, c] → ExOk x := fun x hx => by
  rcases List.mem_cons.1 hx with rfl | hx
  · exact h
  · exact all2 g k x hx
theorem ok_if {a b c : Ex} (h : ExOk a) (g : ExOk b) (k : ExOk c) : ExOk (eIf a b c) := ex_ok (Nat.zero_le _) (Nat.zero_le _) (Nat.zero_le _) (Nat.zero_le _) (by simp) (all3 h g k)
theorem ok_for {nm at_ : List UInt8} {v b : Ex} (h1 : nm.length ≤ 1048576) (h2 : at_.length ≤ 1048576) (h : ExOk v) (g : ExOk b) : ExOk (eFor nm at_ v b) := ex_ok (Nat.zero_le _) h1 h2 (Nat.zero_le _) (by simp) (all2 h g)
theorem ok_let {nm : List UInt8} {v b : Ex} (h1 : nm.length ≤ 1048576) (h : ExOk v) (g : ExOk b) : ExOk (eLet nm v b) := ex_ok (Nat.zero_le _) h1 (Nat.zero_le _) (Nat.zero_le _) (by simp) (all2 h g)
theorem ok_step {ax tk : Int} {tn : List UInt8} {a : Ex} (h1 : tn.length ≤ 1048576) (h : ExOk a) : ExOk (eStep ax tk tn [a]) := ex_ok (Nat.zero_le _) (Nat.zero_le _) (Nat.zero_le _) h1 (by simp) (all1 h)
theorem ok_seen {s : List UInt8} (sc : Sc) (flt : Int) (h : s.length ≤ 1048576) : ExOk (seenP s sc flt).1 := by
  unfold seenP
  split
  · exact ok_var h
  · exact ok_none
def OkF (f : Ph → Sc → Int → Ex × Int) : Prop := ∀ p sc flt, PhOk p → ExOk (f p sc flt).1
def HtF (f : Ph → Sc → Int → Ex × Int) : Prop := ∀ p sc flt, exH (f p sc flt).1 + 5 ≤ 8 * phN p
theorem opE_short : ∀ p, p ∈ opE → p.2.length ≤ 1048576 := by decide
theorem calledE_short : ∀ p, p ∈ calledE → p.2.length ≤ 1048576 := by decide
section
variable {f : Ph → Sc → Int → Ex × Int} (hf : OkF f)
include hf
theorem ok_args : ∀ (l : List Ph) (sc : Sc) (flt : Int), (∀ p, p ∈ l → PhOk p) → ∀ x, x ∈ (argsP f l sc flt).1 → ExOk x
  | [], _, _, _, x, hx => by cases hx
  | p :: l, sc, flt, hl, x, hx => by
    rw [argsP] at hx
    rcases List.mem_cons.1 hx with rfl | hx
    · exact hf _ _ _ (hl p (.head _))
    · exact ok_args l sc _ (fun q hq => hl q (.tail _ hq)) x hx
theorem ok_tup : ∀ (L : List Cl) (p : Ph) (key : Bool) (sc : Sc) (flt : Int), (∀ c, c ∈ L → ClOk c) → PhOk p → ExOk (tupP f L p key sc flt).1
  | [], p, key, sc, flt, _, hp => hf p sc flt hp
  | c :: l, p, key, sc, flt, hc, hp => by
    have h0 := hc c (.head _)
    have hr : ∀ d, d ∈ l → ClOk d := fun d hd => hc d (.tail _ hd)
    have hx := fun fl => hf c.x sc fl h0.x
    rw [tupP]
    split
    · split
      · exact ok_tup l p key sc flt hr hp
      · exact ok_if (ok_call (by decide) (by simp) (all1 (hx _))) (ok_tup l p key sc _ hr hp) ok_none
    split
    · exact ok_let h0.nm (hx _) (ok_tup l p key _ _ hr hp)
    split
    · exact ok_tup l p key sc flt hr hp
    split
    · exact ok_for h0.nm h0.at_ (hx _) (ok_tup l p key _ _ hr hp)
    · exact ex_ok (Nat.zero_le _) h0.nm h0.at_ (Nat.zero_le _) (by simp) (all3 (hx _) (ok_tup l _ true _ _ hr (hc _ getLastD_in).x) (ok_tup l p false _ _ hr hp))
theorem ok_body {c x : Ex} (hc : ExOk c) (hx : ExOk x) : ExOk (fBody c x) :=
  ok_let (by decide) hx (ok_let (by decide) (ok_call (by decide) (by simp) (all1 (ok_var (by decide)))) (ok_for (by decide) (by decide) (ok_var (by decide)) (ok_if (ok_call (by decide) (by simp) (all2 hc (ok_var (by decide)))) (ok_var (by decide)) ok_none)))
theorem ok_fil (sc : Sc) : ∀ (l : List Ph) (x : Ex) (flt : Int), (∀ p, p ∈ l → PhOk p) → ExOk x → ExOk (filP f sc l x flt).1
  | [], x, _, _, hx => hx
  | q :: l, x, flt, hl, hx => by
    rw [filP]
    exact ok_fil sc l _ _ (fun p hp => hl p (.tail _ hp)) (ok_body hf (hf _ _ _ (hl q (.head _))) hx)
theorem ok_call' {nm : List UInt8} {args : List Ph} (sc : Sc) (flt : Int) (hl : args.length ≤ 1048576) (ha : ∀ p, p ∈ args → PhOk p) : ExOk (callP f nm args sc flt).1 := by
  unfold callP
  split
  · split
    · exact ok_none
    · split
      · exact ok_seen _ _ (by decide)
      · split
        · exact ok_seen _ _ (by decide)
        · exact ok_bool _
  · split
    · exact ok_none
    · rename_i s hs
      split
      · exact ok_none
      · exact ok_call (calledE_short _ ((lookS_iff calledE_nodup).1 hs)) (by rw [argsP_len]; exact hl) (ok_args hf args sc flt ha)
theorem ok_low1 (h : Phh) (args : List Ph) (cls : List Cl) (sc : Sc) (flt : Int) (hp : PhOk (.mk h args cls)) : ExOk (lowP1 f h args cls sc flt).1 := by
  have ok := hp.h
  have hl := hp.len
  have ha := ok_args hf args sc flt hp.mem
  have hal : (argsP f args sc flt).1.length ≤ 1048576 := by rw [argsP_len]; exact hl
  rw [lowP1]
  by_cases q0 : flt ≠ 0
  · rw [if_pos q0]
    exact ok_none
  rw [if_neg q0]
  by_cases q1 : formQ h.k args.length ≠ 0
  · rw [if_pos q1]
    exact ok_none
  have hform : formQ h.k args.length = 0 := by simpa using q1
  rw [if_neg q1]
  by_cases q2 : h.k = 1
  · rw [if_pos q2]
    split
    · exact ok_none
    · exact ok_lit ok.it
  rw [if_neg q2]
  by_cases q3 : h.k = 2
  · rw [if_pos q3]
    exact ok_seen _ _ ok.nm
  rw [if_neg q3]
  by_cases q4 : h.k = 27
  · rw [if_pos q4]
    exact ok_seen _ _ (by decide)
  rw [if_neg q4]
  by_cases q5 : h.k = 11
  · rw [if_pos q5]
    exact ok_root
  rw [if_neg q5]
  by_cases q6 : h.k = 3
  · rw [if_pos q6]
    exact ex_ok (Nat.zero_le _) (Nat.zero_le _) (Nat.zero_le _) (Nat.zero_le _) hal ha
  rw [if_neg q6]
  by_cases q7 : h.k = 7
  · rw [if_pos q7]
    have hd : ∀ i, ExOk ((argsP f args sc flt).1.getD i eNone) := fun i => by
      rw [List.getD_eq_getElem?_getD]
      cases hx : (argsP f args sc flt).1[i]? with
      | none => exact ok_none
      | some x => exact ha x (List.mem_of_getElem? hx)
    exact ok_if (ok_call (by decide) (by simp) (all1 (hd 0))) (hd 1) (hd 2)
  rw [if_neg q7]
  by_cases q8 : h.k = 26
  · rw [if_pos q8]
    exact ok_call (by decide) hal ha
  rw [if_neg q8]
  by_cases q9 : h.k = 25
  · rw [if_pos q9]
    split
    · exact ok_none
    · rename_i s hs
      exact ok_call (opE_short _ ((lookS_iff opE_nodup).1 hs)) hal ha
  rw [if_neg q9]
  by_cases q10 : h.k = 9
  · rw [if_pos q10]
    unfold stepP
    split
    · exact ok_step ok.tn (ok_seen _ _ (by decide))
    · exact ok_none
  rw [if_neg q10]
  by_cases q11 : h.k = 10
  · rw [if_pos q11]
    split
    · exact ok_none
    · refine ex_ok (Nat.zero_le _) ?_ (Nat.zero_le _) (Nat.zero_le _) hal ha
      simp only
      split
      · simp
      · exact ok.nm
  rw [if_neg q11]
  by_cases q12 : h.k = 8
  · rw [if_pos q12]
    exact ok_call' hf sc flt hl hp.mem
  rw [if_neg q12]
  by_cases q13 : h.k = 21
  · rw [if_pos q13]
    have h2 := form_2 hform (by omega)
    have x0 := hp.mem _ (arg_in (l := args) (i := 0) (by omega))
    have x1 := hp.mem _ (arg_in (l := args) (i := 1) (by omega))
    have k1 : PhhOk (argAt args 1).h := by
      generalize argAt args 1 = b at x1
      cases b; exact x1.h
    unfold pathP
    split
    · split
      · exact ok_step k1.tn (hf _ _ _ x0)
      · exact ok_none
    · exact ok_call (by decide) (by simp) (all1 (ok_for (by decide) (by decide) (hf _ _ _ x0) (hf _ _ _ x1)))
  rw [if_neg q13]
  by_cases q14 : h.k = 22
  · rw [if_pos q14]
    have h2 := form_0 hform (by omega)
    exact ok_fil hf sc _ _ _ (fun p hp' => hp.mem p (List.mem_of_mem_drop hp')) (hf _ _ _ (hp.mem _ (arg_in h2)))
  rw [if_neg q14]
  by_cases q15 : h.k = 23 ∨ h.k = 24
  · rw [if_pos q15]
    have h2 := form_2 hform (by omega)
    have x0 := hp.mem _ (arg_in (l := args) (i := 0) (by omega))
    have x1 := hp.mem _ (arg_in (l := args) (i := 1) (by omega))
    unfold quantP
    split
    · exact ok_none
    · simp only [quantE]
      split
      · exact ok_call (by decide) (by simp) (all1 (ok_for ok.nm (by decide) (hf _ _ _ x0) (ok_if (ok_call (by decide) (by simp) (all1 (hf _ _ _ x1))) (ok_bool _) ok_none)))
      · exact ok_call (by decide) (by simp) (all1 (ok_for ok.nm (by decide) (hf _ _ _ x0) (ok_if (ok_call (by decide) (by simp) (all1 (hf _ _ _ x1))) ok_none (ok_bool _))))
  · rw [if_neg q15]
    have h28 : h.k = 28 := by
      rcases form_kinds hform with e | e | e | e | e | e | e | e | e | e | e | e | e | e | e | e <;> omega
    have h2 := form_1 hform h28
    unfold flworP
    split
    · exact ok_none
    · exact ok_tup hf _ _ _ _ _ hp.cmem (hp.mem _ (arg_in (by omega)))
end
theorem ok_low : ∀ n : Nat, OkF (lowP n)
  | 0 => fun p sc flt hp => ok_none
  | n + 1 => fun p sc flt hp => by
    cases p with | mk h l c =>
    exact ok_low1 (ok_low n) h l c sc flt hp
theorem ht_none : exH eNone = 1 := by rw [eNone, exH_mk, exHs_nil]
theorem ht_root : exH eRoot = 1 := by rw [eRoot, exH_mk, exHs_nil]
theorem ht_var (s : List UInt8) : exH (eVar s) = 1 := by rw [eVar, exH_mk, exHs_nil]
theorem ht_lit (x : It) : exH (eLit x) = 1 := by rw [eLit, exH_mk, exHs_nil]
theorem ht_bool (n : Int) : exH (eBool n) = 1 := ht_lit _
theorem ht_call (s : List UInt8) (l : List Ex) : exH (eCall s l) = exHs l + 1 := by rw [eCall, exH_mk]
theorem ht_if (a b c : Ex) : exH (eIf a b c) = max (exH a) (max (exH b) (max (exH c) 0)) + 1 := by rw [eIf, exH_mk, exHs_cons, exHs_cons, exHs_cons, exHs_nil]
theorem ht_for (nm at_ : List UInt8) (a b : Ex) : exH (eFor nm at_ a b) = max (exH a) (max (exH b) 0) + 1 := by rw [eFor, exH_mk, exHs_cons, exHs_cons, exHs_nil]
theorem ht_let (nm : List UInt8) (a b : Ex) : exH (eLet nm a b) = max (exH a) (max (exH b) 0) + 1 := by rw [eLet, exH_mk, exHs_cons, exHs_cons, exHs_nil]
theorem ht_step (ax tk : Int) (tn : List UInt8) (l : List Ex) : exH (eStep ax tk tn l) = exHs l + 1 := by rw [eStep, exH_mk]
theorem ht_sorted (n : Int) (nm at_ : List UInt8) (l : List Ex) : exH (eSorted n nm at_ l) = exHs l + 1 := by rw [eSorted, exH_mk]
theorem ht_seen (s : List UInt8) (sc : Sc) (flt : Int) : exH (seenP s sc flt).1 = 1 := by
  unfold seenP
  split
  · exact ht_var s
  · exact ht_none
theorem ht_getD {l : List Ex} (i : Nat) : exH (l.getD i eNone) ≤ exHs l + 1 := by
  rw [List.getD_eq_getElem?_getD]
  cases hx : l[i]? with
  | none => rw [Option.getD_none, ht_none]; omega
  | some x => have := exHs_mem (List.mem_of_getElem? hx); rw [Option.getD_some]; omega
section
variable {f : Ph → Sc → Int → Ex × Int} (hf : HtF f)
include hf
theorem ht_args : ∀ (l : List Ph) (sc : Sc) (flt : Int), exHs (argsP f l sc flt).1 ≤ 8 * phNs l - 5
  | [], _, _ => by rw [argsP, exHs_nil]; omega
  | p :: l, sc, flt => by
    rw [argsP, exHs_cons, phNs_cons]
    have h1 := hf p sc flt
    have h2 := ht_args l sc (f p sc flt).2
    have h3 := phN_pos p
    omega
theorem ht_tup (M : Nat) : ∀ (L : List Cl) (p : Ph) (key : Bool) (sc : Sc) (flt : Int), (∀ c, c ∈ L → phN c.x ≤ M) → phN p ≤ M → exH (tupP f L p key sc flt).1 + 5 ≤ 8 * M + 4 * L.length
  | [], p, key, sc, flt, _, hp => by have := hf p sc flt; rw [tupP]; simp only [List.length_nil]; omega
  | c :: l, p, key, sc, flt, hc, hp => by
    have h0 := hc c (.head _)
    have hr : ∀ d, d ∈ l → phN d.x ≤ M := fun d hd => hc d (.tail _ hd)
    have hx := hf c.x sc flt
    have hM : 1 ≤ M := Nat.le_trans (phN_pos p) hp
    rw [tupP, List.length_cons]
    split
    · split
      · have := ht_tup M l p key sc flt hr hp; omega
      · have := ht_tup M l p key sc (f c.x sc flt).2 hr hp
        simp only [ht_if, ht_call, exHs_cons, exHs_nil, ht_none]
        omega
    split
    · have := ht_tup M l p key (sc ++ [c.c.nm]) (f c.x sc flt).2 hr hp
      simp only [ht_let]
      omega
    split
    · have := ht_tup M l p key sc flt hr hp; omega
    split
    · have := ht_tup M l p key (innerQ c.c sc) (f c.x sc flt).2 hr hp
      simp only [ht_for]
      omega
    · have h1 := ht_tup M l (l.getLastD c).x true (innerQ c.c sc) (f c.x sc flt).2 hr (hc _ getLastD_in)
      have h2 := ht_tup M l p false (innerQ c.c sc) (tupP f l (l.getLastD c).x true (innerQ c.c sc) (f c.x sc flt).2).2 hr hp
      simp only [ht_sorted, exHs_cons, exHs_nil]
      omega
theorem ht_fil (sc : Sc) : ∀ (l : List Ph) (x : Ex) (flt : Int), exH (filP f sc l x flt).1 ≤ exH x + 8 * phNs l
  | [], x, _ => by rw [filP]; simp only []; omega
  | q :: l, x, flt => by
    rw [filP, phNs_cons]
    have h1 := hf q (filS sc) flt
    have h2 := ht_fil sc l (fBody (f q (filS sc) flt).1 x) (f q (filS sc) flt).2
    have h3 := phN_pos q
    simp only [fBody, ht_let, ht_for, ht_if, ht_call, exHs_cons, exHs_nil, ht_var, ht_none] at h2 ⊢
    omega
theorem ht_call' {nm : List UInt8} {args : List Ph} (sc : Sc) (flt : Int) : exH (callP f nm args sc flt).1 ≤ 8 * phNs args + 1 := by
  unfold callP
  split
  · split
    · simp only [wrongQ, ht_none]; omega
    · split
      · rw [ht_seen]; omega
      · split
        · rw [ht_seen]; omega
        · simp only [ht_bool]; omega
  · split
    · simp only [wrongQ, ht_none]; omega
    · split
      · simp only [wrongQ, ht_none]; omega
      · have := ht_args hf args sc flt
        simp only [ht_call]
        omega
theorem ht_low1 (h : Phh) (args : List Ph) (cls : List Cl) (sc : Sc) (flt : Int) : exH (lowP1 f h args cls sc flt).1 + 5 ≤ 8 * (phNs args + clNs cls + 1) := by
  have ha := ht_args hf args sc flt
  rw [lowP1]
  by_cases q0 : flt ≠ 0
  · rw [if_pos q0]
    simp only [ht_none]; omega
  rw [if_neg q0]
  by_cases q1 : formQ h.k args.length ≠ 0
  · rw [if_pos q1]
    simp only [wrongQ, ht_none]; omega
  have hform : formQ h.k args.length = 0 := by simpa using q1
  rw [if_neg q1]
  by_cases q2 : h.k = 1
  · rw [if_pos q2]
    split
    · simp only [wrongQ, ht_none]; omega
    · simp only [ht_lit]; omega
  rw [if_neg q2]
  by_cases q3 : h.k = 2
  · rw [if_pos q3]
    rw [ht_seen]; omega
  rw [if_neg q3]
  by_cases q4 : h.k = 27
  · rw [if_pos q4]
    rw [ht_seen]; omega
  rw [if_neg q4]
  by_cases q5 : h.k = 11
  · rw [if_pos q5]
    simp only [ht_root]; omega
  rw [if_neg q5]
  by_cases q6 : h.k = 3
  · rw [if_pos q6]
    simp only [eSeq, exH_mk]; omega
  rw [if_neg q6]
  by_cases q7 : h.k = 7
  · rw [if_pos q7]
    have h0 := ht_getD (l := (argsP f args sc flt).1) 0
    have h1 := ht_getD (l := (argsP f args sc flt).1) 1
    have h2 := ht_getD (l := (argsP f args sc flt).1) 2
    simp only [ifE, ht_if, ht_call, exHs_cons, exHs_nil]
    omega
  rw [if_neg q7]
  by_cases q8 : h.k = 26
  · rw [if_pos q8]
    simp only [ht_call]; omega
  rw [if_neg q8]
  by_cases q9 : h.k = 25
  · rw [if_pos q9]
    split
    · simp only [wrongQ, ht_none]; omega
    · simp only [ht_call]; omega
  rw [if_neg q9]
  by_cases q10 : h.k = 9
  · rw [if_pos q10]
    unfold stepP
    split
    · simp only [ht_step, exHs_cons, exHs_nil, ht_seen]; omega
    · simp only [wrongQ, ht_none]; omega
  rw [if_neg q10]
  by_cases q11 : h.k = 10
  · rw [if_pos q11]
    split
    · simp only [wrongQ, ht_none]; omega
    · simp only [makeE, eMake, exH_mk]; omega
  rw [if_neg q11]
  by_cases q12 : h.k = 8
  · rw [if_pos q12]
    have := ht_call' hf (nm := h.nm) (args := args) sc flt; omega
  rw [if_neg q12]
  by_cases q13 : h.k = 21
  · rw [if_pos q13]
    have h2 := form_2 hform (by omega)
    have x0 := phNs_mem (arg_in (l := args) (i := 0) (by omega))
    have x1 := phNs_mem (arg_in (l := args) (i := 1) (by omega))
    have y0 := hf (argAt args 0) sc flt
    have y1 := hf (argAt args 1) (sc ++ [sDot]) (f (argAt args 0) sc flt).2
    unfold pathP
    split
    · split
      · simp only [ht_step, exHs_cons, exHs_nil]; omega
      · simp only [wrongQ, ht_none]; omega
    · simp only [ht_call, ht_for, exHs_cons, exHs_nil]; omega
  rw [if_neg q13]
  by_cases q14 : h.k = 22
  · rw [if_pos q14]
    have h2 := form_0 hform (by omega)
    obtain ⟨a, r, hlr⟩ : ∃ a r, args = a :: r := by
      cases args with
      | nil => exact absurd h2 (by simp)
      | cons a r => exact ⟨a, r, rfl⟩
    subst hlr
    have y0 := hf a sc flt
    have h3 := ht_fil hf sc r (f a sc flt).1 (f a sc flt).2
    have e : argAt (a :: r) 0 = a := rfl
    rw [e, List.drop_succ_cons, List.drop_zero, phNs_cons]
    omega
  rw [if_neg q14]
  by_cases q15 : h.k = 23 ∨ h.k = 24
  · rw [if_pos q15]
    have h2 := form_2 hform (by omega)
    have x0 := phNs_mem (arg_in (l := args) (i := 0) (by omega))
    have x1 := phNs_mem (arg_in (l := args) (i := 1) (by omega))
    have y0 := hf (argAt args 0) sc flt
    have y1 := hf (argAt args 1) (sc ++ [h.nm]) (f (argAt args 0) sc flt).2
    unfold quantP
    split
    · simp only [wrongQ, ht_none]; omega
    · simp only [quantE]
      split
      · simp only [ht_call, ht_for, ht_if, ht_bool, ht_none, exHs_cons, exHs_nil]; omega
      · simp only [ht_call, ht_for, ht_if, ht_bool, ht_none, exHs_cons, exHs_nil]; omega
  · rw [if_neg q15]
    have h28 : h.k = 28 := by
      rcases form_kinds hform with e | e | e | e | e | e | e | e | e | e | e | e | e | e | e | e <;> omega
    have h2 := form_1 hform h28
    have x0 := phNs_mem (arg_in (l := args) (i := 0) (by omega))
    have hcl := clNs_len cls
    unfold flworP
    split
    · simp only [wrongQ, ht_none]; omega
    · have := ht_tup hf (phNs args + clNs cls - cls.length) cls (argAt args 0) false sc flt (fun d hd => by have := clNs_mem2 hd; omega) (by omega)
      omega
end
theorem ht_low : ∀ n : Nat, HtF (lowP n)
  | 0 => fun p sc flt => by have := phN_pos p; rw [lowP, ht_none]; omega
  | n + 1 => fun p sc flt => by
    cases p with | mk h l c =>
    rw [phN_eq]
    exact ht_low1 (ht_low n) h l c sc flt
end Go.Proofs.YtdmkfkjdielmiaaDoor
namespace Go.Proofs.YtdmkfkjdielmiaaDoor
open Go Go.Proofs.YtdmkfkjdielmiaaDoor.Ab
variable [Glo] [U8] [CAr]
set_option maxHeartbeats 4000000
set_option maxRecDepth 20000
def calQ (s : List UInt8) : List UInt8 := (lookS calledE s).getD []
def opQs (s : List UInt8) : List UInt8 := (lookS opE s).getD []
theorem lookS_none {E : List (List UInt8 × List UInt8)} {s : List UInt8} (h : s ∉ E.map (·.1)) : lookS E s = none := by
  unfold lookS
  rw [List.find?_eq_none.2 fun p hp => by
    have : p.1 ≠ s := fun e => h (List.mem_map.2 ⟨p, hp, e⟩)
    simpa using this]
  rfl
namespace FN109
def tks : Nat → List Nat | 0 => [0] | 1 => [0, 3] | 2 => [0, 3, 4] | 3 => [0, 3, 4] | 4 => [0, 3, 4] | 5 => [0, 3, 4] | 6 => [0, 3, 4] | 7 => [0, 3, 4] | 8 => [0, 3, 4] | 9 => [0, 3, 4] | 10 => [0, 3, 4] | 11 => [0, 3, 4] | 12 => [0, 3, 4] | 13 => [0, 3, 4] | 14 => [0, 3, 4] | 15 => [0, 3, 4] | 16 => [0, 3, 4] | 17 => [0, 3, 4] | 18 => [2] | 19 => [3, 22] | 20 => [2] | 21 => [3, 24] | 22 => [2] | 23 => [26] | 24 => [2] | 25 => [2] | _ => []
def tmu : List Nat := []
def tin : List Nat := [0]
abbrev tfn := @Tryd.func109
end FN109
attribute [go_sem] FN109.tks FN109.tmu FN109.tin Tryd.ntmps109 Tryd.results109
open FN109 in
theorem functionOf_A (s : List UInt8) (H : Heap) (K : V → Heap → Prop) (hk : K (.d (.s (calQ s))) H) : ACalls Tryd.prog 109 [.d (.s s)] H K := by
  refine We ?_
  repeat' (first | (refine hKA ?_; clear hKA hKB KA KB; rename_i hq; simp only [hq, decide_true]) | (refine hKB ?_; clear hKA hKB KA KB; rename_i hq; simp only [hq, decide_false]) | with_reducible (first | refine And.intro ?_ ?_ | intro _ | refine AWp_seq ?_ | refine AWp_block ?_ | (refine hKv _ _ (AWp_nop ?_); clear hKv Kv) | (refine hKA ?_; clear hKA hKB KA KB) | (refine hKB ?_; clear hKA hKB KA KB) | refine AWp_skipN ?_ | refine AWp_exitO (by repeat (first | exact Out.hit | apply Out.thenA | apply Out.out rfl)) ?_) | (with_reducible (first | (refine hKv _ _ ?_; clear hKv Kv) | ((first | refine AWp_regC tmu tks ?_ | refine AWp_regE tmu tks ?_); intro Kv hKv) | refine AWp_retR ?_); try simp (dsimp := false) only [go_sem, Nat.reduceAdd, Nat.reduceBEq, Nat.reduceEqDiff, Nat.reduceLT, Nat.reduceLeDiff, Nat.reduceMul, Int.reduceToNat, reduceCtorEq, ↓reduceIte]) | (refine AWp_condC rfl ?_; intro KA KB hKA hKB; try simp only [onB_true, onB_false, onB_dec, onB_ndec, onB_not, onB_and, onB_or]) | (refine AWp_condA rfl ?_ ?_) | with_reducible (first | refine onB_of ?_ ?_ | rfl) | omega)
  all_goals first
    | exact keepD hk (by rename_i hq; rw [hq]; rfl)
    | exact keepD hk (by rw [calQ, lookS_none (by simp [calledE, *])]; rfl)
def opsTab (r : Int) : List (List UInt8) :=
  if r = 0 then [[111, 114]] else if r = 1 then [[97, 110, 100]] else if r = 2 then [[61], [33, 61], [60], [60, 61], [62], [62, 61], [105, 115], [60, 60], [62, 62]]
  else if r = 3 then [[116, 111]] else if r = 4 then [[43], [45]] else if r = 5 then [[42], [100, 105, 118], [109, 111, 100]] else if r = 6 then [[124], [117, 110, 105, 111, 110]]
  else [[105, 110, 116, 101, 114, 115, 101, 99, 116], [101, 120, 99, 101, 112, 116]]
namespace FN111
def tks : Nat → List Nat | 0 => [0] | 1 => [3] | 2 => [3, 4] | 3 => [2] | 4 => [3, 7] | 5 => [2] | 6 => [3, 10] | 7 => [2] | 8 => [3, 13] | 9 => [2] | 10 => [3, 16] | 11 => [2] | 12 => [3, 19] | 13 => [2] | 14 => [22] | 15 => [2] | 16 => [2] | _ => []
def tmu : List Nat := []
def tin : List Nat := [0]
abbrev tfn := @Tryd.func111
end FN111
attribute [go_sem] FN111.tks FN111.tmu FN111.tin Tryd.ntmps111 Tryd.results111
open FN111 in
theorem opsAt_A (r : Int) (H : Heap) (K : V → Heap → Prop) (hk : K (.d (.sl 1 ((opsTab r).map strRow))) H) : ACalls Tryd.prog 111 [.d (.i .i64 r)] H K := by
  refine We ?_
  repeat' (first | (refine hKA ?_; clear hKA hKB KA KB; rename_i hq; simp only [hq, decide_true]) | (refine hKB ?_; clear hKA hKB KA KB; rename_i hq; simp only [hq, decide_false]) | with_reducible (first | refine And.intro ?_ ?_ | intro _ | refine AWp_seq ?_ | refine AWp_block ?_ | (refine hKv _ _ (AWp_nop ?_); clear hKv Kv) | (refine hKA ?_; clear hKA hKB KA KB) | (refine hKB ?_; clear hKA hKB KA KB) | refine AWp_skipN ?_ | refine AWp_exitO (by repeat (first | exact Out.hit | apply Out.thenA | apply Out.out rfl)) ?_) | (with_reducible (first | (refine hKv _ _ ?_; clear hKv Kv) | ((first | refine AWp_regC tmu tks ?_ | refine AWp_regE tmu tks ?_); intro Kv hKv) | refine AWp_retR ?_); try simp (dsimp := false) only [go_sem, Nat.reduceAdd, Nat.reduceBEq, Nat.reduceEqDiff, Nat.reduceLT, Nat.reduceLeDiff, Nat.reduceMul, Int.reduceToNat, reduceCtorEq, ↓reduceIte]) | (refine AWp_condC rfl ?_; intro KA KB hKA hKB; try simp only [onB_true, onB_false, onB_dec, onB_ndec, onB_not, onB_and, onB_or]) | (refine AWp_condA rfl ?_ ?_) | with_reducible (first | refine onB_of ?_ ?_ | rfl) | omega)
  all_goals first
    | exact keepD hk (by rename_i hq; rw [hq]; rfl)
    | exact keepD hk (by simp [opsTab, strRow, *])
theorem opE_tab : ∀ p, p ∈ opE → p.1 = [124] ∨ (p.2 = p.1 ∧ ∃ r : Fin 8, p.1 ∈ opsTab (r.val : Int)) := by decide
theorem tab_opE : ∀ r : Fin 8, ∀ s, s ∈ opsTab (r.val : Int) → s = [124] ∨ (s, s) ∈ opE := by decide
theorem tab_len (r : Int) : (opsTab r).length ≤ 9 := by
  unfold opsTab
  by_cases h0 : r = 0
  · rw [if_pos h0]; decide
  by_cases h1 : r = 1
  · rw [if_neg h0, if_pos h1]; decide
  by_cases h2 : r = 2
  · rw [if_neg h0, if_neg h1, if_pos h2]; decide
  by_cases h3 : r = 3
  · rw [if_neg h0, if_neg h1, if_neg h2, if_pos h3]; decide
  by_cases h4 : r = 4
  · rw [if_neg h0, if_neg h1, if_neg h2, if_neg h3, if_pos h4]; decide
  by_cases h5 : r = 5
  · rw [if_neg h0, if_neg h1, if_neg h2, if_neg h3, if_neg h4, if_pos h5]; decide
  by_cases h6 : r = 6
  · rw [if_neg h0, if_neg h1, if_neg h2, if_neg h3, if_neg h4, if_neg h5, if_pos h6]; decide
  rw [if_neg h0, if_neg h1, if_neg h2, if_neg h3, if_neg h4, if_neg h5, if_neg h6]; decide
namespace FN56
def tks : Nat → List Nat | 0 => [0] | 1 => [0, 5] | 2 => [2] | 3 => [0, 3] | 4 => [0, 3, 7] | 5 => [0, 3] | 6 => [0, 3, 13] | 7 => [2] | 8 => [2] | _ => []
def tmu : List Nat := []
def tin : List Nat := [0]
abbrev tfn := @Tryd.func56
end FN56
attribute [go_sem] FN56.tks FN56.tmu FN56.tin Tryd.ntmps56 Tryd.results56
open FN56 in
theorem operatorOf_A (s : List UInt8) (H : Heap) (K : V → Heap → Prop) (hk : K (.d (.s (opQs s))) H) : ACalls Tryd.prog 56 [.d (.s s)] H K := by
  by_cases h0 : s = [124]
  · have i0 : (s = [124]) = True := eq_true h0
    have e : opQs s = [117, 110, 105, 111, 110] := by rw [h0]; rfl
    rw [e] at hk
    refine We ?_
    have us := i0
    exact W12
  have i0 : (s = [124]) = False := eq_false h0
  refine We ?_
  have us := i0
  refine W1 ?_
  refine AWp_while0 (fun i : Nat => i ≤ 8 ∧ ∀ r : Nat, r < i → s ∉ opsTab (r : Int)) (fun i => [(0, .d (.s s)), (3, .d (.i .i64 i))]) (fun i => 8 - i) 0 ⟨Nat.zero_le _, fun r hr => by omega⟩ ?_ ?_
  · simp (dsimp := false) only [go_sem, Nat.reduceAdd, Nat.reduceBEq, Nat.reduceEqDiff, Nat.reduceLT, Nat.reduceLeDiff, Nat.reduceMul, Int.reduceToNat, reduceCtorEq, ↓reduceIte, i0]
    first | done | (simp; done)
  rintro i ⟨hi, hv⟩
  by_cases hil : i < 8
  · have t1 : ((i : Int) < 8) = True := eq_true (by omega)
    have ho := opsAt_A (i : Int)
    have hh := hasText_A (opsTab (i : Int)) s (by have := tab_len (i : Int); omega)
    by_cases hm : s ∈ opsTab (i : Int)
    · rw [decide_eq_true hm] at hh
      have e : opQs s = s := by
        rcases tab_opE ⟨i, hil⟩ s hm with h | h
        · exact absurd h h0
        · rw [opQs, (lookS_iff opE_nodup).2 h]; rfl
      rw [e] at hk
      have c21 := ho; have c22 := hh; have us := t1
      exact W12
    · rw [decide_eq_false hm] at hh
      have c21 := ho; have c22 := hh; have us := t1
      refine W93 ?_ ?_ ?_ ?_ <;> try exact trivial
      all_goals first
        | omega
        | exact ⟨i + 1, ⟨by omega, fun r hr => by
            by_cases e : r = i
            · rw [e]; exact hm
            · exact hv r (by omega)⟩, by omega, by omega⟩
  · have t1 : ((i : Int) < 8) = False := eq_false (by omega)
    have e : opQs s = [] := by
      cases hl : lookS opE s with
      | none => rw [opQs, hl]; rfl
      | some t =>
        rcases opE_tab _ ((lookS_iff opE_nodup).1 hl) with h | ⟨_, r, hr⟩
        · exact absurd h h0
        · exact absurd hr (hv r.val (by omega))
    rw [e] at hk
    have us := t1
    exact W12
end Go.Proofs.YtdmkfkjdielmiaaDoor
