/- What a row's reading of an argument says, as data, where types hold themselves; a law's row of such. No condition. -/
import Derived.Test.YtdmkfkjdielmiaaDoorP20
import Derived.Test.YtdmkfkjdielmiaaDoorP19
set_option linter.all false
set_option linter.unusedSimpArgs false
set_option linter.unusedVariables false
namespace Go.Proofs.YtdmkfkjdielmiaaDoor.Ab
open Go Go.RowKit Go.ChangeShapes Go.WideShapes Go.ChangeAt
variable [Glo]
inductive TyR : Type where
  | i (k : IntKind)
  | b
  | s
  | sl (e : TyR)
  | nil
  | cons (h t : TyR)
  | rf (t : TypeId) (z : Nat)
  deriving DecidableEq
def TyR.size : TyR → Nat
  | .i _ | .b | .s | .sl _ => 1
  | .nil => 0
  | .cons h t => h.size + t.size
  | .rf _ z => z
def tyFsR (P : Program) (g : TypeId → Option TyR) : Nat → List Field → Option TyR
  | _, [] => some .nil
  | off, f :: fs => match g f.type with
    | some T => if f.offset = off ∧ P.cellsOf f.type = T.size then (match tyFsR P g (off + T.size) fs with | some R => some (.cons T R) | none => none) else none
    | none => none
def tyR (P : Program) (rs : List TypeId) : Nat → TypeId → Option TyR
  | 0, _ => none
  | n + 1, t => match P.underlying t with
    | some .bool => some .b
    | some (.int k) => some (.i k)
    | some .string => some .s
    | some (.slice e) => if rs.contains e = true then (if 0 < P.cellsOf e then some (.sl (.rf e (P.cellsOf e))) else none) else (match tyR P rs n e with | some T => if P.cellsOf e = T.size ∧ 0 < T.size then some (.sl T) else none | none => none)
    | some (.struct fs) => (match tyFsR P (tyR P rs n) 0 fs.toList with | some T => if P.cellsOf t = T.size then some T else none | none => none)
    | _ => none
def envB (P : Program) (rs : List TypeId) (n : Nat) : Bool := rs.all fun t => match tyR P rs n t with | some T => decide (T.size = P.cellsOf t) | none => false
inductive TypedR (env : TypeId → Option TyR) : TyR → List D → Nat → Prop
  | i (k : IntKind) (n : Int) (m : Nat) : inR k n → 1 ≤ m → TypedR env (.i k) [.i k n] m
  | b (x : Bool) (m : Nat) : 1 ≤ m → TypedR env .b [.b x] m
  | s (l : List UInt8) (m : Nat) : l.length + 1 ≤ m → TypedR env .s [.s l] m
  | sl (e : TyR) (rows : List (List D)) (ws : List Nat) (m : Nat) : ws.length = rows.length → ws.sum + 1 ≤ m → (∀ (i : Nat) (row : List D) (w : Nat), rows[i]? = some row → ws[i]? = some w → TypedR env e row w) → TypedR env (.sl e) [.sl e.size rows] m
  | nil (m : Nat) : TypedR env .nil [] m
  | cons (h t : TyR) (a c : List D) (m1 m2 m : Nat) : m1 + m2 ≤ m → TypedR env h a m1 → TypedR env t c m2 → TypedR env (.cons h t) (a ++ c) m
  | rf (t : TypeId) (z : Nat) (T : TyR) (ds : List D) (m : Nat) : env t = some T → T.size = z → TypedR env T ds m → TypedR env (.rf t z) ds m
section
variable {env : TypeId → Option TyR}
theorem TypedR.len {T : TyR} {ds : List D} {m : Nat} (h : TypedR env T ds m) : ds.length = T.size := by
  induction h with
  | cons h t a c m1 m2 m _ _ _ h1 h2 => rw [List.length_append, h1, h2, TyR.size]
  | rf t z T ds m _ h2 _ ih => rw [ih, h2, TyR.size]
  | _ => rfl
theorem TypedR.mono {T : TyR} {ds : List D} {m m' : Nat} (h : TypedR env T ds m) : m ≤ m' → TypedR env T ds m' := by
  induction h generalizing m' with
  | i k n m h1 h2 => exact fun hm => .i k n m' h1 (by omega)
  | b x m h1 => exact fun hm => .b x m' (by omega)
  | s l m h1 => exact fun hm => .s l m' (by omega)
  | sl e rows ws m h1 h2 h3 _ => exact fun hm => .sl e rows ws m' h1 (by omega) h3
  | nil m => exact fun hm => .nil m'
  | cons h t a c m1 m2 m h0 h1 h2 _ _ => exact fun hm => .cons h t a c m1 m2 m' (by omega) h1 h2
  | rf t z T ds m h1 h2 _ ih => exact fun hm => .rf t z T ds m' h1 h2 (ih hm)
theorem typedR_i {k : IntKind} {ds : List D} {m : Nat} (h : TypedR env (.i k) ds m) : ∃ n, ds = [.i k n] ∧ inR k n ∧ 1 ≤ m := by
  cases h with | i _ n _ h1 h2 => exact ⟨n, rfl, h1, h2⟩
theorem typedR_b {ds : List D} {m : Nat} (h : TypedR env .b ds m) : ∃ t, ds = [.b t] ∧ 1 ≤ m := by
  cases h with | b t _ h1 => exact ⟨t, rfl, h1⟩
theorem typedR_s {ds : List D} {m : Nat} (h : TypedR env .s ds m) : ∃ l, ds = [.s l] ∧ l.length + 1 ≤ m := by
  cases h with | s l _ h1 => exact ⟨l, rfl, h1⟩
theorem typedR_nil {ds : List D} {m : Nat} (h : TypedR env .nil ds m) : ds = [] := by
  cases h; rfl
theorem typedR_cons {x y : TyR} {ds : List D} {m : Nat} (h : TypedR env (.cons x y) ds m) : ∃ a c m1 m2, ds = a ++ c ∧ m1 + m2 ≤ m ∧ TypedR env x a m1 ∧ TypedR env y c m2 := by
  cases h with | cons _ _ a c m1 m2 _ h0 h1 h2 => exact ⟨a, c, m1, m2, rfl, h0, h1, h2⟩
theorem typedR_sl {e : TyR} {ds : List D} {m : Nat} (h : TypedR env (.sl e) ds m) : ∃ rows, ds = [.sl e.size rows] ∧ ∃ ws : List Nat, ws.length = rows.length ∧ ws.sum + 1 ≤ m ∧ ∀ (i : Nat) (row : List D) (w : Nat), rows[i]? = some row → ws[i]? = some w → TypedR env e row w := by
  cases h with | sl _ rows ws _ h1 h2 h3 => exact ⟨rows, rfl, ws, h1, h2, h3⟩
theorem typedR_rf {t : TypeId} {z : Nat} {ds : List D} {m : Nat} (h : TypedR env (.rf t z) ds m) : ∃ T, env t = some T ∧ T.size = z ∧ TypedR env T ds m := by
  cases h with | rf _ _ T _ _ h1 h2 h3 => exact ⟨T, h1, h2, h3⟩
end
section
variable {H : Type} {enc : TypeId × Value → H} {P : Program} {w : World} {base : Nat} {spare : Nat → Bool} {held : Bool} {o : Nat → Prop}
theorem le_sumR {ws : List Nat} {i w : Nat} (h : ws[i]? = some w) : w ≤ ws.sum := by
  induction ws generalizing i with
  | nil => simp at h
  | cons x ws ih =>
    cases i with
    | zero => simp at h; subst h; simp
    | succ i => have := ih (by simpa using h); simp; omega
theorem bulkAll_mem {d : DataW H} {l : List (DataW H)} (h : d ∈ l) : Rows.uptoBulk d ≤ Rows.uptoBulkAll l := by
  induction l with
  | nil => cases h
  | cons x l ih =>
    rw [Rows.uptoBulkAll]
    rcases List.mem_cons.1 h with rfl | h
    · omega
    · have := ih h; omega
theorem trod_typedR {rs : List TypeId} {N : Nat} (hE : envB P rs N = true) (ho : ∀ b, ¬ o b) : ∀ (B n : Nat) (t : TypeId) (T : TyR), tyR P rs n t = some T → ∀ (fuel : Nat) (cs : List Value) (x : DataW H × List MemPlace), DataW.trod enc P w base spare held fuel t cs = some x → Rows.uptoBulk x.1 < B →
    ∃ ds, TypedR (tyR P rs N) T ds (Rows.uptoBulk x.1) ∧ Cells w o ds cs
  | 0, _, _, _, _, _, _, _, _, hB => by omega
  | B + 1, 0, t, T, hT, _, _, _, _, _ => by cases hT
  | B + 1, n + 1, t, T, hT, fuel, cs, x, h, hB => by
    have ih := trod_typedR hE ho (B + 1) n
    have ihB := trod_typedR hE ho B N
    unfold tyR at hT
    split at hT
    · rename_i hu
      cases hT
      obtain ⟨b, rfl, rfl⟩ := DataW.trod_bool hu h
      refine ⟨[.b b], .b b _ (by simp [Rows.uptoBulk]), rfl, fun j d c hd hc => ?_⟩
      cases j with
      | zero => simp at hd hc; subst hd hc; exact .b b
      | succ j => simp at hd
    · rename_i k hu
      cases hT
      obtain ⟨m, rfl, rfl, hwf⟩ := DataW.trod_int hu h
      refine ⟨[.i k m], ?_, rfl, fun j d c hd hc => ?_⟩
      · exact .i _ _ _ (by simpa [Lit.wf, inR] using hwf) (by simp [Rows.uptoBulk])
      · cases j with
        | zero => simp at hd hc; subst hd hc; exact .i k m
        | succ j => simp at hd
    · rename_i hu
      cases hT
      obtain ⟨s, rfl, rfl, hs⟩ := DataW.trod_string hu h
      refine ⟨[.s s.data.toList], ?_, rfl, fun j d c hd hc => ?_⟩
      · exact .s _ _ (by simp [Rows.uptoBulk])
      · cases j with
        | zero => simp at hd hc; subst hd hc; simpa using DRel.s (w := w) (o := o) s.data.toList
        | succ j => simp at hd
    · rename_i e hu
      have hE0 : ∃ E : TyR, T = .sl E ∧ P.cellsOf e = E.size ∧ 0 < E.size ∧ ∀ (n' : Nat) (cs' : List Value) (x' : DataW H × List MemPlace), DataW.trod enc P w base spare held n' e cs' = some x' → Rows.uptoBulk x'.1 + 1 ≤ Rows.uptoBulk x.1 → ∃ ds, TypedR (tyR P rs N) E ds (Rows.uptoBulk x'.1) ∧ Cells w o ds cs' := by
        split at hT
        · rename_i hrs
          split at hT
          case isFalse => cases hT
          rename_i hpos
          cases hT
          refine ⟨_, rfl, rfl, hpos, fun n' cs' x' hx' hb' => ?_⟩
          have hmem := List.all_eq_true.1 hE e (by simpa using hrs)
          split at hmem
          case h_2 => cases hmem
          rename_i T1 hT1
          obtain ⟨ds, h1, h2⟩ := ihB e T1 hT1 n' cs' x' hx' (by omega)
          exact ⟨ds, .rf _ _ _ _ _ hT1 (by simpa using hmem) h1, h2⟩
        · split at hT
          case h_2 => cases hT
          rename_i E hE'
          split at hT
          case isFalse => cases hT
          rename_i hsz
          cases hT
          exact ⟨E, rfl, hsz.1, hsz.2, fun n' cs' x' hx' hb' => ih e E hE' n' cs' x' hx' (by omega)⟩
      obtain ⟨E, rfl, hsz, hpos, ihE⟩ := hE0
      rcases Deep.open_slice hu h with ⟨rfl, rfl⟩ | ⟨a, len, cap, m, n', D', Pl, rfl, hb, hlc, hcap, hm, rfl, hel⟩
      · refine ⟨[.sl E.size []], ?_, rfl, fun j d c hd hc => ?_⟩
        · exact .sl E [] [] _ rfl (by simp [Rows.uptoBulk]) (by simp)
        · cases j with
          | zero => simp at hd hc; subst hd hc; exact .nil _ _ _
          | succ j => simp at hd
      · have hlm : len ≤ m := by rw [hm]; split <;> omega
        have hbk : ∀ i, i < len → Rows.uptoBulk (D' i) + 1 ≤ Rows.uptoBulk (DataW.slice ((List.range len).map D') ((List.range (m - len)).map fun j => D' (len + j))) := fun i hi => by
          have h1 := bulk_range D' len
          have h2 : ((List.range len).map fun i => Rows.uptoBulk (D' i))[i]? = some (Rows.uptoBulk (D' i)) := by rw [List.getElem?_map, List.getElem?_range hi]; rfl
          have h3 := le_sumR h2
          rw [Rows.uptoBulk]
          omega
        have hex : ∀ i, ∃ row : List D, i < len → ∃ cs', w.cells? base (a.add (i * P.cellsOf e)) (P.cellsOf e) = some cs' ∧ TypedR (tyR P rs N) E row (Rows.uptoBulk (D' i)) ∧ Cells w o row cs' := fun i => by
          by_cases hi : i < len
          · obtain ⟨cs', h1, h2⟩ := hel i (by omega)
            obtain ⟨ds, h3, h4⟩ := ihE n' cs' _ h2 (hbk i hi)
            exact ⟨ds, fun _ => ⟨cs', h1, h3, h4⟩⟩
          · exact ⟨[], fun hi' => absurd hi' hi⟩
        let row : Nat → List D := fun i => Classical.choose (hex i)
        have hrow : ∀ i, i < len → ∃ cs', w.cells? base (a.add (i * P.cellsOf e)) (P.cellsOf e) = some cs' ∧ TypedR (tyR P rs N) E (row i) (Rows.uptoBulk (D' i)) ∧ Cells w o (row i) cs' := fun i => Classical.choose_spec (hex i)
        have hget : ∀ (i : Nat) (r : List D), ((List.range len).map row)[i]? = some r → i < len ∧ r = row i := fun i r hr => by
          rw [List.getElem?_map] at hr
          by_cases hi : i < len
          · rw [List.getElem?_range hi] at hr
            simp at hr
            exact ⟨hi, hr.symm⟩
          · rw [List.getElem?_eq_none (by simpa using hi)] at hr
            cases hr
        refine ⟨[.sl E.size ((List.range len).map row)], ?_, rfl, fun j d c hd hc => ?_⟩
        · refine .sl E _ ((List.range len).map fun i => Rows.uptoBulk (D' i)) _ (by simp) ?_ fun i r m' hr hw' => ?_
          · rw [bulk_range, Rows.uptoBulk]
            omega
          · obtain ⟨hi, rfl⟩ := hget i r hr
            rw [List.getElem?_map, List.getElem?_range hi] at hw'
            obtain rfl : Rows.uptoBulk (D' i) = m' := by simpa using hw'
            exact (hrow i hi).choose_spec.2.1
        · cases j with
          | succ j => simp at hd
          | zero =>
            simp at hd hc
            subst hd hc
            by_cases h0 : len = 0
            · subst h0
              exact .nil _ _ _
            · -- a place in memory
              have hcell : ∀ i, i < len → ∀ (j : Nat) (x : D), (row i)[j]? = some x → ∃ v, w.cell? ((a.add (i * E.size)).add j) = some v ∧ DRel w o x v := fun i hi j x hx => by
                obtain ⟨cs', h1, h2, h3⟩ := hrow i hi
                obtain ⟨_, h4, h5⟩ := World.cells?_some h1
                have hj : j < cs'.length := by rw [← h3.1]; exact (List.getElem?_eq_some_iff.1 hx).1
                have hv : cs'[j]? = some cs'[j] := List.getElem?_eq_getElem hj
                rw [hsz] at h5
                exact ⟨_, (h5 j (by omega)).trans hv, h3.2 j x _ hx hv⟩
              have hlen : ∀ i, i < len → (row i).length = E.size := fun i hi => (hrow i hi).choose_spec.2.1.len
              have hr0 : 0 < (row 0).length := by rw [hlen 0 (by omega)]; exact hpos
              obtain ⟨v0, hv0, _⟩ := hcell 0 (by omega) 0 (row 0)[0] (List.getElem?_eq_getElem hr0)
              have ha : a.spot = none := by
                simp only [Nat.zero_mul, Addr.add, if_true] at hv0
                unfold World.cell? at hv0
                split at hv0
                · split at hv0
                  · cases hv0
                  · rename_i hsp; simpa using hsp
                · cases hv0
              obtain ⟨ab, aoff, asp⟩ := a
              simp only at ha
              subst ha
              have hadd : ∀ i j, ((⟨ab, aoff, none⟩ : Addr).add (i * E.size)).add j = ⟨ab, aoff + i * E.size + j, none⟩ := fun i j => by
                unfold Addr.add
                split <;> split <;> simp_all
              have hl' : ((List.range len).map row).length = len := by simp
              have hres : DRel w o (.sl E.size ((List.range len).map row)) (.slice (some ⟨ab, aoff, none⟩) ((List.range len).map row).length cap) :=
                .sl E.size _ ab aoff cap (fun i j => (w.cell? ⟨ab, aoff + i * E.size + j, none⟩).getD undef) (by rw [hl']; exact hlc)
                  (by
                    have := hv0
                    rw [hadd] at this
                    exact cell_lt this) (ho ab)
                  (fun i r hr => by obtain ⟨hi, rfl⟩ := hget i r hr; exact hlen i hi)
                  (fun i j r x hr hx => by
                    obtain ⟨hi, rfl⟩ := hget i r hr
                    obtain ⟨v, h1, _⟩ := hcell i hi j x hx
                    rw [hadd] at h1
                    rw [h1]; rfl)
                  (fun i j r x hr hx => by
                    obtain ⟨hi, rfl⟩ := hget i r hr
                    obtain ⟨v, h1, h2⟩ := hcell i hi j x hx
                    rw [hadd] at h1
                    rw [h1]; exact h2)
              rw [hl'] at hres
              exact hres
    · rename_i fs hu
      split at hT
      case h_2 => cases hT
      rename_i T' hT'
      split at hT
      case isFalse => cases hT
      rename_i hsz
      cases hT
      obtain ⟨xs, n', rfl, rfl, hcl, hxl, hfs⟩ := DataW.trod_struct hu h
      -- field by field
      have fields : ∀ (l : List Field) (k off : Nat) (R : TyR), tyFsR P (tyR P rs n) off l = some R → (∀ i, l[i]? = fs[k + i]?) → k + l.length = fs.size → off + R.size = cs.length →
          ∃ ds, TypedR (tyR P rs N) R ds (Rows.uptoBulkAll ((xs.drop k).map (·.1))) ∧ Cells w o ds (cs.drop off) := by
        intro l
        induction l with
        | nil =>
          intro k off R hR _ _ hoff
          simp only [tyFsR, Option.some.injEq] at hR
          subst hR
          refine ⟨[], .nil _, ?_, by simp⟩
          simp [TyR.size] at hoff
          simp [hoff]
        | cons f l ihl =>
          intro k off R hR hl hk hoff
          simp only [tyFsR] at hR
          split at hR
          case h_2 => cases hR
          rename_i F hF
          split at hR
          case isFalse => cases hR
          rename_i hfo
          obtain ⟨hfo, hfc⟩ := hfo
          split at hR
          case h_2 => cases hR
          rename_i R' hR'
          cases hR
          simp only [TyR.size] at hoff
          have h0 : fs[k]? = some f := by simpa using (hl 0).symm
          obtain ⟨ds2, t2, c2⟩ := ihl (k + 1) (off + F.size) R' hR' (fun i => by
            have := hl (i + 1)
            rw [List.getElem?_cons_succ] at this
            rw [this]; congr 1; omega) (by simp only [List.length_cons] at hk; omega) (by omega)
          have hlt : k < xs.length := by
            rw [hxl]
            simp only [List.length_cons] at hk
            omega
          have hx := hfs k f h0
          rw [List.getElem?_eq_getElem hlt] at hx
          have hbx : Rows.uptoBulk xs[k].1 ≤ Rows.uptoBulk (DataW.agg (xs.map (·.1))) := by
            rw [Rows.uptoBulk]
            have := bulkAll_mem (d := xs[k].1) (l := xs.map (·.1)) (List.mem_map.2 ⟨xs[k], List.getElem_mem hlt, rfl⟩)
            omega
          obtain ⟨ds1, t1, c1⟩ := ih f.type F hF n' _ _ hx (by simp only at hB; omega)
          have e1 : (xs.drop k) = xs[k] :: xs.drop (k + 1) := List.drop_eq_getElem_cons hlt
          refine ⟨ds1 ++ ds2, .cons _ _ ds1 ds2 _ _ _ ?_ t1 t2, ?_⟩
          · rw [e1, List.map_cons, Rows.uptoBulkAll]
            exact Nat.le_refl _
          · have l1 := t1.len
            have l2 := c2.1
            rw [List.length_drop] at l2
            refine ⟨by rw [List.length_append, List.length_drop]; omega, fun j d c hd hc => ?_⟩
            rw [List.getElem?_append] at hd
            rw [List.getElem?_drop] at hc
            split at hd
            · rename_i hj
              refine c1.2 j d c hd ?_
              rw [List.getElem?_take_of_lt (by omega), List.getElem?_drop, hfo]
              exact hc
            · rename_i hj
              refine c2.2 (j - ds1.length) d c hd ?_
              rw [List.getElem?_drop, ← hc]
              congr 1
              omega
      obtain ⟨ds, h1, h2⟩ := fields fs.toList 0 0 T hT' (fun i => by simp) (by simp) (by omega)
      refine ⟨ds, h1.mono ?_, by simpa using h2⟩
      simp [Rows.uptoBulk]
    · cases hT
end
def argVR : TyR → List D → V
  | .nil, ds => .ag (ds.map .d)
  | .cons _ _, ds => .ag (ds.map .d)
  | _, [x] => .d x
  | _, _ => .top
def argsVR : List TyR → List (List D) → List V
  | T :: Ts, ds :: dss => argVR T ds :: argsVR Ts dss
  | _, _ => []
def TypedAllR (env : TypeId → Option TyR) : List TyR → List (List D) → Nat → Prop
  | [], [], _ => True
  | T :: Ts, ds :: dss, m => ∃ m1 m2, m1 + m2 ≤ m ∧ TypedR env T ds m1 ∧ TypedAllR env Ts dss m2
  | _, _, _ => False
def tysR (P : Program) (rs : List TypeId) (n : Nat) : List TypeId → List TyR → Bool
  | [], [] => true
  | t :: ts, T :: Ts => decide (tyR P rs n t = some T) && P.readableRec t && decide (t < P.types.size) && tysR P rs n ts Ts
  | _, _ => false
section
variable {H : Type} {enc : TypeId × Value → H} {P : Program} {w : World} {base : Nat} {spare : Nat → Bool} {held : Bool}
theorem arg_openR {n : Nat} {rs : List TypeId} {t : TypeId} {T : TyR} {v : Value} {d : DataW H} {p : List MemPlace} {r : Reach} {b0 : Nat} (hE : envB P rs n = true) (hT : tyR P rs n t = some T) (hv : Value.okWide P w r b0 t v) (h : DataW.Trod enc P w base spare held t v d p) :
    ∃ ds, TypedR (tyR P rs n) T ds (Rows.uptoBulk d) ∧ VRel w (Own [] σ0) [] σ0 (argVR T ds) v := by
  obtain ⟨fuel, hf⟩ := h
  obtain ⟨ds, h1, h2⟩ := trod_typedR hE (o := Own [] σ0) no0 (Rows.uptoBulk d + 1) n t T hT fuel _ _ hf (Nat.lt_succ_self _)
  refine ⟨ds, h1, ?_⟩
  have one : ∀ {c : Value} {T : TyR}, T.size = 1 → ds.length = 1 → (∀ x, argVR T [x] = .d x) → v = c → c.cells = #[c] → VRel w (Own [] σ0) [] σ0 (argVR T ds) v := by
    rintro c T _ hl ha rfl hc
    obtain ⟨x, rfl⟩ := List.length_eq_one_iff.1 hl
    rw [ha]
    exact .d _ _ (h2.2 0 x v rfl (by rw [hc]; rfl))
  have hlen := h1.len
  cases n with
  | zero => cases hT
  | succ n =>
    unfold tyR at hT
    split at hT
    · rename_i hu
      cases hT
      obtain ⟨b, rfl⟩ := okWide_bool hu hv
      exact one (T := .b) rfl hlen (fun _ => rfl) rfl rfl
    · rename_i k hu
      cases hT
      obtain ⟨m, rfl⟩ := okWide_int hu hv
      exact one (T := .i k) rfl hlen (fun _ => rfl) rfl rfl
    · rename_i hu
      cases hT
      obtain ⟨s, rfl⟩ := okWide_string hu hv
      exact one (T := .s) rfl hlen (fun _ => rfl) rfl rfl
    · rename_i e hu
      obtain ⟨E, rfl⟩ : ∃ E, T = .sl E := by
        split at hT
        · split at hT
          · cases hT; exact ⟨_, rfl⟩
          · cases hT
        · split at hT
          case h_2 => cases hT
          split at hT
          case isFalse => cases hT
          cases hT
          exact ⟨_, rfl⟩
      obtain ⟨a, len, cap, rfl⟩ := okWide_slice hu hv
      exact one (T := .sl E) rfl hlen (fun _ => rfl) rfl rfl
    · rename_i fs hu
      split at hT
      case h_2 => cases hT
      rename_i T' hT'
      split at hT
      case isFalse => cases hT
      cases hT
      obtain ⟨cs, rfl, _⟩ := okWide_struct hu hv
      have hag : argVR T ds = .ag (ds.map .d) := by
        cases hfs : fs.toList with
        | nil => rw [hfs] at hT'; simp only [tyFsR, Option.some.injEq] at hT'; subst hT'; rfl
        | cons f l =>
          rw [hfs] at hT'
          simp only [tyFsR] at hT'
          split at hT'
          case h_2 => cases hT'
          split at hT'
          case isFalse => cases hT'
          split at hT'
          case h_2 => cases hT'
          cases hT'
          rfl
      rw [hag]
      refine .ag _ _ ?_ fun j c u hc hu' => ?_
      · have := h2.1
        simpa [Value.cells] using this
      · rw [List.getElem?_map] at hc
        cases hx : ds[j]? with
        | none => rw [hx] at hc; cases hc
        | some x =>
          rw [hx] at hc
          obtain rfl : V.d x = c := by simpa using hc
          exact .d _ _ (h2.2 j x u hx (by simpa [Value.cells] using hu'))
    · cases hT
theorem args_openR {n : Nat} {rs : List TypeId} (hE : envB P rs n = true) {r : Reach} {b0 : Nat} : ∀ {ts : List TypeId} {Ts : List TyR} {vs : List Value} {ds : List (DataW H)} {p : List MemPlace}, tysR P rs n ts Ts = true → (∀ (j : Nat) (t : TypeId) (v : Value), ts[j]? = some t → vs[j]? = some v → Value.okWide P w r b0 t v) →
    DataW.TrodAll enc P w base spare held ts vs ds p → ∃ dss, TypedAllR (tyR P rs n) Ts dss (Rows.uptoBulkAll ds) ∧ rel0 w (argsVR Ts dss) vs
  | [], [], vs, ds, p, _, _, h => by
    obtain ⟨rfl, rfl, rfl⟩ := trodAll_nil h
    exact ⟨[], trivial, trivial⟩
  | t :: ts, T :: Ts, vs, ds, p, hB, hv, h => by
    obtain ⟨v, vs', d, ds', p1, p2, rfl, rfl, rfl, h1, h2⟩ := trodAll_cons h
    simp only [tysR, Bool.and_eq_true, decide_eq_true_eq] at hB
    obtain ⟨ds1, h3, h4⟩ := arg_openR hE hB.1.1.1 (hv 0 t v rfl rfl) h1
    obtain ⟨dss, h5, h6⟩ := args_openR hE hB.2 (fun j t v ht hv' => hv (j + 1) t v ht hv') h2
    exact ⟨ds1 :: dss, ⟨_, _, Nat.le_refl _, h3, h5⟩, h4, h6⟩
  | [], _ :: _, _, _, _, hB, _, _ => by cases hB
  | _ :: _, [], _, _, _, hB, _, _ => by cases hB
theorem args_stayR {n : Nat} {rs : List TypeId} (hl : laidOutB P = true) {W W' : World} {sp : Nat → Bool} : ∀ {ts : List TypeId} {Ts : List TyR} {vs : List Value} {ds : List (DataW H)} {p : List MemPlace}, tysR P rs n ts Ts = true →
    DataW.TrodAll enc P W base (fun _ => true) true ts vs ds p → (∀ q ∈ p, W.sameAt W' q) → (∀ q ∈ p, sp q.block = true) → DataW.TrodAll enc P W' base sp true ts vs ds p
  | [], [], vs, ds, p, _, h, _, _ => by
    obtain ⟨rfl, rfl, rfl⟩ := trodAll_nil h
    exact rfl
  | t :: ts, T :: Ts, vs, ds, p, hB, h, hs, hp => by
    obtain ⟨v, vs', d, ds', p1, p2, rfl, rfl, rfl, h1, h2⟩ := trodAll_cons h
    simp only [tysR, Bool.and_eq_true, decide_eq_true_eq] at hB
    exact ⟨p1, p2, WideElems.Trod_stays hl hB.1.1.2 hB.1.2 h1 (fun q hq => hs q (by simp [hq])) (fun q hq => hp q (by simp [hq])), args_stayR hl hB.2 h2 (fun q hq => hs q (by simp [hq])) (fun q hq => hp q (by simp [hq])), rfl⟩
  | [], _ :: _, _, _, _, hB, _, _, _ => by cases hB
  | _ :: _, [], _, _, _, hB, _, _, _ => by cases hB
theorem tysR_len {n : Nat} {rs : List TypeId} : ∀ {ts : List TypeId} {Ts : List TyR}, tysR P rs n ts Ts = true → ts.length = Ts.length
  | [], [], _ => rfl
  | t :: ts, T :: Ts, h => by
    simp only [tysR, Bool.and_eq_true] at h
    rw [List.length_cons, List.length_cons, tysR_len h.2]
  | [], _ :: _, h => by cases h
  | _ :: _, [], h => by cases h
theorem law_contractR {k n : Nat} {rs : List TypeId} (hE : envB P rs n = true) {fn : Func} {spec : ChangeSpec} {Ts : List TyR} {bt : TypeId} (hvars : spec.vars = []) (hres : fn.resultTypes = #[bt]) (hbt : P.underlying bt = some .bool) (hl : laidOutB P = true) (hB : tysR P rs n fn.params.toList Ts = true)
    (hspec : ∀ (ds : List (DataW H)), ds.length = Ts.length → spec.fn H ds = { results := [.lit (.bool true)], args := ds })
    (hlaw : ∀ dss, TypedAllR (tyR P rs n) Ts dss 1048576 → ACalls P k (argsVR Ts dss) [] fun v _ => v = .d (.b true))
    (W : World) (hglob : Globs W) (args : Array Value) (ds gs : List (DataW H)) (before : List MemPlace) (b0 : Nat)
    (hval : ∀ (j : Nat) t v, fn.params[j]? = some t → args[j]? = some v → Value.okWide P W .any b0 t v)
    (hW : DataW.Whole enc P fn.params.toList spec.vars false W args.toList ds gs before) (hk : Rows.uptoSmall H (ds ++ gs) = true) :
    Calls P k args W fun e W' => ∃ v, e = .returned v ∧ spec.post enc P fn false true false false W args v W' := by
  have hW' := hW
  obtain ⟨p, q, hA, hV, rfl, hfz, hnd⟩ := hW
  rw [hvars] at hV
  obtain ⟨rfl, rfl⟩ := trodVars_none hV
  rw [List.append_nil] at hk
  have hbulk : Rows.uptoBulkAll ds ≤ 1048576 := of_decide_eq_true hk
  obtain ⟨dss, h1, h2⟩ := args_openR hE hB (fun j t v ht hv => hval j t v (by simpa using ht) (by simpa using hv)) hA
  have hmono : ∀ {Ts : List TyR} {dss : List (List D)} {m m' : Nat}, m ≤ m' → TypedAllR (tyR P rs n) Ts dss m → TypedAllR (tyR P rs n) Ts dss m' := fun {Ts dss m m'} hm h => by
    cases Ts <;> cases dss <;> first | exact h | (obtain ⟨a, b, h3, h4⟩ := h; exact ⟨a, b, by omega, h4⟩)
  have hcall := hlaw dss (hmono hbulk h1)
  have hargs : args.toList.toArray = args := by simp
  obtain ⟨hl0, hv0⟩ := rel0_spec h2
  unfold ACalls at hcall
  refine (hcall W σ0 args (wok0 hglob) (by simpa using hl0) (fun j v u h3 h4 => hv0 j v u h3 (by simpa using h4))).mono ?_
  rintro e W' ⟨val, v, H', σ', rfl, rfl, hval', _, hp⟩
  obtain rfl := hval'.inv_d.inv_b
  have hg := hp.still
  have hlt : ∀ q ∈ p ++ [], q.block < W.heap.size := fun q hq => hW'.lt q hq
  have hsame : ∀ q ∈ p ++ [], W.sameAt W' q := fun q hq => by
    exact Below.same ⟨hp.os, hp.tape, hp.output, hp.size, fun b hb => hp.blk b hb (no0 _)⟩ (hlt q hq)
  have hs := hspec ds (by rw [trodAll_len hA, tysR_len hB])
  refine ⟨_, rfl, ds, [], p ++ [], [], p, [], hW', ?_, ?_, ?_, World.keptBut_mono (fun q hq => hq.elim) hg.kept, fun h => by cases h⟩
  · rw [List.append_nil, hs, hres]
    exact ⟨[], [], ⟨1, by simp [DataW.trod, Value.cells, hbt]⟩, rfl, rfl⟩
  · rw [List.append_nil, hs]
    exact args_stayR hl hB hA (fun q hq => hsame q (by simpa using hq)) (fun q hq => by
      have := hlt q (by simpa using hq)
      simpa using this)
  · rw [List.append_nil, hs, hvars]
    exact rfl
end
end Go.Proofs.YtdmkfkjdielmiaaDoor.Ab
namespace Go.Proofs.YtdmkfkjdielmiaaDoor
open Go Go.Proofs.YtdmkfkjdielmiaaDoor.Ab
variable [Glo]
structure It where
  k : Int
  n : Int
  s : List UInt8
  deriving DecidableEq
def itD (x : It) : List D := [.i .i64 x.k, .i .i64 x.n, .s x.s]
def itV (x : It) : V := .ag [.d (.i .i64 x.k), .d (.i .i64 x.n), .d (.s x.s)]
theorem le_sum : ∀ {ws : List Nat} {i w : Nat}, ws[i]? = some w → w ≤ ws.sum
  | [], i, w, h => by simp at h
  | x :: ws, 0, w, h => by simp at h; subst h; simp
  | x :: ws, i + 1, w, h => by
    have := le_sum (ws := ws) (i := i) (w := w) (by simpa using h)
    simp only [List.sum_cons]
    omega
end Go.Proofs.YtdmkfkjdielmiaaDoor
namespace Go.Proofs.YtdmkfkjdielmiaaDoor
open Go Go.Proofs.YtdmkfkjdielmiaaDoor.Ab
variable [Glo]
set_option maxHeartbeats 1000000
set_option maxRecDepth 20000
namespace FN72
def tks : Nat → List Nat | 0 => [0, 1, 2] | 1 => [6] | _ => []
def tmu : List Nat := []
def tin : List Nat := [0, 1, 2]
abbrev tfn := @Tryd.func72
end FN72
attribute [go_sem] FN72.tks FN72.tmu FN72.tin Tryd.ntmps72 Tryd.results72
open FN72 in
theorem in_A (n l h : Int) (H : Heap) (K : V → Heap → Prop) (hk : K (.d (.b (decide (l ≤ n ∧ n ≤ h)))) H) : ACalls Tryd.prog 72 [.d (.i .i64 n), .d (.i .i64 l), .d (.i .i64 h)] H K := by
  refine We ?_
  have us := eq_self (0 : Nat)
  (repeat' (first | with_reducible (first | refine And.intro ?_ ?_ | intro _ | (refine hKv _ _ (AWp_nop ?_); clear hKv Kv) | (refine hKA ?_; clear hKA hKB KA KB) | (refine hKB ?_; clear hKA hKB KA KB) | refine Wp ?_ | fail) | ((first | with_reducible (first | (refine hKv _ _ ?_; clear hKv Kv) | (refine Wr ?_; intro Kv hKv) | refine AWp_retR ?_ | fail) | refine Wc ?_ | fail); try simp (dsimp := false) only [go_sem, Nat.reduceAdd, Nat.reduceBEq, Nat.reduceEqDiff, Nat.reduceLT, Nat.reduceLeDiff, Nat.reduceMul, Int.reduceToNat, reduceCtorEq, ↓reduceIte, us]) | (refine AWp_condC rfl ?_; intro KA KB hKA hKB; try simp only [onB_true, onB_false, onB_dec, onB_ndec, onB_not, onB_and, onB_or]) | (refine AWp_condA rfl ?_ ?_) | with_reducible (first | refine onB_of ?_ ?_ | rfl) | omega))
  all_goals refine keepD hk ?_
  all_goals simp [*]
end Go.Proofs.YtdmkfkjdielmiaaDoor
