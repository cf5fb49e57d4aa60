/- The operations that leave memory alone, over the abstract reading, second part: addresses of fields and elements, parts of texts and slices, lengths; one operation of any such kind. No condition. -/
import Derived.Test.YtmhabdopcbokoaaDoorR2
set_option linter.all false
set_option linter.unusedSimpArgs false
set_option linter.unusedVariables false
namespace Go.Proofs.YtmhabdopcbokoaaDoor.Ab
open Go
variable [Glo]
section
variable {P : Program} {w : World} {H : Heap} {σ : Conc}
def vcNil (x : V) (H : Heap) (K : V → Prop) : Prop :=
  match x with
  | .rp row => K (.rp row)
  | .pt id ver i c => (match H[id]? with | some (.row ver' _ _ _) => ver = ver' ∧ K (.pt id ver i c) | _ => False)
  | _ => False
theorem vcNil_run {o : Oper} {a : Act} {x : Operand} (ho : o.op = .nilCheck x) {v : V} {K : V → Prop} (h : vcNil v H K) (hx : VRel w (Own H σ) H σ v (a.eval x)) :
    ∃ r val, (execOp a.eval o).run P w = .ok (.value val) w ∧ VRel w (Own H σ) H σ r val ∧ K r := by
  unfold vcNil at h
  split at h
  · obtain ⟨b, off, f, hv, _⟩ := hx.inv_rp
    exact ⟨_, _, by simp [execOp, ho, hv], hv ▸ hx, h⟩
  · split at h
    · rename_i hr
      obtain ⟨rfl, hk⟩ := h
      obtain ⟨_, hv⟩ := hx.inv_pt hr
      obtain ⟨g, cap, _, hv⟩ := hv rfl
      exact ⟨_, _, by simp [execOp, ho, hv], hv ▸ hx, hk⟩
    · exact h.elim
  · exact h.elim
theorem flI_spec {P : Program} {t : TypeId} {f off z : Nat} {b : Bool} (h : flI P t f = some (off, b, z)) :
    ∃ fs x, P.underlying t = some (.struct fs) ∧ fs[f]? = some x ∧ x.offset = off ∧ agB P x.type = some b ∧ szI P x.type = some z ∧ 0 < z := by
  unfold flI at h
  split at h
  · rename_i fs hu
    split at h
    · rename_i x hx
      split at h
      · rename_i b' z' hb hz
        split at h
        · rename_i hpos
          simp only [Option.some.injEq, Prod.mk.injEq] at h
          obtain ⟨rfl, rfl, rfl⟩ := h
          exact ⟨fs, x, hu, hx, rfl, hb, hz, hpos⟩
        · cases h
      · cases h
    · cases h
  · cases h
def vcFAddr (P : Program) (t : TypeId) (x : V) (f : Nat) (H : Heap) (K : V → Prop) : Prop :=
  match flI P t f, x with
  | some (off, _, _), .rp row => off < row.length ∧ K (.rp (row.drop off))
  | some (off, _, _), .pt id ver i c => (match H[id]? with | some (.row ver' _ _ _) => ver = ver' ∧ K (.pt id ver i (c + off)) | _ => False)
  | _, _ => False
theorem vcFAddr_run {t : TypeId} {x : V} {f : Nat} {K : V → Prop} {vx : Value} (h : vcFAddr P t x f H K) (hx : VRel w (Own H σ) H σ x vx) :
    ∃ r val, (Instr.fieldAt t vx f).run P w = .ok val w ∧ VRel w (Own H σ) H σ r val ∧ K r := by
  have run : ∀ {vb voff off z : Nat} {b : Bool}, flI P t f = some (off, b, z) → (Instr.fieldAt t (.pointer (some ⟨vb, voff, none⟩)) f).run P w = .ok (.pointer (some ⟨vb, voff + off, none⟩)) w := by
    intro vb voff off z b hf
    obtain ⟨fs, fl, hu, hfl, ho, _, hz, hpos⟩ := flI_spec hf
    have hz0 : ¬ z = 0 := by omega
    simp [Instr.fieldAt, run_underlying hu, hfl, Instr.sureAddr, fieldPlace, run_sizeOf hz w, hz0, ho, Addr.add_lit]
  unfold vcFAddr at h
  split at h
  · rename_i off b z row hf
    obtain ⟨b', off', f', rfl, h1, h2, h3, h4⟩ := hx.inv_rp
    refine ⟨_, _, run hf, ?_, h.2⟩
    exact .rp _ _ _ (fun j => f' (off + j)) h1 h2 (fun j x hj => by
      rw [List.getElem?_drop] at hj
      rw [Nat.add_assoc]; exact h3 _ x hj) (fun j x hj => by
      rw [List.getElem?_drop] at hj
      exact h4 _ x hj)
  · rename_i off b z id ver i c hf
    split at h
    case h_2 => exact h.elim
    rename_i ver' e sz rows hr
    obtain ⟨rfl, hk⟩ := h
    obtain ⟨_, hv⟩ := hx.inv_pt hr
    obtain ⟨g, cap, hs, rfl⟩ := hv rfl
    refine ⟨_, _, run hf, ?_, hk⟩
    refine .pt _ _ _ _ _ (List.getElem?_eq_some_iff.1 hr).1 fun ver' e' sz' rows' hr' => ?_
    rw [hr] at hr'
    cases hr'
    exact ⟨Nat.le_refl _, fun _ => ⟨hx.nz_pt hr, g, cap, hs, by rw [Nat.add_assoc]⟩⟩
  · exact h.elim
def vcField (P : Program) (t : TypeId) (x : V) (f : Nat) (K : V → Prop) : Prop :=
  match flI P t f, x with
  | some (off, false, _), .ag cs => off < cs.length ∧ ∀ c, cs[off]? = some c → K c
  | some (off, true, z), .ag cs => off + z ≤ cs.length ∧ K (.ag ((cs.drop off).take z))
  | _, _ => False
theorem vcField_run {t : TypeId} {x : V} {f : Nat} {K : V → Prop} {vx : Value} (h : vcField P t x f K) (hx : VRel w (Own H σ) H σ x vx) :
    ∃ r val, (Instr.field t vx f).run P w = .ok val w ∧ VRel w (Own H σ) H σ r val ∧ K r := by
  unfold vcField at h
  split at h
  · rename_i off z cs hf
    obtain ⟨vs, rfl, hl, hv⟩ := hx.inv_ag
    obtain ⟨fs, fl, hu, hfl, rfl, ha, _, _⟩ := flI_spec hf
    have hlt : fl.offset < vs.size := by omega
    have hc : cs[fl.offset]? = some cs[fl.offset] := by simp [h.1]
    have hvs : vs[fl.offset]? = some vs[fl.offset] := by simp [hlt]
    refine ⟨_, vs[fl.offset], ?_, hv _ _ _ hc hvs, h.2 _ hc⟩
    simp [Instr.field, run_underlying hu, hfl, asAgg, part_run w ha hvs]
  · rename_i off z cs hf
    obtain ⟨vs, rfl, hl, hv⟩ := hx.inv_ag
    obtain ⟨fs, fl, hu, hfl, rfl, ha, hz, _⟩ := flI_spec hf
    refine ⟨_, .agg (vs.extract fl.offset (fl.offset + z)), ?_, .ag _ _ ?_ ?_, h.2⟩
    · simp [Instr.field, run_underlying hu, hfl, asAgg, part, run_isAgg ha w, run_sizeOf hz w]
    · simp; omega
    · intro j c v hj hv'
      rw [List.getElem?_take] at hj
      split at hj
      · rename_i hjz
        rw [List.getElem?_drop] at hj
        refine hv _ c v hj ?_
        rw [Array.getElem?_extract] at hv'
        split at hv'
        · exact hv'
        · cases hv'
      · cases hj
  · exact h.elim
def elI (P : Program) (t : TypeId) : Option (Nat × Nat) :=
  match P.underlying t with
  | some (.array m e) => (szI P e).map fun z => (m, z)
  | _ => none
theorem elI_spec {t : TypeId} {m z : Nat} (h : elI P t = some (m, z)) : ∃ e, P.underlying t = some (.array m e) ∧ szI P e = some z := by
  unfold elI at h
  split at h
  · rename_i m' e hu
    obtain ⟨z', hz, he⟩ := Option.map_eq_some_iff.1 h
    cases he
    exact ⟨e, hu, hz⟩
  · cases h
theorem run_elemAt {t : TypeId} {m z : Nat} (hs : elI P t = some (m, z)) (b off : Nat) (k : IntKind) (n : Int) (h0 : 0 ≤ n) (h1 : n < m) :
    (Instr.indexAt t (.pointer (some ⟨b, off, none⟩)) (.int k n)).run P w = .ok (.pointer (some ⟨b, off + n.toNat * z, none⟩)) w := by
  obtain ⟨e, hu, hz⟩ := elI_spec hs
  simp [Instr.indexAt, asIntOf, Instr.sureAddr, run_underlying hu, h0, h1, run_sizeOf hz w, Addr.add_lit]
def vcIAddr (P : Program) (t : TypeId) (x i : V) (H : Heap) (K : V → Prop) : Prop :=
  match slI P t, x, i with
  | none, .rp row, .d (.i _ n) => (match elI P t with
    | some (m, z) => 0 ≤ n ∧ n < m ∧ K (.rp (row.drop (n.toNat * z)))
    | none => False)
  | none, .pt id ver j c, .d (.i _ n) => (match elI P t with
    | some (m, z) => 0 ≤ n ∧ n < m ∧ (match H[id]? with | some (.row ver' _ _ _) => ver = ver' ∧ K (.pt id ver j (c + n.toNat * z)) | _ => False)
    | none => False)
  | some (_, z, _), .d (.sl z' rows), .d (.i _ n) => z = z' ∧ 0 ≤ n ∧ n < rows.length ∧ ∀ row, rows[n.toNat]? = some row → K (.rp row)
  | some (_, z, _), .os id ver, .d (.i _ n) =>
    (match H[id]? with
    | some (.row ver' _ z' rows) => ver = ver' ∧ z = z' ∧ 0 ≤ n ∧ n < rows.length ∧ K (.pt id ver n.toNat 0)
    | _ => False)
  | _, _, _ => False
theorem run_indexAt {t e : TypeId} {z bytes : Nat} (hs : slI P t = some (e, z, bytes)) (b off len cap : Nat) (k : IntKind) (n : Int) (h0 : 0 ≤ n) (h1 : n < len) :
    (Instr.indexAt t (.slice (some ⟨b, off, none⟩) len cap) (.int k n)).run P w = .ok (.pointer (some ⟨b, off + n.toNat * z, none⟩)) w := by
  obtain ⟨hu, _⟩ := slI_spec hs
  have hz := slI_size hs
  simp [Instr.indexAt, asIntOf, run_underlying hu, h0, h1, run_sizeOf hz w, Addr.add_lit]
theorem vcIAddr_run {t : TypeId} {x i : V} {K : V → Prop} {vx vi : Value} (h : vcIAddr P t x i H K) (hw : WOk w H σ) (hx : VRel w (Own H σ) H σ x vx) (hi : VRel w (Own H σ) H σ i vi) :
    ∃ r val, (Instr.indexAt t vx vi).run P w = .ok val w ∧ VRel w (Own H σ) H σ r val ∧ K r := by
  unfold vcIAddr at h
  split at h
  · rename_i row k n hs
    split at h
    case h_2 => exact h.elim
    rename_i m z he
    obtain ⟨h0, h1, hk⟩ := h
    obtain rfl := hi.inv_d.inv_i
    obtain ⟨b', off', f', rfl, h1', h2, h3, h4⟩ := hx.inv_rp
    refine ⟨_, _, run_elemAt he b' off' k n h0 h1, ?_, hk⟩
    exact .rp _ _ _ (fun j => f' (n.toNat * z + j)) h1' h2 (fun j x hj => by
      rw [List.getElem?_drop] at hj
      rw [Nat.add_assoc]; exact h3 _ x hj) (fun j x hj => by
      rw [List.getElem?_drop] at hj
      exact h4 _ x hj)
  · rename_i id ver j c k n hs
    split at h
    case h_2 => exact h.elim
    rename_i m z he
    obtain ⟨h0, h1, h⟩ := h
    split at h
    case h_2 => exact h.elim
    rename_i ver' e sz rows hr
    obtain ⟨rfl, hk⟩ := h
    obtain rfl := hi.inv_d.inv_i
    obtain ⟨_, hv⟩ := hx.inv_pt hr
    obtain ⟨g, cap, hg, rfl⟩ := hv rfl
    refine ⟨_, _, run_elemAt he g _ k n h0 h1, ?_, hk⟩
    refine .pt _ _ _ _ _ (List.getElem?_eq_some_iff.1 hr).1 fun ver' e' sz' rows' hr' => ?_
    rw [hr] at hr'
    cases hr'
    exact ⟨Nat.le_refl _, fun _ => ⟨hx.nz_pt hr, g, cap, hg, by rw [Nat.add_assoc]⟩⟩
  · rename_i e z bytes z' rows k n hs
    obtain ⟨rfl, h0, h1, hk⟩ := h
    obtain rfl := hi.inv_d.inv_i
    obtain ⟨a, cap, rfl, ha⟩ := hx.inv_d.inv_sl
    have hne : rows ≠ [] := fun hn => by subst hn; simp at h1; omega
    obtain ⟨b, off, f, rfl, _, hb, hno, hlen, hc, hd⟩ := ha hne
    have hlt : n.toNat < rows.length := by omega
    have hr : rows[n.toNat]? = some rows[n.toNat] := by simp [hlt]
    refine ⟨_, _, run_indexAt hs b off _ cap k n h0 h1, ?_, hk _ hr⟩
    exact .rp _ _ _ (f n.toNat) hb hno (fun j x hj => hc _ _ _ x hr hj) (fun j x hj => hd _ _ _ x hr hj)
  · rename_i e z bytes id ver k n hs
    split at h
    · rename_i ver' e' z' rows hr
      obtain ⟨rfl, rfl, h0, h1, hk⟩ := h
      obtain rfl := hi.inv_d.inv_i
      obtain ⟨_, hv⟩ := hx.inv_os hr
      have hv := hv rfl
      have hnz := hx.nz_os hr
      rcases hw.objs hr hnz with ⟨_, hn⟩ | ⟨g, cap, cur, hg, hh, _⟩
      · subst hn; simp at h1; omega
      · rw [hg] at hv
        simp only [slv] at hv
        subst hv
        refine ⟨_, _, run_indexAt hs g 0 _ cap k n h0 h1, ?_, hk⟩
        have hid : id < H.length := (List.getElem?_eq_some_iff.1 hr).1
        refine .pt _ _ _ _ _ hid fun v1 e1 s1 r1 hr1 => ?_
        rw [hr] at hr1
        cases hr1
        exact ⟨Nat.le_refl _, fun _ => ⟨hnz, g, cap, hg, by simp⟩⟩
    · exact h.elim
  · exact h.elim
def arI (P : Program) (t : TypeId) : Option Nat :=
  match P.underlying t with
  | some (.array m e) => if agB P e = some false ∧ szI P e = some 1 then some m else none
  | _ => none
def azI (P : Program) (t : TypeId) : Option (Nat × Nat) :=
  match P.underlying t with
  | some (.array m e) => if agB P e = some true then (szI P e).map fun z => (m, z) else none
  | _ => none
def vcIndex (P : Program) (t : TypeId) (x i : V) (K : V → Prop) : Prop :=
  match x, i with
  | .d (.s l), .d (.i _ n) => stB P t = true ∧ 0 ≤ n ∧ n < l.length ∧ ∀ c, l[n.toNat]? = some c → K (.d (.i .u8 c.toNat))
  | .ag cs, .d (.i _ n) => (match arI P t with
    | some m => 0 ≤ n ∧ n < m ∧ n < cs.length ∧ ∀ c, cs[n.toNat]? = some c → K c
    | none => (match azI P t with
      | some (m, z) => 0 ≤ n ∧ n < m ∧ n.toNat * z + z ≤ cs.length ∧ K (.ag ((cs.drop (n.toNat * z)).take z))
      | none => False))
  | _, _ => False
theorem stB_spec {t : TypeId} (h : stB P t = true) : P.underlying t = some .string := by
  unfold stB at h
  split at h
  · assumption
  · cases h
theorem vcIndex_run {t : TypeId} {x i : V} {K : V → Prop} {vx vi : Value} (h : vcIndex P t x i K) (hx : VRel w (Own H σ) H σ x vx) (hi : VRel w (Own H σ) H σ i vi) :
    ∃ r val, (Instr.index t vx vi).run P w = .ok val w ∧ VRel w (Own H σ) H σ r val ∧ K r := by
  unfold vcIndex at h
  split at h
  · rename_i l k n
    obtain ⟨ht, h0, h1, hk⟩ := h
    obtain rfl := hi.inv_d.inv_i
    obtain rfl := hx.inv_d.inv_s
    have hu := stB_spec ht
    have hlt : n.toNat < l.length := by omega
    have hl : l[n.toNat]? = some l[n.toNat] := by simp [hlt]
    refine ⟨_, _, ?_, .d _ _ (.i _ _), hk _ hl⟩
    have hb : (⟨l.toArray⟩ : ByteArray)[n.toNat]? = some l[n.toNat] := by
      have hs : n.toNat < (⟨l.toArray⟩ : ByteArray).size := by rw [size_mk]; exact hlt
      rw [getElem?_pos (⟨l.toArray⟩ : ByteArray) n.toNat hs]
      rfl
    simp only [Instr.index, asIntOf, Sem.run_bind, Sem.run_pure, Result.andThen_ok, run_underlying hu, h0, if_true, hb]
  · rename_i cs k n
    split at h
    case h_2 =>
      split at h
      case h_2 => exact h.elim
      rename_i m z hm
      obtain ⟨h0, h1, h2, hk⟩ := h
      unfold azI at hm
      split at hm
      case h_2 => cases hm
      rename_i m' e hu
      split at hm
      case isFalse => cases hm
      rename_i ha
      obtain ⟨z', hz, he⟩ := Option.map_eq_some_iff.1 hm
      cases he
      obtain rfl := hi.inv_d.inv_i
      obtain ⟨vs, rfl, hl, hv⟩ := hx.inv_ag
      have hnm : n < (m : Int) := h1
      refine ⟨_, .agg (vs.extract (n.toNat * z) (n.toNat * z + z)), ?_, .ag _ _ ?_ ?_, hk⟩
      · simp only [Instr.index, asIntOf, Sem.run_bind, Sem.run_pure, Result.andThen_ok, run_underlying hu]
        rw [if_pos ⟨h0, hnm⟩]
        simp [run_sizeOf hz w, part, run_isAgg ha w]
      · simp; omega
      · intro j c v hj hv'
        rw [List.getElem?_take] at hj
        split at hj
        · rename_i hjz
          rw [List.getElem?_drop] at hj
          refine hv _ c v hj ?_
          rw [Array.getElem?_extract] at hv'
          split at hv'
          · exact hv'
          · cases hv'
        · cases hj
    rename_i m hm
    obtain ⟨h0, h1, h2, hk⟩ := h
    unfold arI at hm
    split at hm
    case h_2 => cases hm
    rename_i m' e hu
    split at hm
    case isFalse => cases hm
    rename_i hc
    cases hm
    obtain ⟨ha, hz⟩ := hc
    obtain rfl := hi.inv_d.inv_i
    obtain ⟨vs, rfl, hl, hv⟩ := hx.inv_ag
    have hlt : n.toNat < cs.length := by omega
    have hcs : cs[n.toNat]? = some cs[n.toNat] := List.getElem?_eq_getElem hlt
    have hvs : vs[n.toNat]? = some (vs[n.toNat]'(by omega)) := Array.getElem?_eq_getElem (by omega)
    refine ⟨_, _, ?_, hv _ _ _ hcs hvs, hk _ hcs⟩
    have hp := part_run (P := P) w ha hvs
    have hnm : n < (m : Int) := h1
    simp only [Instr.index, asIntOf, Sem.run_bind, Sem.run_pure, Result.andThen_ok, run_underlying hu, run_sizeOf hz w, Nat.mul_one]
    rw [if_pos ⟨h0, hnm⟩]
    simp only [Sem.run_bind, run_sizeOf hz w, Result.andThen_ok, Nat.mul_one]
    exact hp
  · exact h.elim
def optRel (w : World) (H : Heap) (σ : Conc) (x : Option V) (vx : Option Value) : Prop :=
  match x, vx with | none, none => True | some v, some u => VRel w (Own H σ) H σ v u | _, _ => False
def bnd (x : Option V) (n : Nat) : Option Int :=
  match x with
  | none => some (n : Int)
  | some (.d (.i _ k)) => some k
  | _ => none
theorem bnd_low {x : Option V} {a : Int} (h : bnd x 0 = some a) {vx : Option Value} (hx : optRel w H σ x vx) :
    (x = none ∧ vx = none ∧ a = 0) ∨ ∃ k, vx = some (.int k a) := by
  unfold bnd at h
  split at h
  · cases vx with
    | none => exact .inl ⟨rfl, rfl, by simpa using h.symm⟩
    | some u => exact hx.elim
  · cases vx with
    | none => exact hx.elim
    | some u =>
      obtain rfl := (VRel.inv_d hx).inv_i
      cases h
      exact .inr ⟨_, rfl⟩
  · cases h
theorem bnd_high {x : Option V} {n : Nat} {b : Int} (h : bnd x n = some b) {vx : Option Value} (hx : optRel w H σ x vx) :
    (x = none ∧ vx = none ∧ b = n) ∨ ∃ k, vx = some (.int k b) := by
  unfold bnd at h
  split at h
  · cases vx with
    | none => exact .inl ⟨rfl, rfl, by simpa using h.symm⟩
    | some u => exact hx.elim
  · cases vx with
    | none => exact hx.elim
    | some u =>
      obtain rfl := (VRel.inv_d hx).inv_i
      cases h
      exact .inr ⟨_, rfl⟩
  · cases h
theorem run_sliceBound (k : IntKind) (n : Int) (y : Nat) (c : BoundsCode) (h0 : 0 ≤ n) (h1 : n ≤ y) : (Instr.sliceBound (.int k n) y c).run P w = .ok n.toNat w := by
  simp [Instr.sliceBound, asIntOf, h0, h1]
theorem run_bounds (isS : Bool) (len cap : Nat) (lo hi : Option Value) (a b : Int) (h0 : 0 ≤ a) (h1 : a ≤ b) (h2 : b ≤ cap)
    (hlo : (lo = none ∧ a = 0) ∨ ∃ k, lo = some (.int k a)) (hhi : (hi = none ∧ b = len) ∨ ∃ k, hi = some (.int k b)) :
    (Instr.sliceBounds isS len cap lo hi none).run P w = .ok (a.toNat, b.toNat, cap) w := by
  have hb0 : 0 ≤ b := by omega
  have hab : a ≤ (b.toNat : Int) := by omega
  rcases hlo with ⟨rfl, rfl⟩ | ⟨k, rfl⟩ <;> rcases hhi with ⟨rfl, rfl⟩ | ⟨k', rfl⟩
  · simp [Instr.sliceBounds]
  · simp [Instr.sliceBounds, run_sliceBound k' b cap _ hb0 h2]
  · simp [Instr.sliceBounds]
    rw [run_sliceBound k a len _ h0 (by omega)]
    simp
  · simp [Instr.sliceBounds, run_sliceBound k' b cap _ hb0 h2, run_sliceBound k a b.toNat _ h0 hab]
def vcSlice (P : Program) (t : TypeId) (x : V) (lo hi mx : Option V) (K : V → Prop) : Prop :=
  match x, mx with
  | .d (.s l), none =>
    (match bnd lo 0, bnd hi l.length with
    | some a, some b => stB P t = true ∧ 0 ≤ a ∧ a ≤ b ∧ b ≤ l.length ∧ K (.d (.s ((l.take b.toNat).drop a.toNat)))
    | _, _ => False)
  | .d (.sl sz rows), none =>
    (match bnd lo 0, bnd hi rows.length with
    | some a, some b => (slI P t).map (fun x => x.2.1) = some sz ∧ 0 ≤ a ∧ a ≤ b ∧ b ≤ rows.length ∧ K (.d (.sl sz ((rows.take b.toNat).drop a.toNat)))
    | _, _ => False)
  | .d (.sl _ _), some (.d (.i _ 0)) =>
    (match lo, hi with
    | none, some (.d (.i _ 0)) => (slI P t).isSome = true ∧ K .em
    | _, _ => False)
  | .d (.c v), none =>
    (match bnd lo 0, bnd hi 0 with
    | some a, some b => isNil v = true ∧ (slI P t).isSome = true ∧ a = 0 ∧ b = 0 ∧ K (.d (.c v))
    | _, _ => False)
  | .rp row, none =>
    (match lo, hi with
    | none, none => avI P t = some row.length ∧ K (.d (.sl 1 (row.map fun x => [x])))
    | some (.d (.i _ a)), none => avI P t = some row.length ∧ 0 ≤ a ∧ a < row.length ∧ K (.d (.sl 1 ((row.drop a.toNat).map fun x => [x])))
    | _, _ => False)
  | _, _ => False
theorem vcSlice_run {t : TypeId} {x : V} {lo hi mx : Option V} {K : V → Prop} {vx : Value} {vlo vhi vmx : Option Value} (h : vcSlice P t x lo hi mx K) (hx : VRel w (Own H σ) H σ x vx)
    (hlo : optRel w H σ lo vlo) (hhi : optRel w H σ hi vhi) (hmx : optRel w H σ mx vmx) :
    ∃ r val, (Instr.sliceAt t vx vlo vhi vmx).run P w = .ok val w ∧ VRel w (Own H σ) H σ r val ∧ K r := by
  unfold vcSlice at h
  split at h
  · rename_i l
    cases vmx with | some _ => exact hmx.elim | none => ?_
    split at h
    case h_2 => exact h.elim
    rename_i a b ha hb
    obtain ⟨ht, h0, h1, h2, hk⟩ := h
    obtain rfl := hx.inv_d.inv_s
    have hu := stB_spec ht
    refine ⟨_, _, ?_, .d _ _ (.s _), hk⟩
    have hbd := run_bounds (P := P) (w := w) false (⟨l.toArray⟩ : ByteArray).size (⟨l.toArray⟩ : ByteArray).size vlo vhi a b h0 h1 (by rw [size_mk]; exact h2)
      ((bnd_low ha hlo).imp (fun x => ⟨x.2.1, x.2.2⟩) id) ((bnd_high hb hhi).imp (fun x => ⟨x.2.1, by rw [size_mk]; exact x.2.2⟩) id)
    have hex : (⟨l.toArray⟩ : ByteArray).extract a.toNat b.toNat = ⟨((l.take b.toNat).drop a.toNat).toArray⟩ := by
      apply ByteArray.ext
      simp [List.drop_take]
    simp only [Instr.sliceAt, Instr.slice, Sem.run_bind, run_underlying hu, Result.andThen_ok, Option.isSome_none, Bool.false_eq_true, if_false, Sem.run_pure, hbd, hex]
  · rename_i sz rows
    cases vmx with | some _ => exact hmx.elim | none => ?_
    split at h
    case h_2 => exact h.elim
    rename_i a b ha hb
    obtain ⟨ht, h0, h1, h2, hk⟩ := h
    obtain ⟨⟨e, z, bytes⟩, hs, hz'⟩ := Option.map_eq_some_iff.1 ht
    obtain rfl : z = sz := hz'
    obtain ⟨hu, _⟩ := slI_spec hs
    have hz := slI_size hs
    obtain ⟨ad, cap, rfl, had⟩ := hx.inv_d.inv_sl
    have hcap : b ≤ cap := by
      by_cases hne : rows = []
      · subst hne
        simp only [List.length_nil] at h2
        omega
      · obtain ⟨_, _, _, _, h3, _⟩ := had hne
        omega
    have hbd := run_bounds (P := P) (w := w) true rows.length cap vlo vhi a b h0 h1 hcap ((bnd_low ha hlo).imp (fun x => ⟨x.2.1, x.2.2⟩) id) ((bnd_high hb hhi).imp (fun x => ⟨x.2.1, x.2.2⟩) id)
    refine ⟨_, .slice (if cap = a.toNat then ad else ad.map (·.add (a.toNat * z))) (b.toNat - a.toNat) (cap - a.toNat), ?_, .d _ _ ?_, hk⟩
    · simp only [Instr.sliceAt, Instr.slice, Sem.run_bind, run_underlying hu, Result.andThen_ok, Sem.run_pure, hbd, run_sizeOf hz w]
    · have hlen : ((rows.take b.toNat).drop a.toNat).length = b.toNat - a.toNat := by simp; omega
      by_cases hemp : b.toNat - a.toNat = 0
      · have he : (rows.take b.toNat).drop a.toNat = [] := List.eq_nil_of_length_eq_zero (by omega)
        rw [he, hemp]
        exact .nil _ _ _
      · have hne : rows ≠ [] := fun hn => by subst hn; simp at h2; omega
        obtain ⟨bl, off, f, rfl, hle, hbl, hno, hlr, hc, hd⟩ := had hne
        rw [if_neg (by omega)]
        simp only [Option.map_some, Addr.add_lit]
        rw [← hlen]
        have get : ∀ i row, ((rows.take b.toNat).drop a.toNat)[i]? = some row → rows[a.toNat + i]? = some row := fun i row hi => by
          rw [List.getElem?_drop, List.getElem?_take] at hi
          split at hi
          · exact hi
          · cases hi
        refine .sl _ _ bl (off + a.toNat * z) _ (fun i j => f (a.toNat + i) j) (by omega) hbl hno (fun i row hi => hlr _ row (get i row hi)) (fun i j row x hi hj => ?_) (fun i j row x hi hj => hd _ _ row x (get i row hi) hj)
        have := hc _ _ row x (get i row hi) hj
        rw [Nat.add_mul] at this
        rw [← this]
        congr 2
        omega
  · rename_i sz rows k
    split at h
    case h_2 => exact h.elim
    rename_i k'
    obtain ⟨ht, hk⟩ := h
    obtain ⟨⟨e, z, bytes⟩, hs⟩ := Option.isSome_iff_exists.1 ht
    obtain ⟨hu, _⟩ := slI_spec hs
    have hz := slI_size hs
    obtain ⟨ad, cap, rfl, had⟩ := hx.inv_d.inv_sl
    cases vmx with | none => exact hmx.elim | some um => ?_
    cases vhi with | none => exact hhi.elim | some uh => ?_
    cases vlo with | some _ => exact hlo.elim | none => ?_
    have e1 : um = .int k 0 := VRel.inv_d hmx |>.inv_i
    have e2 : uh = .int k' 0 := VRel.inv_d hhi |>.inv_i
    subst e1 e2
    refine ⟨_, _, ?_, .em ad, hk⟩
    simp [Instr.sliceAt, Instr.slice, run_underlying hu, Instr.sliceBounds, Instr.sliceBound, asIntOf, run_sizeOf hz w]
  · rename_i v
    cases vmx with | some _ => exact hmx.elim | none => ?_
    split at h
    case h_2 => exact h.elim
    rename_i a b ha hb
    obtain ⟨hn, ht, rfl, rfl, hk⟩ := h
    obtain ⟨⟨e, z, bytes⟩, hs⟩ := Option.isSome_iff_exists.1 ht
    obtain ⟨hu, _⟩ := slI_spec hs
    have hz := slI_size hs
    obtain rfl := isNil_eq hn
    obtain rfl := hx.inv_d.inv_c
    have hbd := run_bounds (P := P) (w := w) true 0 0 vlo vhi 0 0 (by omega) (by omega) (by omega) ((bnd_low ha hlo).imp (fun x => ⟨x.2.1, x.2.2⟩) id) ((bnd_high (n := 0) hb hhi).imp (fun x => ⟨x.2.1, x.2.2⟩) id)
    exact ⟨_, .slice none 0 0, by simp [Instr.sliceAt, Instr.slice, Sem.run_bind, run_underlying hu, Result.andThen_ok, Sem.run_pure, hbd, run_sizeOf hz w], hx, hk⟩
  · rename_i row
    cases vmx with | some _ => exact hmx.elim | none => ?_
    split at h
    case h_3 => exact h.elim
    case h_2 k a =>
      obtain ⟨ha, h0, h1, hk⟩ := h
      cases vhi with | some _ => exact hhi.elim | none => ?_
      obtain ⟨b, off, f, rfl, hb, hno, hc, hd⟩ := hx.inv_rp
      obtain ⟨e, hz, hu⟩ := avI_spec ha
      have hbd := run_bounds (P := P) (w := w) false row.length row.length vlo none a row.length h0 (by omega) (by omega) ((bnd_low (x := some (.d (.i k a))) rfl hlo).imp (fun x => ⟨x.2.1, x.2.2⟩) id) (.inl ⟨rfl, rfl⟩)
      have hne : ¬ row.length = a.toNat := by omega
      have hle : ((row.drop a.toNat).map fun x => [x]).length = row.length - a.toNat := by simp
      refine ⟨_, .slice (some ⟨b, off + a.toNat, none⟩) (row.length - a.toNat) (row.length - a.toNat), ?_, .d _ _ ?_, hk⟩
      · rcases hu with hu | ⟨a2, hu, hu'⟩
        · simp [Instr.sliceAt, Instr.sureAddr, run_underlying hu, hbd, run_sizeOf hz w, Addr.add_lit, hne]
        · simp [Instr.sliceAt, Instr.slice, asAddr, run_underlying hu, run_underlying hu', hbd, run_sizeOf hz w, Addr.add_lit, hne]
      · rw [← hle]
        refine .sl _ _ b (off + a.toNat) _ (fun i _ => f (a.toNat + i)) (Nat.le_refl _) hb hno (fun i r hi => ?_) (fun i j r x hi hj => ?_) (fun i j r x hi hj => ?_)
        all_goals
          rw [List.getElem?_map, List.getElem?_drop] at hi
          obtain ⟨y, hy, rfl⟩ := Option.map_eq_some_iff.1 hi
        · rfl
        · obtain ⟨rfl, rfl⟩ : j = 0 ∧ x = y := by
            cases j with
            | zero => simp at hj; exact ⟨rfl, hj.symm⟩
            | succ j => simp at hj
          have := hc (a.toNat + i) x hy
          rw [← this]
          congr 2
          omega
        · obtain ⟨rfl, rfl⟩ : j = 0 ∧ x = y := by
            cases j with
            | zero => simp at hj; exact ⟨rfl, hj.symm⟩
            | succ j => simp at hj
          exact hd (a.toNat + i) x hy
    obtain ⟨ha, hk⟩ := h
    cases vhi with | some _ => exact hhi.elim | none => ?_
    cases vlo with | some _ => exact hlo.elim | none => ?_
    obtain ⟨b, off, f, rfl, hb, hno, hc, hd⟩ := hx.inv_rp
    obtain ⟨e, hz, hu⟩ := avI_spec ha
    have hbd := run_bounds (P := P) (w := w) false row.length row.length none none 0 row.length (by omega) (by omega) (by omega) (.inl ⟨rfl, rfl⟩) (.inl ⟨rfl, rfl⟩)
    refine ⟨_, .slice (some ⟨b, off, none⟩) row.length row.length, ?_, .d _ _ ?_, hk⟩
    · rcases hu with hu | ⟨a, hu, hu'⟩
      · simp [Instr.sliceAt, Instr.sureAddr, run_underlying hu, hbd, run_sizeOf hz w, Addr.add_lit]
      · simp [Instr.sliceAt, Instr.slice, asAddr, run_underlying hu, run_underlying hu', hbd, run_sizeOf hz w, Addr.add_lit]
    · by_cases hne : row = []
      · subst hne
        exact .nil _ _ _
      · have hl : (row.map fun x => [x]).length = row.length := List.length_map _
        rw [← hl]
        refine .sl _ _ b off _ (fun i _ => f i) (Nat.le_refl _) hb hno (fun i r hi => ?_) (fun i j r x hi hj => ?_) (fun i j r x hi hj => ?_)
        all_goals
          rw [List.getElem?_map] at hi
          obtain ⟨y, hy, rfl⟩ := Option.map_eq_some_iff.1 hi
        · rfl
        · obtain ⟨rfl, rfl⟩ : j = 0 ∧ x = y := by
            cases j with
            | zero => simp at hj; exact ⟨rfl, hj.symm⟩
            | succ j => simp at hj
          simpa using hc i x hy
        · obtain ⟨rfl, rfl⟩ : j = 0 ∧ x = y := by
            cases j with
            | zero => simp at hj; exact ⟨rfl, hj.symm⟩
            | succ j => simp at hj
          exact hd i x hy
  · exact h.elim
def vcExtract (x : V) (i : Nat) (K : V → Prop) : Prop :=
  match x with
  | .tu vs => i < vs.length ∧ ∀ v, vs[i]? = some v → K v
  | _ => False
theorem vcExtract_run {x : V} {i : Nat} {K : V → Prop} {vx : Value} (h : vcExtract x i K) (hx : VRel w (Own H σ) H σ x vx) :
    ∃ r val, (Instr.extract vx i).run P w = .ok val w ∧ VRel w (Own H σ) H σ r val ∧ K r := by
  unfold vcExtract at h
  split at h
  · rename_i cs
    obtain ⟨vs, rfl, hl, hv⟩ := hx.inv_tu
    have hlt : i < vs.size := by omega
    have hc : cs[i]? = some cs[i] := by simp [h.1]
    have hvs : vs[i]? = some vs[i] := by simp [hlt]
    exact ⟨_, vs[i], by simp [Instr.extract, hvs], hv _ _ _ hc hvs, h.2 _ hc⟩
  · exact h.elim
def vcLen (P : Program) (t : TypeId) (x : V) (H : Heap) (K : V → Prop) : Prop :=
  match x with
  | .d (.s l) => stB P t = true ∧ K (.d (.i .i64 l.length))
  | .d (.sl _ rows) => slB P t = true ∧ K (.d (.i .i64 rows.length))
  | .d (.c v) => slB P t = true ∧ isNil v = true ∧ K (.d (.i .i64 0))
  | .os id ver => slB P t = true ∧ (match H[id]? with | some (.row ver' _ _ rows) => ver = ver' ∧ K (.d (.i .i64 rows.length)) | _ => False)
  | .em => slB P t = true ∧ K (.d (.i .i64 0))
  | _ => False
theorem slB_spec {t : TypeId} (h : slB P t = true) : ∃ e, P.underlying t = some (.slice e) := by
  unfold slB at h
  split at h
  · rename_i e he; exact ⟨e, he⟩
  · cases h
theorem run_len_slice {t : TypeId} (h : slB P t = true) (ty : TypeId) (a : Option Addr) (n c : Nat) : (Builtin.len_ #[t] ty #[.slice a n c]).run P w = .ok (.int .i64 n) w := by
  obtain ⟨e, hu⟩ := slB_spec h
  simp [Builtin.len_, run_underlying hu, goInt]
theorem vcLen_run {t ty : TypeId} {x : V} {K : V → Prop} {vx : Value} (h : vcLen P t x H K) (hw : WOk w H σ) (hx : VRel w (Own H σ) H σ x vx) :
    ∃ r val, (Builtin.len_ #[t] ty #[vx]).run P w = .ok val w ∧ VRel w (Own H σ) H σ r val ∧ K r := by
  unfold vcLen at h
  split at h
  · rename_i l
    obtain rfl := hx.inv_d.inv_s
    have hu := stB_spec h.1
    refine ⟨_, _, ?_, .d _ _ (.i _ _), h.2⟩
    simp [Builtin.len_, run_underlying hu, goInt, size_mk]
  · obtain ⟨a, cap, rfl, _⟩ := hx.inv_d.inv_sl
    exact ⟨_, _, run_len_slice h.1 ty _ _ _, .d _ _ (.i _ _), h.2⟩
  · obtain ⟨h1, hn, hk⟩ := h
    obtain rfl := isNil_eq hn
    obtain rfl := hx.inv_d.inv_c
    exact ⟨_, _, run_len_slice h1 ty _ _ _, .d _ _ (.i _ _), hk⟩
  · rename_i id ver
    obtain ⟨h1, h⟩ := h
    split at h
    · rename_i hr
      obtain ⟨rfl, hk⟩ := h
      obtain ⟨_, hv⟩ := hx.inv_os hr
      have hv := hv rfl
      cases hs : σ id with
      | no a =>
        rw [hs] at hv
        simp only [slv] at hv
        subst hv
        rcases hw.objs hr (hx.nz_os hr) with ⟨_, hn⟩ | ⟨g, cap, cur, hg, _⟩
        · subst hn
          exact ⟨_, _, run_len_slice h1 ty _ _ _, .d _ _ (.i _ _), hk⟩
        · rw [hs] at hg; cases hg
      | blk g cap =>
        rw [hs] at hv
        simp only [slv] at hv
        subst hv
        exact ⟨_, _, run_len_slice h1 ty _ _ _, .d _ _ (.i _ _), hk⟩
    · exact h.elim
  · cases hx
    exact ⟨_, _, run_len_slice h.1 ty _ _ _, .d _ _ (.i _ _), h.2⟩
  · exact h.elim
def vcMax (b : Builtin) (x y : V) (K : V → Prop) : Prop :=
  match b, x, y with
  | .max, .d (.i k a), .d (.i _ c) => K (.d (.i k (max a c)))
  | .min, .d (.i k a), .d (.i _ c) => K (.d (.i k (min a c)))
  | _, _, _ => False
theorem vcMax_run {b : Builtin} {ts : Array TypeId} {ty : TypeId} {cs : Array Bool} {x y : V} {K : V → Prop} {vx vy : Value} (h : vcMax b x y K) (hx : VRel w (Own H σ) H σ x vx) (hy : VRel w (Own H σ) H σ y vy) :
    ∃ r val, (builtin b ts ty cs #[vx, vy]).run P w = .ok (.value val) w ∧ VRel w (Own H σ) H σ r val ∧ K r := by
  unfold vcMax at h
  split at h
  · obtain rfl := hx.inv_d.inv_i
    obtain rfl := hy.inv_d.inv_i
    refine ⟨_, _, ?_, .d _ _ (.i _ _), h⟩
    rename_i k a k' c
    have : (if c > a then c else a) = max a c := by split <;> omega
    simp [builtin, Builtin.max_, Builtin.max2]
    rw [← this]
  · obtain rfl := hx.inv_d.inv_i
    obtain rfl := hy.inv_d.inv_i
    refine ⟨_, _, ?_, .d _ _ (.i _ _), h⟩
    rename_i k a k' c
    have : (if c < a then c else a) = min a c := by split <;> omega
    simp [builtin, Builtin.min_, Builtin.min2]
    rw [← this]
  · exact h.elim
end
end Go.Proofs.YtmhabdopcbokoaaDoor.Ab
