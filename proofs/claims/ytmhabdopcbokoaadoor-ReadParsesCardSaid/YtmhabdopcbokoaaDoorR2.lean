/- The operations that leave memory alone, over the abstract reading: what is asked of each, and that it then does so. No condition. -/
import Derived.Test.YtmhabdopcbokoaaDoorR1
import Derived.WalkSpells
set_option linter.all false
set_option linter.unusedSimpArgs false
set_option linter.unusedVariables false
namespace Go.Proofs.YtmhabdopcbokoaaDoor.Ab
open Go
variable [Glo]
def agB (P : Program) (t : TypeId) : Option Bool := (P.underlying t).map fun d => match d with | .struct _ | .array _ _ => true | _ => false
def szI (P : Program) (t : TypeId) : Option Nat := (P.info? t).map (·.size)
def slI (P : Program) (t : TypeId) : Option (TypeId × Nat × Nat) :=
  match P.underlying t with
  | some (.slice e) => match P.info? e with
    | some i => match i.zero with
      | some z => if z.cells.size = i.size ∧ 0 < i.size then some (e, i.size, i.bytes) else none
      | none => none
    | none => none
  | _ => none
def stB (P : Program) (t : TypeId) : Bool := match P.underlying t with | some .string => true | _ => false
def flI (P : Program) (t : TypeId) (f : Nat) : Option (Nat × Bool × Nat) :=
  match P.underlying t with
  | some (.struct fs) => match fs[f]? with
    | some x => match agB P x.type, szI P x.type with
      | some b, some z => if 0 < z then some (x.offset, b, z) else none
      | _, _ => none
    | none => none
  | _ => none
def fek (P : Program) (t : TypeId) : Option Nat := match P.underlying t with | some (.int _) => some 0 | some .string => some 1 | some .bool => some 2 | _ => none
def fkS (P : Program) : List Field → Option (List (Nat × Nat))
  | [] => some []
  | f :: fs => if f.name ≠ "_" then (match fek P f.type, fkS P fs with | some k, some r => some ((f.offset, k) :: r) | _, _ => none) else none
def feI (P : Program) (t : TypeId) : Option (List (Nat × Nat)) :=
  match P.underlying t with
  | some (.struct fs) => if P.stoodInHeld t = false ∧ P.eqGuardType P.depth t = false then fkS P fs.toList else none
  | _ => none
theorem run_isAgg {P : Program} {t : TypeId} {b : Bool} (h : agB P t = some b) (w : World) : (isAgg t).run P w = .ok b w := by
  unfold agB at h
  cases hu : P.underlying t with
  | none => rw [hu] at h; cases h
  | some d =>
    rw [hu] at h
    simp only [Option.map_some, Option.some.injEq] at h
    unfold isAgg
    rw [Sem.run_bind, run_underlying hu w]
    subst h
    cases d <;> rfl
theorem run_sizeOf {P : Program} {t : TypeId} {z : Nat} (h : szI P t = some z) (w : World) : (sizeOf t).run P w = .ok z w := by
  unfold szI at h
  cases hi : P.info? t with
  | none => rw [hi] at h; cases h
  | some i =>
    rw [hi] at h
    simp only [Option.map_some, Option.some.injEq] at h
    simp [sizeOf, typeInfo, hi, h]
theorem slI_spec {P : Program} {t e : TypeId} {z bytes : Nat} (h : slI P t = some (e, z, bytes)) :
    P.underlying t = some (.slice e) ∧ 0 < z ∧ ∃ i zv, P.info? e = some i ∧ i.zero = some zv ∧ i.size = z ∧ i.bytes = bytes ∧ zv.cells.size = z := by
  unfold slI at h
  split at h
  · rename_i e' hu
    split at h
    · rename_i i hi
      split at h
      · rename_i zv hz
        split at h
        · rename_i hc
          simp only [Option.some.injEq, Prod.mk.injEq] at h
          obtain ⟨rfl, rfl, rfl⟩ := h
          exact ⟨hu, hc.2, i, zv, hi, hz, rfl, rfl, hc.1⟩
        · cases h
      · cases h
    · cases h
  · cases h
def avI (P : Program) (t : TypeId) : Option Nat :=
  match P.underlying t with
  | some (.array n e) => if szI P e = some 1 then some n else none
  | some (.pointer a) => (match P.underlying a with
    | some (.array n e) => if szI P e = some 1 then some n else none
    | _ => none)
  | _ => none
theorem avI_spec {P : Program} {t : TypeId} {n : Nat} (h : avI P t = some n) : ∃ e, szI P e = some 1 ∧ (P.underlying t = some (.array n e) ∨ ∃ a, P.underlying t = some (.pointer a) ∧ P.underlying a = some (.array n e)) := by
  unfold avI at h
  split at h
  · rename_i n' e hu
    split at h
    · rename_i hz; cases h; exact ⟨e, hz, .inl hu⟩
    · cases h
  · rename_i a hu
    split at h
    · rename_i n' e hu'
      split at h
      · rename_i hz; cases h; exact ⟨e, hz, .inr ⟨a, hu, hu'⟩⟩
      · cases h
    · cases h
  · cases h
theorem slI_size {P : Program} {t e : TypeId} {z bytes : Nat} (h : slI P t = some (e, z, bytes)) : szI P e = some z := by
  obtain ⟨_, _, i, _, hi, _, hz, _⟩ := slI_spec h
  simp [szI, hi, hz]
def inR (k : IntKind) (n : Int) : Prop := k.min ≤ n ∧ n ≤ k.max
theorem wrap_inR {k : IntKind} {n : Int} (h : inR k n) : k.wrap n = n := by
  unfold inR at h
  cases k <;> simp [IntKind.wrap, IntKind.bits, IntKind.signed, IntKind.min, IntKind.max] at * <;> (try split) <;> omega
theorem inR_i64 (n : Int) : inR .i64 n = (-9223372036854775808 ≤ n ∧ n ≤ 9223372036854775807) := by
  simp [inR, IntKind.min, IntKind.max, IntKind.bits, IntKind.signed]
theorem inR_u8 (n : Int) : inR .u8 n = (0 ≤ n ∧ n ≤ 255) := by
  simp [inR, IntKind.min, IntKind.max, IntKind.bits, IntKind.signed]
def isNil : Value → Bool
  | .slice none 0 0 => true
  | _ => false
theorem isNil_eq {v : Value} (h : isNil v = true) : v = .slice none 0 0 := by
  unfold isNil at h; split at h
  · rfl
  · cases h
def boB (P : Program) (t : TypeId) : Bool := match P.underlying t with | some .bool => true | _ => false
def slB (P : Program) (t : TypeId) : Bool := match P.underlying t with | some (.slice _) => true | _ => false
def binD (P : Program) (t : TypeId) (op : BinOp) (x y : D) (K : D → Prop) : Prop :=
  match op, x, y with
  | .add, .i k a, .i k' b => k = k' ∧ inR k (a + b) ∧ K (.i k (a + b))
  | .sub, .i k a, .i k' b => k = k' ∧ inR k (a - b) ∧ K (.i k (a - b))
  | .mul, .i k a, .i k' b => k = k' ∧ inR k (a * b) ∧ K (.i k (a * b))
  | .quo, .i k a, .i k' b => k = k' ∧ b ≠ 0 ∧ inR k (a.tdiv b) ∧ K (.i k (a.tdiv b))
  | .rem, .i k a, .i k' b => k = k' ∧ b ≠ 0 ∧ K (.i k (a.tmod b))
  | .eql, .i k a, .i k' b => k = k' ∧ K (.b (decide (a = b)))
  | .neq, .i k a, .i k' b => k = k' ∧ K (.b (!decide (a = b)))
  | .lss, .i k a, .i k' b => k = k' ∧ K (.b (decide (a < b)))
  | .leq, .i k a, .i k' b => k = k' ∧ K (.b (decide (a ≤ b)))
  | .gtr, .i k a, .i k' b => k = k' ∧ K (.b (decide (b < a)))
  | .geq, .i k a, .i k' b => k = k' ∧ K (.b (decide (b ≤ a)))
  | .shr, .i k a, .i _ b => 0 ≤ b ∧ K (.i k (a.fdiv (2 ^ (min b.toNat k.bits))))
  | .shl, .i k a, .i _ b => 0 ≤ b ∧ K (.i k (k.wrap (a * 2 ^ (min b.toNat k.bits))))
  | .add, .s a, .s b => a.length + b.length ≤ 9223372036854775807 ∧ K (.s (a ++ b))
  | .eql, .s a, .s b => K (.b (decide (a = b)))
  | .neq, .s a, .s b => K (.b (!decide (a = b)))
  | .lss, .s a, .s b => K (.b (Op.bytesLess a b))
  | .leq, .s a, .s b => K (.b (Op.bytesLess a b || decide (a = b)))
  | .gtr, .s a, .s b => K (.b (!(Op.bytesLess a b || decide (a = b))))
  | .geq, .s a, .s b => K (.b (!Op.bytesLess a b))
  | .eql, .b a, .b b => boB P t = true ∧ K (.b (a == b))
  | .neq, .b a, .b b => boB P t = true ∧ K (.b (!(a == b)))
  | .eql, .sl _ rows, .c v => slB P t = true ∧ isNil v = true ∧ rows ≠ [] ∧ K (.b false)
  | .neq, .sl _ rows, .c v => slB P t = true ∧ isNil v = true ∧ rows ≠ [] ∧ K (.b true)
  | .eql, .c u, .c v => slB P t = true ∧ isNil u = true ∧ isNil v = true ∧ K (.b true)
  | .neq, .c u, .c v => slB P t = true ∧ isNil u = true ∧ isNil v = true ∧ K (.b false)
  | _, _, _ => False
theorem size_mk (l : List UInt8) : (⟨l.toArray⟩ : ByteArray).size = l.length := by simp [ByteArray.size]
theorem toList_mk (l : List UInt8) : (⟨l.toArray⟩ : ByteArray).toList = l := by rw [ByteArray.toList_eq]
theorem append_mk (a b : List UInt8) : (⟨a.toArray⟩ : ByteArray) ++ ⟨b.toArray⟩ = ⟨(a ++ b).toArray⟩ := by
  apply ByteArray.ext
  simp
theorem run_eqGuard_i (P : Program) (op : BinOp) (t : TypeId) (x y : Operand) (k k' : IntKind) (a b : Int) (w : World) : (eqGuard op t x y (.int k a) (.int k' b)).run P w = .ok () w := by
  unfold eqGuard; cases op <;> simp
theorem run_eqGuard_s (P : Program) (op : BinOp) (t : TypeId) (x y : Operand) (a b : ByteArray) (w : World) : (eqGuard op t x y (.string a) (.string b)).run P w = .ok () w := by
  unfold eqGuard; cases op <;> simp
theorem run_bin_i {P : Program} {op : BinOp} {t : TypeId} (ox oy : Operand) (k : IntKind) (a b : Int) (w : World) (h1 : op ≠ .shl) (h2 : op ≠ .shr) :
    (do eqGuard op t ox oy (.int k a) (.int k b); binOp op t (.int k a) (.int k b) : Sem Value).run P w =
      (match op with
        | .add | .sub | .mul => Op.intArith op k a b
        | .quo | .rem => Op.intDiv op k a b
        | .and | .or | .xor | .andNot => Op.intBits op k a b
        | _ => Op.intCmp op a b).run P w := by
  simp only [Sem.run_bind, run_eqGuard_i, Result.andThen_ok]
  cases op <;> simp [binOp] at *
theorem run_bin_s {P : Program} {op : BinOp} {t : TypeId} (ox oy : Operand) (a b : ByteArray) (w : World) :
    (do eqGuard op t ox oy (.string a) (.string b); binOp op t (.string a) (.string b) : Sem Value).run P w = (Op.stringOp op a b).run P w := by
  simp only [Sem.run_bind, run_eqGuard_s, Result.andThen_ok]
  cases op <;> simp [binOp]
theorem run_equal_sl {P : Program} (w : World) (t e : TypeId) (a : Option Addr) (n c : Nat) (h : P.underlying t = some (.slice e)) : (Op.equal t (.slice a n c) (.slice none 0 0)).run P w = .ok a.isNone w := by
  exact Lib.run_equalIn_slice_nil w 9999 t e a n c 0 0 h
theorem binD_run {P : Program} {op : BinOp} {t : TypeId} {x y : D} {K : D → Prop} {w : World} {o : Nat → Prop} {ox oy : Operand} {vx vy : Value} (h : binD P t op x y K) (hx : DRel w o x vx) (hy : DRel w o y vy) :
    ∃ r val, (do eqGuard op t ox oy vx vy; binOp op t vx vy : Sem Value).run P w = .ok val w ∧ DRel w o r val ∧ K r := by
  unfold binD at h
  split at h
  case h_27 => exact h.elim
  case h_1 | h_2 | h_3 =>
    cases hx; cases hy
    obtain ⟨rfl, hr, hk⟩ := h
    refine ⟨_, _, ?_, .i _ _, hk⟩
    rw [run_bin_i _ _ _ _ _ _ (by simp) (by simp)]
    simp [Op.intArith, wrap_inR hr]
  case h_4 =>
    cases hx; cases hy
    obtain ⟨rfl, hb, hr, hk⟩ := h
    refine ⟨_, _, ?_, .i _ _, hk⟩
    rw [run_bin_i _ _ _ _ _ _ (by simp) (by simp)]
    simp [Op.intDiv, hb, wrap_inR hr]
  case h_5 =>
    cases hx; cases hy
    obtain ⟨rfl, hb, hk⟩ := h
    refine ⟨_, _, ?_, .i _ _, hk⟩
    rw [run_bin_i _ _ _ _ _ _ (by simp) (by simp)]
    simp [Op.intDiv, hb]
  case h_6 | h_7 | h_8 | h_9 | h_10 | h_11 =>
    cases hx; cases hy
    obtain ⟨rfl, hk⟩ := h
    refine ⟨_, _, ?_, .b _, hk⟩
    rw [run_bin_i _ _ _ _ _ _ (by simp) (by simp)]
    simp [Op.intCmp, bne, ← Bool.beq_eq_decide_eq] <;> rfl
  case h_12 | h_13 =>
    cases hx; cases hy
    obtain ⟨hb, hk⟩ := h
    refine ⟨_, _, ?_, .i _ _, hk⟩
    simp only [Sem.run_bind, run_eqGuard_i, Result.andThen_ok, binOp, Op.shift]
    rw [if_neg (by omega)]
    rfl
  case h_14 =>
    cases hx; cases hy
    obtain ⟨h1, h2⟩ := h
    refine ⟨_, _, ?_, .s _, h2⟩
    rw [run_bin_s, ← append_mk]
    simp only [Op.stringOp, Sem.run_ite, size_mk]
    rw [if_neg]
    · rfl
    · simp [IntKind.max, IntKind.bits, IntKind.signed]; omega
  case h_21 | h_22 =>
    cases hx; cases hy
    obtain ⟨ht, hk⟩ := h
    refine ⟨_, _, ?_, .b _, hk⟩
    unfold boB at ht
    split at ht
    · rename_i hu
      simp only [Sem.run_bind, eqGuard, binOp]
      simp
      rw [run_equal_bool w t _ _ hu]
      rfl
    · cases ht
  case h_23 | h_24 =>
    obtain ⟨ht, hv, hr, hk⟩ := h
    obtain rfl := isNil_eq hv
    cases hy
    unfold slB at ht
    split at ht
    case h_2 => cases ht
    rename_i hu
    refine ⟨_, _, ?_, .b _, hk⟩
    cases hx
    · exact absurd rfl hr
    · simp only [Sem.run_bind, eqGuard, binOp]
      simp
      rw [run_equal_sl w t _ _ _ _ hu]
      rfl
  case h_25 | h_26 =>
    obtain ⟨ht, hu', hv, hk⟩ := h
    obtain rfl := isNil_eq hv
    obtain rfl := isNil_eq hu'
    cases hy; cases hx
    unfold slB at ht
    split at ht
    case h_2 => cases ht
    rename_i hu
    refine ⟨_, _, ?_, .b _, hk⟩
    simp only [Sem.run_bind, eqGuard, binOp]
    simp
    rw [run_equal_sl w t _ _ _ _ hu]
    rfl
  all_goals
    cases hx; cases hy
    refine ⟨_, _, ?_, .b _, h⟩
    rw [run_bin_s]
    simp only [Op.stringOp, toList_mk, Sem.run_pure, ← Bool.beq_eq_decide_eq]
def eqB : List (Nat × Nat) → List V → List V → Option Bool
  | [], _, _ => some true
  | (o, k) :: r, xs, ys =>
    match xs[o]?, ys[o]?, eqB r xs ys with
    | some (.d (.i j a)), some (.d (.i j' b)), some t => if k = 0 ∧ j = j' then some (decide (a = b) && t) else none
    | some (.d (.s a)), some (.d (.s b)), some t => if k = 1 then some (decide (a = b) && t) else none
    | some (.d (.b a)), some (.d (.b b)), some t => if k = 2 then some ((a == b) && t) else none
    | _, _, _ => none
theorem part_run {P : Program} {t : TypeId} {cs : Array Value} {off : Nat} {v : Value} (w : World) (ha : agB P t = some false) (hv : cs[off]? = some v) : (part t cs off).run P w = .ok v w := by
  simp [part, run_isAgg ha w, hv]
theorem fek_agg {P : Program} {t : TypeId} {k : Nat} (h : fek P t = some k) : agB P t = some false := by
  unfold fek at h
  unfold agB
  split at h <;> first | (rename_i hu; rw [hu]; rfl) | cases h
theorem eqB_run {P : Program} {w : World} {o : Nat → Prop} {H : Heap} {σ : Conc} {xs ys : List V} {vx vy : Array Value}
    (hx : ∀ (j : Nat) (c : V) (v : Value), xs[j]? = some c → vx[j]? = some v → VRel w o H σ c v) (hlx : xs.length = vx.size)
    (hy : ∀ (j : Nat) (c : V) (v : Value), ys[j]? = some c → vy[j]? = some v → VRel w o H σ c v) (hly : ys.length = vy.size) (d : Nat) :
    ∀ (fs : List Field) (l : List (Nat × Nat)) (t : Bool), fkS P fs = some l → eqB l xs ys = some t → (Op.eqFields (d + 1) vx vy fs).run P w = .ok t w
  | [], l, t, hf, he => by
    simp only [fkS, Option.some.injEq] at hf
    subst hf
    simp only [eqB, Option.some.injEq] at he
    subst he
    simp [Op.eqFields]
  | f :: fs, l, t, hf, he => by
    unfold fkS at hf
    split at hf
    case isFalse => cases hf
    rename_i hname
    split at hf
    case h_2 => cases hf
    rename_i k r hk hr
    simp only [Option.some.injEq] at hf
    subst hf
    have get : ∀ {zs : List V} {vz : Array Value} {c : V} (_ : ∀ (j : Nat) (c : V) (v : Value), zs[j]? = some c → vz[j]? = some v → VRel w o H σ c v) (_ : zs.length = vz.size), zs[f.offset]? = some c → ∃ v, vz[f.offset]? = some v ∧ VRel w o H σ c v := by
      intro zs vz c hz hl hc
      have hlt : f.offset < vz.size := by
        have := (List.getElem?_eq_some_iff.1 hc).1
        omega
      exact ⟨vz[f.offset], by simp [hlt], hz f.offset c _ hc (by simp [hlt])⟩
    have hag := fek_agg hk
    unfold eqB at he
    split at he
    case h_4 => cases he
    all_goals
      rename_i e1 e2 e3
      split at he
      case isFalse => cases he
      rename_i hkk
      simp only [Option.some.injEq] at he
      subst he
      obtain ⟨a, ha, hva⟩ := get hx hlx e1
      obtain ⟨b, hb, hvb⟩ := get hy hly e2
      have hva := hva.inv_d
      have hvb := hvb.inv_d
      cases hva; cases hvb
      have ih := eqB_run hx hlx hy hly d fs r _ hr e3
      unfold Op.eqFields
      rw [if_pos hname]
      simp only [Sem.run_bind, part_run w hag ha, part_run w hag hb, Result.andThen_ok]
    · obtain ⟨rfl, rfl⟩ := hkk
      unfold fek at hk
      split at hk <;> first | cases hk | skip
      rename_i hu
      rw [run_equalIn_int w d f.type _ _ _ _ hu]
      simp only [Result.andThen_ok, Sem.run_ite, ih]
      simp
      split <;> simp_all
    · subst hkk
      unfold fek at hk
      split at hk <;> first | cases hk | skip
      rename_i hu
      rw [run_equalIn_string w d f.type _ _ hu]
      simp only [Result.andThen_ok, Sem.run_ite, ih, toList_mk]
      simp
      split <;> simp_all
    · subst hkk
      unfold fek at hk
      split at hk <;> first | cases hk | skip
      rename_i hu
      rw [run_equalIn_bool' w d f.type _ _ hu]
      simp only [Result.andThen_ok, Sem.run_ite, ih]
      simp
      split <;> simp_all
def vcBin (P : Program) (op : BinOp) (t : TypeId) (x y : V) (K : V → Prop) : Prop :=
  match x, y with
  | .d (.sl _ rows), .d (.c v) => slB P t = true ∧ isNil v = true ∧ (match op with
    | .eql => (match rows with | [] => K .ab | _ :: _ => K (.d (.b false)))
    | .neq => (match rows with | [] => K .ab | _ :: _ => K (.d (.b true)))
    | _ => False)
  | .d a, .d b => binD P t op a b fun r => K (.d r)
  | .ag xs, .ag ys =>
    match op, feI P t with
    | .eql, some l => (match eqB l xs ys with | some t => K (.d (.b t)) | none => False)
    | .neq, some l => (match eqB l xs ys with | some t => K (.d (.b (!t))) | none => False)
    | _, _ => False
  | _, _ => False
theorem vcBin_run {P : Program} {op : BinOp} {t : TypeId} {x y : V} {K : V → Prop} {w : World} {o : Nat → Prop} {H : Heap} {σ : Conc} {ox oy : Operand} {vx vy : Value} (h : vcBin P op t x y K)
    (hx : VRel w o H σ x vx) (hy : VRel w o H σ y vy) :
    ∃ r val, (do eqGuard op t ox oy vx vy; binOp op t vx vy : Sem Value).run P w = .ok val w ∧ VRel w o H σ r val ∧ K r := by
  unfold vcBin at h
  split at h
  · rename_i sz rows u
    obtain ⟨hs, hn, h⟩ := h
    obtain ⟨a, cap, rfl, ha⟩ := hx.inv_d.inv_sl
    obtain rfl := isNil_eq hn
    obtain rfl := hy.inv_d.inv_c
    unfold slB at hs
    split at hs
    case h_2 => cases hs
    rename_i el hu
    have hne : rows ≠ [] → a.isNone = false := fun hr => by
      obtain ⟨b, off, f, rfl, _⟩ := ha hr
      rfl
    split at h
    · cases rows with
      | nil =>
        refine ⟨.ab, .bool (a.isNone), ?_, .ab _, h⟩
        simp only [Sem.run_bind, eqGuard, binOp]
        simp
        rw [run_equal_sl w t el a _ _ hu]
        first | rfl | simp
      | cons r rs =>
        have ha0 := hne (by simp)
        refine ⟨.d (.b false), .bool (a.isNone), ?_, by rw [ha0]; exact .d _ _ (.b _), h⟩
        simp only [Sem.run_bind, eqGuard, binOp]
        simp
        rw [run_equal_sl w t el a _ _ hu]
        first | rfl | simp
    · cases rows with
      | nil =>
        refine ⟨.ab, .bool (!a.isNone), ?_, .ab _, h⟩
        simp only [Sem.run_bind, eqGuard, binOp]
        simp
        rw [run_equal_sl w t el a _ _ hu]
        first | rfl | simp
      | cons r rs =>
        have ha0 := hne (by simp)
        refine ⟨.d (.b true), .bool (!a.isNone), ?_, by rw [ha0]; exact .d _ _ (.b _), h⟩
        simp only [Sem.run_bind, eqGuard, binOp]
        simp
        rw [run_equal_sl w t el a _ _ hu]
        first | rfl | simp
    · exact h.elim
  · have hx := hx.inv_d
    have hy := hy.inv_d
    obtain ⟨r, val, h1, h2, h3⟩ := binD_run (ox := ox) (oy := oy) h hx hy
    exact ⟨.d r, val, h1, .d _ _ h2, h3⟩
  · obtain ⟨vsx, rfl, hlx, hx⟩ := hx.inv_ag
    obtain ⟨vsy, rfl, hly, hy⟩ := hy.inv_ag
    split at h
    case h_3 => exact h.elim
    all_goals
      rename_i l hl
      split at h
      case h_2 => exact h.elim
      rename_i b hb
      refine ⟨_, _, ?_, .d _ _ (.b _), h⟩
      unfold feI at hl
      split at hl
      case h_2 => cases hl
      rename_i fs hu
      split at hl
      case isFalse => cases hl
      rename_i hc
      have hfs : P.fieldsOf t = fs := by simp [Program.fieldsOf, hu]
      have he := eqB_run hx hlx hy hly 9998 fs.toList l b hl hb
      have hst := run_equalIn_agg (P := P) w 9999 t vsx vsy (by rw [hfs]; exact hu) hc.1
      rw [hfs, he] at hst
      simp only [Sem.run_bind, run_eqGuard_agg w _ t ox oy vsx vsy hc.2, Result.andThen_ok]
    · rw [run_eql_struct, hst]; rfl
    · rw [run_neq_struct, hst]; rfl
  · exact h.elim
def vcBinW (op : BinOp) (x y : V) (K : V → Prop) : Prop :=
  match op, x, y with
  | .add, .d (.i k a), .d (.i k' b) => k = k' ∧ K (.d (.i k (k.wrap (a + b))))
  | .sub, .d (.i k a), .d (.i k' b) => k = k' ∧ K (.d (.i k (k.wrap (a - b))))
  | .mul, .d (.i k a), .d (.i k' b) => k = k' ∧ K (.d (.i k (k.wrap (a * b))))
  | _, _, _ => False
theorem vcBinW_run {P : Program} {op : BinOp} {t : TypeId} {x y : V} {K : V → Prop} {w : World} {o : Nat → Prop} {H : Heap} {σ : Conc} {ox oy : Operand} {vx vy : Value} (h : vcBinW op x y K)
    (hx : VRel w o H σ x vx) (hy : VRel w o H σ y vy) :
    ∃ r val, (do eqGuard op t ox oy vx vy; binOp op t vx vy : Sem Value).run P w = .ok val w ∧ VRel w o H σ r val ∧ K r := by
  unfold vcBinW at h
  split at h
  case h_4 => exact h.elim
  all_goals
    obtain ⟨rfl, hk⟩ := h
    obtain rfl := hx.inv_d.inv_i
    obtain rfl := hy.inv_d.inv_i
    refine ⟨_, _, ?_, .d _ _ (.i _ _), hk⟩
    rw [run_bin_i (P := P) ox oy _ _ _ w (by decide) (by decide)]
    rfl
def vcUn (op : UnOp) (x : V) (K : V → Prop) : Prop :=
  match op, x with
  | .not, .d (.b t) => K (.d (.b (!t)))
  | .neg, .d (.i k n) => inR k (0 - n) ∧ K (.d (.i k (0 - n)))
  | _, _ => False
theorem vcUn_run {P : Program} {op : UnOp} {x : V} {K : V → Prop} {w : World} {o : Nat → Prop} {H : Heap} {σ : Conc} {vx : Value} (h : vcUn op x K) (hx : VRel w o H σ x vx) :
    ∃ r val, (Op.unary op vx).run P w = .ok val w ∧ VRel w o H σ r val ∧ K r := by
  unfold vcUn at h
  split at h
  · obtain rfl := hx.inv_d.inv_b
    exact ⟨_, _, rfl, .d _ _ (.b _), h⟩
  · obtain rfl := hx.inv_d.inv_i
    refine ⟨_, _, ?_, .d _ _ (.i _ _), h.2⟩
    simp only [Op.unary, Op.intArith, Sem.run_pure, wrap_inR h.1]
  · exact h.elim
def inI (P : Program) (t : TypeId) : Option IntKind := match P.underlying t with | some (.int k) => some k | _ => none
def vcConv (P : Program) (_src dst : TypeId) (x : V) (K : V → Prop) : Prop :=
  match x with
  | .d (.i _ n) => (match inI P dst with | some k => K (.d (.i k (k.wrap n))) | none => False)
  | .d (.s l) => stB P dst = true ∧ K (.d (.s l))
  | _ => False
theorem vcConv_run {P : Program} {src dst : TypeId} {x : V} {K : V → Prop} {w : World} {o : Nat → Prop} {H : Heap} {σ : Conc} {vx : Value} (hs : (P.underlying src).isSome = true) (h : vcConv P src dst x K) (hx : VRel w o H σ x vx) :
    ∃ r val, (convert src dst vx).run P w = .ok val w ∧ VRel w o H σ r val ∧ K r := by
  obtain ⟨ds, hsrc⟩ := Option.isSome_iff_exists.1 hs
  unfold vcConv at h
  split at h
  · obtain rfl := hx.inv_d.inv_i
    unfold inI at h
    split at h
    · rename_i k hk
      split at hk
      · rename_i k' hu
        obtain rfl : k' = k := Option.some.inj hk
        refine ⟨_, _, ?_, .d _ _ (.i _ _), h⟩
        simp only [convert, Sem.run_bind, run_underlying hsrc, run_underlying hu, Result.andThen_ok, Conv.intToInt, Sem.run_pure]
      · cases hk
    · exact h.elim
  · obtain rfl := hx.inv_d.inv_s
    obtain ⟨ht, hk⟩ := h
    unfold stB at ht
    split at ht
    · rename_i hu
      refine ⟨_, _, ?_, .d _ _ (.s _), hk⟩
      simp only [convert, Sem.run_bind, run_underlying hsrc, run_underlying hu, Result.andThen_ok, Sem.run_pure]
    · cases ht
  · exact h.elim
def vcCells (P : Program) (t : TypeId) (cs : List V) (K : V → Prop) : Prop :=
  match agB P t with
  | some false => (match cs with | x :: _ => K x | [] => False)
  | some true => (match szI P t with | some z => z ≤ cs.length ∧ K (.ag (cs.take z)) | none => False)
  | none => False
theorem loadVar_run {P : Program} {t : TypeId} {cs : List V} {K : V → Prop} {w : World} {o : Nat → Prop} {H : Heap} {σ : Conc} {b off : Nat} (h : vcCells P t cs K)
    (hc : ∀ (j : Nat) (c : V), cs[j]? = some c → ∃ v, w.cell? ⟨b, off + j, none⟩ = some v ∧ VRel w o H σ c v) :
    ∃ r val, (loadVar t ⟨b, off, none⟩).run P w = .ok val w ∧ VRel w o H σ r val ∧ K r := by
  unfold vcCells at h
  split at h
  · rename_i ha
    split at h
    · rename_i x rest
      obtain ⟨v, hv, hr⟩ := hc 0 x rfl
      refine ⟨x, v, ?_, hr, h⟩
      simp only [Nat.add_zero] at hv
      simp [loadVar, run_isAgg ha w, hv]
    · exact h.elim
  · rename_i ha
    split at h
    · rename_i z hz
      obtain ⟨hle, hk⟩ := h
      have hg : ∀ j, j < z → ∃ v, w.cell? ⟨b, off + j, none⟩ = some v ∧ ∀ c, cs[j]? = some c → VRel w o H σ c v := fun j hj => by
        have hlt : j < cs.length := by omega
        obtain ⟨v, h1, h2⟩ := hc j cs[j] (by simp [hlt])
        exact ⟨v, h1, fun c hcc => by
          have : c = cs[j] := by simpa [hlt] using hcc.symm
          exact this ▸ h2⟩
      let f : Nat → Value := fun j => (w.cell? ⟨b, off + j, none⟩).getD undef
      have hl := run_loadCells (P := P) w ⟨b, off, none⟩ z f (fun j hj => by
        rw [Addr.add_lit]
        obtain ⟨v, h1, _⟩ := hg j hj
        simp only [f, h1, Option.getD_some])
      refine ⟨_, _, ?_, .ag _ ((List.range z).map f).toArray ?_ ?_, hk⟩
      · simp [loadVar, run_isAgg ha w, run_sizeOf hz w, hl]
      · simp; omega
      · intro j c v hj hv
        have hjz : j < z := by
          have := (Array.getElem?_eq_some_iff.1 hv).1
          simpa using this
        obtain ⟨u, h1, h2⟩ := hg j hjz
        have hvu : v = u := by
          simp [hjz, f, h1] at hv
          exact hv.symm
        subst hvu
        refine h2 c ?_
        rw [List.getElem?_take] at hj
        rw [if_pos hjz] at hj
        exact hj
    · exact h.elim
  · exact h.elim
def vcLoad (P : Program) (t : TypeId) (a : V) (H : Heap) (K : V → Prop) : Prop :=
  match a with
  | .rp row => vcCells P t (row.map .d) K
  | .pt id ver i c =>
    (match H[id]? with
    | some (.row ver' _ _ rows) => ver = ver' ∧ i < rows.length ∧ ∀ r, rows[i]? = some r → vcCells P t (r.drop c) K
    | _ => False)
  | _ => False
theorem vcLoad_run {P : Program} {t : TypeId} {a : V} {K : V → Prop} {w : World} {H : Heap} {σ : Conc} {va : Value} (h : vcLoad P t a H K) (hw : WOk w H σ) (ha : VRel w (Own H σ) H σ a va) :
    ∃ r val, (Instr.loadAt t va).run P w = .ok val w ∧ VRel w (Own H σ) H σ r val ∧ K r := by
  unfold vcLoad at h
  split at h
  · obtain ⟨b, off, f, rfl, _, _, hc, hd⟩ := ha.inv_rp
    have := loadVar_run (H := H) (σ := σ) (b := b) (off := off) h (fun j c hj => by
      rw [List.getElem?_map] at hj
      cases hr : (‹List D›)[j]? with
      | none => rw [hr] at hj; cases hj
      | some x =>
        rw [hr] at hj
        obtain rfl : V.d x = c := by simpa using hj
        exact ⟨f j, hc j x hr, .d _ _ (hd j x hr)⟩)
    simpa [Instr.loadAt, Instr.sureAddr] using this
  · rename_i id ver i c
    split at h
    · rename_i ver' e sz rows hr
      obtain ⟨rfl, hi, h⟩ := h
      obtain ⟨_, hv⟩ := ha.inv_pt hr
      obtain ⟨g, cap, hs, rfl⟩ := hv rfl
      rcases hw.objs hr (ha.nz_pt hr) with ⟨⟨_, hn⟩, _⟩ | ⟨g', cap', cur, hg, hh, _, _, _, hrow, hcell⟩
      · rw [hn] at hs; cases hs
      · rw [hg] at hs
        cases hs
        have hri : rows[i]? = some rows[i] := by simp [hi]
        have := loadVar_run (H := H) (σ := σ) (b := g) (off := i * sz + c) (h _ hri) (fun j x hj => by
          rw [List.getElem?_drop] at hj
          obtain ⟨cv, h1, _, h2⟩ := hcell i (c + j) _ x hri hj
          refine ⟨cv, ?_, h2⟩
          rw [cell_of_row w g _ cur e (0, 0) hh, ← h1, Nat.add_assoc])
        simpa [Instr.loadAt, Instr.sureAddr] using this
    · exact h.elim
  · exact h.elim
end Go.Proofs.YtmhabdopcbokoaaDoor.Ab
