/- One operation, a region, a piece of code, a call, over the abstract reading: what is asked, and that the model then does so. No condition. -/
import Derived.Test.YtmhabdopcbokoaaDoorR7
import Derived.StillTail
import Derived.Lib.UnsafeStr
import Derived.Lib.AppendZerosOnto
set_option linter.all false
set_option linter.unusedSimpArgs false
set_option linter.unusedVariables false
namespace Go.Proofs.YtmhabdopcbokoaaDoor.Ab
open Go
variable [Glo]
section
variable {P : Program} {w : World} {H : Heap} {σ : Conc}
def vcMake (P : Program) (t : TypeId) (l c : V) (H : Heap) (K : V → Heap → Prop) : Prop :=
  match l, c, slI P t with
  | .d (.i _ n), .d (.i _ m), some (e, z, bytes) =>
    (match zrI P e with
    | some ds => 0 ≤ n ∧ n ≤ m ∧ (bytes : Int) * m ≤ 281474976710656 ∧ m ≤ 9223372036854775807 ∧ K (.os H.length 0) (H ++ [.row 0 e z (List.replicate n.toNat (ds.map .d))])
    | none => False)
  | _, _, _ => False
theorem madeCells_get (z : Array Value) (n i j : Nat) (hj : j < z.size) (hi : i * z.size + j < n) : (madeCells z n)[i * z.size + j]? = z[j]? := by
  have hmod : (i * z.size + j) % z.size = j := by
    rw [Nat.mul_comm, Nat.mul_add_mod]
    exact Nat.mod_eq_of_lt hj
  simp [madeCells, hi, hmod, hj]
theorem vcMake_run {t : TypeId} {l c : V} {K : V → Heap → Prop} {vl vc : Value} (h : vcMake P t l c H K) (hw : WOk w H σ) (hl : VRel w (Own H σ) H σ l vl) (hc : VRel w (Own H σ) H σ c vc) :
    ∃ v val w' H' σ', (Instr.makeSlice t vl vc).run P w = .ok val w' ∧ Pres w H σ w' H' σ' ∧ WOk w' H' σ' ∧ VRel w' (Own H' σ') H' σ' v val ∧ K v H' := by
  unfold vcMake at h
  split at h
  case h_2 => exact h.elim
  rename_i k n k' m e z bytes hs
  split at h
  case h_2 => exact h.elim
  rename_i ds hds
  obtain ⟨h0, hnm, hb, h63, hk⟩ := h
  obtain rfl := hl.inv_d.inv_i
  obtain rfl := hc.inv_d.inv_i
  obtain ⟨hu, hz0, i, zv, hi, hzv, hsize, hby, hzs⟩ := slI_spec hs
  obtain ⟨i', zv', hne0, hi', hzv', hsz, hrel⟩ := zrI_spec hds
  rw [hi] at hi'
  obtain rfl := Option.some.inj hi'
  rw [hzv] at hzv'
  obtain rfl := Option.some.inj hzv'
  have hr := run_make (P := P) w t e i zv hu hi hzv k k' n m h0 hnm (by rw [hby]; exact hb) h63
  rw [hsize] at hr
  have hup := hw.push (w' := w.alloc (.cells (madeCells zv.cells (m.toNat * z)) e)) (ver := 0) (e := e) (sz := z) (rows := List.replicate n.toNat (ds.map V.d)) (c := .blk w.heap.size m.toNat) rfl rfl (OutSame.alloc w _ _) (by simp)
    (fun k hk => RowKit.Below.heap_alloc w _ k hk) (fun g cap hc => by cases hc; exact Nat.le_refl _)
    (.inr <| .inl ⟨w.heap.size, m.toNat, _, rfl, Go.heap_alloc_new w _, by simp; omega, by simp only [maxLen]; omega, size_madeCells _ _, (fun i row hi => by
      rw [List.getElem?_replicate] at hi
      split at hi
      · cases hi; simp; omega
      · cases hi), fun i j row v hi hj => by
      rw [List.getElem?_replicate] at hi
      split at hi
      · rename_i hin
        cases hi
        rw [List.getElem?_map] at hj
        cases hd : ds[j]? with
        | none => rw [hd] at hj; cases hj
        | some x =>
          rw [hd] at hj
          obtain rfl : V.d x = v := by simpa using hj
          obtain ⟨u, hu', hr'⟩ := hrel j x hd
          have hjz : j < zv.cells.size := (Array.getElem?_eq_some_iff.1 hu').1
          have hle : (i + 1) * z ≤ m.toNat * z := Nat.mul_le_mul_right _ (by omega)
          rw [Nat.add_mul, Nat.one_mul] at hle
          refine ⟨u, ?_, (hr' w (fun _ => False)).one, .d _ _ (hr' _ _)⟩
          rw [← hu', ← hzs]
          exact madeCells_get zv.cells _ i j hjz (by rw [hzs]; omega)
      · cases hi⟩)
  refine ⟨_, _, _, _, _, hr, hup.1, hup.2, .os _ _ _ (by simp) fun v1 e1 s1 r1 hr1 => ?_, hk⟩
  rw [List.getElem?_append_right (Nat.le_refl _)] at hr1
  simp at hr1
  obtain ⟨rfl, rfl, rfl, rfl⟩ := hr1
  exact ⟨Nat.le_refl _, fun _ => ⟨by omega, by simp [Conc.put, slv]⟩⟩
def numOf : V → Option Int
  | .d (.i _ n) => some n
  | _ => none
def vcAppN (P : Program) (own : Bool) (t t' : TypeId) (s : V) (n : Int) (H : Heap) (K : V → Heap → Prop) : Prop :=
  match s, slI P t, inI P t' with
  | .d (.c v), some (e, z, bytes), some _ => own = true ∧ isNil v = true ∧
    (match zrI P e with
    | some ds => 0 < n ∧ n ≤ 9223372036854775807 ∧ (bytes : Int) * n ≤ 140737488355328 ∧ K (.os H.length 0) (H ++ [.row 0 e z (List.replicate n.toNat (ds.map .d))])
    | none => False)
  | _, _, _ => False
theorem zeroCells_get (z : Array Value) (n i j : Nat) (hj : j < z.size) (hi : i < n) : (Builtin.zeroCells z n)[i * z.size + j]? = z[j]? := by
  have hmod : (i * z.size + j) % z.size = j := by
    rw [Nat.mul_comm, Nat.mul_add_mod]
    exact Nat.mod_eq_of_lt hj
  have hle : (i + 1) * z.size ≤ n * z.size := Nat.mul_le_mul_right _ (by omega)
  rw [Nat.add_mul, Nat.one_mul] at hle
  have hlt : i * z.size + j < n * z.size := by omega
  simp [Builtin.zeroCells, hlt, hmod, hj]
theorem inI_get {t : TypeId} {k : IntKind} (h : inI P t = some k) : ∃ k, P.underlying t = some (.int k) := by
  unfold inI at h
  split at h
  · exact ⟨_, by assumption⟩
  · cases h
theorem vcAppN_run {own : Bool} {t t' ty : TypeId} {s : V} {kq : IntKind} {n : Int} {K : V → Heap → Prop} {vs : Value} (h : vcAppN P own t t' s n H K) (hw : WOk w H σ) (hs : VRel w (Own H σ) H σ s vs) :
    ∃ v val w' H' σ', (Builtin.append_ #[t, t'] ty #[vs, .int kq n]).run P w = .ok val w' ∧ Pres w H σ w' H' σ' ∧ WOk w' H' σ' ∧ VRel w' (Own H' σ') H' σ' v val ∧ K v H' := by
  unfold vcAppN at h
  split at h
  case h_2 => exact h.elim
  rename_i v e z bytes kk hsl hin
  obtain ⟨_, hn, h⟩ := h
  split at h
  case h_2 => exact h.elim
  rename_i ds hds
  obtain ⟨h0, h63, hb, hk⟩ := h
  obtain rfl := isNil_eq hn
  obtain rfl := hs.inv_d.inv_c
  obtain ⟨kn, hkn⟩ := inI_get hin
  obtain ⟨hu, hz0, i, zv, hi, hzv, hsize, hby, hzs⟩ := slI_spec hsl
  obtain ⟨i', zv', hne0, hi', hzv', hsz, hrel⟩ := zrI_spec hds
  rw [hi] at hi'
  obtain rfl := Option.some.inj hi'
  rw [hzv] at hzv'
  obtain rfl := Option.some.inj hzv'
  obtain ⟨m, rfl⟩ : ∃ m : Nat, n = m := ⟨n.toNat, by omega⟩
  have hbm : m * bytes ≤ 140737488355328 := by
    have h : ((bytes * m : Nat) : Int) ≤ 140737488355328 := by rw [Int.natCast_mul]; exact hb
    rw [Nat.mul_comm]
    omega
  have hnx : Builtin.nextslicecap (0 + m) 0 = m := by
    unfold Builtin.nextslicecap
    rw [if_pos (by omega)]
    omega
  have hr := Lib.run_append_grow_zeros (P := P) w t t' ty e i zv kq kn hu hkn hi hzv none 0 0 [] (by simp [Builtin.firstCells]) m (by omega) (by omega) (by omega) (by omega) (by rw [hby]; omega) (by rw [hnx, hby]; omega)
  have hge := grownCap_ge w (0 + m) 0 e
  have hle := grownCap_le_maxLen w (0 + m) 0 e (by simp only [maxLen]; omega)
  generalize grownCap w (0 + m) 0 e = cap at hr hge hle
  simp only [Nat.zero_add, List.size_toArray, List.length_nil, Int.toNat_natCast] at hr hge hk
  have hup := hw.push (w' := w.drew.alloc (.cells (#[] ++ Builtin.zeroCells zv.cells m ++ Builtin.zeroCells zv.cells (cap - m)) e)) (ver := 0) (e := e) (sz := z) (rows := List.replicate m (ds.map V.d)) (c := .blk w.heap.size cap) rfl rfl (OutSame.alloc w.drew _ _) (by simp)
    (fun k hk => RowKit.Below.heap_alloc w.drew _ k hk) (fun g cap hc => by cases hc; exact Nat.le_refl _)
    (.inr <| .inl ⟨w.heap.size, cap, _, rfl, Go.heap_alloc_new w.drew _, by simp; omega, hle, by
      simp only [Array.size_append, size_zeroCells, hzs]
      simp
      rw [← Nat.add_mul]
      congr 1
      omega, (fun i row hi => by
      rw [List.getElem?_replicate] at hi
      split at hi
      · cases hi; simp; omega
      · cases hi), fun i j row v hi hj => by
      rw [List.getElem?_replicate] at hi
      split at hi
      · rename_i hin
        cases hi
        rw [List.getElem?_map] at hj
        cases hd : ds[j]? with
        | none => rw [hd] at hj; cases hj
        | some x =>
          rw [hd] at hj
          obtain rfl : V.d x = v := by simpa using hj
          obtain ⟨u, hu', hr'⟩ := hrel j x hd
          have hjz : j < zv.cells.size := (Array.getElem?_eq_some_iff.1 hu').1
          have hle : (i + 1) * z ≤ m * z := Nat.mul_le_mul_right _ (by omega)
          rw [Nat.add_mul, Nat.one_mul] at hle
          refine ⟨u, ?_, (hr' w (fun _ => False)).one, .d _ _ (hr' _ _)⟩
          rw [← hu', ← hzs]
          rw [Array.getElem?_append_left (by simp only [Array.size_append, size_zeroCells, hzs]; simp; rw [hzs] at hjz; omega)]
          simp only [Array.empty_append]
          exact zeroCells_get zv.cells _ i j hjz hin
      · cases hi⟩)
  refine ⟨_, _, _, _, _, hr, hup.1, hup.2, .os _ _ _ (by simp) fun v1 e1 s1 r1 hr1 => ?_, hk⟩
  rw [List.getElem?_append_right (Nat.le_refl _)] at hr1
  simp at hr1
  obtain ⟨rfl, rfl, rfl, rfl⟩ := hr1
  exact ⟨Nat.le_refl _, fun _ => ⟨by omega, by simp [Conc.put, slv]⟩⟩
theorem numOf_eq {v : V} {n : Int} (h : numOf v = some n) : ∃ k, v = .d (.i k n) := by
  unfold numOf at h
  split at h
  · cases h; exact ⟨_, rfl⟩
  · cases h
theorem numOf_i (k : IntKind) (n : Int) : numOf (.d (.i k n)) = some n := rfl
theorem numOf_s (l : List UInt8) : numOf (.d (.s l)) = none := rfl
theorem numOf_sl (z : Nat) (l : List (List D)) : numOf (.d (.sl z l)) = none := rfl
theorem numOf_c (v : Value) : numOf (.d (.c v)) = none := rfl
theorem numOf_os (i v : Nat) : numOf (.os i v) = none := rfl
theorem numOf_em : numOf .em = none := rfl
theorem numOf_vw (a b c : Nat) : numOf (.vw a b c) = none := rfl
end
inductive Lk {α : Type} (a : α) : Type where
  | mk : Lk a
def lk {α : Type} (a : α) (_ : Lk a) : α := a
theorem lk1 {α β : Type} (K : α → β) (u : Lk K) (x : α) : lk K u x = K x := Eq.trans rfl rfl
theorem lk2 {α β γ : Type} (K : α → β → γ) (u : Lk K) (x : α) (y : β) : lk K u x y = K x y := Eq.trans rfl rfl
theorem lk3 {α β γ δ : Type} (K : α → β → γ → δ) (u : Lk K) (x : α) (y : β) (z : γ) : lk K u x y z = K x y z := Eq.trans rfl rfl
def ACalls (P : Program) (f : Nat) (vs : List V) (H : Heap) (K : V → Heap → Prop) : Prop :=
  ∀ (w : World) (σ : Conc) (args : Array Value), WOk w H σ → vs.length = args.size → (∀ (j : Nat) (v : V) (u : Value), vs[j]? = some v → args[j]? = some u → VRel w (Own H σ) H σ v u) →
    Calls P f args w fun e w' => ∃ val v H' σ', e = .returned val ∧ K v H' ∧ VRel w' (Own H' σ') H' σ' v val ∧ WOk w' H' σ' ∧ Pres w H σ w' H' σ'
def hasBody (P : Program) (f : Nat) : Bool := match P.funcs[f]? with | some fn => fn.name != "runtime.NumGoroutine" && fn.body.isSome | none => false
theorem run_callFunc {P : Program} {f : Nat} (h : hasBody P f = true) (args : Array Value) (w : World) : (callFunc f args).run P w = .ok (.enter f args) w := by
  unfold hasBody at h
  split at h
  · rename_i fn hf
    simp only [Bool.and_eq_true, bne_iff_ne, ne_eq] at h
    obtain ⟨h1, h2⟩ := h
    have h3 : fn.body.isNone = false := by cases hb : fn.body <;> simp_all
    simp only [callFunc, Sem.run_bind, run_program, Result.andThen_ok, hf]
    rw [if_neg (by simpa using h1), if_neg (by simp [h3])]
    rfl
  · cases h
def onB (t : Bool) (A B : Prop) : Prop := (t = true → A) ∧ (t = false → B)
theorem onB_true (A B : Prop) : onB true A B = A := by simp [onB]
theorem onB_false (A B : Prop) : onB false A B = B := by simp [onB]
theorem onB_dec (p : Prop) [Decidable p] (A B : Prop) : onB (decide p) A B = ((p → A) ∧ (¬ p → B)) := by simp [onB]
theorem onB_ndec (p : Prop) [Decidable p] (A B : Prop) : onB (!decide p) A B = ((¬ p → A) ∧ (p → B)) := by simp [onB]
theorem onB_not (t : Bool) (A B : Prop) : onB (!t) A B = onB t B A := by cases t <;> simp [onB]
theorem onB_and (s t : Bool) (A B : Prop) : onB (s && t) A B = onB s (onB t A B) B := by cases s <;> simp [onB]
theorem onB_or (s t : Bool) (A B : Prop) : onB (s || t) A B = onB s A (onB t A B) := by cases s <;> simp [onB]
theorem onB_kT {t : Bool} {A B : Prop} (h : t = true) : onB t A B = A := by subst h; simp [onB]
theorem onB_kF {t : Bool} {A B : Prop} (h : t = false) : onB t A B = B := by subst h; simp [onB]
theorem onB_dT {p : Prop} [Decidable p] {A B : Prop} (h : p = True) : onB (decide p) A B = A := by subst h; simp [onB]
theorem onB_dF {p : Prop} [Decidable p] {A B : Prop} (h : p = False) : onB (decide p) A B = B := by subst h; simp [onB]
theorem onB_nT {p : Prop} [Decidable p] {A B : Prop} (h : p = True) : onB (!decide p) A B = B := by subst h; simp [onB]
theorem onB_nF {p : Prop} [Decidable p] {A B : Prop} (h : p = False) : onB (!decide p) A B = A := by subst h; simp [onB]
theorem onB_of {t : Bool} {A B : Prop} (h1 : t = true → A) (h2 : t = false → B) : onB t A B := ⟨h1, h2⟩
def evs (F : Frame) (xs : Array Operand) : List V := xs.toList.map (ev F)
def ptI (P : Program) (t : TypeId) : Option (TypeId × Nat) := match P.underlying t with | some (.pointer e) => some (e, P.cellsOf e) | _ => none
theorem ptI_spec {P : Program} {t e : TypeId} {c : Nat} (h : ptI P t = some (e, c)) : P.underlying t = some (.pointer e) ∧ P.cellsOf e = c := by
  unfold ptI at h
  split at h
  · cases h; exact ⟨by assumption, rfl⟩
  · cases h
def vcSData (P : Program) (ty : TypeId) (id ver : Nat) (H : Heap) (K : V → Prop) : Prop :=
  match ptI P ty, H[id]? with
  | some _, some (.row ver' _ _ _) => ver = ver' ∧ K (.sd id ver)
  | _, _ => False
theorem Pres.allocO (w : World) (H : Heap) (σ : Conc) (o : Obj) : Pres w H σ (w.alloc o) H σ :=
  ⟨rfl, rfl, rfl, by simp, fun b hb _ => RowKit.Below.heap_alloc w o b hb, fun _ _ h => h, Nat.le_refl _, fun _ v e sz rows _ h => ⟨v, e, sz, rows, h, Nat.le_refl _, fun _ => ⟨rfl, rfl, rfl⟩⟩⟩
theorem vcSData_run {P : Program} {w : World} {H : Heap} {σ : Conc} {ts : Array TypeId} {ty : TypeId} {id ver : Nat} {K : V → Prop} {vs : Value} (h : vcSData P ty id ver H K) (hw : WOk w H σ) (hs : VRel w (Own H σ) H σ (.os id ver) vs) :
    ∃ v val w', (Builtin.unsafeSliceData_ ts ty #[vs]).run P w = .ok val w' ∧ Pres w H σ w' H σ ∧ WOk w' H σ ∧ VRel w' (Own H σ) H σ v val ∧ K v := by
  unfold vcSData at h
  split at h
  case h_2 => exact h.elim
  rename_i ec ver' e sz rows hp hr
  obtain ⟨rfl, hk⟩ := h
  obtain ⟨pe, pc⟩ := ec
  obtain ⟨hpu, _⟩ := ptI_spec hp
  obtain ⟨_, hv⟩ := hs.inv_os hr
  have hv := hv rfl
  have hnz := hs.nz_os hr
  subst hv
  have hid := (List.getElem?_eq_some_iff.1 hr).1
  rcases hw.objs hr hnz with ⟨⟨a, hn⟩, hR⟩ | ⟨g, cap, cur, hg, hh, h3, h4, h5, h6, h7⟩
  · obtain rfl := hw.nil _ _ hn
    rw [hn]
    refine ⟨_, _, w, Lib.run_unsafeSliceData_nil (P := P) (w := w) ts ty 0 0, Pres.refl _ _ _, hw, .sd id ver _ hid fun v1 e1 s1 r1 hr1 => ?_, hk⟩
    rw [hr] at hr1
    cases hr1
    exact ⟨Nat.le_refl _, fun _ => ⟨hnz, fun g cap hg => by rw [hn] at hg; cases hg⟩⟩
  · rw [hg, slv_some]
    by_cases hc : cap = 0
    · subst hc
      have hrun := Lib.run_unsafeSliceData_zero (P := P) (w := w) ts ty pe hpu ⟨g, 0, none⟩ rows.length (e, cur.size) (by simp [World.shape?, hh])
      have p := Pres.allocO w H σ (.view ⟨g, 0, none⟩ pe)
      refine ⟨_, _, _, hrun, p, hw.same p fun b hb => RowKit.Below.heap_alloc w _ b (hw.lt hb), .sd id ver _ hid fun v1 e1 s1 r1 hr1 => ?_, hk⟩
      rw [hr] at hr1
      cases hr1
      exact ⟨Nat.le_refl _, fun _ => ⟨hnz, fun g' cap' hg' hne => by rw [hg] at hg'; cases hg'; omega⟩⟩
    · refine ⟨_, _, w, Lib.run_unsafeSliceData_row (P := P) (w := w) ts ty ⟨g, 0, none⟩ rows.length cap hc, Pres.refl _ _ _, hw, .sd id ver _ hid fun v1 e1 s1 r1 hr1 => ?_, hk⟩
      rw [hr] at hr1
      cases hr1
      exact ⟨Nat.le_refl _, fun _ => ⟨hnz, fun g' cap' hg' _ => by rw [hg] at hg'; cases hg'; rfl⟩⟩
def byteC (c : UInt8) : List V := [.d (.i .u8 c.toNat)]
def bytesOf : List (List V) → Option (List UInt8)
  | [] => some []
  | [.d (.i .u8 n)] :: r => if 0 ≤ n ∧ n ≤ 255 then (bytesOf r).map (fun l => UInt8.ofNat n.toNat :: l) else none
  | _ => none
theorem bytesOf_map (l : List UInt8) : bytesOf (l.map byteC) = some l := by
  induction l with
  | nil => rfl
  | cons c l ih =>
    have h1 : (0 : Int) ≤ c.toNat ∧ (c.toNat : Int) ≤ 255 := by have := c.toNat_lt; omega
    simp only [List.map_cons, byteC, bytesOf]
    rw [if_pos h1, show List.map byteC l = l.map byteC from rfl]
    rw [show (List.map byteC l) = List.map byteC l from rfl, ih]
    simp
theorem bytesOf_eq : ∀ {rows : List (List V)} {l : List UInt8}, bytesOf rows = some l → rows = l.map byteC
  | [], l, h => by simp [bytesOf] at h; subst h; rfl
  | [.d (.i .u8 n)] :: r, l, h => by
    unfold bytesOf at h
    split at h
    · rename_i hn
      cases hr : bytesOf r with
      | none => rw [hr] at h; cases h
      | some l' =>
        rw [hr] at h
        simp only [Option.map_some, Option.some.injEq] at h
        subst h
        rw [List.map_cons, bytesOf_eq hr]
        have : ((UInt8.ofNat n.toNat).toNat : Int) = n := by
          rw [UInt8.toNat_ofNat']
          omega
        simp only [byteC, this]
    · cases h
  | [] :: r, l, h => by simp [bytesOf] at h
  | (x :: y :: t) :: r, l, h => by cases x <;> simp [bytesOf] at h
  | [.top] :: r, l, h | [.un] :: r, l, h | [.ag _] :: r, l, h | [.tu _] :: r, l, h | [.os _ _] :: r, l, h | [.pt _ _ _ _] :: r, l, h | [.rp _] :: r, l, h | [.em] :: r, l, h | [.ab] :: r, l, h | [.fn _ _] :: r, l, h | [.vw _ _ _] :: r, l, h | [.sd _ _] :: r, l, h => by simp [bytesOf] at h
  | [.d (.b _)] :: r, l, h | [.d (.s _)] :: r, l, h | [.d (.c _)] :: r, l, h | [.d (.sl _ _)] :: r, l, h => by simp [bytesOf] at h
  | [.d (.i .i8 _)] :: r, l, h | [.d (.i .i16 _)] :: r, l, h | [.d (.i .i32 _)] :: r, l, h | [.d (.i .i64 _)] :: r, l, h | [.d (.i .u16 _)] :: r, l, h | [.d (.i .u32 _)] :: r, l, h | [.d (.i .u64 _)] :: r, l, h => by simp [bytesOf] at h
def vcUStr (P : Program) (t : TypeId) (id ver : Nat) (n : Int) (H : Heap) (K : V → Heap → Prop) : Prop :=
  match ptI P t, H[id]? with
  | some (e, 1), some (.row ver' e' 1 rows) => ver = ver' ∧ e = e' ∧ n = rows.length ∧ n ≤ 9223372036854775807 ∧ (match bytesOf rows with | some l => K (.d (.s l)) (H.set id .dead) | none => False)
  | _, _ => False
theorem vcUStr_run {P : Program} {w : World} {H : Heap} {σ : Conc} {t it ty : TypeId} {id ver : Nat} {n : Int} {k : IntKind} {K : V → Heap → Prop} {vp : Value} (h : vcUStr P t id ver n H K) (hk64 : k = .i64) (hw : WOk w H σ) (hs : VRel w (Own H σ) H σ (.sd id ver) vp) :
    ∃ v val w' H' σ', (Builtin.unsafeString_ #[t, it] ty #[vp, .int k n]).run P w = .ok val w' ∧ Pres w H σ w' H' σ' ∧ WOk w' H' σ' ∧ VRel w' (Own H' σ') H' σ' v val ∧ K v H' := by
  unfold vcUStr at h
  split at h
  case h_2 => exact h.elim
  rename_i e ver' e' rows hp hr
  obtain ⟨rfl, rfl, rfl, h63, hm⟩ := h
  subst hk64
  split at hm
  case h_2 => exact hm.elim
  rename_i l hl
  obtain rfl := bytesOf_eq hl
  obtain ⟨hpu, hpc⟩ := ptI_spec hp
  obtain ⟨p, rfl, _, hpp⟩ := hs.inv_sd hr
  have hpp := hpp rfl
  by_cases h0 : l = []
  · subst h0
    obtain ⟨p1, ok1⟩ := hw.kill id
    exact ⟨_, _, w, _, _, Lib.run_unsafeString_none (P := P) (w := w) t it ty p, p1, ok1, .d _ _ (.s _), hm⟩
  · have hl0 : l.length ≠ 0 := by simpa using h0
    rcases hw.objs hr (by decide) with ⟨_, hR⟩ | ⟨g, cap, cur, hg, hh, h3, h4, h5, h6, h7⟩
    · have := congrArg List.length hR
      simp at this
      exact absurd this h0
    · obtain rfl := hpp g cap hg (by simpa using hl0)
      simp only [List.length_map] at h3 h63 ⊢
      have hrun := Lib.run_unsafeString_row (P := P) (w := w) t it ty e hpu hpc g cur.size (by simp [World.shape?, hh]) l h0 (by omega) (by omega) (fun j x hx => by
        obtain ⟨cv, a, _, b⟩ := h7 j 0 (byteC x) (.d (.i .u8 x.toNat)) (by rw [List.getElem?_map, hx]; rfl) rfl
        rw [Addr.add_lit, Nat.zero_add, cell_of_row w g _ cur e (0, 0) hh]
        rw [Nat.mul_one, Nat.add_zero] at a
        rw [a, b.inv_d.inv_i])
      obtain ⟨p1, ok1⟩ := hw.gone (w' := w.freeze ⟨g, 0, none⟩ l.length) hr hg (by unfold World.freeze; split <;> rfl) (by unfold World.freeze; split <;> rfl) (by unfold World.freeze; split <;> rfl)
        (by unfold World.freeze; split <;> simp) (fun k hk hne => by
          unfold World.freeze
          split
          · rfl
          · simp only [Array.getElem?_modify]
            rw [if_neg (fun e => hne e.symm)])
      exact ⟨_, _, _, _, _, hrun, p1, ok1, .d _ _ (.s _), hm⟩
def vcBuiltin (P : Program) (own : Bool) (b : Builtin) (vs : List V) (ts : List TypeId) (ty : TypeId) (H : Heap) (K : V → Heap → Prop) : Prop :=
  match b, vs, ts with
  | .len, [x], [t] => vcLen P t x H fun v => K v H
  | .cap, [.d (.c v)], [t] => slB P t = true ∧ isNil v = true ∧ K (.d (.i .i64 0)) H
  | .append, [s, x], [t, t'] => (match numOf x with | some n => vcAppN P own t t' s n H K | none => srcOk P t t' x ∧ vcAppend P own t s x H K)
  | .max, [x, y], _ => vcMax .max x y fun v => K v H
  | .min, [x, y], _ => vcMax .min x y fun v => K v H
  | .unsafeSliceData, [.os id ver], _ => vcSData P ty id ver H fun v => K v H
  | .unsafeString, [.sd id ver, .d (.i .i64 n)], [t, _] => vcUStr P t id ver n H K
  | _, _, _ => False
theorem two_of_size {α : Type} {xs : Array α} (h : xs.size = 2) : ∃ a b, xs = #[a, b] :=
  ⟨xs[0], xs[1], by apply Array.ext (by simpa using h); intro i h1 h2; (match i, h1, h2 with | 0, _, _ => rfl | 1, _, _ => rfl)⟩
theorem vcBuiltin_run {P : Program} {w : World} {H : Heap} {σ : Conc} {own : Bool} {b : Builtin} {vs : List V} {ts : Array TypeId} {ty : TypeId} {cs : Array Bool} {args : Array Value} {K : V → Heap → Prop} (h : vcBuiltin P own b vs ts.toList ty H K) (hw : WOk w H σ)
    (hl : vs.length = args.size) (hr : ∀ (j : Nat) (v : V) (u : Value), vs[j]? = some v → args[j]? = some u → VRel w (Own H σ) H σ v u) :
    ∃ v val w' H' σ', (builtin b ts ty cs args).run P w = .ok (.value val) w' ∧ Pres w H σ w' H' σ' ∧ WOk w' H' σ' ∧ VRel w' (Own H' σ') H' σ' v val ∧ K v H' := by
  unfold vcBuiltin at h
  split at h
  · rename_i x t ht
    obtain ⟨u, rfl⟩ : ∃ u, args = #[u] := Array.size_eq_one_iff.1 (by simpa using hl.symm)
    obtain rfl : ts = #[t] := by apply Array.ext'; simpa using ht
    obtain ⟨r, val, h1, h2, h3⟩ := vcLen_run (ty := ty) h hw (hr 0 x u rfl rfl)
    exact ⟨r, val, w, H, σ, by simp [builtin, h1], Pres.refl _ _ _, hw, h2, h3⟩
  · rename_i v t ht
    obtain ⟨hsb, hn, h⟩ := h
    obtain ⟨u, rfl⟩ : ∃ u, args = #[u] := Array.size_eq_one_iff.1 (by simpa using hl.symm)
    obtain rfl : ts = #[t] := by apply Array.ext'; simpa using ht
    obtain rfl := isNil_eq hn
    obtain rfl := (hr 0 _ u rfl rfl).inv_d.inv_c
    obtain ⟨e, hu⟩ := slB_spec hsb
    exact ⟨_, .int .i64 0, w, H, σ, by simp [builtin, Builtin.cap_, run_underlying hu, goInt], Pres.refl _ _ _, hw, .d _ _ (.i _ _), h⟩
  · rename_i s x t t' ht
    obtain ⟨u, u', rfl⟩ : ∃ u u', args = #[u, u'] := two_of_size (by simpa using hl.symm)
    obtain rfl : ts = #[t, t'] := by apply Array.ext'; simpa using ht
    split at h
    · rename_i n hnum
      obtain ⟨k, rfl⟩ := numOf_eq hnum
      obtain rfl := (hr 1 _ u' rfl rfl).inv_d.inv_i
      obtain ⟨v, val, w', H', σ', h1, h2, h3, h4, h5⟩ := vcAppN_run (ty := ty) (kq := k) h hw (hr 0 s u rfl rfl)
      exact ⟨v, val, w', H', σ', by simp [builtin, h1], h2, h3, h4, h5⟩
    obtain ⟨hkk, h⟩ := h
    obtain ⟨v, val, w', H', σ', h1, h2, h3, h4, h5⟩ := vcAppend_run (ty := ty) hkk h hw (hr 0 s u rfl rfl) (hr 1 x u' rfl rfl)
    exact ⟨v, val, w', H', σ', by simp [builtin, h1], h2, h3, h4, h5⟩
  · rename_i x y
    obtain ⟨u, u', rfl⟩ : ∃ u u', args = #[u, u'] := two_of_size (by simpa using hl.symm)
    obtain ⟨r, val, h1, h2, h3⟩ := vcMax_run (P := P) (ts := ts) (ty := ty) (cs := cs) h (hr 0 x u rfl rfl) (hr 1 y u' rfl rfl)
    exact ⟨r, val, w, H, σ, h1, Pres.refl _ _ _, hw, h2, h3⟩
  · rename_i x y
    obtain ⟨u, u', rfl⟩ : ∃ u u', args = #[u, u'] := two_of_size (by simpa using hl.symm)
    obtain ⟨r, val, h1, h2, h3⟩ := vcMax_run (P := P) (ts := ts) (ty := ty) (cs := cs) h (hr 0 x u rfl rfl) (hr 1 y u' rfl rfl)
    exact ⟨r, val, w, H, σ, h1, Pres.refl _ _ _, hw, h2, h3⟩
  · rename_i id ver
    obtain ⟨u, rfl⟩ : ∃ u, args = #[u] := Array.size_eq_one_iff.1 (by simpa using hl.symm)
    obtain ⟨v, val, w', h1, h2, h3, h4, h5⟩ := vcSData_run (ts := ts) h hw (hr 0 _ u rfl rfl)
    exact ⟨v, val, w', H, σ, by simp [builtin, h1], h2, h3, h4, h5⟩
  · rename_i id ver n t t' ht
    obtain ⟨u, u', rfl⟩ : ∃ u u', args = #[u, u'] := two_of_size (by simpa using hl.symm)
    obtain rfl : ts = #[t, t'] := by apply Array.ext'; simpa using ht
    obtain rfl := (hr 1 _ u' rfl rfl).inv_d.inv_i
    obtain ⟨v, val, w', H', σ', h1, h2, h3, h4, h5⟩ := vcUStr_run (it := t') (ty := ty) h rfl hw (hr 0 _ u rfl rfl)
    exact ⟨v, val, w', H', σ', by simp [builtin, h1], h2, h3, h4, h5⟩
  · exact h.elim
def vcAssign (P : Program) (own : Bool) (t : TypeId) (v : V) (H : Heap) (K : V → Heap → Prop) : Prop :=
  match own, v, slI P t with
  | true, .d (.c u), some (e, z, _) => (match isNil u with | true => K (.os H.length 0) (H ++ [.row 0 e z []]) | false => K v H)
  | _, _, _ => K v H
theorem vcAssign_run {P : Program} {w : World} {H : Heap} {σ : Conc} {own : Bool} {t : TypeId} {v : V} {K : V → Heap → Prop} {val : Value} (h : vcAssign P own t v H K) (hw : WOk w H σ) (hv : VRel w (Own H σ) H σ v val) :
    ∃ v' H' σ', Pres w H σ w H' σ' ∧ WOk w H' σ' ∧ VRel w (Own H' σ') H' σ' v' val ∧ K v' H' := by
  unfold vcAssign at h
  split at h
  · rename_i u e z bytes hsl
    split at h
    · rename_i hn
      obtain rfl := isNil_eq hn
      obtain rfl := hv.inv_d.inv_c
      have hup := hw.push (w' := w) (ver := 0) (e := e) (sz := z) (rows := []) (c := .no none) rfl rfl (OutSame.refl w) (Nat.le_refl _) (fun _ _ => rfl) (fun _ _ h => by cases h) (.inl ⟨⟨none, rfl⟩, rfl⟩)
      refine ⟨_, _, _, hup.1, hup.2, .os _ _ _ (by simp) fun v1 e1 s1 r1 hr => ?_, h⟩
      rw [List.getElem?_append_right (Nat.le_refl _)] at hr
      simp at hr
      obtain ⟨rfl, rfl, rfl, rfl⟩ := hr
      exact ⟨Nat.le_refl _, fun _ => ⟨by have := (slI_spec hsl).2.1; omega, by simp [Conc.put, slv]⟩⟩
    · exact ⟨_, _, _, Pres.refl _ _ _, hw, hv, h⟩
  · exact ⟨_, _, _, Pres.refl _ _ _, hw, hv, h⟩
def vcBinN (P : Program) (op : BinOp) (t : TypeId) (x y : V) (H : Heap) (K : V → Prop) : Prop :=
  match x with
  | .os id ver => (match y, H[id]?, op with
    | .d (.c u), some (.row ver' _ _ rows), .eql => slB P t = true ∧ isNil u = true ∧ ver = ver' ∧ rows ≠ [] ∧ K (.d (.b false))
    | .d (.c u), some (.row ver' _ _ rows), .neq => slB P t = true ∧ isNil u = true ∧ ver = ver' ∧ rows ≠ [] ∧ K (.d (.b true))
    | _, _, _ => False)
  | x => vcBin P op t x y K
theorem vcBinN_run {P : Program} {w : World} {H : Heap} {σ : Conc} {op : BinOp} {t : TypeId} {x y : V} {K : V → Prop} {ox oy : Operand} {vx vy : Value} (h : vcBinN P op t x y H K) (hw : WOk w H σ) (hx : VRel w (Own H σ) H σ x vx) (hy : VRel w (Own H σ) H σ y vy) :
    ∃ r val, (do eqGuard op t ox oy vx vy; binOp op t vx vy : Sem Value).run P w = .ok val w ∧ VRel w (Own H σ) H σ r val ∧ K r := by
  unfold vcBinN at h
  split at h
  · rename_i id ver
    have core : ∀ {ver' e sz rows} {u : Value}, H[id]? = some (.row ver' e sz rows) → VRel w (Own H σ) H σ (.d (.c u)) vy → isNil u = true → ver = ver' → rows ≠ [] → slB P t = true → ∃ g cap el, vx = .slice (some ⟨g, 0, none⟩) rows.length cap ∧ vy = .slice none 0 0 ∧ P.underlying t = some (.slice el) := fun {ver' e sz rows u} hr hy hu hv hne hs => by
      subst hv
      obtain rfl := isNil_eq hu
      obtain rfl := hy.inv_d.inv_c
      obtain ⟨el, hel⟩ := slB_spec hs
      obtain ⟨_, hv⟩ := hx.inv_os hr
      rcases hw.objs hr (hx.nz_os hr) with ⟨_, hn⟩ | ⟨g, cap, cur, hg, _⟩
      · exact absurd hn hne
      · exact ⟨g, cap, el, by rw [hv rfl, hg]; rfl, rfl, hel⟩
    split at h
    · rename_i hr
      obtain ⟨hs, hu, hv, hne, hk⟩ := h
      obtain ⟨g, cap, el, rfl, rfl, hel⟩ := core hr hy hu hv hne hs
      refine ⟨.d (.b false), .bool false, ?_, .d _ _ (.b _), hk⟩
      simp only [Sem.run_bind, eqGuard, binOp]
      simp
      rw [run_equal_sl w t el _ _ _ hel]
      first | rfl | simp
    · rename_i hr
      obtain ⟨hs, hu, hv, hne, hk⟩ := h
      obtain ⟨g, cap, el, rfl, rfl, hel⟩ := core hr hy hu hv hne hs
      refine ⟨.d (.b true), .bool true, ?_, .d _ _ (.b _), hk⟩
      simp only [Sem.run_bind, eqGuard, binOp]
      simp
      rw [run_equal_sl w t el _ _ _ hel]
      first | rfl | simp
    · exact h.elim
  · exact vcBin_run h hx hy
def vcOp (P : Program) (M : List Nat) (o : Oper) (F : Frame) (H : Heap) (K : V → Heap → Prop) : Prop :=
  match o.op with
  | .move x => K (ev F x) H
  | .assign x => vcAssign P (match o.dst with | some d => M.contains d | none => false) o.type (ev F x) H K
  | .pick c a b => (match ev F c with | .d (.b t) => onB t (K (ev F a) H) (K (ev F b) H) | _ => False)
  | .binOp op t x y _ => (match (match o.dst with | some d => M.contains d | none => false) with
    | true => vcBinW op (ev F x) (ev F y) fun v => K v H
    | false => vcBinN P op t (ev F x) (ev F y) H fun v => K v H)
  | .unOp op _ x => vcUn op (ev F x) fun v => K v H
  | .convert src dst x => (P.underlying src).isSome = true ∧ vcConv P src dst (ev F x) fun v => K v H
  | .load t a => vcLoad P t (ev F a) H fun v => K v H
  | .store t a x => vcStore P t (ev F a) (ev F x) H K
  | .nilCheck x => vcNil (ev F x) H fun v => K v H
  | .fieldAddr t x f => vcFAddr P t (ev F x) f H fun v => K v H
  | .field t x f => vcField P t (ev F x) f fun v => K v H
  | .indexAddr t x i => vcIAddr P t (ev F x) (ev F i) H fun v => K v H
  | .index t x i => vcIndex P t (ev F x) (ev F i) fun v => K v H
  | .slice t x lo hi mx => (match ev F x, lo, hi, mx with
    | .os id ver, none, some h, none => (match (match o.dst with | some d => M.contains d | none => false) with
      | true => vcView P t id ver (ev F h) H fun v => K v H
      | false => vcTrunc P t id ver (ev F h) H K)
    | v, _, _, _ => vcSlice P t v (lo.map (ev F)) (hi.map (ev F)) (mx.map (ev F)) fun v => K v H)
  | .extract t i => vcExtract (ev F t) i fun v => K v H
  | .alloc e => vcAlloc P e H K
  | .box e x => vcBox (match o.dst with | some d => M.contains d | none => false) e (ev F x) H K
  | .build t parts => vcBuild P t (evP F parts.toList) H fun v => K v H
  | .buildSlice t len parts => (match (match o.dst with | some d => M.contains d | none => false) with
    | true => vcBSliceO P t len (evP F parts.toList) H K
    | false => vcBSlice P t len (evP F parts.toList) fun v => K v H)
  | .makeSlice t l c => vcMake P t (ev F l) (ev F c) H K
  | .makeFunc (.func g) first caps => first = #[] ∧ K (.fn g (evs F caps)) H
  | .call c => (match c.callee with
    | .builtin b => vcBuiltin P (match o.dst with | some d => M.contains d | none => false) b (evs F c.args) c.argTypes.toList o.type H K
    | .value f => (match ev F f with
      | .fn g caps => hasBody P g = true ∧ ACalls P g (evs F c.args ++ caps) H (lk K .mk)
      | _ => False)
    | _ => False)
  | .makeMap t none => vcMakeMap P t H K
  | .lookup t x i ok => vcLookup P t (ev F x) (ev F i) ok H fun v => K v H
  | .mapUpdate t m k x => vcMapUp P t (ev F m) (ev F k) (ev F x) H K
  | .insert t m k x => vcMapUp P t (ev F m) (ev F k) (ev F x) H K
  | .mapEntry t m k => vcMapEnt P t (ev F m) (ev F k) H K
  | .entryStore t m s x => vcEntSt (ev F m) (ev F s) (ev F x) H K
  | _ => False
section
variable {P : Program} {w : World} {H : Heap} {σ : Conc}
theorem wp_value {o : Oper} {a : Act} {next : Act → World → Prop} {Q : Exit → Act → World → Prop} {val : Value} {w' : World} (hr : (execOp a.eval o).run P w = .ok (.value val) w') (h : next (a.put o.dst val) w') : o.wp P a w next Q := by
  unfold Oper.wp
  rw [hr, Oper.upon_value]
  exact h
set_option maxHeartbeats 2000000 in
theorem vcOp_wp {M : List Nat} {o : Oper} {F : Frame} {K : V → Heap → Prop} {n : Nat} {a : Act} (h : vcOp P M o F H K) (hs : Sat n w H σ F a.tmps) {next : Act → World → Prop} {Q : Exit → Act → World → Prop}
    (hn : ∀ v val w' H' σ', K v H' → VRel w' (Own H' σ') H' σ' v val → WOk w' H' σ' → Pres w H σ w' H' σ' → next (a.put o.dst val) w') : o.wp P a w next Q := by
  have hw := hs.ok
  -- an operation that leaves the world alone
  have still : ∀ {s : Sem Value}, execOp a.eval o = (do pure (.value (← s))) → (∃ r val, s.run P w = .ok val w ∧ VRel w (Own H σ) H σ r val ∧ K r H) → o.wp P a w next Q := by
    rintro s he ⟨r, val, hr, hv, hk⟩
    refine wp_value (val := val) (w' := w) ?_ (hn r val w H σ hk hv hw (Pres.refl _ _ _))
    rw [he]
    simp only [Sem.run_bind, hr, Result.andThen_ok, Sem.run_pure]
  have effect : ∀ {s : Sem Value}, execOp a.eval o = (do pure (.value (← s))) → (∃ v val w' H' σ', s.run P w = .ok val w' ∧ Pres w H σ w' H' σ' ∧ WOk w' H' σ' ∧ VRel w' (Own H' σ') H' σ' v val ∧ K v H') → o.wp P a w next Q := by
    rintro s he ⟨v, val, w', H', σ', hr, hp, hw', hv, hk⟩
    refine wp_value (val := val) (w' := w') ?_ (hn v val w' H' σ' hk hv hw' hp)
    rw [he]
    simp only [Sem.run_bind, hr, Result.andThen_ok, Sem.run_pure]
  have parts : ∀ {ps : Array (Nat × Operand)}, (evP F ps.toList).length = (ps.toList.map fun x => (x.1, a.eval x.2)).length ∧ ∀ (k i : Nat) (v : V), (evP F ps.toList)[k]? = some (i, v) → ∃ u, (ps.toList.map fun x => (x.1, a.eval x.2))[k]? = some (i, u) ∧ VRel w (Own H σ) H σ v u := fun {ps} => by
    refine ⟨by simp [evP], fun k i v hk => ?_⟩
    simp only [evP, List.getElem?_map] at hk ⊢
    cases hp : ps.toList[k]? with
    | none => rw [hp] at hk; cases hk
    | some x =>
      rw [hp] at hk
      simp only [Option.map_some, Option.some.injEq, Prod.mk.injEq] at hk
      obtain ⟨rfl, rfl⟩ := hk
      exact ⟨a.eval x.2, rfl, hs.ev x.2⟩
  have opt : ∀ (x : Option Operand), optRel w H σ (x.map (ev F)) (x.map a.eval) := fun x => by
    cases x with
    | none => trivial
    | some y => exact hs.ev y
  unfold vcOp at h
  split at h
  case h_1 x ho =>
    exact wp_value (val := a.eval x) (w' := w) (by simp [execOp, ho]) (hn _ _ w H σ h (hs.ev x) hw (Pres.refl _ _ _))
  case h_2 x ho =>
    obtain ⟨v', H', σ', hp, hw', hv, hk⟩ := vcAssign_run h hw (hs.ev x)
    exact wp_value (val := a.eval x) (w' := w) (by simp [execOp, ho]) (hn _ _ w H' σ' hk hv hw' hp)
  case h_3 c x y ho =>
    split at h
    · rename_i t ht
      have hc := hs.ev c
      rw [ht] at hc
      have hc := hc.inv_d.inv_b
      cases t
      · exact wp_value (val := a.eval y) (w' := w) (by simp [execOp, ho, hc, asBool]) (hn _ _ w H σ (h.2 rfl) (hs.ev y) hw (Pres.refl _ _ _))
      · exact wp_value (val := a.eval x) (w' := w) (by simp [execOp, ho, hc, asBool]) (hn _ _ w H σ (h.1 rfl) (hs.ev x) hw (Pres.refl _ _ _))
    · exact h.elim
  case h_4 op t x y ty ho =>
    split at h
    · exact still (by simp only [execOp, ho]) (vcBinW_run (P := P) (w := w) (t := t) (ox := x) (oy := y) h (hs.ev x) (hs.ev y))
    · exact still (by simp only [execOp, ho]) (vcBinN_run (ox := x) (oy := y) h hw (hs.ev x) (hs.ev y))
  case h_5 op t x ho => exact still (by simp only [execOp, ho]) (vcUn_run h (hs.ev x))
  case h_6 src dst x ho => exact still (by simp only [execOp, ho]) (vcConv_run h.1 h.2 (hs.ev x))
  case h_7 t x ho => exact still (by simp only [execOp, ho]) (vcLoad_run h hw (hs.ev x))
  case h_8 t x y ho =>
    obtain ⟨w', H', σ', hr, hp, hw', hk⟩ := vcStore_run h hw (hs.ev x) (hs.ev y)
    unfold Oper.wp
    have : (execOp a.eval o).run P w = .ok .skip w' := by simp [execOp, ho, hr]
    rw [this, Oper.upon_skip]
    exact hn .un undef w' H' σ' hk .un hw' hp
  case h_9 x ho =>
    obtain ⟨r, val, hr, hv, hk⟩ := vcNil_run ho h (hs.ev x)
    exact wp_value hr (hn r val w H σ hk hv hw (Pres.refl _ _ _))
  case h_10 t x f ho => exact still (by simp only [execOp, ho]) (vcFAddr_run h (hs.ev x))
  case h_11 t x f ho => exact still (by simp only [execOp, ho]) (vcField_run h (hs.ev x))
  case h_12 t x i ho => exact still (by simp only [execOp, ho]) (vcIAddr_run h hw (hs.ev x) (hs.ev i))
  case h_13 t x i ho => exact still (by simp only [execOp, ho]) (vcIndex_run h (hs.ev x) (hs.ev i))
  case h_14 t x lo hi mx ho =>
    split at h
    · rename_i id ver hh hx
      have hx' := hs.ev x
      rw [hx] at hx'
      split at h
      · obtain ⟨v, val, hr, hv, hk⟩ := vcView_run h hw hx' (hs.ev hh)
        exact still (s := Instr.sliceAt t (a.eval x) none (some (a.eval hh)) none) (by simp only [execOp, ho, Option.map]) ⟨v, val, hr, hv, hk⟩
      · obtain ⟨v, val, H', σ', hr, hp, hw', hv, hk⟩ := vcTrunc_run h hw hx' (hs.ev hh)
        exact effect (s := Instr.sliceAt t (a.eval x) none (some (a.eval hh)) none) (by simp only [execOp, ho, Option.map]) ⟨v, val, w, H', σ', hr, hp, hw', hv, hk⟩
    · obtain ⟨r, val, hr, hv, hk⟩ := vcSlice_run (w := w) (H := H) (σ := σ) h (hs.ev x) (opt _) (opt _) (opt _)
      exact still (s := Instr.sliceAt t (a.eval x) (Option.map a.eval _) (Option.map a.eval _) (Option.map a.eval _)) (by simp only [execOp, ho]) ⟨r, val, hr, hv, hk⟩
  case h_15 t i ho => exact still (by simp only [execOp, ho]) (vcExtract_run h (hs.ev t))
  case h_16 e ho => exact effect (s := Instr.alloc e true (.tuple #[])) (by simp only [execOp, ho]) (vcAlloc_run h hw)
  case h_17 e x ho => exact effect (s := Instr.box e (a.eval x)) (by simp only [execOp, ho]) (vcBox_run h hw (hs.ev x))
  case h_18 t ps ho =>
    refine still (s := Instr.build t (ps.toList.map fun x => (x.1, a.eval x.2)).toArray) ?_ (vcBuild_run h parts.1 parts.2)
    have e : ps.map (fun x => (x.1, a.eval x.2)) = (ps.toList.map fun x => (x.1, a.eval x.2)).toArray := by apply Array.ext'; simp
    simp only [execOp, ho, ← e]
  case h_19 t len ps ho =>
    have e : ps.map (fun x => (x.1, a.eval x.2)) = (ps.toList.map fun x => (x.1, a.eval x.2)).toArray := by apply Array.ext'; simp
    split at h
    · exact effect (s := Instr.buildSlice t len (ps.toList.map fun x => (x.1, a.eval x.2)).toArray) (by simp only [execOp, ho, ← e]) (vcBSliceO_run h hw parts.1 parts.2)
    · obtain ⟨v, val, w', hr, hp, hw', hv, hk⟩ := vcBSlice_run h hw parts.1 parts.2
      exact effect (s := Instr.buildSlice t len (ps.toList.map fun x => (x.1, a.eval x.2)).toArray) (by simp only [execOp, ho, ← e]) ⟨v, val, w', H, σ, hr, hp, hw', hv, hk⟩
  case h_20 t l c ho => exact effect (s := Instr.makeSlice t (a.eval l) (a.eval c)) (by simp only [execOp, ho]) (vcMake_run h hw (hs.ev l) (hs.ev c))
  case h_21 g first caps ho =>
    obtain ⟨rfl, hk⟩ := h
    refine wp_value (val := .func (.func g) #[] (caps.map a.eval)) (w' := w) (by simp [execOp, ho, Instr.makeFunc]) (hn _ _ w H σ hk (.fn g _ _ (by simp [evs]) fun j c v hj hv => ?_) hw (Pres.refl _ _ _))
    simp only [evs, List.getElem?_map, Array.getElem?_toList] at hj
    rw [Array.getElem?_map] at hv
    cases hc : caps[j]? with
    | none => rw [hc] at hj; cases hj
    | some x =>
      rw [hc] at hj hv
      simp only [Option.map_some, Option.some.injEq] at hj hv
      subst hj hv
      exact hs.ev x
  case h_22 c ho =>
    have hlen : (evs F c.args).length = (c.args.map a.eval).size := by simp [evs]
    have hrel : ∀ (j : Nat) (v : V) (u : Value), (evs F c.args)[j]? = some v → (c.args.map a.eval)[j]? = some u → VRel w (Own H σ) H σ v u := fun j v u hj hu => by
      simp only [evs, List.getElem?_map, Array.getElem?_toList] at hj
      rw [Array.getElem?_map] at hu
      cases hx : c.args[j]? with
      | none => rw [hx] at hj; cases hj
      | some x =>
        rw [hx] at hj hu
        simp only [Option.map_some, Option.some.injEq] at hj hu
        subst hj hu
        exact hs.ev x
    cases hc : c.callee with
    | invoke r m => rw [hc] at h; exact h.elim
    | builtin b =>
      rw [hc] at h
      obtain ⟨v, val, w', H', σ', hr, hp, hw', hv, hk⟩ := vcBuiltin_run (ty := o.type) (cs := c.args.map fun | .const _ => true | _ => false) h hw hlen hrel
      refine wp_value (val := val) (w' := w') ?_ (hn v val w' H' σ' hk hv hw' hp)
      simp only [execOp, ho, resolve, hc, Sem.run_bind, Sem.run_pure, Result.andThen_ok, invoke]
      exact hr
    | value f =>
      rw [hc] at h
      simp only [] at h
      split at h
      case h_2 => exact h.elim
      rename_i g caps hf
      obtain ⟨hb, h⟩ := h
      have hf' := hs.ev f
      rw [hf] at hf'
      obtain ⟨vs, hfv, hl, hcap⟩ := hf'.inv_fn
      have hrun : (execOp a.eval o).run P w = .ok (.enter g (c.args.map a.eval ++ vs)) w := by
        simp [execOp, ho, resolve, hc, hfv, Deferred.ofValue, invoke, run_callFunc hb]
      unfold Oper.wp
      rw [hrun, Oper.upon_enter]
      refine (h w σ _ hw (by simp [evs, hl]) (fun j v u hj hu => ?_)).mono ?_
      · rw [List.getElem?_append] at hj
        rw [Array.getElem?_append] at hu
        rw [hlen] at hj
        split at hj
        · rename_i hlt
          rw [if_pos hlt] at hu
          exact hrel j v u hj hu
        · rename_i hge
          rw [if_neg hge] at hu
          exact hcap _ v u hj hu
      · rintro e w' ⟨val, v, H', σ', rfl, hk, hv, hw', hp⟩
        exact hn v val w' H' σ' hk hv hw' hp
  case h_23 t ho => exact effect (s := Instr.makeMap t none) (by simp only [execOp, ho, Option.map]) (vcMakeMap_run h (fun v hv => by cases hv) hw)
  case h_24 t x i ok ho => exact still (by simp only [execOp, ho]) (vcLookup_run h hw (hs.ev x) (hs.ev i))
  case h_25 t m k x ho =>
    obtain ⟨w', H', σ', hr, hp, hw', hk⟩ := vcMapUp_run h hw (hs.ev m) (hs.ev k) (hs.ev x)
    unfold Oper.wp
    have : (execOp a.eval o).run P w = .ok .skip w' := by simp [execOp, ho, hr]
    rw [this, Oper.upon_skip]
    exact hn .un undef w' H' σ' hk .un hw' hp
  case h_26 t m k x ho =>
    obtain ⟨w', H', σ', hr, hp, hw', hk⟩ := vcMapUp_run h hw (hs.ev m) (hs.ev k) (hs.ev x)
    unfold Oper.wp
    have : (execOp a.eval o).run P w = .ok .skip w' := by simp [execOp, ho, hr]
    rw [this, Oper.upon_skip]
    exact hn .un undef w' H' σ' hk .un hw' hp
  case h_27 t m k ho => exact effect (s := Instr.mapEntry t (a.eval m) (a.eval k)) (by simp only [execOp, ho]) (vcMapEnt_run h hw (hs.ev m) (hs.ev k))
  case h_28 t m st x ho =>
    obtain ⟨w', H', σ', hr, hp, hw', hk⟩ := vcEntSt_run (P := P) (t := t) h hw (hs.ev m) (hs.ev st) (hs.ev x)
    unfold Oper.wp
    have : (execOp a.eval o).run P w = .ok .skip w' := by simp [execOp, ho, hr]
    rw [this, Oper.upon_skip]
    exact hn .un undef w' H' σ' hk .un hw' hp
  case h_29 => exact h.elim
end
end Go.Proofs.YtmhabdopcbokoaaDoor.Ab
