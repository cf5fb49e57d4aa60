/- Maps over the abstract reading: one is made, a key is looked up, an entry is set. No condition. -/
import Derived.Test.YtmhabdopcbokoaaDoorR6
set_option linter.all false
set_option linter.unusedSimpArgs false
set_option linter.unusedVariables false
namespace Go.Proofs.YtmhabdopcbokoaaDoor.Ab
open Go
variable [Glo]
def kdF (P : Program) (t : TypeId) : Option Kd := match P.underlying t with | some (.int k) => some (.i k) | some .string => some .s | some .bool => some .b | _ => none
def kdS (P : Program) : List Field → Nat → Option (List Kd)
  | [], _ => some []
  | f :: fs, n => if f.name ≠ "_" ∧ f.offset = n then (match kdF P f.type, kdS P fs (n + 1) with | some k, some r => some (k :: r) | _, _ => none) else none
def kyI (P : Program) (t : TypeId) : Option (List Kd) :=
  match P.underlying t with
  | some (.struct fs) => if P.stoodInHeld t = false ∧ P.eqGuardType P.depth t = false then (match kdS P fs.toList 0 with | some (a :: b :: l) => some (a :: b :: l) | _ => none) else none
  | _ => (kdF P t).map fun k => [k]
def mpI (P : Program) (t : TypeId) : Option (TypeId × TypeId) := match P.underlying t with | some (.map k e) => some (k, e) | _ => none
theorem mpI_spec {P : Program} {t k e : TypeId} (h : mpI P t = some (k, e)) : P.underlying t = some (.map k e) := by
  unfold mpI at h
  split at h
  · cases h; assumption
  · cases h
def zvI (P : Program) (t : TypeId) : Option D := match P.info? t with | some i => (match i.zero with | some z => cD z | none => none) | none => none
def keyOf : V → Option (List D)
  | .d x => some [x]
  | .ag cs => match dsOf cs with | some (a :: b :: l) => some (a :: b :: l) | _ => none
  | _ => none
open Classical in
noncomputable def mix (ks : List (List D)) (k : List D) : Option Nat := ks.findIdx? fun x => decide (x = k)
noncomputable def mget {α : Type} (ks : List (List D)) (vs : List α) (k : List D) (z : α) : α := match mix ks k with | some i => (vs[i]?).getD z | none => z
noncomputable def mhas (ks : List (List D)) (k : List D) : Bool := (mix ks k).isSome
noncomputable def mputK (ks : List (List D)) (k : List D) : List (List D) := match mix ks k with | some _ => ks | none => ks ++ [k]
noncomputable def mputV (ks : List (List D)) (vs : List V) (k : List D) (v : V) : List V := match mix ks k with | some i => vs.set i v | none => vs ++ [v]
theorem mix_hit (ks : List (List D)) (k : List D) : mix (k :: ks) k = some 0 := by simp [mix, List.findIdx?_cons]
theorem mix_skip {k x : List D} (ks : List (List D)) (h : k ≠ x) : mix (k :: ks) x = (mix ks x).map (· + 1) := by simp [mix, List.findIdx?_cons, h]
theorem mix_lt {ks : List (List D)} {k : List D} {i : Nat} (h : mix ks k = some i) : ks[i]? = some k ∧ i < ks.length := by
  unfold mix at h
  rw [List.findIdx?_eq_some_iff_getElem] at h
  obtain ⟨hlt, h1, _⟩ := h
  have h1 : ks[i] = k := by simpa using h1
  exact ⟨by rw [List.getElem?_eq_getElem hlt, h1], hlt⟩
section
variable {P : Program} {w : World} {H : Heap} {σ : Conc}
theorem kd_keyC {x : D} {k : Kd} (h : kdOf x = some k) (t : TypeId) (ht : kdF P t = some k) (b : Bool) (n : Nat) : (Instr.checkKey b (n + 1) t (keyC x)).run P w = .ok () w := by
  unfold kdF at ht
  unfold Instr.checkKey
  split at ht <;> first | cases ht | skip
  all_goals
    rename_i hu
    cases x <;> simp [kdOf] at h
    all_goals (try subst h)
    all_goals first
      | (cases h; done)
      | simp [run_underlying hu, keyC]
theorem kd_off : ∀ {fs : List Field} {n : Nat} {sh : List Kd}, kdS P fs n = some sh → ∀ f, f ∈ fs → f.name ≠ "_" ∧ n ≤ f.offset ∧ ∃ k, kdF P f.type = some k ∧ sh[f.offset - n]? = some k
  | [], n, sh, h, f, hf => by cases hf
  | g :: fs, n, sh, h, f, hf => by
    unfold kdS at h
    split at h
    case isFalse => cases h
    rename_i hc
    split at h
    case h_2 => cases h
    rename_i k r hk hr
    cases h
    rcases List.mem_cons.1 hf with rfl | hf
    · exact ⟨hc.1, by omega, k, hk, by rw [hc.2, Nat.sub_self]; rfl⟩
    · obtain ⟨h1, h2, k', h3, h4⟩ := kd_off hr f hf
      refine ⟨h1, by omega, k', h3, ?_⟩
      rw [show f.offset - n = (f.offset - (n + 1)) + 1 by omega, List.getElem?_cons_succ]
      exact h4
theorem kdF_agg {t : TypeId} {k : Kd} (h : kdF P t = some k) : agB P t = some false := by
  unfold kdF at h
  unfold agB
  split at h <;> first | (rename_i hu; rw [hu]; rfl) | cases h
theorem kyI_cases {t : TypeId} {sh : List Kd} (h : kyI P t = some sh) :
    (∃ k, sh = [k] ∧ kdF P t = some k) ∨ ∃ fs, P.underlying t = some (.struct fs) ∧ P.stoodInHeld t = false ∧ kdS P fs.toList 0 = some sh ∧ 2 ≤ sh.length := by
  unfold kyI at h
  split at h
  · rename_i fs hu
    split at h
    case isFalse => cases h
    rename_i hc
    split at h
    · rename_i a b l hl
      cases h
      exact .inr ⟨fs, hu, hc.1, hl, by simp⟩
    · cases h
  · cases hk : kdF P t with
    | none => rw [hk] at h; cases h
    | some k => rw [hk] at h; cases h; exact .inl ⟨k, rfl, rfl⟩
theorem keyVal_two {l : List D} (h : 2 ≤ l.length) : keyVal l = .agg (l.map keyC).toArray := by
  match l, h with
  | a :: b :: l, _ => rfl
theorem forIn_unit {α : Type} (f : α → PUnit → Sem (ForInStep PUnit)) : ∀ (l : List α), (∀ x, x ∈ l → (f x ⟨⟩).run P w = .ok (.yield ⟨⟩) w) → (forIn l PUnit.unit f).run P w = .ok ⟨⟩ w
  | [], h => by simp
  | x :: l, h => by
    simp only [List.forIn_cons, Sem.run_bind, h x (by simp), Result.andThen_ok]
    exact forIn_unit f l fun y hy => h y (by simp [hy])
theorem run_checkKey {t : TypeId} {sh : List Kd} (ht : kyI P t = some sh) {k : List D} (hk : k.map kdOf = sh.map some) (b : Bool) (n : Nat) : (Instr.checkKey b (n + 2) t (keyVal k)).run P w = .ok () w := by
  rcases kyI_cases ht with ⟨kd, rfl, hf⟩ | ⟨fs, hu, _, hs, h2⟩
  · obtain ⟨x, rfl⟩ : ∃ x, k = [x] := List.length_eq_one_iff.1 (by simpa using congrArg List.length hk)
    exact kd_keyC (by simpa using hk) t hf b _
  · have hl : k.length = sh.length := by simpa using congrArg List.length hk
    rw [keyVal_two (by omega)]
    unfold Instr.checkKey
    simp only [Sem.run_bind, run_underlying hu, Result.andThen_ok]
    rw [← Array.forIn_toList, forIn_unit _ fs.toList fun f hf => ?_]
    · simp
    · obtain ⟨h1, _, kd, h3, h4⟩ := kd_off hs f hf
      rw [Nat.sub_zero] at h4
      have hx : (k.map kdOf)[f.offset]? = some (some kd) := by rw [hk, List.getElem?_map, h4]; rfl
      rw [List.getElem?_map] at hx
      cases hkx : k[f.offset]? with
      | none => rw [hkx] at hx; cases hx
      | some x =>
        rw [hkx] at hx
        have hx : kdOf x = some kd := by simpa using hx
        have hp : (part f.type (k.map keyC).toArray f.offset).run P w = .ok (keyC x) w := part_run w (kdF_agg h3) (by simp [hkx])
        rw [if_pos h1]
        simp only [Sem.run_bind, hp, Result.andThen_ok, kd_keyC hx f.type h3 b n, Sem.run_pure]
theorem bytes_beq' (a b : List UInt8) : (((⟨a.toArray⟩ : ByteArray) == ⟨b.toArray⟩) = true) = (a = b) := by
  have : ((⟨a.toArray⟩ : ByteArray) == ⟨b.toArray⟩) = (a.toArray == b.toArray) := rfl
  rw [this]; simp
theorem sameNow_key {t : TypeId} {x y : D} {k : Kd} (ht : kdF P t = some k) (hx : kdOf x = some k) (hy : kdOf y = some k) : ∃ d, P.underlying t = some d ∧ ∃ b, Instr.sameNow d (keyC x) (keyC y) = some b ∧ (b = true ↔ x = y) := by
  unfold kdF at ht
  split at ht <;> first | cases ht | skip
  all_goals
    rename_i hu
    refine ⟨_, hu, ?_⟩
    cases x <;> cases y <;> simp [kdOf] at hx hy <;> first | (subst hx; cases hy; done) | skip
    all_goals (try obtain rfl := hx); (try obtain rfl := hy)
    all_goals simp [keyC, Instr.sameNow, bytes_beq']
theorem findNow_key {d : TypeDesc} {kd : Kd} {x : D} (hs : ∀ y, kdOf y = some kd → ∃ b, Instr.sameNow d (keyC x) (keyC y) = some b ∧ (b = true ↔ x = y)) : ∀ (es : List MapEntry) (ks : List (List D)) (i : Nat), es.map (·.key) = ks.map keyVal → (∀ k, k ∈ ks → k.map kdOf = [some kd]) →
    Instr.findNow d (keyC x) es i = some ((mix ks [x]).bind fun j => (es[j]?).map fun e => (i + j, e.val))
  | [], ks, i, h, _ => by
    obtain rfl : ks = [] := by cases ks with | nil => rfl | cons _ _ => simp at h
    rfl
  | e :: es, [], i, h, _ => by simp at h
  | e :: es, k :: ks, i, h, hk => by
    simp only [List.map_cons, List.cons.injEq] at h
    obtain ⟨y, rfl⟩ : ∃ y, k = [y] := List.length_eq_one_iff.1 (by simpa using congrArg List.length (hk k (by simp)))
    have hy : kdOf y = some kd := by simpa using hk [y] (by simp)
    obtain ⟨b, hb, hiff⟩ := hs y hy
    have ih := findNow_key hs es ks (i + 1) h.2 fun k hk' => hk k (by simp [hk'])
    rw [Instr.findNow, h.1, show keyVal [y] = keyC y from rfl, hb]
    cases b with
    | true =>
      obtain rfl := hiff.1 rfl
      rw [mix_hit]
      simp
    | false =>
      have hne : [y] ≠ [x] := fun e => by have := hiff.2 (List.cons.inj e).1.symm; cases this
      simp only []
      rw [ih, mix_skip ks hne]
      cases mix ks [x] with
      | none => rfl
      | some j => simp [Nat.add_right_comm, Nat.add_assoc]
theorem findAsking_key {kt : TypeId} {x : List D} {sh : List Kd} (hs : ∀ y : List D, y.map kdOf = sh.map some → ∃ b, (Op.equal kt (keyVal x) (keyVal y)).run P w = .ok b w ∧ (b = true ↔ x = y)) : ∀ (es : List MapEntry) (ks : List (List D)) (i : Nat), es.map (·.key) = ks.map keyVal → (∀ k, k ∈ ks → k.map kdOf = sh.map some) →
    (Instr.findAsking kt (keyVal x) es i).run P w = .ok ((mix ks x).bind fun j => (es[j]?).map fun e => (i + j, e.val)) w
  | [], ks, i, h, _ => by
    obtain rfl : ks = [] := by cases ks with | nil => rfl | cons _ _ => simp at h
    simp [Instr.findAsking, mix]
  | e :: es, [], i, h, _ => by simp at h
  | e :: es, k :: ks, i, h, hk => by
    simp only [List.map_cons, List.cons.injEq] at h
    obtain ⟨b, hb, hiff⟩ := hs k (hk k (by simp))
    have ih := findAsking_key hs es ks (i + 1) h.2 fun k hk' => hk k (by simp [hk'])
    rw [Instr.findAsking, h.1]
    simp only [Sem.run_bind, hb, Result.andThen_ok]
    cases b with
    | true =>
      obtain rfl := hiff.1 rfl
      rw [mix_hit]
      simp
    | false =>
      have hne : k ≠ x := fun e => by have := hiff.2 e.symm; cases this
      simp only [Bool.false_eq_true, if_false]
      rw [ih, mix_skip ks hne]
      cases mix ks x with
      | none => rfl
      | some j => simp [Nat.add_right_comm, Nat.add_assoc]
theorem eqF_run (d : Nat) {x y : List D} : ∀ (fs : List Field) (n : Nat) (sh : List Kd), kdS P fs n = some sh → (x.drop n).map kdOf = sh.map some → (y.drop n).map kdOf = sh.map some →
    ∃ b, (Op.eqFields (d + 1) (x.map keyC).toArray (y.map keyC).toArray fs).run P w = .ok b w ∧ (b = true ↔ x.drop n = y.drop n)
  | [], n, sh, h, hx, hy => by
    simp only [kdS, Option.some.injEq] at h
    subst h
    have e1 : x.drop n = [] := by simpa using hx
    have e2 : y.drop n = [] := by simpa using hy
    exact ⟨true, by simp [Op.eqFields], by rw [e1, e2]; simp⟩
  | f :: fs, n, sh, h, hx, hy => by
    unfold kdS at h
    split at h
    case isFalse => cases h
    rename_i hc
    split at h
    case h_2 => cases h
    rename_i k r hk hr
    cases h
    have split1 : ∀ {z : List D}, (z.drop n).map kdOf = (k :: r).map some → ∃ c, z[n]? = some c ∧ kdOf c = some k ∧ z.drop n = c :: z.drop (n + 1) ∧ (z.drop (n + 1)).map kdOf = r.map some := fun {z} hz => by
      cases hd : z.drop n with
      | nil => rw [hd] at hz; simp at hz
      | cons c l =>
        have hc0 : z[n]? = some c := by
          have := congrArg (fun l => l[0]?) hd
          simpa using this
        have hl : z.drop (n + 1) = l := by
          have := congrArg (List.drop 1) hd
          simpa [Nat.add_comm] using this
        rw [hd] at hz
        simp only [List.map_cons, List.cons.injEq] at hz
        exact ⟨c, hc0, hz.1, by rw [hl], by rw [hl]; exact hz.2⟩
    obtain ⟨a, ha, hka, hda, hra⟩ := split1 hx
    obtain ⟨b, hb, hkb, hdb, hrb⟩ := split1 hy
    obtain ⟨t, ih, hiff⟩ := eqF_run d fs (n + 1) r hr hra hrb
    have hag := kdF_agg hk
    have pa : (part f.type (x.map keyC).toArray f.offset).run P w = .ok (keyC a) w := part_run w hag (by rw [hc.2]; simp [ha])
    have pb : (part f.type (y.map keyC).toArray f.offset).run P w = .ok (keyC b) w := part_run w hag (by rw [hc.2]; simp [hb])
    have heq : ∃ q, (Op.equalIn (d + 1) f.type (keyC a) (keyC b)).run P w = .ok q w ∧ (q = true ↔ a = b) := by
      unfold kdF at hk
      split at hk <;> first | cases hk | skip
      all_goals
        rename_i hu
        cases a <;> cases b <;> simp [kdOf] at hka hkb <;> first | (subst hka; cases hkb; done) | skip
        all_goals (try obtain rfl := hka); (try obtain rfl := hkb)
        all_goals simp only [keyC]
      · rw [run_equalIn_int w d f.type _ _ _ _ hu]
        exact ⟨_, rfl, by simp⟩
      · rw [run_equalIn_string w d f.type _ _ hu]
        exact ⟨_, rfl, by simp [toList_mk]⟩
      · rw [run_equalIn_bool' w d f.type _ _ hu]
        exact ⟨_, rfl, by simp⟩
    obtain ⟨q, hq, hqi⟩ := heq
    unfold Op.eqFields
    rw [if_pos hc.1]
    simp only [Sem.run_bind, pa, pb, hq, Result.andThen_ok, Sem.run_ite, ih]
    rw [hda, hdb]
    cases q with
    | true =>
      obtain rfl := hqi.1 rfl
      exact ⟨t, by simp, by simp [hiff]⟩
    | false =>
      have hne : a ≠ b := fun e => by have := hqi.2 e; cases this
      exact ⟨false, by simp, by simp [hne]⟩
theorem run_findKey {t : TypeId} {sh : List Kd} (ht : kyI P t = some sh) {k : List D} (hk : k.map kdOf = sh.map some) (es : List MapEntry) (ks : List (List D)) (he : es.map (·.key) = ks.map keyVal) (hks : ∀ k, k ∈ ks → k.map kdOf = sh.map some) :
    (Instr.findKey t (keyVal k) es).run P w = .ok ((mix ks k).bind fun j => (es[j]?).map fun e => (j, e.val)) w := by
  rcases kyI_cases ht with ⟨kd, rfl, hf⟩ | ⟨fs, hu, hst, hs, h2⟩
  · obtain ⟨x, rfl⟩ : ∃ x, k = [x] := List.length_eq_one_iff.1 (by simpa using congrArg List.length hk)
    have hx : kdOf x = some kd := by simpa using hk
    obtain ⟨d, hd, _⟩ := sameNow_key hf hx hx
    have := findNow_key (d := d) (kd := kd) (x := x) (fun y hy => by
      obtain ⟨d', hd', h⟩ := sameNow_key hf hx hy
      rw [hd] at hd'
      cases hd'
      exact h) es ks 0 he (by simpa using hks)
    unfold Instr.findKey
    simp only [Sem.run_bind, run_underlying hd, Result.andThen_ok]
    rw [show keyVal [x] = keyC x from rfl, this]
    simp
  · have hl : k.length = sh.length := by simpa using congrArg List.length hk
    have heq : ∀ y : List D, y.map kdOf = sh.map some → ∃ b, (Op.equal t (keyVal k) (keyVal y)).run P w = .ok b w ∧ (b = true ↔ k = y) := fun y hy => by
      have hly : y.length = sh.length := by simpa using congrArg List.length hy
      rw [keyVal_two (by omega), keyVal_two (by omega)]
      have hfs : P.fieldsOf t = fs := by simp [Program.fieldsOf, hu]
      obtain ⟨b, hb, hi⟩ := eqF_run (P := P) (w := w) 9998 (x := k) (y := y) fs.toList 0 sh hs (by simpa using hk) (by simpa using hy)
      have hst' := run_equalIn_agg (P := P) w 9999 t (k.map keyC).toArray (y.map keyC).toArray (by rw [hfs]; exact hu) hst
      rw [hfs, hb] at hst'
      exact ⟨b, hst', by simpa using hi⟩
    have hfa := findAsking_key (w := w) heq es ks 0 he hks
    unfold Instr.findKey
    simp only [Sem.run_bind, run_underlying hu, Result.andThen_ok]
    cases es with
    | nil =>
      obtain rfl : ks = [] := by cases ks with | nil => rfl | cons _ _ => simp at he
      simp [Instr.findNow, mix]
    | cons e es =>
      cases ks with
      | nil => simp at he
      | cons k0 ks =>
        have hk0 := hks k0 (by simp)
        have hl0 : k0.length = sh.length := by simpa using congrArg List.length hk0
        have e1 : e.key = keyVal k0 := by simpa using (List.cons.inj he).1
        have : Instr.findNow (.struct fs) (keyVal k) (e :: es) 0 = none := by
          rw [Instr.findNow, e1, keyVal_two (by omega), keyVal_two (by omega)]
          rfl
        rw [this]
        simpa using hfa
theorem getObj_map {g clock : Nat} {es : Array MapEntry} (hb : w.heap[g]? = some (.map es clock)) : (getObj g).run P w = .ok (.map es clock) w := by
  simp [getObj, Sem.run, hb]
theorem setObj_map {g clock : Nat} {es : Array MapEntry} (o : Obj) (hb : w.heap[g]? = some (.map es clock)) : (setObj g o).run P w = .ok () { w with heap := w.heap.setIfInBounds g o } := by
  simp [setObj, Sem.run, hb]
theorem keyOf_rel {o : Nat → Prop} {v : V} {ds : List D} {val : Value} {sh : List Kd} (h : keyOf v = some ds) (hs : ds.map kdOf = sh.map some) (hv : VRel w o H σ v val) : val = keyVal ds := by
  have one : ∀ {x : D} {u : Value} {k : Kd}, kdOf x = some k → DRel w o x u → u = keyC x := fun {x u k} hk hx => by
    cases x <;> simp [kdOf] at hk <;> cases hx <;> rfl
  unfold keyOf at h
  split at h
  · cases h
    obtain ⟨k, rfl⟩ : ∃ k, sh = [k] := List.length_eq_one_iff.1 (by simpa using (congrArg List.length hs).symm)
    exact one (by simpa using hs) hv.inv_d
  · rename_i cs
    split at h
    · rename_i a b l hl
      cases h
      obtain rfl := dsOf_eq hl
      obtain ⟨vs, rfl, hlen, hr⟩ := hv.inv_ag
      rw [keyVal_two (by simp)]
      congr 1
      apply Array.ext
      · simpa using hlen.symm
      · intro i h1 h2
        have hi : i < (a :: b :: l).length := by simpa using h2
        have hd : (a :: b :: l)[i]? = some (a :: b :: l)[i] := List.getElem?_eq_getElem hi
        have hx := hr i (.d (a :: b :: l)[i]) vs[i] (by rw [List.getElem?_map, hd]; rfl) (by simp [h1])
        have hk : ((a :: b :: l).map kdOf)[i]? = some (kdOf (a :: b :: l)[i]) := by rw [List.getElem?_map, hd]; rfl
        rw [hs, List.getElem?_map] at hk
        cases hsi : sh[i]? with
        | none => rw [hsi] at hk; cases hk
        | some k =>
          rw [hsi] at hk
          have hk : kdOf (a :: b :: l)[i] = some k := by simpa using hk.symm
          rw [one hk hx.inv_d]
          simp only [List.getElem_toArray, List.getElem_map]
    · cases h
  · cases h
theorem zvI_spec {t : TypeId} {x : D} (h : zvI P t = some x) : ∃ z, (zeroValue t).run P w = .ok z w ∧ ∀ w' o, DRel w' o x z := by
  unfold zvI at h
  split at h
  · rename_i i hi
    split at h
    · rename_i z hz
      exact ⟨z, by simp [zeroValue, typeInfo, hi, hz], fun w' o => cD_rel h w' o⟩
    · cases h
  · cases h
theorem map_at (hw : WOk w H σ) {id ver e : Nat} {sh : List Kd} {ks : List (List D)} {vs : List V} {vm : Value} (hr : H[id]? = some (.row ver e 0 [[.mp sh ks vs]])) (hv : VRel w (Own H σ) H σ (.mo id ver) vm) :
    ∃ g cap es clock, σ id = .blk g cap ∧ vm = .map (some g) ∧ (clock = es.size ∧ ∀ (j : Nat) (m : MapEntry), es[j]? = some m → m.born = j) ∧ w.heap[g]? = some (.map es clock) ∧ (∀ k, k ∈ ks → k.map kdOf = sh.map some) ∧ es.toList.map (·.key) = ks.map keyVal ∧ vs.length = es.size ∧
      ∀ (j : Nat) (c : V) (m : MapEntry), vs[j]? = some c → es[j]? = some m → VRel w (Own H σ) H σ c m.val := by
  obtain ⟨_, hm⟩ := hv.inv_mo hr
  obtain ⟨_, g, cap, hg, rfl⟩ := hm rfl
  rcases hw.obj _ _ _ _ _ hr with ⟨⟨_, hn⟩, _⟩ | ⟨_, _, _, _, _, _, _, _, h6, _⟩ | ⟨g', cap', es, clock, sh', ks', vs', hg', hh, _, he, h1, ⟨h2, hbn⟩, h3⟩
  · rw [hn] at hg; cases hg
  · have := h6 0 _ rfl
    simp at this
  · rw [hg] at hg'
    cases hg'
    simp only [List.cons.injEq, V.mp.injEq, and_true] at he
    obtain ⟨rfl, rfl, rfl⟩ := he
    obtain ⟨vals, he, hl, hrel⟩ := h3.inv_mp
    cases he
    refine ⟨g, cap, es, clock, hg, rfl, hbn, hh, h1, h2, by simpa using hl, fun j c m hc hm => hrel j c _ hc (by simp [hm])⟩
def vcMakeMap (P : Program) (t : TypeId) (H : Heap) (K : V → Heap → Prop) : Prop :=
  match mpI P t with
  | some (k, _) => (match kyI P k with
    | some sh => K (.mo H.length 0) (H ++ [.row 0 t 0 [[.mp sh [] []]]])
    | none => False)
  | none => False
theorem vcMakeMap_run {t : TypeId} {r : Option Value} {K : V → Heap → Prop} (h : vcMakeMap P t H K) (hrs : ∀ v, r = some v → ∃ k n, v = .int k n) (hw : WOk w H σ) :
    ∃ v val w' H' σ', (Instr.makeMap t r).run P w = .ok val w' ∧ Pres w H σ w' H' σ' ∧ WOk w' H' σ' ∧ VRel w' (Own H' σ') H' σ' v val ∧ K v H' := by
  unfold vcMakeMap at h
  split at h
  case h_2 => exact h.elim
  rename_i kt et hmt
  split at h
  case h_2 => exact h.elim
  rename_i sh hsh
  have hu := mpI_spec hmt
  have hup := hw.push (w' := w.alloc (.map #[] 0)) (ver := 0) (e := t) (sz := 0) (rows := [[.mp sh [] []]]) (c := .blk w.heap.size 0) rfl rfl rfl (by simp)
    (fun k hk => RowKit.Below.heap_alloc w _ k hk) (fun g cap hc => by cases hc; exact Nat.le_refl _)
    (.inr <| .inr ⟨w.heap.size, 0, #[], 0, sh, [], [], rfl, Go.heap_alloc_new w _, rfl, rfl, (by simp), ⟨rfl, rfl, by simp⟩, (by rw [Array.map_empty]; exact .mp sh [] [] #[] rfl (fun j c v hc => by simp at hc))⟩)
  refine ⟨_, .map (some w.heap.size), _, _, _, ?_, hup.1, hup.2, .mo _ _ _ (by simp) fun v1 e1 s1 r1 hr1 => ?_, h⟩
  · unfold Instr.makeMap
    cases r with
    | none => simp
    | some v =>
      obtain ⟨k, n, rfl⟩ := hrs v rfl
      simp [run_underlying hu, asIntOf, asInt]
  · rw [List.getElem?_append_right (Nat.le_refl _)] at hr1
    simp at hr1
    obtain ⟨rfl, rfl, rfl, rfl⟩ := hr1
    exact ⟨Nat.le_refl _, fun _ => ⟨rfl, w.heap.size, 0, by simp [Conc.put], rfl⟩⟩
noncomputable def lkV (ok : Bool) (v : V) (t : Bool) : V := if ok then .tu [v, .d (.b t)] else v
def vcLookup (P : Program) (t : TypeId) (m k : V) (ok : Bool) (H : Heap) (K : V → Prop) : Prop :=
  match mpI P t with
  | some (kt, et) => (match kyI P kt, keyOf k, zvI P et with
    | some sh, some ds, some z => ds.map kdOf = sh.map some ∧ (match m with
      | .mo id ver => (match H[id]? with
        | some (.row ver' e 0 [[.mp sh' ks vs]]) => ver = ver' ∧ sh' = sh ∧ K (lkV ok (mget ks vs ds (.d z)) (mhas ks ds))
        | _ => False)
      | .d (.m sh' ks vs) => sh' = sh ∧ K (lkV ok (.d (mget ks vs ds z)) (mhas ks ds))
      | _ => False)
    | _, _, _ => False)
  | none => False
theorem vcLookup_run {t : TypeId} {m k : V} {ok : Bool} {K : V → Prop} {vm vk : Value} (h : vcLookup P t m k ok H K) (hw : WOk w H σ) (hm : VRel w (Own H σ) H σ m vm) (hk : VRel w (Own H σ) H σ k vk) :
    ∃ r val, (Instr.lookup t vm vk ok).run P w = .ok val w ∧ VRel w (Own H σ) H σ r val ∧ K r := by
  unfold vcLookup at h
  split at h
  case h_2 => exact h.elim
  rename_i kt et hmt
  split at h
  case h_2 => exact h.elim
  rename_i sh ds z hsh hds hz
  obtain ⟨hkd, h⟩ := h
  have hu := mpI_spec hmt
  obtain rfl := keyOf_rel hds hkd hk
  obtain ⟨zv, hzr, hzd⟩ := zvI_spec (w := w) hz
  -- one lookup in known entries
  have core : ∀ (g : Nat) (es : Array MapEntry) (clock : Nat) (ks : List (List D)), w.heap[g]? = some (.map es clock) → (∀ k, k ∈ ks → k.map kdOf = sh.map some) → es.toList.map (·.key) = ks.map keyVal →
      (Instr.lookup t (.map (some g)) (keyVal ds) ok).run P w = .ok (if ok then .tuple #[((mix ks ds).bind fun j => (es[j]?).map (·.val)).getD zv, .bool (mhas ks ds)] else ((mix ks ds).bind fun j => (es[j]?).map (·.val)).getD zv) w := by
    intro g es clock ks hh h1 h2
    have hf := run_findKey (P := P) (w := w) hsh hkd es.toList ks h2 h1
    have hc := run_checkKey (P := P) (w := w) hsh hkd es.isEmpty 9998
    have hlen : es.size = ks.length := by simpa using congrArg List.length h2
    have h10 : (Instr.checkKey es.isEmpty 10000 kt (keyVal ds)).run P w = .ok () w := hc
    cases hmx : mix ks ds with
    | none =>
      have hf' : (Instr.findKey kt (keyVal ds) es.toList).run P w = .ok none w := by rw [hf, hmx]; rfl
      simp [Instr.lookup, run_underlying hu, getObj_map hh, h10, hf', hzr, mhas, hmx]
    | some j =>
      have hj : j < es.size := by rw [hlen]; exact (mix_lt hmx).2
      have hf' : (Instr.findKey kt (keyVal ds) es.toList).run P w = .ok (some (j, es[j].val)) w := by rw [hf, hmx]; simp [hj]
      simp [Instr.lookup, run_underlying hu, getObj_map hh, h10, hf', mhas, hmx, hj]
  have fin : ∀ {r : V} {u : Value} {b : Bool}, VRel w (Own H σ) H σ r u → VRel w (Own H σ) H σ (lkV ok r b) (if ok then .tuple #[u, .bool b] else u) := fun {r u b} hr => by
    unfold lkV
    cases ok with
    | false => exact hr
    | true =>
      refine .tu _ _ rfl fun j c v hc hv => ?_
      match j with
      | 0 => simp at hc hv; subst hc hv; exact hr
      | 1 => simp at hc hv; subst hc hv; exact .d _ _ (.b _)
      | j + 2 => simp at hc
  split at h
  · rename_i id ver
    split at h
    case h_2 => exact h.elim
    rename_i ver' e sh' ks vs hr
    obtain ⟨rfl, rfl, h⟩ := h
    obtain ⟨g, cap, es, clock, hg, rfl, _, hh, h1, h2, hl, hrel⟩ := map_at hw hr hm
    refine ⟨_, _, core g es clock ks hh h1 h2, fin ?_, h⟩
    unfold mget
    cases hmx : mix ks ds with
    | none => exact .d _ _ (hzd _ _)
    | some j =>
      have hlen : es.size = ks.length := by simpa using congrArg List.length h2
      have hj : j < es.size := by rw [hlen]; exact (mix_lt hmx).2
      have hv : vs[j]? = some vs[j] := by simp [hl, hj]
      have he : es[j]? = some es[j] := by simp [hj]
      simpa [hv, he] using hrel j _ _ hv he
  · rename_i sh' ks vs
    obtain ⟨rfl, h⟩ := h
    obtain ⟨g, clock, es, rfl, _, _, hh, h1, h2, hl, hrel⟩ := hm.inv_d.inv_m
    refine ⟨_, _, core g es clock ks hh h1 h2, fin (.d _ _ ?_), h⟩
    unfold mget
    cases hmx : mix ks ds with
    | none => exact hzd _ _
    | some j =>
      have hlen : es.size = ks.length := by simpa using congrArg List.length h2
      have hj : j < es.size := by rw [hlen]; exact (mix_lt hmx).2
      have hv : vs[j]? = some vs[j] := by simp [hl, hj]
      have he : es[j]? = some es[j] := by simp [hj]
      simpa [hv, he] using hrel j _ _ hv he
  · exact h.elim
theorem sameBits_key {x : D} {k : Kd} (h : kdOf x = some k) (n : Nat) : Instr.sameBits n (keyC x) (keyC x) = true := by
  cases x <;> simp [kdOf] at h <;> cases n <;> simp [keyC, Instr.sameBits, bytes_beq']
theorem sameBits_keys {ds : List D} {sh : List Kd} (h : ds.map kdOf = sh.map some) (n : Nat) : Instr.sameBits (n + 1) (keyVal ds) (keyVal ds) = true := by
  have all : ∀ x, x ∈ ds → ∃ k, kdOf x = some k := fun x hx => by
    have : kdOf x ∈ sh.map some := by rw [← h]; exact List.mem_map_of_mem hx
    obtain ⟨k, _, hk⟩ := List.mem_map.1 this
    exact ⟨k, hk.symm⟩
  have agg : Instr.sameBits (n + 1) (.agg (ds.map keyC).toArray) (.agg (ds.map keyC).toArray) = true := by
    rw [Instr.sameBits]
    simp only [beq_self_eq_true, Bool.true_and, List.all_eq_true]
    rintro ⟨a, b⟩ hab
    obtain ⟨i, hi, he⟩ := List.getElem_of_mem hab
    simp at he hi
    obtain ⟨h1, h2⟩ := he
    have hx := all ds[i] (List.getElem_mem _)
    obtain ⟨k, hk⟩ := hx
    subst h1 h2
    exact sameBits_key hk n
  match ds, all, agg with
  | [], _, agg => exact agg
  | [x], all, _ =>
    obtain ⟨k, hk⟩ := all x (by simp)
    exact sameBits_key hk _
  | x :: y :: l, _, agg => exact agg
theorem map_set (hw : WOk w H σ) {id ver e g cap clock : Nat} {sh : List Kd} {ks ks' : List (List D)} {vs vs' : List V} {es es' : Array MapEntry} (hr : H[id]? = some (.row ver e 0 [[.mp sh ks vs]])) (hg : σ id = .blk g cap) (hh : w.heap[g]? = some (.map es clock))
    (hks : ∀ k, k ∈ ks' → k.map kdOf = sh.map some) (e1 : es'.toList.map (·.key) = ks'.map keyVal) (hbn : ∀ (j : Nat) (m : MapEntry), es'[j]? = some m → m.born = j) (e2 : vs'.length = es'.size) (e3 : ∀ (j : Nat) (c : V) (m : MapEntry), vs'[j]? = some c → es'[j]? = some m → VRel w (Own H σ) H σ c m.val) :
    ∃ σ', Pres w H σ { w with heap := w.heap.setIfInBounds g (.map es' es'.size) } (H.set id (.row ver e 0 [[.mp sh ks' vs']])) σ' ∧ WOk { w with heap := w.heap.setIfInBounds g (.map es' es'.size) } (H.set id (.row ver e 0 [[.mp sh ks' vs']])) σ' := by
  have hgl : g < w.heap.size := (Array.getElem?_eq_some_iff.1 hh).1
  have hup := hw.set (w' := { w with heap := w.heap.setIfInBounds g (.map es' es'.size) }) (ver' := ver) (c := σ id) (e' := e) (sz' := 0) (rows' := [[.mp sh ks' vs']]) hr (Nat.le_refl _)
    (fun _ => ⟨rfl, rfl, rfl⟩) rfl rfl rfl (by simp) (fun k hk hne => by
      show (w.heap.setIfInBounds g _)[k]? = _
      rw [Array.getElem?_setIfInBounds, if_neg (fun e => by subst e; exact hne cap hg)])
    (fun g' cap' hc => .inl ⟨cap', hc⟩)
    (.inr <| .inr ⟨g, cap, es', es'.size, sh, _, _, hg, (by
      show (w.heap.setIfInBounds g _)[g]? = _
      rw [Array.getElem?_setIfInBounds, if_pos rfl, if_pos hgl]), rfl, rfl, hks, ⟨e1, rfl, hbn⟩, .mp sh _ _ _ (by simpa using e2) (fun j c u hc hu => by
        rw [Array.getElem?_map] at hu
        cases hm : es'[j]? with
        | none => rw [hm] at hu; cases hu
        | some m =>
          rw [hm] at hu
          simp at hu
          subst hu
          exact e3 j c m hc hm)⟩)
  exact ⟨_, hup.1, hup.2⟩
theorem mputK_sh {ks : List (List D)} {ds : List D} {sh : List Kd} (h1 : ∀ k, k ∈ ks → k.map kdOf = sh.map some) (hkd : ds.map kdOf = sh.map some) : ∀ k, k ∈ mputK ks ds → k.map kdOf = sh.map some := fun k hk' => by
  unfold mputK at hk'
  split at hk'
  · exact h1 k hk'
  · rcases List.mem_append.1 hk' with h' | h'
    · exact h1 k h'
    · simp at h'; subst h'; exact hkd
theorem ents_push {o : Nat → Prop} {ks : List (List D)} {vs : List V} {es : Array MapEntry} {ds : List D} {v : V} {vv : Value} (h2 : es.toList.map (·.key) = ks.map keyVal) (hbn : ∀ (j : Nat) (m : MapEntry), es[j]? = some m → m.born = j) (hl : vs.length = es.size)
    (hrel : ∀ (j : Nat) (c : V) (m : MapEntry), vs[j]? = some c → es[j]? = some m → VRel w o H σ c m.val) (hv : VRel w o H σ v vv) :
    (es.push { key := keyVal ds, val := vv, born := es.size }).toList.map (·.key) = (ks ++ [ds]).map keyVal ∧ (∀ (j : Nat) (m : MapEntry), (es.push { key := keyVal ds, val := vv, born := es.size })[j]? = some m → m.born = j) ∧ (vs ++ [v]).length = (es.push { key := keyVal ds, val := vv, born := es.size }).size ∧
      ∀ (j : Nat) (c : V) (m : MapEntry), (vs ++ [v])[j]? = some c → (es.push { key := keyVal ds, val := vv, born := es.size })[j]? = some m → VRel w o H σ c m.val := by
  refine ⟨by simp [h2], fun j m hm => ?_, by simp [hl], fun j c m hc hm => ?_⟩
  · rw [Array.getElem?_push] at hm
    split at hm
    · rename_i hj
      cases hm
      exact hj.symm
    · exact hbn j m hm
  · rw [List.getElem?_append] at hc
    rw [Array.getElem?_push] at hm
    split at hc
    · rename_i hj
      rw [if_neg (by omega)] at hm
      exact hrel j c m hc hm
    · rename_i hj
      have hj' : j = vs.length := by
        have := (List.getElem?_eq_some_iff.1 hc).1
        simp at this
        omega
      subst hj'
      rw [if_pos (by omega)] at hm
      simp at hc hm
      subst hc hm
      exact hv
theorem ents_set {o : Nat → Prop} {ks : List (List D)} {vs : List V} {es : Array MapEntry} {ds : List D} {i : Nat} {v : V} {vv : Value} (hi : i < es.size) (hkey : es[i].key = keyVal ds) (h2 : es.toList.map (·.key) = ks.map keyVal) (hbn : ∀ (j : Nat) (m : MapEntry), es[j]? = some m → m.born = j) (hl : vs.length = es.size)
    (hrel : ∀ (j : Nat) (c : V) (m : MapEntry), vs[j]? = some c → es[j]? = some m → VRel w o H σ c m.val) (hv : VRel w o H σ v vv) :
    (es.modify i fun e => { e with key := keyVal ds, val := vv }).toList.map (·.key) = ks.map keyVal ∧ (∀ (j : Nat) (m : MapEntry), (es.modify i fun e => { e with key := keyVal ds, val := vv })[j]? = some m → m.born = j) ∧ (vs.set i v).length = (es.modify i fun e => { e with key := keyVal ds, val := vv }).size ∧
      ∀ (j : Nat) (c : V) (m : MapEntry), (vs.set i v)[j]? = some c → (es.modify i fun e => { e with key := keyVal ds, val := vv })[j]? = some m → VRel w o H σ c m.val := by
  refine ⟨?_, fun j m hm => ?_, by simp [hl], fun j c m hc hm => ?_⟩
  · rw [← h2]
    apply List.ext_getElem?
    intro j
    simp only [List.getElem?_map, Array.getElem?_toList, Array.getElem?_modify]
    split
    · rename_i hij
      subst hij
      simp [hi, hkey]
    · rfl
  · rw [Array.getElem?_modify] at hm
    split at hm
    · rename_i hij
      subst hij
      simp [hi] at hm
      subst hm
      exact hbn _ es[i] (by simp [hi])
    · exact hbn j m hm
  · rw [List.getElem?_set] at hc
    rw [Array.getElem?_modify] at hm
    split at hc
    · rename_i hij
      subst hij
      rw [if_pos rfl] at hm
      split at hc
      · simp [hi] at hc hm
        subst hc hm
        exact hv
      · cases hc
    · rename_i hij
      rw [if_neg hij] at hm
      exact hrel j c m hc hm
def mapK (P : Program) (t : TypeId) (m k : V) (H : Heap) (K : (id ver e : Nat) → List Kd → List (List D) → List V → List D → D → Prop) : Prop :=
  match mpI P t with
  | some (kt, et) => (match kyI P kt, keyOf k, zvI P et, m with
    | some sh, some ds, some z, .mo id ver => ds.map kdOf = sh.map some ∧ (match H[id]? with
      | some (.row ver' e 0 [[.mp sh' ks vs]]) => ver = ver' ∧ sh' = sh ∧ K id ver e sh ks vs ds z
      | _ => False)
    | _, _, _, _ => False)
  | none => False
theorem mapK_run {t : TypeId} {m k : V} {K : (id ver e : Nat) → List Kd → List (List D) → List V → List D → D → Prop} {vm vk : Value} (h : mapK P t m k H K) (hw : WOk w H σ) (hm : VRel w (Own H σ) H σ m vm) (hk : VRel w (Own H σ) H σ k vk) :
    ∃ id ver e sh ks vs ds z zv g cap es kt et, K id ver e sh ks vs ds z ∧ H[id]? = some (.row ver e 0 [[.mp sh ks vs]]) ∧ P.underlying t = some (.map kt et) ∧ vk = keyVal ds ∧ ds.map kdOf = sh.map some ∧ (zeroValue et).run P w = .ok zv w ∧ (∀ w' o, DRel w' o z zv) ∧
      σ id = .blk g cap ∧ vm = .map (some g) ∧ w.heap[g]? = some (.map es es.size) ∧ (∀ (j : Nat) (m : MapEntry), es[j]? = some m → m.born = j) ∧ (∀ k, k ∈ ks → k.map kdOf = sh.map some) ∧ es.toList.map (·.key) = ks.map keyVal ∧ vs.length = es.size ∧
      (∀ (j : Nat) (c : V) (m : MapEntry), vs[j]? = some c → es[j]? = some m → VRel w (Own H σ) H σ c m.val) ∧ (Instr.checkKey false 10000 kt (keyVal ds)).run P w = .ok () w ∧
      ((mix ks ds = none ∧ (Instr.findKey kt (keyVal ds) es.toList).run P w = .ok none w) ∨
        ∃ (i : Nat) (hi : i < es.size), mix ks ds = some i ∧ es[i].key = keyVal ds ∧ (Instr.findKey kt (keyVal ds) es.toList).run P w = .ok (some (i, es[i].val)) w) := by
  unfold mapK at h
  split at h
  case h_2 => exact h.elim
  rename_i kt et hmt
  split at h
  case h_2 => exact h.elim
  rename_i sh ds z id ver hsh hds hz
  obtain ⟨hkd, h⟩ := h
  split at h
  case h_2 => exact h.elim
  rename_i ver' e sh' ks vs hr
  obtain ⟨rfl, rfl, h⟩ := h
  have hu := mpI_spec hmt
  obtain rfl := keyOf_rel hds hkd hk
  obtain ⟨zv, hzr, hzd⟩ := zvI_spec (w := w) hz
  obtain ⟨g, cap, es, clock, hg, rfl, ⟨rfl, hbn⟩, hh, h1, h2, hl, hrel⟩ := map_at hw hr hm
  have hf := run_findKey (P := P) (w := w) hsh hkd es.toList ks h2 h1
  have h10 : (Instr.checkKey false 10000 kt (keyVal ds)).run P w = .ok () w := run_checkKey (P := P) (w := w) hsh hkd false 9998
  have hlen : es.size = ks.length := by simpa using congrArg List.length h2
  refine ⟨id, ver, e, sh', ks, vs, ds, z, zv, g, cap, es, kt, et, h, hr, hu, rfl, hkd, hzr, hzd, hg, rfl, hh, hbn, h1, h2, hl, hrel, h10, ?_⟩
  cases hmx : mix ks ds with
  | none => exact .inl ⟨rfl, by rw [hf, hmx]; rfl⟩
  | some i =>
    obtain ⟨hki, hi⟩ := mix_lt hmx
    have hie : i < es.size := by omega
    refine .inr ⟨i, hie, rfl, ?_, by rw [hf, hmx]; simp [hie]⟩
    have := congrArg (fun l => l[i]?) h2
    simpa [hie, hki] using this
theorem stays {ds : List D} {sh : List Kd} (hkd : ds.map kdOf = sh.map some) : (Instr.keyThatStays (keyVal ds) (keyVal ds)).run P w = .ok (keyVal ds) w := by
  unfold Instr.keyThatStays
  rw [if_pos (sameBits_keys hkd 9999)]
  rfl
def vcMapUp (P : Program) (t : TypeId) (m k v : V) (H : Heap) (K : V → Heap → Prop) : Prop :=
  mapK P t m k H fun id ver e sh ks vs ds _ => K .un (H.set id (.row ver e 0 [[.mp sh (mputK ks ds) (mputV ks vs ds v)]]))
theorem vcMapUp_run {t : TypeId} {m k v : V} {K : V → Heap → Prop} {vm vk vv : Value} (h : vcMapUp P t m k v H K) (hw : WOk w H σ) (hm : VRel w (Own H σ) H σ m vm) (hk : VRel w (Own H σ) H σ k vk) (hv : VRel w (Own H σ) H σ v vv) :
    ∃ w' H' σ', (Instr.mapUpdate t vm vk vv).run P w = .ok () w' ∧ Pres w H σ w' H' σ' ∧ WOk w' H' σ' ∧ K .un H' := by
  obtain ⟨id, ver, e, sh, ks, vs, ds, z, zv, g, cap, es, kt, et, h, hr, hu, rfl, hkd, hzr, hzd, hg, rfl, hh, hbn, h1, h2, hl, hrel, h10, hf⟩ := mapK_run h hw hm hk
  rcases hf with ⟨hmx, hf⟩ | ⟨i, hi, hmx, hkey, hf⟩
  · obtain ⟨e1, e2, e3, e4⟩ := ents_push (ds := ds) h2 hbn hl hrel hv
    obtain ⟨σ', p, ok⟩ := map_set (ks' := mputK ks ds) (vs' := mputV ks vs ds v) hw hr hg hh (mputK_sh h1 hkd) (by simpa [mputK, hmx] using e1) e2 (by simpa [mputV, hmx] using e3) (by simpa only [mputV, hmx] using e4)
    refine ⟨_, _, _, ?_, p, ok, h⟩
    simp [Instr.mapUpdate, run_underlying hu, getObj_map hh, h10, hf, setObj_map _ hh]
  · obtain ⟨e1, e2, e3, e4⟩ := ents_set (ds := ds) hi hkey h2 hbn hl hrel hv
    obtain ⟨σ', p, ok⟩ := map_set (ks' := mputK ks ds) (vs' := mputV ks vs ds v) hw hr hg hh (mputK_sh h1 hkd) (by simpa [mputK, hmx] using e1) e2 (by simpa [mputV, hmx] using e3) (by simpa only [mputV, hmx] using e4)
    refine ⟨_, _, _, ?_, p, ok, h⟩
    simp [Instr.mapUpdate, run_underlying hu, getObj_map hh, h10, hf, setObj_map _ hh, hi, hkey, stays hkd]
noncomputable def mtouchV (ks : List (List D)) (vs : List V) (k : List D) (z : V) : List V := match mix ks k with | some _ => vs | none => vs ++ [z]
noncomputable def mat (ks : List (List D)) (k : List D) : Nat := (mix ks k).getD ks.length
def vcMapEnt (P : Program) (t : TypeId) (m k : V) (H : Heap) (K : V → Heap → Prop) : Prop :=
  mapK P t m k H fun id ver e sh ks vs ds z => K (.tu [mget ks vs ds (.d z), .d (.i .i64 (mat ks ds))]) (H.set id (.row ver e 0 [[.mp sh (mputK ks ds) (mtouchV ks vs ds (.d z))]]))
theorem vcMapEnt_run {t : TypeId} {m k : V} {K : V → Heap → Prop} {vm vk : Value} (h : vcMapEnt P t m k H K) (hw : WOk w H σ) (hm : VRel w (Own H σ) H σ m vm) (hk : VRel w (Own H σ) H σ k vk) :
    ∃ v val w' H' σ', (Instr.mapEntry t vm vk).run P w = .ok val w' ∧ Pres w H σ w' H' σ' ∧ WOk w' H' σ' ∧ VRel w' (Own H' σ') H' σ' v val ∧ K v H' := by
  obtain ⟨id, ver, e, sh, ks, vs, ds, z, zv, g, cap, es, kt, et, h, hr, hu, rfl, hkd, hzr, hzd, hg, rfl, hh, hbn, h1, h2, hl, hrel, h10, hf⟩ := mapK_run h hw hm hk
  have hlen : es.size = ks.length := by simpa using congrArg List.length h2
  have two : ∀ {w' : World} {H' : Heap} {σ' : Conc} {a b : V} {u v : Value}, VRel w' (Own H' σ') H' σ' a u → VRel w' (Own H' σ') H' σ' b v → VRel w' (Own H' σ') H' σ' (.tu [a, b]) (.tuple #[u, v]) := fun h1 h2 => by
    refine .tu _ _ rfl fun j c v hc hv => ?_
    match j with
    | 0 => simp at hc hv; subst hc hv; exact h1
    | 1 => simp at hc hv; subst hc hv; exact h2
    | j + 2 => simp at hc
  rcases hf with ⟨hmx, hf⟩ | ⟨i, hi, hmx, hkey, hf⟩
  · obtain ⟨e1, e2, e3, e4⟩ := ents_push (ds := ds) (v := .d z) (vv := zv) h2 hbn hl hrel (.d _ _ (hzd _ _))
    obtain ⟨σ', p, ok⟩ := map_set (ks' := mputK ks ds) (vs' := mtouchV ks vs ds (.d z)) hw hr hg hh (mputK_sh h1 hkd) (by simpa [mputK, hmx] using e1) e2 (by simpa [mtouchV, hmx] using e3) (by simpa only [mtouchV, hmx] using e4)
    refine ⟨_, .tuple #[zv, goInt es.size], _, _, _, ?_, p, ok, two ?_ ?_, h⟩
    · simp [Instr.mapEntry, run_underlying hu, getObj_map hh, h10, hf, setObj_map _ hh, hzr]
    · simp only [mget, hmx]
      exact .d _ _ (hzd _ _)
    · simp only [mat, hmx, Option.getD_none, ← hlen]
      exact .d _ _ (.i _ _)
  · have hval := hrel i vs[i] es[i] (by simp [hl, hi]) (by simp [hi])
    obtain ⟨e1, e2, e3, e4⟩ := ents_set (ds := ds) (i := i) (v := vs[i]) (vv := es[i].val) hi hkey h2 hbn hl hrel hval
    have hset : vs.set i vs[i] = vs := List.set_getElem_self _
    rw [hset] at e3 e4
    have hborn : es[i].born = i := hbn i _ (by simp [hi])
    obtain ⟨σ', p, ok⟩ := map_set (ks' := mputK ks ds) (vs' := mtouchV ks vs ds (.d z)) hw hr hg hh (mputK_sh h1 hkd) (by simpa [mputK, hmx] using e1) e2 (by simpa [mtouchV, hmx] using e3) (by simpa only [mtouchV, hmx] using e4)
    refine ⟨_, .tuple #[es[i].val, goInt i], _, _, _, ?_, p, ok, two ?_ ?_, h⟩
    · have hmod : (es.modify i fun e => { e with key := keyVal ds }) = (es.modify i fun e => { e with key := keyVal ds, val := es[i].val }) := by
        apply Array.ext
        · simp
        · intro j h1 h2
          simp only [Array.getElem_modify]
          split
          · rename_i hij; subst hij; rfl
          · rfl
      simp [Instr.mapEntry, run_underlying hu, getObj_map hh, h10, hf, setObj_map _ hh, hi, hkey, stays hkd, hborn, hmod]
    · simp only [mget, hmx]
      have hv : vs[i]? = some vs[i] := by simp [hl, hi]
      rw [hv]
      exact hval.pres p
    · simp only [mat, hmx, Option.getD_some]
      exact .d _ _ (.i _ _)
def vcEntSt (m s v : V) (H : Heap) (K : V → Heap → Prop) : Prop :=
  match m, s with
  | .mo id ver, .d (.i _ n) => (match H[id]? with
    | some (.row ver' e 0 [[.mp sh ks vs]]) => ver = ver' ∧ 0 ≤ n ∧ n < vs.length ∧ K .un (H.set id (.row ver e 0 [[.mp sh ks (vs.set n.toNat v)]]))
    | _ => False)
  | _, _ => False
theorem vcEntSt_run {t : TypeId} {m s v : V} {K : V → Heap → Prop} {vm vs' vv : Value} (h : vcEntSt m s v H K) (hw : WOk w H σ) (hm : VRel w (Own H σ) H σ m vm) (hs : VRel w (Own H σ) H σ s vs') (hv : VRel w (Own H σ) H σ v vv) :
    ∃ w' H' σ', (Instr.entryStore t vm vs' vv).run P w = .ok () w' ∧ Pres w H σ w' H' σ' ∧ WOk w' H' σ' ∧ K .un H' := by
  unfold vcEntSt at h
  split at h
  case h_2 => exact h.elim
  rename_i id ver k n
  split at h
  case h_2 => exact h.elim
  rename_i ver' e sh ks vs hr
  obtain ⟨rfl, h0, hn, h⟩ := h
  obtain rfl := hs.inv_d.inv_i
  obtain ⟨g, cap, es, clock, hg, rfl, ⟨rfl, hbn⟩, hh, h1, h2, hl, hrel⟩ := map_at hw hr hm
  obtain ⟨i, rfl⟩ : ∃ i : Nat, n = i := ⟨n.toNat, by omega⟩
  simp only [Int.toNat_natCast] at h
  have hi : i < es.size := by omega
  have hlen : es.size = ks.length := by simpa using congrArg List.length h2
  have hkey : es[i].key = keyVal (ks[i]'(by omega)) := by
    have := congrArg (fun l => l[i]?) h2
    have hki : ks[i]? = some (ks[i]'(by omega)) := List.getElem?_eq_getElem (by omega)
    simpa [hi, hki] using this
  obtain ⟨e1, e2, e3, e4⟩ := ents_set (ds := ks[i]'(by omega)) hi hkey h2 hbn hl hrel hv
  have hmod : (es.modify i fun e => { e with val := vv }) = (es.modify i fun e => { e with key := keyVal (ks[i]'(by omega)), val := vv }) := by
    apply Array.ext
    · simp
    · intro j h1 h2
      simp only [Array.getElem_modify]
      split
      · rename_i hij; subst hij; simp only [← hkey]
      · rfl
  obtain ⟨σ', p, ok⟩ := map_set (ks' := ks) (vs' := vs.set i v) hw hr hg hh h1 e1 e2 e3 e4
  have hfi : es.findIdx? (fun e => (e.born : Int) == (i : Int)) = some i := by
    rw [Array.findIdx?_eq_some_iff_getElem]
    refine ⟨hi, by simp [hbn i es[i] (by simp [hi])], fun j hj => ?_⟩
    have := hbn j (es[j]'(by omega)) (by simp)
    simp [this]
    omega
  refine ⟨_, _, _, ?_, p, ok, h⟩
  simp [Instr.entryStore, getObj_map hh, asInt, asIntOf, hfi, setObj_map _ hh, hmod]
end
end Go.Proofs.YtmhabdopcbokoaaDoor.Ab
