/- The reading of each kind of operation, as an equation. No condition. -/
import Derived.Test.YtpgdflhcmijaiaaDoorQ14
set_option linter.all false
set_option linter.unusedSimpArgs false
set_option linter.unusedVariables false
namespace Go.Proofs.YtpgdflhcmijaiaaDoor.Ab
open Go
variable [Glo]
theorem ops_nil {P : Program} {n : Nat} {M : List Nat} {all rest : List Oper} {d : Option Tmp} {ty : TypeId} {ps : String} {af : Array Edge} {g : Option (Nat × Bool)} {F : Frame} {H : Heap} {K : Frame → Heap → Prop} : vcOps P n M all [] F H K = K F H := Eq.trans rfl rfl
theorem ops_cons {P : Program} {n : Nat} {M : List Nat} {all rest : List Oper} {d : Option Tmp} {ty : TypeId} {ps : String} {af : Array Edge} {g : Option (Nat × Bool)} {F : Frame} {H : Heap} {op : Op} {K : Frame → Heap → Prop} : vcOps P n M all (⟨d, op, ty, ps, af, none⟩ :: rest) F H K = (dstOk n d ∧ vcOp P M ⟨d, op, ty, ps, af, none⟩ F H fun v H1 => vcOps P n M all rest (F.put d v) H1 K) := Eq.trans rfl rfl
theorem dst_some {n x : Nat} : dstOk n (some x) = (x < n) := Eq.trans rfl rfl
theorem dst_none {n : Nat} : dstOk n none = True := Eq.trans rfl rfl
theorem put_one {F : Frame} {x : Nat} {v : V} : Frame.put F (some x) v = (x, v) :: F := Eq.trans rfl rfl
theorem put_no {F : Frame} {v : V} : Frame.put F none v = F := Eq.trans rfl rfl
theorem ev_tmp {F : Frame} {t : Nat} : ev F (.tmp t) = F.get t := Eq.trans rfl rfl
theorem ev_func {F : Frame} {t : Nat} : ev F (.func t) = .fn t [] := Eq.trans rfl rfl
theorem ev_int {F : Frame} {k : IntKind} {n : Int} : ev F (.const (.int k n)) = .d (.i k n) := Eq.trans rfl rfl
theorem ev_bool {F : Frame} {n : Bool} : ev F (.const (.bool n)) = .d (.b n) := Eq.trans rfl rfl
theorem ev_string {F : Frame} {s : ByteArray} : ev F (.const (.string s)) = .d (.s s.data.toList) := Eq.trans rfl rfl
theorem ev_nilslice {F : Frame} {a : Option Addr} {n m : Nat} : ev F (.const (.slice a n m)) = .d (.c (.slice a n m)) := Eq.trans rfl rfl
theorem op_move {P : Program} {n : Nat} {M : List Nat} {all rest : List Oper} {d : Option Tmp} {ty : TypeId} {ps : String} {af : Array Edge} {g : Option (Nat × Bool)} {F : Frame} {H : Heap} {x : Operand} {K : V → Heap → Prop} : vcOp P M ⟨d, .move x, ty, ps, af, g⟩ F H K = (K (ev F x) H) := Eq.trans rfl rfl
theorem op_assign {P : Program} {n : Nat} {M : List Nat} {all rest : List Oper} {d : Option Tmp} {ty : TypeId} {ps : String} {af : Array Edge} {g : Option (Nat × Bool)} {F : Frame} {H : Heap} {x : Operand} {K : V → Heap → Prop} : vcOp P M ⟨d, .assign x, ty, ps, af, g⟩ F H K = (vcAssign P (match d with | some d => M.contains d | none => false) ty (ev F x) H K) := Eq.trans rfl rfl
theorem assign_no {P : Program} {t : TypeId} {v : V} {H : Heap} {K : V → Heap → Prop} : vcAssign P false t v H K = K v H := by unfold vcAssign; split <;> simp_all
theorem op_bin {P : Program} {n : Nat} {M : List Nat} {all rest : List Oper} {d : Option Tmp} {ty : TypeId} {ps : String} {af : Array Edge} {g : Option (Nat × Bool)} {F : Frame} {H : Heap} {op : BinOp} {t u : TypeId} {x y : Operand} {K : V → Heap → Prop} : vcOp P M ⟨d, .binOp op t x y u, ty, ps, af, g⟩ F H K = (match (match d with | some d => M.contains d | none => false) with | true => vcBinW op (ev F x) (ev F y) fun v => K v H | false => vcBinN P op t (ev F x) (ev F y) H fun v => K v H) := Eq.trans rfl rfl
theorem binN_d {P : Program} {op : BinOp} {t : TypeId} {x : D} {y : V} {H : Heap} {K : V → Prop} : vcBinN P op t (.d x) y H K = vcBin P op t (.d x) y K := Eq.trans rfl rfl
theorem binN_ag {P : Program} {op : BinOp} {t : TypeId} {x : List V} {y : V} {H : Heap} {K : V → Prop} : vcBinN P op t (.ag x) y H K = vcBin P op t (.ag x) y K := Eq.trans rfl rfl
theorem binN_em {P : Program} {op : BinOp} {t : TypeId} {y : V} {H : Heap} {K : V → Prop} : vcBinN P op t .em y H K = vcBin P op t .em y K := Eq.trans rfl rfl
theorem op_un {P : Program} {n : Nat} {M : List Nat} {all rest : List Oper} {d : Option Tmp} {ty : TypeId} {ps : String} {af : Array Edge} {g : Option (Nat × Bool)} {F : Frame} {H : Heap} {op : UnOp} {t : TypeId} {x : Operand} {K : V → Heap → Prop} : vcOp P M ⟨d, .unOp op t x, ty, ps, af, g⟩ F H K = (vcUn op (ev F x) fun v => K v H) := Eq.trans rfl rfl
theorem op_conv {P : Program} {n : Nat} {M : List Nat} {all rest : List Oper} {d : Option Tmp} {ty : TypeId} {ps : String} {af : Array Edge} {g : Option (Nat × Bool)} {F : Frame} {H : Heap} {s t : TypeId} {x : Operand} {K : V → Heap → Prop} : vcOp P M ⟨d, .convert s t x, ty, ps, af, g⟩ F H K = ((P.underlying s).isSome = true ∧ vcConv P s t (ev F x) fun v => K v H) := Eq.trans rfl rfl
theorem op_load {P : Program} {n : Nat} {M : List Nat} {all rest : List Oper} {d : Option Tmp} {ty : TypeId} {ps : String} {af : Array Edge} {g : Option (Nat × Bool)} {F : Frame} {H : Heap} {t : TypeId} {a : Operand} {K : V → Heap → Prop} : vcOp P M ⟨d, .load t a, ty, ps, af, g⟩ F H K = (vcLoad P t (ev F a) H fun v => K v H) := Eq.trans rfl rfl
theorem op_store {P : Program} {n : Nat} {M : List Nat} {all rest : List Oper} {d : Option Tmp} {ty : TypeId} {ps : String} {af : Array Edge} {g : Option (Nat × Bool)} {F : Frame} {H : Heap} {t : TypeId} {a x : Operand} {K : V → Heap → Prop} : vcOp P M ⟨d, .store t a x, ty, ps, af, g⟩ F H K = (vcStore P t (ev F a) (ev F x) H K) := Eq.trans rfl rfl
theorem op_nil {P : Program} {n : Nat} {M : List Nat} {all rest : List Oper} {d : Option Tmp} {ty : TypeId} {ps : String} {af : Array Edge} {g : Option (Nat × Bool)} {F : Frame} {H : Heap} {x : Operand} {K : V → Heap → Prop} : vcOp P M ⟨d, .nilCheck x, ty, ps, af, g⟩ F H K = (vcNil (ev F x) H fun v => K v H) := Eq.trans rfl rfl
theorem op_faddr {P : Program} {n : Nat} {M : List Nat} {all rest : List Oper} {d : Option Tmp} {ty : TypeId} {ps : String} {af : Array Edge} {g : Option (Nat × Bool)} {F : Frame} {H : Heap} {t : TypeId} {x : Operand} {f : Nat} {K : V → Heap → Prop} : vcOp P M ⟨d, .fieldAddr t x f, ty, ps, af, g⟩ F H K = (vcFAddr P t (ev F x) f H fun v => K v H) := Eq.trans rfl rfl
theorem op_field {P : Program} {n : Nat} {M : List Nat} {all rest : List Oper} {d : Option Tmp} {ty : TypeId} {ps : String} {af : Array Edge} {g : Option (Nat × Bool)} {F : Frame} {H : Heap} {t : TypeId} {x : Operand} {f : Nat} {K : V → Heap → Prop} : vcOp P M ⟨d, .field t x f, ty, ps, af, g⟩ F H K = (vcField P t (ev F x) f fun v => K v H) := Eq.trans rfl rfl
theorem op_iaddr {P : Program} {n : Nat} {M : List Nat} {all rest : List Oper} {d : Option Tmp} {ty : TypeId} {ps : String} {af : Array Edge} {g : Option (Nat × Bool)} {F : Frame} {H : Heap} {t : TypeId} {x i : Operand} {K : V → Heap → Prop} : vcOp P M ⟨d, .indexAddr t x i, ty, ps, af, g⟩ F H K = (vcIAddr P t (ev F x) (ev F i) H fun v => K v H) := Eq.trans rfl rfl
theorem op_index {P : Program} {n : Nat} {M : List Nat} {all rest : List Oper} {d : Option Tmp} {ty : TypeId} {ps : String} {af : Array Edge} {g : Option (Nat × Bool)} {F : Frame} {H : Heap} {t : TypeId} {x i : Operand} {K : V → Heap → Prop} : vcOp P M ⟨d, .index t x i, ty, ps, af, g⟩ F H K = (vcIndex P t (ev F x) (ev F i) fun v => K v H) := Eq.trans rfl rfl
theorem op_extract {P : Program} {n : Nat} {M : List Nat} {all rest : List Oper} {d : Option Tmp} {ty : TypeId} {ps : String} {af : Array Edge} {g : Option (Nat × Bool)} {F : Frame} {H : Heap} {x : Operand} {i : Nat} {K : V → Heap → Prop} : vcOp P M ⟨d, .extract x i, ty, ps, af, g⟩ F H K = (vcExtract (ev F x) i fun v => K v H) := Eq.trans rfl rfl
theorem op_alloc {P : Program} {n : Nat} {M : List Nat} {all rest : List Oper} {d : Option Tmp} {ty : TypeId} {ps : String} {af : Array Edge} {g : Option (Nat × Bool)} {F : Frame} {H : Heap} {e : TypeId} {K : V → Heap → Prop} : vcOp P M ⟨d, .alloc e, ty, ps, af, g⟩ F H K = (vcAlloc P e H K) := Eq.trans rfl rfl
theorem op_build {P : Program} {n : Nat} {M : List Nat} {all rest : List Oper} {d : Option Tmp} {ty : TypeId} {ps : String} {af : Array Edge} {g : Option (Nat × Bool)} {F : Frame} {H : Heap} {t : TypeId} {parts : Array (Nat × Operand)} {K : V → Heap → Prop} : vcOp P M ⟨d, .build t parts, ty, ps, af, g⟩ F H K = (vcBuild P t (evP F parts.toList) H fun v => K v H) := Eq.trans rfl rfl
theorem op_bslice {P : Program} {n : Nat} {M : List Nat} {all rest : List Oper} {d : Option Tmp} {ty : TypeId} {ps : String} {af : Array Edge} {g : Option (Nat × Bool)} {F : Frame} {H : Heap} {t : TypeId} {len : Nat} {parts : Array (Nat × Operand)} {K : V → Heap → Prop} : vcOp P M ⟨d, .buildSlice t len parts, ty, ps, af, g⟩ F H K = (match (match d with | some d => M.contains d | none => false) with | true => vcBSliceO P t len (evP F parts.toList) H K | false => vcBSlice P t len (evP F parts.toList) fun v => K v H) := Eq.trans rfl rfl
theorem op_make {P : Program} {n : Nat} {M : List Nat} {all rest : List Oper} {d : Option Tmp} {ty : TypeId} {ps : String} {af : Array Edge} {g : Option (Nat × Bool)} {F : Frame} {H : Heap} {t : TypeId} {l c : Operand} {K : V → Heap → Prop} : vcOp P M ⟨d, .makeSlice t l c, ty, ps, af, g⟩ F H K = (vcMake P t (ev F l) (ev F c) H K) := Eq.trans rfl rfl
theorem bin_add {P : Program} {t : TypeId} {k j : IntKind} {a b : Int} {K : V → Prop} : vcBin P .add t (.d (.i k a)) (.d (.i j b)) K = (k = j ∧ inR k (a + b) ∧ K (.d (.i k (a + b)))) := Eq.trans rfl rfl
theorem bin_sub {P : Program} {t : TypeId} {k j : IntKind} {a b : Int} {K : V → Prop} : vcBin P .sub t (.d (.i k a)) (.d (.i j b)) K = (k = j ∧ inR k (a - b) ∧ K (.d (.i k (a - b)))) := Eq.trans rfl rfl
theorem bin_mul {P : Program} {t : TypeId} {k j : IntKind} {a b : Int} {K : V → Prop} : vcBin P .mul t (.d (.i k a)) (.d (.i j b)) K = (k = j ∧ inR k (a * b) ∧ K (.d (.i k (a * b)))) := Eq.trans rfl rfl
theorem bin_eql {P : Program} {t : TypeId} {k j : IntKind} {a b : Int} {K : V → Prop} : vcBin P .eql t (.d (.i k a)) (.d (.i j b)) K = (k = j ∧ K (.d (.b (decide (a = b))))) := Eq.trans rfl rfl
theorem bin_neq {P : Program} {t : TypeId} {k j : IntKind} {a b : Int} {K : V → Prop} : vcBin P .neq t (.d (.i k a)) (.d (.i j b)) K = (k = j ∧ K (.d (.b (!decide (a = b))))) := Eq.trans rfl rfl
theorem bin_lss {P : Program} {t : TypeId} {k j : IntKind} {a b : Int} {K : V → Prop} : vcBin P .lss t (.d (.i k a)) (.d (.i j b)) K = (k = j ∧ K (.d (.b (decide (a < b))))) := Eq.trans rfl rfl
theorem bin_leq {P : Program} {t : TypeId} {k j : IntKind} {a b : Int} {K : V → Prop} : vcBin P .leq t (.d (.i k a)) (.d (.i j b)) K = (k = j ∧ K (.d (.b (decide (a ≤ b))))) := Eq.trans rfl rfl
theorem bin_gtr {P : Program} {t : TypeId} {k j : IntKind} {a b : Int} {K : V → Prop} : vcBin P .gtr t (.d (.i k a)) (.d (.i j b)) K = (k = j ∧ K (.d (.b (decide (b < a))))) := Eq.trans rfl rfl
theorem bin_geq {P : Program} {t : TypeId} {k j : IntKind} {a b : Int} {K : V → Prop} : vcBin P .geq t (.d (.i k a)) (.d (.i j b)) K = (k = j ∧ K (.d (.b (decide (b ≤ a))))) := Eq.trans rfl rfl
theorem bins_eql {P : Program} {t : TypeId} {a b : List UInt8} {K : V → Prop} : vcBin P .eql t (.d (.s a)) (.d (.s b)) K = K (.d (.b (decide (a = b)))) := Eq.trans rfl rfl
theorem bins_neq {P : Program} {t : TypeId} {a b : List UInt8} {K : V → Prop} : vcBin P .neq t (.d (.s a)) (.d (.s b)) K = K (.d (.b (!decide (a = b)))) := Eq.trans rfl rfl
theorem bins_lss {P : Program} {t : TypeId} {a b : List UInt8} {K : V → Prop} : vcBin P .lss t (.d (.s a)) (.d (.s b)) K = K (.d (.b (Op.bytesLess a b))) := Eq.trans rfl rfl
theorem bins_add {P : Program} {t : TypeId} {a b : List UInt8} {K : V → Prop} : vcBin P .add t (.d (.s a)) (.d (.s b)) K = (a.length + b.length ≤ 9223372036854775807 ∧ K (.d (.s (a ++ b)))) := Eq.trans rfl rfl
theorem un_not {t : Bool} {K : V → Prop} : vcUn .not (.d (.b t)) K = K (.d (.b (!t))) := Eq.trans rfl rfl
theorem idx_s {P : Program} {t : TypeId} {l : List UInt8} {k : IntKind} {n : Int} {K : V → Prop} : vcIndex P t (.d (.s l)) (.d (.i k n)) K = (stB P t = true ∧ 0 ≤ n ∧ n < l.length ∧ ∀ c, l[n.toNat]? = some c → K (.d (.i .u8 c.toNat))) := Eq.trans rfl rfl
theorem load_rp {P : Program} {t : TypeId} {row : List D} {H : Heap} {K : V → Prop} : vcLoad P t (.rp row) H K = vcCells P t (row.map .d) K := Eq.trans rfl rfl
end Go.Proofs.YtpgdflhcmijaiaaDoor.Ab
namespace Go.Proofs.YtpgdflhcmijaiaaDoor.Ab
open Go
variable [Glo]
attribute [go_sem ↓] lk1 lk2 lk3 all_get0 map_all ops_nil ops_cons dst_some dst_none put_one put_no ev_tmp ev_func ev_int ev_bool ev_string ev_nilslice op_move op_assign assign_no op_bin binN_d binN_ag binN_em op_un op_conv op_load op_store op_nil op_faddr op_field op_iaddr op_index op_extract op_alloc op_build op_bslice op_make bin_add bin_sub bin_mul bin_eql bin_neq bin_lss bin_leq bin_gtr bin_geq bins_eql bins_neq bins_lss bins_add un_not idx_s load_rp onB_true onB_false onB_dec onB_ndec onB_not onB_and onB_or vcD vcQ vcOps vcOp fnPost vcRes vcResL vcRes1 thenA inBlockA vcBin vcBinN vcMakeMap vcLookup lkV mapK vcMapUp vcMapEnt vcEntSt keyOf kdOf vcBinW binD vcUn vcConv vcLoad vcCells vcStore vcNil vcFAddr vcField vcIAddr vcIndex vcSlice vcExtract vcLen vcMax vcAlloc vcBox vcBuild vcBSlice vcBSliceO vcAssign vcAppend vcAppN numOf_i numOf_s numOf_sl numOf_c numOf_os numOf_em numOf_vw vcTrunc vcMake vcBuiltin vcSData vcUStr bytesOf_map eqB get_cons get_nil roK roP_0 roP_1 roP_2 roP_3
attribute [go_sem ↓ high] onB_dT onB_dF onB_nT onB_nF
attribute [go_sem ↓ low] onB_kT onB_kF
attribute [go_sem] get_app0 get_appk set_app0 set_appk List.set_cons_zero List.set_cons_succ List.length_append List.append_assoc intRow intCells strRow List.length_map Int.toNat_natCast Sub_cons Sub_nil Bel_d Bel_top Bel_un Bel_rp Bel_em Bel_ab Bel_os Bel_pt Bel_sd Bel_mp Bel_mo Bel_fn List.isEmpty_cons List.isEmpty_nil V.d.injEq D.i.injEq D.b.injEq D.s.injEq dstOk ev evs evP Frame.put cV canon List.map_cons List.map_nil initF List.getD_cons_zero List.getD_cons_succ List.getD_nil if_true if_false true_and and_true bnd rpl_nil rpl_cons othB_nil othB_cons fillV cellsV okCell asD dsOf dsAll srcV srcOk dataOf isNil List.getElem?_cons_succ List.getElem?_cons_zero List.getElem?_nil Option.bind_some Option.map_some Option.map_none Option.some.injEq forall_eq' forall_eq Bool.not_true Bool.not_false forall_const false_implies true_implies decide_eq_true_eq decide_eq_false_iff_not Bool.false_eq_true List.drop_succ_cons List.drop_zero List.take_succ_cons List.take_zero List.drop_nil List.take_nil List.length_cons List.length_nil List.cons_append List.nil_append List.append_nil List.append_eq List.mem_cons List.not_mem_nil or_false false_or or_true true_or or_self forall_eq_or_imp List.contains_cons List.contains_nil Bool.or_false Bool.false_or Bool.true_or Bool.or_true Bool.or_self List.range_succ List.range_zero inR_i64 inR_u8 Array.toList Bool.not_eq_true' Bool.not_eq_false' Int.toNat_zero Int.toNat_one decide_true decide_false
end Go.Proofs.YtpgdflhcmijaiaaDoor.Ab
namespace Go.Proofs.YtpgdflhcmijaiaaDoor.Ab
open Go
variable [Glo]
section
variable {P : Program} {n : Nat} {H0 H : Heap} {Q : Exit → Frame → Heap → Prop} {F : Frame}
theorem AWp_prm {c : Code} (id i j e' sz' : Nat) {ver e sz : Nat} {rows : List (List V)} {row : List V} (hr : H[id]? = some (Ob.row ver e sz rows)) (hi : rows[i]? = some row) (hj : row[j]? = some (.d (.c (.slice none 0 0)))) (hz' : sz' ≠ 0 := by decide)
    (h : AWp P n H0 c Q F (H.set id (.row ver e sz (rows.set i (row.set j (.os H.length 0)))) ++ [.row 0 e' sz' []])) : AWp P n H0 c Q F H := by
  unfold AWp at h ⊢
  intro w0 σ0 w σ a hw hp hs hdf
  have hid := (List.getElem?_eq_some_iff.1 hr).1
  obtain ⟨p1, ok1⟩ := hs.ok.push (w' := w) (ver := 0) (e := e') (sz := sz') (rows := []) (c := .no none) rfl rfl (OutSame.refl w) (Nat.le_refl _) (fun _ _ => rfl) (fun g cap hc => by cases hc) (.inl ⟨⟨none, rfl⟩, rfl⟩)
  have hr1 : (H ++ [Ob.row 0 e' sz' []])[id]? = some (Ob.row ver e sz rows) := by rw [List.getElem?_append_left hid]; exact hr
  have hl := ok1.lies hr1
  have hlies : Lies w (Own (H ++ [Ob.row 0 e' sz' []]) (σ.put H.length (.no none))) (H ++ [Ob.row 0 e' sz' []]) (σ.put H.length (.no none)) (σ.put H.length (.no none) id) w e sz (rows.set i (row.set j (.os H.length 0))) := by
    rcases hl with ⟨_, h2⟩ | ⟨g, cap, cur, h1, h2, h3, h4, h5, h6, h7⟩ | ⟨_, _, _, _, _, _, _, _, _, _, h2, _⟩
    · subst h2; cases hi
    rotate_left
    · subst h2
      have hi0 : i = 0 := by have := (List.getElem?_eq_some_iff.1 hi).1; simp at this; exact this
      subst hi0
      simp at hi
      subst hi
      have hj0 : j = 0 := by have := (List.getElem?_eq_some_iff.1 hj).1; simp at this; exact this
      subst hj0
      simp at hj
    · refine .inr <| .inl ⟨g, cap, cur, h1, h2, by simpa using h3, h4, h5, fun k r hk => ?_, fun k l r v hk hv => ?_⟩
      · rw [List.getElem?_set] at hk
        split at hk
        · rename_i hik
          subst hik
          split at hk
          · cases hk
            simpa using h6 _ _ hi
          · cases hk
        · exact h6 k r hk
      · rw [List.getElem?_set] at hk
        split at hk
        · rename_i hik
          subst hik
          split at hk
          · cases hk
            rw [List.getElem?_set] at hv
            split at hv
            · rename_i hjl
              subst hjl
              split at hv
              · cases hv
                obtain ⟨cv, a1, a2, a3⟩ := h7 _ _ _ _ hi hj
                refine ⟨cv, a1, a2, ?_⟩
                obtain rfl := a3.inv_d.inv_c
                refine .os _ _ _ (by simp) fun v1 e1 s1 r1 hr2 => ?_
                rw [List.getElem?_append_right (Nat.le_refl _)] at hr2
                simp at hr2
                obtain ⟨rfl, rfl, rfl, rfl⟩ := hr2
                exact ⟨Nat.le_refl _, fun _ => ⟨hz', by simp [Conc.put, slv]⟩⟩
              · cases hv
            · exact h7 _ _ _ _ hi hv
          · cases hk
        · exact h7 _ _ _ _ hk hv
  obtain ⟨p2, ok2⟩ := ok1.set (w' := w) (ver' := ver) (e' := e) (sz' := sz) (rows' := rows.set i (row.set j (.os H.length 0))) hr1 (Nat.le_refl _) (fun _ => ⟨rfl, rfl, by simp⟩) rfl rfl (OutSame.refl w) (Nat.le_refl _) (fun _ _ _ => rfl) (fun g cap hc => .inl ⟨cap, hc⟩) hlies
  rw [List.set_append_left _ _ hid] at p2 ok2
  exact h w0 σ0 w _ a hw ((hp.trans p1).trans p2) (hs.pres (p1.trans p2) ok2) hdf
theorem keepFz {H : Heap} {v v' : V} {K : V → Heap → Prop} (hk : K v' H) (hf : Fz H.length H v v') (hb : Bel H.length v') : RetK H K v H :=
  ⟨H, [], v', by simp, Nat.le_refl _, closed_self H, hf, hb, hk⟩
theorem Fz_ag2 {m : Nat} {H : Heap} {a b a' b' : V} (h1 : Fz m H a a') (h2 : Fz m H b b') : Fz m H (.ag [a, b]) (.ag [a', b']) :=
  .ag _ _ rfl fun j c c' h h' => by
    match j, h, h' with
    | 0, h, h' => cases h; cases h'; exact h1
    | 1, h, h' => cases h; cases h'; exact h2
    | j + 2, h, h' => cases h
theorem Fz_tu2 {m : Nat} {H : Heap} {a b a' b' : V} (h1 : Fz m H a a') (h2 : Fz m H b b') : Fz m H (.tu [a, b]) (.tu [a', b']) :=
  .tu _ _ rfl fun j c c' h h' => by
    match j, h, h' with
    | 0, h, h' => cases h; cases h'; exact h1
    | 1, h, h' => cases h; cases h'; exact h2
    | j + 2, h, h' => cases h
theorem Fz_tu3 {m : Nat} {H : Heap} {a b c a' b' c' : V} (h1 : Fz m H a a') (h2 : Fz m H b b') (h3 : Fz m H c c') : Fz m H (.tu [a, b, c]) (.tu [a', b', c']) :=
  .tu _ _ rfl fun j x x' h h' => by
    match j, h, h' with
    | 0, h, h' => cases h; cases h'; exact h1
    | 1, h, h' => cases h; cases h'; exact h2
    | 2, h, h' => cases h; cases h'; exact h3
    | j + 3, h, h' => cases h
theorem set_same {H : Heap} {id : Nat} {ob : Ob} (h : H[id]? = some ob) : H.set id ob = H := by
  apply List.ext_getElem?
  intro j
  rw [List.getElem?_set]
  split
  · rename_i e
    subst e
    rw [h, if_pos (List.getElem?_eq_some_iff.1 h).1]
  · rfl
theorem get_self {H : Heap} {id : Nat} {ob : Ob} (h : H[id]? = some ob) (x : Ob) : (H.set id x)[id]? = some x := by
  rw [List.getElem?_set, if_pos rfl, if_pos (List.getElem?_eq_some_iff.1 h).1]
theorem get_ne {H : Heap} {id id' : Nat} (h : id ≠ id') (x : Ob) : (H.set id x)[id']? = H[id']? := by
  rw [List.getElem?_set, if_neg h]
theorem keepS {H H' : Heap} {v : V} {K : V → Heap → Prop} (hk : K v H') (hl : H.length ≤ H'.length) (hc : Closed H H') (hb : Bel H'.length v) : RetK H K v H' := ⟨H', [], v, by simp, hl, hc, .same _, hb, hk⟩
theorem closed_set {H H' : Heap} {id : Nat} {x : Ob} (h : Closed H H') (hx : ObBel H'.length x) : Closed H (H'.set id x) := by
  intro id' ver e sz rows hr
  rw [List.getElem?_set] at hr
  rw [List.length_set]
  split at hr
  · split at hr
    · cases hr
      exact .inr hx
    · cases hr
  · exact h id' ver e sz rows hr
theorem dropS {H H1 G : Heap} {v : V} {K : V → Heap → Prop} (hk : K v H1) (hl : H.length ≤ H1.length) (hc : Closed H H1) (hb : Bel H1.length v) : RetK H K v (H1 ++ G) := ⟨H1, G, v, rfl, hl, hc, .same _, hb, hk⟩
theorem AWp_whileP {c : Code} {ι : Type} (I : ι → Prop) (Fr : ι → Frame) (Hp : ι → Heap) (μ : ι → Nat) (i0 : ι) (h0 : I i0) (hH : H = Hp i0) (hs : Sub (Hp i0).length F (Fr i0)) (hl : ∀ i, I i → H0.length ≤ (Hp i).length) (hc : ∀ i, I i → Closed H0 (Hp i))
    (hr : ∀ i, I i → AWp P n H0 c (thenA (fun F' H' => ∃ i', I i' ∧ μ i' < μ i ∧ H' = Hp i' ∧ Sub H'.length F' (Fr i')) Q) (Fr i) (Hp i)) : AWp P n H0 (.loop c) Q F H := by
  subst hH
  refine AWp_loop I Fr Hp μ i0 h0 ⟨⟨[], by simp⟩, hl _ h0, hc _ h0, hs.ent⟩ fun i hi => (hr i hi).mono fun e F' H' h => ?_
  cases e with
  | normal =>
    obtain ⟨i', h1, h2, rfl, h3⟩ := h
    exact ⟨i', h1, ⟨⟨[], by simp⟩, hl _ h1, hc _ h1, h3.ent⟩, h2⟩
  | _ => exact h
end
end Go.Proofs.YtpgdflhcmijaiaaDoor.Ab
