/- A strings.Builder of the call's own: what its methods do. No condition. -/
import Derived.Test.YtmalccaijjcepaaDoorTi
import Derived.Lib.Builder
import Derived.Laws.Externs
set_option linter.all false
set_option linter.unusedSimpArgs false
set_option linter.unusedVariables false
namespace Go.Proofs.YtmalccaijjcepaaDoor
open Go Go.Proofs.YtmalccaijjcepaaDoor.Ab
variable [Glo]
set_option maxHeartbeats 4000000
set_option maxRecDepth 100000
theorem liesAt_head {P : Program} {e : TypeId} (hc : P.cellsOf e ≠ 0) (count : Nat) (hn : 1 ≤ count) : liesAt P P.depth e count 0 e 1 = true := by
  have hd : P.depth = (2 * (P.types.size + Made.depth) + 1) + 1 := rfl
  rw [hd]
  simp only [liesAt, Bool.or_eq_true]
  left
  rw [hd]
  simp [rowAt, hc, hn, sameLayout]
theorem bld_info : ∃ j, Tryd.prog.info? 70 = some j ∧ j.size = 2 := by
  obtain ⟨j, h1, h2⟩ := Option.map_eq_some_iff.1 (show (Tryd.prog.info? 70).map (·.size) = some 2 by kernel_rfl)
  exact ⟨j, h1, h2⟩
/-- copyCheck at a builder that has been used: nothing turns. -/
theorem copyUsed (b : Nat) (w : World) (h0 : w.cell? ⟨b, 0, none⟩ = some (.pointer (some ⟨b, 0, none⟩))) :
    Calls Tryd.prog 65 #[.pointer (some ⟨b, 0, none⟩)] w fun e w' => e = .returned (.tuple #[]) ∧ w' = w := by
  obtain ⟨j, hj, _⟩ := bld_info
  go_enter Tryd.func65, Tryd.ntmps65
  go_wp2
  rw [Lib.run_neq_ptr_same w _ Tryd.underlying67 hj]
  go_wp2
  go_end0
  exact ⟨rfl, rfl⟩
/-- copyCheck at a fresh one: it keeps its own address. -/
theorem copyFresh (b n : Nat) (w : World) (h0 : w.cell? ⟨b, 0, none⟩ = some (.pointer none)) (hsh : w.shape? b = some (70, n)) (hn : 2 ≤ n) (hfz : w.frozen? ⟨b, 0, none⟩ = false) :
    Calls Tryd.prog 65 #[.pointer (some ⟨b, 0, none⟩)] w fun e w' => e = .returned (.tuple #[]) ∧ w' = w.setCell ⟨b, 0, none⟩ (.pointer (some ⟨b, 0, none⟩)) := by
  obtain ⟨j, hj, hjs⟩ := bld_info
  have hc : Tryd.prog.cellsOf 70 = 2 := by simp [Program.cellsOf, hj, hjs]
  have hl : liesAt Tryd.prog Tryd.prog.depth 70 (n / Tryd.prog.cellsOf 70) 0 70 1 = true := liesAt_head (by rw [hc]; decide) _ (by rw [hc]; omega)
  go_enter Tryd.func65, Tryd.ntmps65
  go_wp2
  rw [Lib.run_to_unsafe w ⟨b, 0, none⟩ Tryd.underlying67 Tryd.underlying110 hj (by rw [hjs]; decide) hsh (by show 0 < n; omega)]
  simp only [Result.andThen]
  rw [Oper.upon_value]
  go_wp2
  rw [run_callFunc_extern Tryd.func74 (by kernel_rfl) (by kernel_rfl) (by kernel_rfl) (e := Extern.AbiNoEscape.same) (by kernel_rfl)]
  rw [Lib.run_noEscape]
  simp only [Result.andThen]
  rw [Oper.upon_value]
  go_wp2
  rw [Lib.run_from_unsafe w ⟨b, 0, none⟩ Tryd.underlying110 Tryd.underlying67 hj hsh hl]
  simp only [Result.andThen]
  rw [Oper.upon_value]
  go_wp2
  go_end0
  exact ⟨rfl, rfl⟩
/-- What a builder keeps of itself. -/
def selfV (u : Bool) (id ver : Nat) : V := match u with | true => .pt id ver 0 0 | false => .d (.c (.pointer none))
/-- A builder's cells. -/
def bldC (u : Bool) (id ver : Nat) (b : V) : Ob := .row ver 70 2 [[selfV u id ver, b]]
theorem copyCheck_A (id ver : Nat) (b : V) (u : Bool) (H : Heap) (K : V → Heap → Prop) (hr : H[id]? = some (bldC u id ver b)) (hk : K .un (H.set id (bldC true id ver b))) :
    ACalls Tryd.prog 65 [.pt id ver 0 0] H K := by
  unfold ACalls
  intro w σ args hw hl hrel
  obtain ⟨a, rfl⟩ := Array.size_eq_one_iff.1 (by simpa using hl.symm)
  have ha := hrel 0 _ a rfl rfl
  have hr' : H[id]? = some (.row ver 70 2 [[selfV u id ver, b]]) := hr
  obtain ⟨_, hv⟩ := ha.inv_pt hr'
  obtain ⟨g, cap, hg, rfl⟩ := hv rfl
  rcases hw.objs hr' (by decide) with ⟨⟨_, hn⟩, _⟩ | ⟨g', cap', cur, hg', hh, h3, h4, h5, h6, h7⟩
  · rw [hn] at hg; cases hg
  rw [hg'] at hg
  cases hg
  obtain ⟨cv, c1, c2, c3⟩ := h7 0 0 _ (selfV u id ver) rfl rfl
  have c1 : cur[0]? = some cv := by simpa using c1
  have hcell : w.cell? ⟨g, 0, none⟩ = some cv := by
    rw [cell_of_row w g 0 cur _ (0, 0) hh]; exact c1
  have hsz : 2 ≤ cur.size := by simp at h3; omega
  have e0 : (0 * 2 + 0 : Nat) = 0 := rfl
  rw [e0] at ha ⊢
  cases u with
  | true =>
    obtain ⟨_, hv2⟩ := (show VRel w (Own H σ) H σ (.pt id ver 0 0) cv from c3).inv_pt hr'
    obtain ⟨g2, cap2, hg2, hcv⟩ := hv2 rfl
    rw [hg'] at hg2
    cases hg2
    subst hcv
    refine (copyUsed g w hcell).mono ?_
    rintro e w' ⟨rfl, rfl⟩
    rw [show H.set id (bldC true id ver b) = H from set_same hr] at hk
    exact ⟨_, .un, H, σ, rfl, hk, .un, hw, Pres.refl _ _ _⟩
  | false =>
    obtain rfl := (show VRel w (Own H σ) H σ (.d (.c (.pointer none))) cv from c3).inv_d.inv_c
    refine (copyFresh g cur.size w hcell (by simp [World.shape?, hh]) hsz (by simp [World.frozen?, hh])).mono ?_
    rintro e w' ⟨rfl, rfl⟩
    have hheap : (w.setCell ⟨g, 0, none⟩ (.pointer (some ⟨g, 0, none⟩))).heap[g]? = some (.cells (cur.setIfInBounds 0 (.pointer (some ⟨g, 0, none⟩))) 70 (0, 0)) := by
      simp [World.setCell, Array.getElem?_modify, hh]
    have hup := hw.set (w' := w.setCell ⟨g, 0, none⟩ (.pointer (some ⟨g, 0, none⟩))) (ver' := ver) (e' := 70) (sz' := 2) (rows' := [[.pt id ver 0 0, b]]) (c := σ id) hr' (Nat.le_refl _) (fun _ => ⟨rfl, rfl, rfl⟩) rfl rfl rfl (by simp [World.setCell])
      (fun k hk hne => by
        have : k ≠ g := fun e => hne cap (e ▸ hg')
        simp only [World.setCell, Array.getElem?_modify]
        rw [if_neg (fun e => this e.symm)])
      (fun g' cap' hc => .inl ⟨cap', hc⟩)
      (.inr <| .inl ⟨g, cap, _, hg', hheap, h3, h4, by simpa using h5, fun i row hi => (by
          match i, hi with
          | 0, hi => cases hi; rfl), fun i j row v hi hj => by
        match i, hi with
        | 0, hi =>
          cases hi
          match j, hj with
          | 0, hj =>
            cases hj
            exact ⟨.pointer (some ⟨g, 0, none⟩), by rw [Array.getElem?_setIfInBounds, if_pos rfl, if_pos (by omega)], rfl, ha⟩
          | 1, hj =>
            cases hj
            obtain ⟨cv, d1, d2, d3⟩ := h7 0 1 _ _ rfl rfl
            exact ⟨cv, by rw [Array.getElem?_setIfInBounds, if_neg (by decide)]; simpa using d1, d2, d3⟩⟩)
      (fun a e => hw.nil _ a e)
    exact ⟨_, .un, _, _, rfl, hk, .un, hup.2, hup.1⟩
/-- A builder's bytes. -/
def bufC (k : Nat) (bs : List UInt8) : Ob := .row k 5 1 (bs.map byteC)
theorem bufC_app (k : Nat) (bs s : List UInt8) : (Ob.row k 5 1 (bs.map byteC ++ s.map fun c => [V.d (.i .u8 c.toNat)])) = bufC k (bs ++ s) := by
  simp [bufC, byteC]
theorem obBel_bytes (m k : Nat) (bs : List UInt8) : ObBel m (bufC k bs) := obBel_map (fun c : UInt8 => [D.i .u8 c.toNat]) m k 5 1 bs
/- the live slots of (*strings.Builder).WriteString -/
def ks_44 : Nat → List Nat
  | 0 => [0, 1]
  | 1 => [0, 1]
  | 2 => [1]
  | 3 => [4, 5]
  | _ => []
def mu_44 : List Nat := []
def in_44 : List Nat := [0, 1]
theorem writeString_A (id id2 k : Nat) (u : Bool) (bs s : List UInt8) (hne : id ≠ id2) (hlen : bs.length + s.length ≤ 140737488355328) (H : Heap) (K : V → Heap → Prop) (hr : H[id]? = some (bldC u id 0 (.os id2 k))) (hr2 : H[id2]? = some (bufC k bs))
    (hk : K (.tu [.d (.i .i64 s.length), .d (.c .nilIface)]) ((H.set id2 (bufC (k + 1) (bs ++ s))).set id (bldC true id 0 (.os id2 (k + 1))))) :
    ACalls Tryd.prog 44 [.pt id 0 0 0, .d (.s s)] H K := by
  have hid := (List.getElem?_eq_some_iff.1 hr).1
  have hid2 := (List.getElem?_eq_some_iff.1 hr2).1
  have e1 : (H.set id (.row 0 70 2 [[.pt id 0 0 0, .os id2 k]]))[id]? = some (.row 0 70 2 [[.pt id 0 0 0, .os id2 k]]) := get_self hr _
  have e2 : (H.set id (.row 0 70 2 [[.pt id 0 0 0, .os id2 k]]))[id2]? = some (.row k 5 1 (bs.map byteC)) := (get_ne hne _).trans hr2
  have e3 : ∀ x, ((H.set id (.row 0 70 2 [[.pt id 0 0 0, .os id2 k]])).set id2 x)[id]? = some (.row 0 70 2 [[.pt id 0 0 0, .os id2 k]]) := fun x => (get_ne (fun e => hne e.symm) _).trans e1
  have e4 : ∀ x, ((H.set id (.row 0 70 2 [[.pt id 0 0 0, .os id2 k]])).set id2 x)[id2]? = some x := fun x => get_self e2 _
  refine ACalls_of Tryd.func44 rfl in_44 (Nat.le_of_ble_eq_true rfl) ?_
  intro F hF
  simp (dsimp := false) only [go_sem, Nat.reduceAdd, Nat.reduceBEq, Nat.reduceEqDiff, Nat.reduceLT, Nat.reduceLeDiff, Nat.reduceMul, Int.reduceToNat, reduceCtorEq, ↓reduceIte, Tryd.ntmps44, Tryd.results44, ks_44, mu_44, ti_ag68, ti_fl70_1, ti_hb65, ti_sl68, ti_st9, ti_sz68, in_44] at hF
  subst hF
  
  repeat' (first | with_reducible (first | refine And.intro ?_ ?_ | intro _ | refine AWp_seq ?_ | refine AWp_block ?_ | (refine hKv _ _ (AWp_nop ?_); clear hKv Kv) | (refine hKA ?_; clear hKA hKB KA KB) | (refine hKB ?_; clear hKA hKB KA KB) | refine AWp_skipN ?_ | refine AWp_exitO (by repeat (first | exact Out.hit | apply Out.thenA | apply Out.out rfl)) ?_) | ((first | with_reducible (first | (refine hKv _ _ ?_; clear hKv Kv) | ((first | refine AWp_regC mu_44 ks_44 ?_ | refine AWp_regE mu_44 ks_44 ?_); intro Kv hKv) | refine AWp_retR ?_) | refine copyCheck_A id 0 _ u _ _ hr ?_); try simp (dsimp := false) only [go_sem, Nat.reduceAdd, Nat.reduceBEq, Nat.reduceEqDiff, Nat.reduceLT, Nat.reduceLeDiff, Nat.reduceMul, Int.reduceToNat, reduceCtorEq, ↓reduceIte, Tryd.ntmps44, Tryd.results44, ks_44, mu_44, ti_ag68, ti_fl70_1, ti_hb65, ti_sl68, ti_st9, ti_sz68, bldC, selfV, e1, e2, e3, e4, hid, hid2, List.length_set]) | (refine AWp_condC rfl ?_; intro KA KB hKA hKB; try simp only [onB_true, onB_false, onB_dec, onB_ndec, onB_not, onB_and, onB_or]) | (refine AWp_condA rfl ?_ ?_) | with_reducible (first | refine onB_of ?_ ?_ | rfl) | omega)
  rw [bufC_app]
  rw [List.set_comm _ _ hne, List.set_set]
  refine keepS hk (by simp) (closed_set (closed_set (closed_self H) (obBel_bytes _ _ _)) ?_) (by simp [Bel_tu, Bel_d])
  intro row hrow v hv
  simp at hrow
  subst hrow
  simp at hv
  rcases hv with rfl | rfl
  · exact .pt _ _ _ _ (by simpa using hid)
  · exact .os _ _ (by simpa using hid2)

/- the live slots of (*strings.Builder).String -/
def ks_45 : Nat → List Nat
  | 0 => [0]
  | 1 => [2]
  | _ => []
def mu_45 : List Nat := []
def in_45 : List Nat := [0]
def nd_45 : Nat → Nat
  | 1 => 10
  | _ => 0
theorem bldString_A (id id2 k ver : Nat) (p : V) (bs : List UInt8) (hlen : bs.length ≤ 140737488355328) (H : Heap) (K : V → Heap → Prop) (hr : H[id]? = some (.row ver 70 2 [[p, .os id2 k]])) (hr2 : H[id2]? = some (.row k 5 1 (bs.map byteC)))
    (hk : K (.d (.s bs)) (H.set id2 .dead)) :
    ACalls Tryd.prog 45 [.pt id ver 0 0] H K := by
  have hid := (List.getElem?_eq_some_iff.1 hr).1
  have hid2 := (List.getElem?_eq_some_iff.1 hr2).1
  
  refine ACalls_of Tryd.func45 rfl in_45 (Nat.le_of_ble_eq_true rfl) ?_
  intro F hF
  simp (dsimp := false) only [go_sem, Nat.reduceAdd, Nat.reduceBEq, Nat.reduceEqDiff, Nat.reduceLT, Nat.reduceLeDiff, Nat.reduceMul, Int.reduceToNat, reduceCtorEq, ↓reduceIte, Tryd.ntmps45, Tryd.results45, ks_45, mu_45, nd_45, ti_ag68, ti_fl70_1, ti_pt102, ti_sb68, hr, hr2, hid, hid2, in_45] at hF
  subst hF
  repeat' (first | with_reducible (first | refine And.intro ?_ ?_ | intro _ | refine AWp_seq ?_ | refine AWp_block ?_ | (refine hKv _ _ (AWp_nop ?_); clear hKv Kv) | (refine hKA ?_; clear hKA hKB KA KB) | (refine hKB ?_; clear hKA hKB KA KB) | refine AWp_skipN ?_ | refine AWp_exitO (by repeat (first | exact Out.hit | apply Out.thenA | apply Out.out rfl)) ?_) | (with_reducible (first | (refine hKv _ _ ?_; clear hKv Kv) | ((first | refine AWp_regC mu_45 ks_45 ?_ | refine AWp_draw nd_45 mu_45 ks_45 ti_mixed (by kernel_rfl) ?_ | refine AWp_regE mu_45 ks_45 ?_ | refine AWp_drawE nd_45 mu_45 ks_45 ti_mixed (by kernel_rfl) ?_); intro Kv hKv) | refine AWp_retR ?_); try simp (dsimp := false) only [go_sem, Nat.reduceAdd, Nat.reduceBEq, Nat.reduceEqDiff, Nat.reduceLT, Nat.reduceLeDiff, Nat.reduceMul, Int.reduceToNat, reduceCtorEq, ↓reduceIte, Tryd.ntmps45, Tryd.results45, ks_45, mu_45, nd_45, ti_ag68, ti_fl70_1, ti_pt102, ti_sb68, hr, hr2, hid, hid2]) | (refine AWp_condC rfl ?_; intro KA KB hKA hKB; try simp only [onB_true, onB_false, onB_dec, onB_ndec, onB_not, onB_and, onB_or]) | (refine AWp_condA rfl ?_ ?_) | with_reducible (first | refine onB_of ?_ ?_ | rfl) | omega)
  exact keepS hk (by simp) (closed_set (closed_self H) trivial) (by simp [Bel_d])
end Go.Proofs.YtmalccaijjcepaaDoor
