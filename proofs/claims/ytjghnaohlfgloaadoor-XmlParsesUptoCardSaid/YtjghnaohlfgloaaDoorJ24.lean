/- A strings.Builder of the call's own: what its methods do. No condition. -/
import Derived.Test.YtjghnaohlfgloaaDoorJ16
import Derived.Lib.Builder
import Derived.Laws.Externs
import Derived.Test.YtjghnaohlfgloaaDoorJ23
set_option linter.all false
set_option linter.unusedSimpArgs false
set_option linter.unusedVariables false
namespace Go.Proofs.YtjghnaohlfgloaaDoor
open Go Go.Proofs.YtjghnaohlfgloaaDoor.Ab
variable [Glo]
set_option maxHeartbeats 4000000
set_option maxRecDepth 100000
theorem liesAt_head {P : Program} {e : TypeId} (hc : P.cellsOf e ≠ 0) (count : Nat) (hn : 1 ≤ count) : liesAt P P.depth e count 0 e 1 = true := by
  have hd : P.depth = (2 * (P.types.size + Made.depth) + 1) + 1 := rfl
  rw [hd]
  simp only [liesAt, Bool.or_eq_true]
  left
  rw [hd]
  simp [rowAt, hc, hn, sameLayout]
theorem bld_info : ∃ j, Tryd.prog.info? 134 = some j ∧ j.size = 2 := by
  obtain ⟨j, h1, h2⟩ := Option.map_eq_some_iff.1 (show (Tryd.prog.info? 134).map (·.size) = some 2 by kernel_rfl)
  exact ⟨j, h1, h2⟩
theorem copyUsed (b : Nat) (w : World) (h0 : w.cell? ⟨b, 0, none⟩ = some (.pointer (some ⟨b, 0, none⟩))) :
    Calls Tryd.prog 140 #[.pointer (some ⟨b, 0, none⟩)] w fun e w' => e = .returned (.tuple #[]) ∧ w' = w := by
  obtain ⟨j, hj, _⟩ := bld_info
  go_enter Tryd.func140, Tryd.ntmps140
  go_wp2
  rw [Lib.run_neq_ptr_same w _ Tryd.underlying131 hj]
  go_wp2
  go_end0
  exact ⟨rfl, rfl⟩
theorem copyFresh (b n : Nat) (w : World) (h0 : w.cell? ⟨b, 0, none⟩ = some (.pointer none)) (hsh : w.shape? b = some (134, n)) (hn : 2 ≤ n) (hfz : w.frozen? ⟨b, 0, none⟩ = false) :
    Calls Tryd.prog 140 #[.pointer (some ⟨b, 0, none⟩)] w fun e w' => e = .returned (.tuple #[]) ∧ w' = w.setCell ⟨b, 0, none⟩ (.pointer (some ⟨b, 0, none⟩)) := by
  obtain ⟨j, hj, hjs⟩ := bld_info
  have hc : Tryd.prog.cellsOf 134 = 2 := by simp [Program.cellsOf, hj, hjs]
  have hl : liesAt Tryd.prog Tryd.prog.depth 134 (n / Tryd.prog.cellsOf 134) 0 134 1 = true := liesAt_head (by rw [hc]; decide) _ (by rw [hc]; omega)
  go_enter Tryd.func140, Tryd.ntmps140
  go_wp2
  rw [Lib.run_to_unsafe w ⟨b, 0, none⟩ Tryd.underlying131 Tryd.underlying192 hj (by rw [hjs]; decide) hsh (by show 0 < n; omega)]
  simp only [Result.andThen]
  rw [Oper.upon_value]
  go_wp2
  rw [run_callFunc_extern Tryd.func165 (by kernel_rfl) (by kernel_rfl) (by kernel_rfl) (e := Extern.AbiNoEscape.same) (by kernel_rfl)]
  rw [Lib.run_noEscape]
  simp only [Result.andThen]
  rw [Oper.upon_value]
  go_wp2
  rw [Lib.run_from_unsafe w ⟨b, 0, none⟩ Tryd.underlying192 Tryd.underlying131 hj hsh hl]
  simp only [Result.andThen]
  rw [Oper.upon_value]
  go_wp2
  go_end0
  exact ⟨rfl, rfl⟩
def selfV (u : Bool) (id ver : Nat) : V := match u with | true => .pt id ver 0 0 | false => .d (.c (.pointer none))
def bldC (u : Bool) (id ver : Nat) (b : V) : Ob := .row ver 134 2 [[selfV u id ver, b]]
theorem copyCheck_A (id ver : Nat) (b : V) (u : Bool) (H : Heap) (K : V → Heap → Prop) (hr : H[id]? = some (bldC u id ver b)) (hk : K .un (H.set id (bldC true id ver b))) :
    ACalls Tryd.prog 140 [.pt id ver 0 0] H K := by
  unfold ACalls
  intro w σ args hw hl hrel
  obtain ⟨a, rfl⟩ := Array.size_eq_one_iff.1 (by simpa using hl.symm)
  have ha := hrel 0 _ a rfl rfl
  have hr' : H[id]? = some (.row ver 134 2 [[selfV u id ver, b]]) := hr
  obtain ⟨_, hv⟩ := ha.inv_pt hr'
  obtain ⟨g, cap, hg, rfl⟩ := hv rfl
  rcases hw.objs hr' (by decide) with ⟨⟨_, hn⟩, _⟩ | ⟨g', cap', cur, hg', hh, h3, h4, h5, h6, h7⟩
  · rw [hn] at hg; cases hg
  rw [hg'] at hg
  cases hg
  obtain ⟨cv, c1, c2, c3⟩ := h7 0 0 _ (selfV u id ver) rfl rfl
  have c1 : cur[0]? = some cv := by simpa using c1
  have hcell : w.cell? ⟨g, 0, none⟩ = some cv := by
    rw [cell_of_row w g 0 cur _ (0, 0) hh]; exact c1
  have hsz : 2 ≤ cur.size := by simp at h3; omega
  have e0 : (0 * 2 + 0 : Nat) = 0 := rfl
  rw [e0] at ha ⊢
  cases u with
  | true =>
    obtain ⟨_, hv2⟩ := (show VRel w (Own H σ) H σ (.pt id ver 0 0) cv from c3).inv_pt hr'
    obtain ⟨g2, cap2, hg2, hcv⟩ := hv2 rfl
    rw [hg'] at hg2
    cases hg2
    subst hcv
    refine (copyUsed g w hcell).mono ?_
    rintro e w' ⟨rfl, rfl⟩
    rw [show H.set id (bldC true id ver b) = H from set_same hr] at hk
    exact ⟨_, .un, H, σ, rfl, hk, .un, hw, Pres.refl _ _ _⟩
  | false =>
    obtain rfl := (show VRel w (Own H σ) H σ (.d (.c (.pointer none))) cv from c3).inv_d.inv_c
    refine (copyFresh g cur.size w hcell (by simp [World.shape?, hh]) hsz (by simp [World.frozen?, hh])).mono ?_
    rintro e w' ⟨rfl, rfl⟩
    have hheap : (w.setCell ⟨g, 0, none⟩ (.pointer (some ⟨g, 0, none⟩))).heap[g]? = some (.cells (cur.setIfInBounds 0 (.pointer (some ⟨g, 0, none⟩))) 134 (0, 0)) := by
      simp [World.setCell, Array.getElem?_modify, hh]
    have hup := hw.set (w' := w.setCell ⟨g, 0, none⟩ (.pointer (some ⟨g, 0, none⟩))) (ver' := ver) (e' := 134) (sz' := 2) (rows' := [[.pt id ver 0 0, b]]) (c := σ id) hr' (Nat.le_refl _) (fun _ => ⟨rfl, rfl, rfl⟩) rfl rfl rfl (by simp [World.setCell])
      (fun k hk hne => by
        have : k ≠ g := fun e => hne cap (e ▸ hg')
        simp only [World.setCell, Array.getElem?_modify]
        rw [if_neg (fun e => this e.symm)])
      (fun g' cap' hc => .inl ⟨cap', hc⟩)
      (.inr <| .inl ⟨g, cap, _, hg', hheap, h3, h4, by simpa using h5, fun i row hi => (by
          match i, hi with
          | 0, hi => cases hi; rfl), fun i j row v hi hj => by
        match i, hi with
        | 0, hi =>
          cases hi
          match j, hj with
          | 0, hj =>
            cases hj
            exact ⟨.pointer (some ⟨g, 0, none⟩), by rw [Array.getElem?_setIfInBounds, if_pos rfl, if_pos (by omega)], rfl, ha⟩
          | 1, hj =>
            cases hj
            obtain ⟨cv, d1, d2, d3⟩ := h7 0 1 _ _ rfl rfl
            exact ⟨cv, by rw [Array.getElem?_setIfInBounds, if_neg (by decide)]; simpa using d1, d2, d3⟩⟩)
      (fun a e => hw.nil _ a e)
    exact ⟨_, .un, _, _, rfl, hk, .un, hup.2, hup.1⟩
def bufC (k : Nat) (bs : List UInt8) : Ob := .row k 5 1 (bs.map byteC)
theorem bufC_app (k : Nat) (bs s : List UInt8) : (Ob.row k 5 1 (bs.map byteC ++ s.map fun c => [V.d (.i .u8 c.toNat)])) = bufC k (bs ++ s) := by
  simp [bufC, byteC]
theorem obBel_bytes (m k : Nat) (bs : List UInt8) : ObBel m (bufC k bs) := obBel_map (fun c : UInt8 => [D.i .u8 c.toNat]) m k 5 1 bs
def ks_101 : Nat → List Nat
  | 0 => [0, 1]
  | 1 => [0, 1]
  | 2 => [1]
  | 3 => [4, 5]
  | _ => []
def mu_101 : List Nat := []
def in_101 : List Nat := [0, 1]
theorem writeString_A (id id2 k : Nat) (u : Bool) (bs s : List UInt8) (hne : id ≠ id2) (hlen : bs.length + s.length ≤ 140737488355328) (H : Heap) (K : V → Heap → Prop) (hr : H[id]? = some (bldC u id 0 (.os id2 k))) (hr2 : H[id2]? = some (bufC k bs))
    (hk : K (.tu [.d (.i .i64 s.length), .d (.c .nilIface)]) ((H.set id2 (bufC (k + 1) (bs ++ s))).set id (bldC true id 0 (.os id2 (k + 1))))) :
    ACalls Tryd.prog 101 [.pt id 0 0 0, .d (.s s)] H K := by
  have hid := (List.getElem?_eq_some_iff.1 hr).1
  have hid2 := (List.getElem?_eq_some_iff.1 hr2).1
  have e1 : (H.set id (.row 0 134 2 [[.pt id 0 0 0, .os id2 k]]))[id]? = some (.row 0 134 2 [[.pt id 0 0 0, .os id2 k]]) := get_self hr _
  have e2 : (H.set id (.row 0 134 2 [[.pt id 0 0 0, .os id2 k]]))[id2]? = some (.row k 5 1 (bs.map byteC)) := (get_ne hne _).trans hr2
  have e3 : ∀ x, ((H.set id (.row 0 134 2 [[.pt id 0 0 0, .os id2 k]])).set id2 x)[id]? = some (.row 0 134 2 [[.pt id 0 0 0, .os id2 k]]) := fun x => (get_ne (fun e => hne e.symm) _).trans e1
  have e4 : ∀ x, ((H.set id (.row 0 134 2 [[.pt id 0 0 0, .os id2 k]])).set id2 x)[id2]? = some x := fun x => get_self e2 _
  refine ACalls_of Tryd.func101 rfl in_101 (Nat.le_of_ble_eq_true rfl) ?_
  intro F hF
  simp (dsimp := false) only [go_sem, Nat.reduceAdd, Nat.reduceBEq, Nat.reduceEqDiff, Nat.reduceLT, Nat.reduceLeDiff, Nat.reduceMul, Int.reduceToNat, reduceCtorEq, ↓reduceIte, Tryd.ntmps101, Tryd.results101, ks_101, mu_101, ti_ag132, ti_fl134_1, ti_hb140, ti_sl132, ti_st9, ti_sz132, in_101] at hF
  subst hF
  repeat' (first | with_reducible (first | refine And.intro ?_ ?_ | intro _ | refine AWp_seq ?_ | refine AWp_block ?_ | (refine hKv _ _ (AWp_nop ?_); clear hKv Kv) | (refine hKA ?_; clear hKA hKB KA KB) | (refine hKB ?_; clear hKA hKB KA KB) | refine AWp_skipN ?_ | refine AWp_exitO (by repeat (first | exact Out.hit | apply Out.thenA | apply Out.out rfl)) ?_) | ((first | with_reducible (first | (refine hKv _ _ ?_; clear hKv Kv) | ((first | refine AWp_regC mu_101 ks_101 ?_ | refine AWp_regE mu_101 ks_101 ?_); intro Kv hKv) | refine AWp_retR ?_) | refine copyCheck_A id 0 _ u _ _ hr ?_); try simp (dsimp := false) only [go_sem, Nat.reduceAdd, Nat.reduceBEq, Nat.reduceEqDiff, Nat.reduceLT, Nat.reduceLeDiff, Nat.reduceMul, Int.reduceToNat, reduceCtorEq, ↓reduceIte, Tryd.ntmps101, Tryd.results101, ks_101, mu_101, ti_ag132, ti_fl134_1, ti_hb140, ti_sl132, ti_st9, ti_sz132, bldC, selfV, e1, e2, e3, e4, hid, hid2, List.length_set]) | (refine AWp_condC rfl ?_; intro KA KB hKA hKB; try simp only [onB_true, onB_false, onB_dec, onB_ndec, onB_not, onB_and, onB_or]) | (refine AWp_condA rfl ?_ ?_) | with_reducible (first | refine onB_of ?_ ?_ | rfl) | omega)
  rw [bufC_app]
  rw [List.set_comm _ _ hne, List.set_set]
  refine keepS hk (by simp) (closed_set (closed_set (closed_self H) (obBel_bytes _ _ _)) ?_) (by simp [Bel_tu, Bel_d])
  intro row hrow v hv
  simp at hrow
  subst hrow
  simp at hv
  rcases hv with rfl | rfl
  · exact .pt _ _ _ _ (by simpa using hid)
  · exact .os _ _ (by simpa using hid2)
def ks_102 : Nat → List Nat
  | 0 => [0]
  | 1 => [2]
  | _ => []
def mu_102 : List Nat := []
def in_102 : List Nat := [0]
def nd_102 : Nat → Nat
  | 1 => 10
  | _ => 0
theorem bldString_A (id id2 k ver : Nat) (p : V) (bs : List UInt8) (hlen : bs.length ≤ 140737488355328) (H : Heap) (K : V → Heap → Prop) (hr : H[id]? = some (.row ver 134 2 [[p, .os id2 k]])) (hr2 : H[id2]? = some (.row k 5 1 (bs.map byteC)))
    (hk : K (.d (.s bs)) (H.set id2 .dead)) :
    ACalls Tryd.prog 102 [.pt id ver 0 0] H K := by
  have hid := (List.getElem?_eq_some_iff.1 hr).1
  have hid2 := (List.getElem?_eq_some_iff.1 hr2).1
  refine ACalls_of Tryd.func102 rfl in_102 (Nat.le_of_ble_eq_true rfl) ?_
  intro F hF
  simp (dsimp := false) only [go_sem, Nat.reduceAdd, Nat.reduceBEq, Nat.reduceEqDiff, Nat.reduceLT, Nat.reduceLeDiff, Nat.reduceMul, Int.reduceToNat, reduceCtorEq, ↓reduceIte, Tryd.ntmps102, Tryd.results102, ks_102, mu_102, nd_102, ti_ag132, ti_fl134_1, ti_pt172, ti_sb132, hr, hr2, hid, hid2, in_102] at hF
  subst hF
  repeat' (first | with_reducible (first | refine And.intro ?_ ?_ | intro _ | refine AWp_seq ?_ | refine AWp_block ?_ | (refine hKv _ _ (AWp_nop ?_); clear hKv Kv) | (refine hKA ?_; clear hKA hKB KA KB) | (refine hKB ?_; clear hKA hKB KA KB) | refine AWp_skipN ?_ | refine AWp_exitO (by repeat (first | exact Out.hit | apply Out.thenA | apply Out.out rfl)) ?_) | (with_reducible (first | (refine hKv _ _ ?_; clear hKv Kv) | ((first | refine AWp_regC mu_102 ks_102 ?_ | refine AWp_draw nd_102 mu_102 ks_102 ti_mixed (by kernel_rfl) ?_ | refine AWp_regE mu_102 ks_102 ?_ | refine AWp_drawE nd_102 mu_102 ks_102 ti_mixed (by kernel_rfl) ?_); intro Kv hKv) | refine AWp_retR ?_); try simp (dsimp := false) only [go_sem, Nat.reduceAdd, Nat.reduceBEq, Nat.reduceEqDiff, Nat.reduceLT, Nat.reduceLeDiff, Nat.reduceMul, Int.reduceToNat, reduceCtorEq, ↓reduceIte, Tryd.ntmps102, Tryd.results102, ks_102, mu_102, nd_102, ti_ag132, ti_fl134_1, ti_pt172, ti_sb132, hr, hr2, hid, hid2]) | (refine AWp_condC rfl ?_; intro KA KB hKA hKB; try simp only [onB_true, onB_false, onB_dec, onB_ndec, onB_not, onB_and, onB_or]) | (refine AWp_condA rfl ?_ ?_) | with_reducible (first | refine onB_of ?_ ?_ | rfl) | omega)
  exact keepS hk (by simp) (closed_set (closed_self H) trivial) (by simp [Bel_d])
end Go.Proofs.YtjghnaohlfgloaaDoor
namespace Go.Proofs.YtjghnaohlfgloaaDoor
open Go Go.Proofs.YtjghnaohlfgloaaDoor.Ab
variable [Glo]
set_option maxHeartbeats 4000000
set_option maxRecDepth 20000
theorem obBel_bld (m id id2 k : Nat) {u : Bool} (h1 : id < m) (h2 : id2 < m) : ObBel m (bldC u id 0 (.os id2 k)) := by
  intro row hr v hv
  simp at hr
  subst hr
  simp at hv
  rcases hv with rfl | rfl
  · cases u
    · exact .d _
    · exact .pt _ _ _ _ h1
  · exact .os _ _ h2
theorem bufC_app1 (k : Nat) (bs : List UInt8) (c : UInt8) : (Ob.row k 5 1 (bs.map byteC ++ [[V.d (.i .u8 c.toNat)]])) = bufC k (bs ++ [c]) := by
  simp [bufC, byteC]
def ks_100 : Nat → List Nat
  | 0 => [0, 1]
  | 1 => [0, 1]
  | 2 => []
  | 3 => [4]
  | _ => []
def mu_100 : List Nat := []
def in_100 : List Nat := [0, 1]
theorem writeByte_A (id id2 k : Nat) (u : Bool) (bs : List UInt8) (n : Int) (c : UInt8) (hn : n = c.toNat) (hne : id ≠ id2) (hlen : bs.length + 1 ≤ 140737488355328) (H : Heap) (K : V → Heap → Prop) (hr : H[id]? = some (bldC u id 0 (.os id2 k))) (hr2 : H[id2]? = some (bufC k bs))
    (hk : K (.d (.c .nilIface)) ((H.set id2 (bufC (k + 1) (bs ++ [c]))).set id (bldC true id 0 (.os id2 (k + 1))))) :
    ACalls Tryd.prog 100 [.pt id 0 0 0, .d (.i .u8 n)] H K := by
  subst hn
  have hid := (List.getElem?_eq_some_iff.1 hr).1
  have hid2 := (List.getElem?_eq_some_iff.1 hr2).1
  have e1 : (H.set id (.row 0 134 2 [[.pt id 0 0 0, .os id2 k]]))[id]? = some (.row 0 134 2 [[.pt id 0 0 0, .os id2 k]]) := get_self hr _
  have e2 : (H.set id (.row 0 134 2 [[.pt id 0 0 0, .os id2 k]]))[id2]? = some (.row k 5 1 (bs.map byteC)) := (get_ne hne _).trans hr2
  have e3 : ∀ x, ((H.set id (.row 0 134 2 [[.pt id 0 0 0, .os id2 k]])).set id2 x)[id]? = some (.row 0 134 2 [[.pt id 0 0 0, .os id2 k]]) := fun x => (get_ne (fun e => hne e.symm) _).trans e1
  have e4 : ∀ x, ((H.set id (.row 0 134 2 [[.pt id 0 0 0, .os id2 k]])).set id2 x)[id2]? = some x := fun x => get_self e2 _
  refine ACalls_of Tryd.func100 rfl in_100 (Nat.le_of_ble_eq_true rfl) ?_
  intro F hF
  simp (dsimp := false) only [go_sem, Nat.reduceAdd, Nat.reduceBEq, Nat.reduceEqDiff, Nat.reduceLT, Nat.reduceLeDiff, Nat.reduceMul, Int.reduceToNat, reduceCtorEq, ↓reduceIte, Tryd.ntmps100, Tryd.results100, ks_100, mu_100, ti_ag132, ti_fl134_1, ti_hb140, ti_sl132, ti_sz132, in_100] at hF
  subst hF
  repeat' (first | with_reducible (first | refine And.intro ?_ ?_ | intro _ | refine AWp_seq ?_ | refine AWp_block ?_ | (refine hKv _ _ (AWp_nop ?_); clear hKv Kv) | (refine hKA ?_; clear hKA hKB KA KB) | (refine hKB ?_; clear hKA hKB KA KB) | refine AWp_skipN ?_ | refine AWp_exitO (by repeat (first | exact Out.hit | apply Out.thenA | apply Out.out rfl)) ?_) | ((first | with_reducible (first | (refine hKv _ _ ?_; clear hKv Kv) | ((first | refine AWp_regC mu_100 ks_100 ?_ | refine AWp_regE mu_100 ks_100 ?_); intro Kv hKv) | refine AWp_retR ?_) | refine copyCheck_A id 0 _ u _ _ hr ?_); try simp (dsimp := false) only [go_sem, Nat.reduceAdd, Nat.reduceBEq, Nat.reduceEqDiff, Nat.reduceLT, Nat.reduceLeDiff, Nat.reduceMul, Int.reduceToNat, reduceCtorEq, ↓reduceIte, Tryd.ntmps100, Tryd.results100, ks_100, mu_100, ti_ag132, ti_fl134_1, ti_hb140, ti_sl132, ti_sz132, bldC, selfV, e1, e2, e3, e4, hid, hid2, List.length_set]) | (refine AWp_condC rfl ?_; intro KA KB hKA hKB; try simp only [onB_true, onB_false, onB_dec, onB_ndec, onB_not, onB_and, onB_or]) | (refine AWp_condA rfl ?_ ?_) | with_reducible (first | refine onB_of ?_ ?_ | rfl) | omega)
  rw [bufC_app1]
  rw [List.set_comm _ _ hne, List.set_set]
  refine keepS hk (by simp) (closed_set (closed_set (closed_self H) (obBel_bytes _ _ _)) ?_) (by simp [Bel_d])
  intro row hrow v hv
  simp at hrow
  subst hrow
  simp at hv
  rcases hv with rfl | rfl
  · exact .pt _ _ _ _ (by simpa using hid)
  · exact .os _ _ (by simpa using hid2)
def escRow : List D := [.s [38], .s [38, 97, 109, 112, 59], .s [60], .s [38, 108, 116, 59], .s [62], .s [38, 103, 116, 59], .s [34], .s [38, 113, 117, 111, 116, 59]]
class Ec [Glo] : Prop where
  esc : glob 1 = some escRow
theorem esc_bel (n : Nat) : Bel n (.ag [.d (.s [38]), .d (.s [38, 97, 109, 112, 59]), .d (.s [60]), .d (.s [38, 108, 116, 59]), .d (.s [62]), .d (.s [38, 103, 116, 59]), .d (.s [34]), .d (.s [38, 113, 117, 111, 116, 59])]) := by simp [Bel_ag, Bel_d]
def vaH (H : Heap) (id : Nat) (s : List UInt8) (o : V) (i f : Int) (u : Bool) (k : Nat) (acc : List UInt8) : Heap :=
  H.set id (prC s i o f) ++ [bldC u H.length 0 (.os (H.length + 1) k), bufC k acc]
section
variable {H : Heap} {id : Nat} (hid : id < H.length) {s : List UInt8} {o : V}
include hid
theorem vaH_P (i f : Int) (u : Bool) (k : Nat) (acc : List UInt8) : (vaH H id s o i f u k acc)[id]? = some (.row 0 86 4 [[.d (.s s), .d (.i .i64 i), o, .d (.i .i64 f)]]) := by
  rw [vaH, List.getElem?_append_left (by simpa using hid), List.getElem?_set, if_pos rfl, if_pos hid]; rfl
theorem vaH_B (i f : Int) (u : Bool) (k : Nat) (acc : List UInt8) : (vaH H id s o i f u k acc)[H.length]? = some (bldC u H.length 0 (.os (H.length + 1) k)) := by
  rw [vaH, List.getElem?_append_right (by simp)]; simp
theorem vaH_U (i f : Int) (u : Bool) (k : Nat) (acc : List UInt8) : (vaH H id s o i f u k acc)[H.length + 1]? = some (bufC k acc) := by
  rw [vaH, List.getElem?_append_right (by simp)]; simp
theorem vaH_len (i f : Int) (u : Bool) (k : Nat) (acc : List UInt8) : (vaH H id s o i f u k acc).length = H.length + 2 := by simp [vaH]
theorem vaH_app (i f : Int) (u : Bool) (k : Nat) (acc : List UInt8) (x : Ob) : (vaH H id s o i f u k acc ++ [x])[H.length + 2]? = some x := by
  rw [List.getElem?_append_right (by rw [vaH_len hid]; omega), vaH_len hid]; simp
theorem vaH_appset (i f : Int) (u : Bool) (k : Nat) (acc : List UInt8) (x y : Ob) : (vaH H id s o i f u k acc ++ [x]).set (H.length + 2) y = vaH H id s o i f u k acc ++ [y] := by
  rw [List.set_append_right _ _ (by rw [vaH_len hid]; omega), vaH_len hid]; simp
theorem vaH_ro (i f : Int) (u : Bool) (k : Nat) (acc : List UInt8) (r : Nat) (F : Ab.Frame) (ver e sz : Nat) (cells : List V) (K : Ab.Frame → Heap → Prop) : roP r F (.pt (H.length + 2) ver 0 0) H (vaH H id s o i f u k acc ++ [Ob.row ver e sz [cells]]) K =
    (H.length ≤ (vaH H id s o i f u k acc).length ∧ Closed H (vaH H id s o i f u k acc) ∧ othB (H.length + 2) r F ∧ (match dsOf cells with | some ds => K (rpl r ds F) (vaH H id s o i f u k acc) | none => False)) := by
  have := roP_gen r F H (vaH H id s o i f u k acc) ver e sz cells K
  rw [vaH_len hid] at this
  rw [this, vaH_len hid]
  rfl
theorem vaH_setP (i f : Int) (u : Bool) (k : Nat) (acc : List UInt8) (i' f' : Int) : (vaH H id s o i f u k acc).set id (.row 0 86 4 [[.d (.s s), .d (.i .i64 i'), o, .d (.i .i64 f')]]) = vaH H id s o i' f' u k acc := by
  rw [vaH, vaH, List.set_append_left _ _ (by simpa using hid), List.set_set]; rfl
theorem vaH_setB (i f : Int) (u : Bool) (k : Nat) (acc : List UInt8) (k' : Nat) (acc' : List UInt8) : ((vaH H id s o i f u k acc).set (H.length + 1) (bufC k' acc')).set H.length (bldC true H.length 0 (.os (H.length + 1) k')) = vaH H id s o i f true k' acc' := by
  rw [vaH, vaH, List.set_append_right _ _ (by simp), List.set_append_right _ _ (by simp)]; simp
theorem vaH_dead (i f : Int) (u : Bool) (k : Nat) (acc : List UInt8) : (vaH H id s o i f u k acc).set (H.length + 1) .dead = H.set id (prC s i o f) ++ [bldC u H.length 0 (.os (H.length + 1) k), .dead] := by
  rw [vaH, List.set_append_right _ _ (by simp)]; simp
theorem vaH_closed (ho : Bel H.length o) (i f : Int) (u : Bool) (k : Nat) (acc : List UInt8) : Closed H (vaH H id s o i f u k acc) := by
  intro id' ver e sz rows hr
  rw [vaH] at hr
  rw [vaH_len hid]
  by_cases h1 : id' < H.length
  · rw [List.getElem?_append_left (by simpa using h1), List.getElem?_set] at hr
    split at hr
    · cases hr
      exact .inr (prC_bel (ho.mono (by omega)))
    · exact .inl hr
  · rw [List.getElem?_append_right (by simpa using h1)] at hr
    refine .inr ?_
    simp only [List.length_set] at hr
    generalize id' - H.length = j at hr
    match j, hr with
    | 0, hr =>
      have := obBel_bld (H.length + 2) H.length (H.length + 1) k (u := u) (by omega) (by omega)
      simp at hr
      rw [hr] at this
      exact this
    | 1, hr =>
      have := obBel_bytes (H.length + 2) k acc
      simp at hr
      rw [hr] at this
      exact this
    | j + 2, hr => cases hr
end
def vlOf (e : UInt8) (s : List UInt8) (at_ : Nat) (f : Int) : Vl := if f = 0 then valN e 0 (s.drop at_) else ⟨[], 0, f⟩
structure Va where
  i : Nat
  f : Int
  u : Bool
  k : Nat
  acc : List UInt8
structure VaOk (e : UInt8) (s : List UInt8) (at_ : Nat) (y : Va) : Prop where
  h1 : at_ ≤ y.i
  h2 : y.i ≤ s.length
  h3 : y.f = 0 → y.acc ++ (valN e 0 (s.drop y.i)).out = (valN e 0 (s.drop at_)).out ∧ y.i + (valN e 0 (s.drop y.i)).n = at_ + (valN e 0 (s.drop at_)).n ∧ (valN e 0 (s.drop y.i)).f = (valN e 0 (s.drop at_)).f
  h4 : y.f ≠ 0 → y.acc = (valN e 0 (s.drop at_)).out ∧ y.i = at_ + (valN e 0 (s.drop at_)).n ∧ y.f = (valN e 0 (s.drop at_)).f
  h5 : y.f = 0 ∨ y.f = 4
theorem VaOk.len {e : UInt8} {s : List UInt8} {at_ : Nat} {y : Va} (h : VaOk e s at_ y) : y.acc.length ≤ s.length := by
  have h0 := valN_out e (s.drop at_) 0
  rw [List.length_drop] at h0
  by_cases hf : y.f = 0
  · have := congrArg List.length (h.h3 hf).1
    rw [List.length_append] at this
    omega
  · rw [(h.h4 hf).1]; omega
theorem VaOk.plain {e : UInt8} {s : List UInt8} {at_ i k k' : Nat} {u u' : Bool} {acc : List UInt8} {c : UInt8} (h : VaOk e s at_ ⟨i, 0, u, k, acc⟩) (hc : s[i]? = some c) (h1 : ¬ (c = e ∨ c = 60)) (h2 : c ≠ 38) : VaOk e s at_ ⟨i + 1, 0, u', k', acc ++ [c]⟩ := by
  have hi := (List.getElem?_eq_some_iff.1 hc).1
  have h0 : at_ ≤ i := h.h1
  obtain ⟨g1, g2, g3⟩ := h.h3 rfl
  simp only [drop_of_get hc, valN, if_neg h1, if_neg h2] at g1 g2 g3
  exact ⟨by show at_ ≤ i + 1; omega, by show i + 1 ≤ s.length; omega, fun _ => ⟨by simpa using g1, by show i + 1 + (valN e 0 (s.drop (i + 1))).n = at_ + (valN e 0 (s.drop at_)).n; omega, g3⟩, fun hf => absurd rfl hf, .inl rfl⟩
theorem VaOk.esc {e : UInt8} {s : List UInt8} {at_ i k k' n : Nat} {u u' : Bool} {acc : List UInt8} {b : UInt8} (h : VaOk e s at_ ⟨i, 0, u, k, acc⟩) (hc : s[i]? = some 38) (h1 : ¬ ((38 : UInt8) = e ∨ (38 : UInt8) = 60)) (h2 : escL (s.drop i) = some (b, n)) : VaOk e s at_ ⟨i + n, 0, u', k', acc ++ [b]⟩ := by
  have hi := (List.getElem?_eq_some_iff.1 hc).1
  have h0 : at_ ≤ i := h.h1
  obtain ⟨g1, g2, g3⟩ := h.h3 rfl
  obtain ⟨q1, q2⟩ := escL_len h2
  rw [List.length_drop] at q1
  rw [drop_of_get hc] at h2
  simp only [drop_of_get hc, valN, if_neg h1, if_pos, h2] at g1 g2 g3
  obtain ⟨r1, r2, r3⟩ := valN_skip e (s.drop (i + 1)) (n - 1) (by rw [List.length_drop]; omega)
  have e0 : (s.drop (i + 1)).drop (n - 1) = s.drop (i + n) := by rw [List.drop_drop]; congr 1; omega
  rw [e0] at r1 r2 r3
  rw [r1] at g1
  rw [r2] at g2
  rw [r3] at g3
  exact ⟨by show at_ ≤ i + n; omega, by show i + n ≤ s.length; omega, fun _ => ⟨by simpa using g1, by show i + n + (valN e 0 (s.drop (i + n))).n = at_ + (valN e 0 (s.drop at_)).n; omega, g3⟩, fun hf => absurd rfl hf, .inl rfl⟩
theorem VaOk.bad {e : UInt8} {s : List UInt8} {at_ i k k' : Nat} {u u' : Bool} {acc : List UInt8} (h : VaOk e s at_ ⟨i, 0, u, k, acc⟩) (hc : s[i]? = some 38) (h1 : ¬ ((38 : UInt8) = e ∨ (38 : UInt8) = 60)) (h2 : escL (s.drop i) = none) : VaOk e s at_ ⟨i, 4, u', k', acc⟩ := by
  have hi := (List.getElem?_eq_some_iff.1 hc).1
  have h0 : at_ ≤ i := h.h1
  obtain ⟨g1, g2, g3⟩ := h.h3 rfl
  rw [drop_of_get hc] at h2
  simp only [drop_of_get hc, valN, if_neg h1, if_pos, h2, List.append_nil, Nat.add_zero] at g1 g2 g3
  exact ⟨h0, by show i ≤ s.length; omega, fun hf => (by cases hf), fun _ => ⟨g1, g2, g3⟩, .inr rfl⟩
theorem VaOk.stop {e : UInt8} {s : List UInt8} {at_ i k : Nat} {u : Bool} {acc : List UInt8} {c : UInt8} (h : VaOk e s at_ ⟨i, 0, u, k, acc⟩) (hc : s[i]? = some c) (h1 : c = e ∨ c = 60) : acc = (valN e 0 (s.drop at_)).out ∧ i = at_ + (valN e 0 (s.drop at_)).n ∧ (valN e 0 (s.drop at_)).f = 0 := by
  obtain ⟨g1, g2, g3⟩ := h.h3 rfl
  simp only [drop_of_get hc, valN, if_pos h1, List.append_nil, Nat.add_zero] at g1 g2 g3
  exact ⟨g1, g2, g3.symm⟩
theorem VaOk.end_ {e : UInt8} {s : List UInt8} {at_ i k : Nat} {u : Bool} {acc : List UInt8} (h : VaOk e s at_ ⟨i, 0, u, k, acc⟩) (hi : ¬ i < s.length) : acc = (valN e 0 (s.drop at_)).out ∧ i = at_ + (valN e 0 (s.drop at_)).n ∧ (valN e 0 (s.drop at_)).f = 5 := by
  obtain ⟨g1, g2, g3⟩ := h.h3 rfl
  simp only [List.drop_eq_nil_of_le (show s.length ≤ i by omega), valN, List.append_nil, Nat.add_zero] at g1 g2 g3
  exact ⟨g1, g2, g3.symm⟩
end Go.Proofs.YtjghnaohlfgloaaDoor
