/- Small laws on relations that are made. No condition. -/
import Derived.Test.YtpgdflhcmijaiaaDoorQ28
import Derived.Test.YtpgdflhcmijaiaaDoorQ17
import Derived.Lib.Builder
import Derived.Laws.Externs
set_option linter.all false
set_option linter.unusedSimpArgs false
set_option linter.unusedVariables false
namespace Go.Proofs.YtpgdflhcmijaiaaDoor
open Go Go.Proofs.YtpgdflhcmijaiaaDoor.Ab
variable [Glo] [U8]
def it0 : It := ⟨0, 0, []⟩
def rg (l : List It) (c : Nat) : It := (l[c]?).getD it0
theorem rg_get {l : List It} {c : Nat} {x : It} (h : l[c]? = some x) : rg l c = x := by simp [rg, h]
theorem places_one (cols : List (List UInt8)) (s : List UInt8) : places cols [s] = if txtAt cols s < 0 then none else some [txtAt cols s] := by
  unfold places placesGo placesGo
  rfl
theorem obBel_rows (m ver e sz : Nat) (xs : List (List It)) : ObBel m (.row ver e sz (xs.map rowC)) := obBel_map rowD m ver e sz xs
theorem bel_nil2 (m : Nat) (ver e : Nat) : ObBel m (.row ver e 2 [[.d (.c (.slice none 0 0)), .d (.c (.slice none 0 0))]]) := by
  intro row hr v hv
  simp at hr
  subst hr
  simp at hv
  subst hv
  exact .d _
theorem fin_ret {H G : Heap} {K : V → Heap → Prop} {cols : List (List UInt8)} {acc : List (List It)} {id ver e : Nat} (hk : K (relE (made cols acc) (madeFault cols acc.length)) H) (hf : madeFault cols acc.length = 0) (hid : H.length ≤ id) (hr : (H ++ G)[id]? = some (.row ver e 1 (acc.map rowC))) :
    RetK H K (.tu [.ag [.d (.sl 1 (cols.map strRow)), .os id ver], .d (.i .i64 0)]) (H ++ G) := by
  rw [made, if_pos hf, hf] at hk
  exact dropF hk (Fz_tu2 (Fz_ag2 (.same _) (.os _ _ _ _ _ _ hid hr (rows_data _))) (.same _)) (bel_relE _ _ _)
theorem fin_bad {H G : Heap} {K : V → Heap → Prop} {cols : List (List UInt8)} {n : Nat} {acc : List (List It)} (hk : K (relE (made cols acc) (madeFault cols acc.length)) H) (hn : acc.length = n) (hf : ¬ madeFault cols n = 0) :
    RetK H K (.tu [.ag [.d (.sl 1 []), .d (.sl 1 [])], .d (.i .i64 (madeFault cols n))]) (H ++ G) := by
  subst hn
  rw [made, if_neg hf] at hk
  exact dropF hk (.same _) (bel_relE _ _ _)
theorem made_sh {cols : List (List UInt8)} {rows : List (List It)} (h1 : cols.length ≤ 9223372036854775807) (h2 : rows.length ≤ 9223372036854775807) (h3 : ∀ l, l ∈ rows → l.length ≤ 9223372036854775807) :
    (made cols rows).cols.length ≤ 9223372036854775807 ∧ (made cols rows).rows.length ≤ 9223372036854775807 ∧ ∀ l, l ∈ (made cols rows).rows → l.length ≤ 9223372036854775807 := by
  unfold made
  split
  · exact ⟨h1, h2, h3⟩
  · simp [rl0]
theorem rl0_sh : rl0.cols.length ≤ 9223372036854775807 ∧ rl0.rows.length ≤ 9223372036854775807 ∧ ∀ l, l ∈ rl0.rows → l.length ≤ 9223372036854775807 := by simp [rl0]
end Go.Proofs.YtpgdflhcmijaiaaDoor
namespace Go.Proofs.YtpgdflhcmijaiaaDoor
open Go Go.Proofs.YtpgdflhcmijaiaaDoor.Ab
variable [Glo] [U8]
def projRow (at_ : List Int) (row : List It) : List It := at_.map fun i => rg row i.toNat
theorem placesGo_mem {cols : List (List UInt8)} : ∀ (l : List (List UInt8)) (acc out : List Int), placesGo cols l acc = some out → (∀ i, i ∈ acc → 0 ≤ i ∧ i < cols.length) → (∀ i, i ∈ out → 0 ≤ i ∧ i < cols.length) ∧ out.length = acc.length + l.length
  | [], acc, out, h, ha => by cases h; exact ⟨ha, by simp⟩
  | s :: l, acc, out, h, ha => by
    rw [placesGo] at h
    split at h
    · cases h
    · rename_i hs
      have hlt := (fidx_lt (fun x => decide (s = x)) cols).2
      obtain ⟨h1, h2⟩ := placesGo_mem l _ out h (fun i hi => by
        rcases List.mem_append.1 hi with h1 | h1
        · exact ha i h1
        · rw [List.mem_singleton] at h1
          subst h1
          exact ⟨by omega, hlt⟩)
      exact ⟨h1, by rw [h2]; simp; omega⟩
theorem places_mem {cols l : List (List UInt8)} {out : List Int} (h : places cols l = some out) : (∀ i, i ∈ out → 0 ≤ i ∧ i < cols.length) ∧ out.length = l.length := by
  have := placesGo_mem l [] out h (by simp)
  simpa using this
def projected (r : Rl) (cols olds : List (List UInt8)) : Rl × Int :=
  if relFault r = 0 then (if cols.length = olds.length then (match places r.cols olds with | some at_ => (made cols (r.rows.map (projRow at_)), madeFault cols r.rows.length) | none => (rl0, 9)) else (rl0, 9))
  else (rl0, relFault r)
theorem projected_sh {r : Rl} (hS : ShR r) (cols olds : List (List UInt8)) (h1 : cols.length ≤ 1048576) (h2 : olds.length ≤ 1048576) : (projected r cols olds).1.cols.length ≤ 9223372036854775807 ∧ (projected r cols olds).1.rows.length ≤ 9223372036854775807 ∧ ∀ l, l ∈ (projected r cols olds).1.rows → l.length ≤ 9223372036854775807 := by
  unfold projected
  split
  · split
    · split
      · rename_i at_ hat
        have hl := (places_mem hat).2
        refine made_sh (by omega) (by have := hS.nrows; simp; omega) fun l hl' => ?_
        obtain ⟨row, _, rfl⟩ := List.mem_map.1 hl'
        simp only [projRow, List.length_map]
        omega
      · exact rl0_sh
    · exact rl0_sh
  · exact rl0_sh
def twoFault (a b : Rl) : Int := if relFault a = 0 then relFault b else relFault a
def crossRows (a b : Rl) : List (List It) := a.rows.flatMap fun x => b.rows.map fun y => x ++ y
def crossed (a b : Rl) : Rl × Int :=
  if twoFault a b = 0 then (if colsFault (a.cols ++ b.cols) = 0 then (if a.rows.length * b.rows.length ≤ 1000000 then (⟨a.cols ++ b.cols, crossRows a b⟩, 0) else (rl0, 1)) else (rl0, colsFault (a.cols ++ b.cols))) else (rl0, twoFault a b)
def united (a b : Rl) : Rl × Int :=
  if twoFault a b = 0 then (if a.cols = b.cols then (made a.cols (a.rows ++ b.rows), madeFault a.cols (a.rows ++ b.rows).length) else (rl0, 9)) else (rl0, twoFault a b)
theorem united_sh {a b : Rl} (hA : ShR a) (hB : ShR b) : (united a b).1.cols.length ≤ 9223372036854775807 ∧ (united a b).1.rows.length ≤ 9223372036854775807 ∧ ∀ l, l ∈ (united a b).1.rows → l.length ≤ 9223372036854775807 := by
  have q1 := hA.ncols
  have q2 := hA.nrows
  have q3 := hB.nrows
  unfold united
  split
  · split
    · refine made_sh (by omega) (by rw [List.length_append]; omega) fun l hl => ?_
      rcases List.mem_append.1 hl with h | h
      · have := hA.row l h
        omega
      · have := hB.row l h
        omega
    · exact rl0_sh
  · exact rl0_sh
theorem crossRows_len (a b : Rl) : (crossRows a b).length = a.rows.length * b.rows.length := by
  unfold crossRows
  induction a.rows with
  | nil => simp
  | cons x l ih => rw [List.flatMap_cons, List.length_append, ih, List.length_map, List.length_cons, Nat.add_mul, Nat.one_mul, Nat.add_comm]
theorem crossed_sh {a b : Rl} (hA : ShR a) (hB : ShR b) : (crossed a b).1.cols.length ≤ 9223372036854775807 ∧ (crossed a b).1.rows.length ≤ 9223372036854775807 ∧ ∀ l, l ∈ (crossed a b).1.rows → l.length ≤ 9223372036854775807 := by
  have q1 := hA.ncols
  have q2 := hB.ncols
  unfold crossed
  split
  · split
    · split
      · rename_i h
        refine ⟨by rw [List.length_append]; omega, by show (crossRows a b).length ≤ _; rw [crossRows_len]; omega, fun l hl => ?_⟩
        have hl : l ∈ crossRows a b := hl
        unfold crossRows at hl
        obtain ⟨x, hx, hl⟩ := List.mem_flatMap.1 hl
        obtain ⟨y, hy, rfl⟩ := List.mem_map.1 hl
        have := hA.row x hx
        have := hB.row y hy
        rw [List.length_append]
        omega
      · exact rl0_sh
    · exact rl0_sh
  · exact rl0_sh
end Go.Proofs.YtpgdflhcmijaiaaDoor
namespace Go.Proofs.YtpgdflhcmijaiaaDoor
open Go Go.Proofs.YtpgdflhcmijaiaaDoor.Ab
variable [Glo]
set_option maxHeartbeats 4000000
set_option maxRecDepth 100000
theorem liesAt_head {P : Program} {e : TypeId} (hc : P.cellsOf e ≠ 0) (count : Nat) (hn : 1 ≤ count) : liesAt P P.depth e count 0 e 1 = true := by
  have hd : P.depth = (2 * (P.types.size + Made.depth) + 1) + 1 := rfl
  rw [hd]
  simp only [liesAt, Bool.or_eq_true]
  left
  rw [hd]
  simp [rowAt, hc, hn, sameLayout]
theorem bld_info : ∃ j, Tryd.prog.info? 92 = some j ∧ j.size = 2 := by
  obtain ⟨j, h1, h2⟩ := Option.map_eq_some_iff.1 (show (Tryd.prog.info? 92).map (·.size) = some 2 by kernel_rfl)
  exact ⟨j, h1, h2⟩
theorem copyUsed (b : Nat) (w : World) (h0 : w.cell? ⟨b, 0, none⟩ = some (.pointer (some ⟨b, 0, none⟩))) :
    Calls Tryd.prog 92 #[.pointer (some ⟨b, 0, none⟩)] w fun e w' => e = .returned (.tuple #[]) ∧ w' = w := by
  obtain ⟨j, hj, _⟩ := bld_info
  go_enter Tryd.func92, Tryd.ntmps92
  go_wp2
  rw [Lib.run_neq_ptr_same w _ Tryd.underlying89 hj]
  go_wp2
  go_end0
  exact ⟨rfl, rfl⟩
theorem copyFresh (b n : Nat) (w : World) (h0 : w.cell? ⟨b, 0, none⟩ = some (.pointer none)) (hsh : w.shape? b = some (92, n)) (hn : 2 ≤ n) (hfz : w.frozen? ⟨b, 0, none⟩ = false) :
    Calls Tryd.prog 92 #[.pointer (some ⟨b, 0, none⟩)] w fun e w' => e = .returned (.tuple #[]) ∧ w' = w.setCell ⟨b, 0, none⟩ (.pointer (some ⟨b, 0, none⟩)) := by
  obtain ⟨j, hj, hjs⟩ := bld_info
  have hc : Tryd.prog.cellsOf 92 = 2 := by simp [Program.cellsOf, hj, hjs]
  have hl : liesAt Tryd.prog Tryd.prog.depth 92 (n / Tryd.prog.cellsOf 92) 0 92 1 = true := liesAt_head (by rw [hc]; decide) _ (by rw [hc]; omega)
  go_enter Tryd.func92, Tryd.ntmps92
  go_wp2
  rw [Lib.run_to_unsafe w ⟨b, 0, none⟩ Tryd.underlying89 Tryd.underlying138 hj (by rw [hjs]; decide) hsh (by show 0 < n; omega)]
  simp only [Result.andThen]
  rw [Oper.upon_value]
  go_wp2
  rw [run_callFunc_extern Tryd.func113 (by kernel_rfl) (by kernel_rfl) (by kernel_rfl) (e := Extern.AbiNoEscape.same) (by kernel_rfl)]
  rw [Lib.run_noEscape]
  simp only [Result.andThen]
  rw [Oper.upon_value]
  go_wp2
  rw [Lib.run_from_unsafe w ⟨b, 0, none⟩ Tryd.underlying138 Tryd.underlying89 hj hsh hl]
  simp only [Result.andThen]
  rw [Oper.upon_value]
  go_wp2
  go_end0
  exact ⟨rfl, rfl⟩
def selfV (u : Bool) (id ver : Nat) : V := match u with | true => .pt id ver 0 0 | false => .d (.c (.pointer none))
def bldC (u : Bool) (id ver : Nat) (b : V) : Ob := .row ver 92 2 [[selfV u id ver, b]]
theorem copyCheck_A (id ver : Nat) (b : V) (u : Bool) (H : Heap) (K : V → Heap → Prop) (hr : H[id]? = some (bldC u id ver b)) (hk : K .un (H.set id (bldC true id ver b))) :
    ACalls Tryd.prog 92 [.pt id ver 0 0] H K := by
  unfold ACalls
  intro w σ args hw hl hrel
  obtain ⟨a, rfl⟩ := Array.size_eq_one_iff.1 (by simpa using hl.symm)
  have ha := hrel 0 _ a rfl rfl
  have hr' : H[id]? = some (.row ver 92 2 [[selfV u id ver, b]]) := hr
  obtain ⟨_, hv⟩ := ha.inv_pt hr'
  obtain ⟨g, cap, hg, rfl⟩ := hv rfl
  rcases hw.objs hr' (by decide) with ⟨⟨_, hn⟩, _⟩ | ⟨g', cap', cur, hg', hh, h3, h4, h5, h6, h7⟩
  · rw [hn] at hg; cases hg
  rw [hg'] at hg
  cases hg
  obtain ⟨cv, c1, c2, c3⟩ := h7 0 0 _ (selfV u id ver) rfl rfl
  have c1 : cur[0]? = some cv := by simpa using c1
  have hcell : w.cell? ⟨g, 0, none⟩ = some cv := by
    rw [cell_of_row w g 0 cur _ (0, 0) hh]; exact c1
  have hsz : 2 ≤ cur.size := by simp at h3; omega
  have e0 : (0 * 2 + 0 : Nat) = 0 := rfl
  rw [e0] at ha ⊢
  cases u with
  | true =>
    obtain ⟨_, hv2⟩ := (show VRel w (Own H σ) H σ (.pt id ver 0 0) cv from c3).inv_pt hr'
    obtain ⟨g2, cap2, hg2, hcv⟩ := hv2 rfl
    rw [hg'] at hg2
    cases hg2
    subst hcv
    refine (copyUsed g w hcell).mono ?_
    rintro e w' ⟨rfl, rfl⟩
    rw [show H.set id (bldC true id ver b) = H from set_same hr] at hk
    exact ⟨_, .un, H, σ, rfl, hk, .un, hw, Pres.refl _ _ _⟩
  | false =>
    obtain rfl := (show VRel w (Own H σ) H σ (.d (.c (.pointer none))) cv from c3).inv_d.inv_c
    refine (copyFresh g cur.size w hcell (by simp [World.shape?, hh]) hsz (by simp [World.frozen?, hh])).mono ?_
    rintro e w' ⟨rfl, rfl⟩
    have hheap : (w.setCell ⟨g, 0, none⟩ (.pointer (some ⟨g, 0, none⟩))).heap[g]? = some (.cells (cur.setIfInBounds 0 (.pointer (some ⟨g, 0, none⟩))) 92 (0, 0)) := by
      simp [World.setCell, Array.getElem?_modify, hh]
    have hup := hw.set (w' := w.setCell ⟨g, 0, none⟩ (.pointer (some ⟨g, 0, none⟩))) (ver' := ver) (e' := 92) (sz' := 2) (rows' := [[.pt id ver 0 0, b]]) (c := σ id) hr' (Nat.le_refl _) (fun _ => ⟨rfl, rfl, rfl⟩) rfl rfl rfl (by simp [World.setCell])
      (fun k hk hne => by
        have : k ≠ g := fun e => hne cap (e ▸ hg')
        simp only [World.setCell, Array.getElem?_modify]
        rw [if_neg (fun e => this e.symm)])
      (fun g' cap' hc => .inl ⟨cap', hc⟩)
      (.inr <| .inl ⟨g, cap, _, hg', hheap, h3, h4, by simpa using h5, fun i row hi => (by
          match i, hi with
          | 0, hi => cases hi; rfl), fun i j row v hi hj => by
        match i, hi with
        | 0, hi =>
          cases hi
          match j, hj with
          | 0, hj =>
            cases hj
            exact ⟨.pointer (some ⟨g, 0, none⟩), by rw [Array.getElem?_setIfInBounds, if_pos rfl, if_pos (by omega)], rfl, ha⟩
          | 1, hj =>
            cases hj
            obtain ⟨cv, d1, d2, d3⟩ := h7 0 1 _ _ rfl rfl
            exact ⟨cv, by rw [Array.getElem?_setIfInBounds, if_neg (by decide)]; simpa using d1, d2, d3⟩⟩)
      (fun a e => hw.nil _ a e)
    exact ⟨_, .un, _, _, rfl, hk, .un, hup.2, hup.1⟩
def bufC (k : Nat) (bs : List UInt8) : Ob := .row k 5 1 (bs.map byteC)
theorem bufC_app (k : Nat) (bs s : List UInt8) : (Ob.row k 5 1 (bs.map byteC ++ s.map fun c => [V.d (.i .u8 c.toNat)])) = bufC k (bs ++ s) := by
  simp [bufC, byteC]
theorem obBel_bytes (m k : Nat) (bs : List UInt8) : ObBel m (bufC k bs) := obBel_map (fun c : UInt8 => [D.i .u8 c.toNat]) m k 5 1 bs
def ks_70 : Nat → List Nat
  | 0 => [0, 1]
  | 1 => [0, 1]
  | 2 => [1]
  | 3 => [4, 5]
  | _ => []
def mu_70 : List Nat := []
def in_70 : List Nat := [0, 1]
theorem writeString_A (id id2 k : Nat) (u : Bool) (bs s : List UInt8) (hne : id ≠ id2) (hlen : bs.length + s.length ≤ 140737488355328) (H : Heap) (K : V → Heap → Prop) (hr : H[id]? = some (bldC u id 0 (.os id2 k))) (hr2 : H[id2]? = some (bufC k bs))
    (hk : K (.tu [.d (.i .i64 s.length), .d (.c .nilIface)]) ((H.set id2 (bufC (k + 1) (bs ++ s))).set id (bldC true id 0 (.os id2 (k + 1))))) :
    ACalls Tryd.prog 70 [.pt id 0 0 0, .d (.s s)] H K := by
  have hid := (List.getElem?_eq_some_iff.1 hr).1
  have hid2 := (List.getElem?_eq_some_iff.1 hr2).1
  have e1 : (H.set id (.row 0 92 2 [[.pt id 0 0 0, .os id2 k]]))[id]? = some (.row 0 92 2 [[.pt id 0 0 0, .os id2 k]]) := get_self hr _
  have e2 : (H.set id (.row 0 92 2 [[.pt id 0 0 0, .os id2 k]]))[id2]? = some (.row k 5 1 (bs.map byteC)) := (get_ne hne _).trans hr2
  have e3 : ∀ x, ((H.set id (.row 0 92 2 [[.pt id 0 0 0, .os id2 k]])).set id2 x)[id]? = some (.row 0 92 2 [[.pt id 0 0 0, .os id2 k]]) := fun x => (get_ne (fun e => hne e.symm) _).trans e1
  have e4 : ∀ x, ((H.set id (.row 0 92 2 [[.pt id 0 0 0, .os id2 k]])).set id2 x)[id2]? = some x := fun x => get_self e2 _
  refine ACalls_of Tryd.func70 rfl in_70 (Nat.le_of_ble_eq_true rfl) ?_
  intro F hF
  simp (dsimp := false) only [go_sem, Nat.reduceAdd, Nat.reduceBEq, Nat.reduceEqDiff, Nat.reduceLT, Nat.reduceLeDiff, Nat.reduceMul, Int.reduceToNat, reduceCtorEq, ↓reduceIte, Tryd.ntmps70, Tryd.results70, ks_70, mu_70, ti_ag90, ti_fl92_1, ti_hb92, ti_sl90, ti_st9, ti_sz90, in_70] at hF
  subst hF
  repeat' (first | with_reducible (first | refine And.intro ?_ ?_ | intro _ | refine AWp_seq ?_ | refine AWp_block ?_ | (refine hKv _ _ (AWp_nop ?_); clear hKv Kv) | (refine hKA ?_; clear hKA hKB KA KB) | (refine hKB ?_; clear hKA hKB KA KB) | refine AWp_skipN ?_ | refine AWp_exitO (by repeat (first | exact Out.hit | apply Out.thenA | apply Out.out rfl)) ?_) | ((first | with_reducible (first | (refine hKv _ _ ?_; clear hKv Kv) | ((first | refine AWp_regC mu_70 ks_70 ?_ | refine AWp_regE mu_70 ks_70 ?_); intro Kv hKv) | refine AWp_retR ?_) | refine copyCheck_A id 0 _ u _ _ hr ?_); try simp (dsimp := false) only [go_sem, Nat.reduceAdd, Nat.reduceBEq, Nat.reduceEqDiff, Nat.reduceLT, Nat.reduceLeDiff, Nat.reduceMul, Int.reduceToNat, reduceCtorEq, ↓reduceIte, Tryd.ntmps70, Tryd.results70, ks_70, mu_70, ti_ag90, ti_fl92_1, ti_hb92, ti_sl90, ti_st9, ti_sz90, bldC, selfV, e1, e2, e3, e4, hid, hid2, List.length_set]) | (refine AWp_condC rfl ?_; intro KA KB hKA hKB; try simp only [onB_true, onB_false, onB_dec, onB_ndec, onB_not, onB_and, onB_or]) | (refine AWp_condA rfl ?_ ?_) | with_reducible (first | refine onB_of ?_ ?_ | rfl) | omega)
  rw [bufC_app]
  rw [List.set_comm _ _ hne, List.set_set]
  refine keepS hk (by simp) (closed_set (closed_set (closed_self H) (obBel_bytes _ _ _)) ?_) (by simp [Bel_tu, Bel_d])
  intro row hrow v hv
  simp at hrow
  subst hrow
  simp at hv
  rcases hv with rfl | rfl
  · exact .pt _ _ _ _ (by simpa using hid)
  · exact .os _ _ (by simpa using hid2)
def ks_71 : Nat → List Nat
  | 0 => [0]
  | 1 => [2]
  | _ => []
def mu_71 : List Nat := []
def in_71 : List Nat := [0]
def nd_71 : Nat → Nat
  | 1 => 10
  | _ => 0
theorem bldString_A (id id2 k ver : Nat) (p : V) (bs : List UInt8) (hlen : bs.length ≤ 140737488355328) (H : Heap) (K : V → Heap → Prop) (hr : H[id]? = some (.row ver 92 2 [[p, .os id2 k]])) (hr2 : H[id2]? = some (.row k 5 1 (bs.map byteC)))
    (hk : K (.d (.s bs)) (H.set id2 .dead)) :
    ACalls Tryd.prog 71 [.pt id ver 0 0] H K := by
  have hid := (List.getElem?_eq_some_iff.1 hr).1
  have hid2 := (List.getElem?_eq_some_iff.1 hr2).1
  refine ACalls_of Tryd.func71 rfl in_71 (Nat.le_of_ble_eq_true rfl) ?_
  intro F hF
  simp (dsimp := false) only [go_sem, Nat.reduceAdd, Nat.reduceBEq, Nat.reduceEqDiff, Nat.reduceLT, Nat.reduceLeDiff, Nat.reduceMul, Int.reduceToNat, reduceCtorEq, ↓reduceIte, Tryd.ntmps71, Tryd.results71, ks_71, mu_71, nd_71, ti_ag90, ti_fl92_1, ti_pt121, ti_sb90, hr, hr2, hid, hid2, in_71] at hF
  subst hF
  repeat' (first | with_reducible (first | refine And.intro ?_ ?_ | intro _ | refine AWp_seq ?_ | refine AWp_block ?_ | (refine hKv _ _ (AWp_nop ?_); clear hKv Kv) | (refine hKA ?_; clear hKA hKB KA KB) | (refine hKB ?_; clear hKA hKB KA KB) | refine AWp_skipN ?_ | refine AWp_exitO (by repeat (first | exact Out.hit | apply Out.thenA | apply Out.out rfl)) ?_) | (with_reducible (first | (refine hKv _ _ ?_; clear hKv Kv) | ((first | refine AWp_regC mu_71 ks_71 ?_ | refine AWp_draw nd_71 mu_71 ks_71 ti_mixed (by kernel_rfl) ?_ | refine AWp_regE mu_71 ks_71 ?_ | refine AWp_drawE nd_71 mu_71 ks_71 ti_mixed (by kernel_rfl) ?_); intro Kv hKv) | refine AWp_retR ?_); try simp (dsimp := false) only [go_sem, Nat.reduceAdd, Nat.reduceBEq, Nat.reduceEqDiff, Nat.reduceLT, Nat.reduceLeDiff, Nat.reduceMul, Int.reduceToNat, reduceCtorEq, ↓reduceIte, Tryd.ntmps71, Tryd.results71, ks_71, mu_71, nd_71, ti_ag90, ti_fl92_1, ti_pt121, ti_sb90, hr, hr2, hid, hid2]) | (refine AWp_condC rfl ?_; intro KA KB hKA hKB; try simp only [onB_true, onB_false, onB_dec, onB_ndec, onB_not, onB_and, onB_or]) | (refine AWp_condA rfl ?_ ?_) | with_reducible (first | refine onB_of ?_ ?_ | rfl) | omega)
  exact keepS hk (by simp) (closed_set (closed_self H) trivial) (by simp [Bel_d])
end Go.Proofs.YtpgdflhcmijaiaaDoor
