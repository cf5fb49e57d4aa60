/- The law CoreLowers holds wherever what it reads is of bulk at most 1048576: it returns true, and its argument reads as it did; the tables of package unicode/utf8, of the core's functions, of its operators and of the functions that queries call as the row lists them. -/
import Derived.Test.YtdmkfkjdielmiaaDoorP19
import Derived.Test.YtdmkfkjdielmiaaDoorP20
import Derived.Test.YtdmkfkjdielmiaaDoorP45
import Derived.Test.YtdmkfkjdielmiaaDoorCards
import Derived.Test.YtdmkfkjdielmiaaDoorTie
import Derived.Deep.DeepHandedRow
import Derived.SevenTiedAt
set_option linter.all false
set_option linter.unusedSimpArgs false
set_option linter.unusedVariables false
namespace Go.Proofs.YtdmkfkjdielmiaaDoor.coreLowers
open Go Go.ChangeShapes Go.WideShapes Go.ChangeAt Go.RowKit Go.Proofs.YtdmkfkjdielmiaaDoor Go.Proofs.YtdmkfkjdielmiaaDoor.Ab
set_option maxHeartbeats 1000000
set_option maxRecDepth 20000
section
variable [Glo] [U8] [CAr] [COp] [CCa]
namespace FN3
def tks : Nat → List Nat | 0 => [1] | 1 => [1, 3, 4] | 2 => [3, 4, 5, 6] | 3 => [2] | _ => []
def tmu : List Nat := []
def tin : List Nat := [0]
abbrev tfn := @Tryd.func3
end FN3
attribute [go_sem] FN3.tks FN3.tmu FN3.tin Tryd.ntmps3 Tryd.results3
open FN3 in
theorem walk (p : Ph) (ok : PhOk p) (hn : phN p ≤ 1048576) (K : V → Heap → Prop) (hk : K (.d (.b true)) []) : ACalls Tryd.prog 3 [phW p.h p.args p.cls] [] K := by
  have hex := ok_low (phN p) p [] 0 ok
  have h1 := coreLower_A p ok hn
  have h2 := loweredOf_A p ok hn
  rw [← lowQ_agree] at h2
  have hx : ExOk (lowQ (lowP (phN p) p [] 0)).1 := by
    unfold lowQ
    split
    · split
      · exact hex
      · exact (ex_ok (Nat.zero_le _) (Nat.zero_le _) (Nat.zero_le _) (Nat.zero_le _) (Nat.zero_le _) (fun x h => by cases h))
    · exact (ex_ok (Nat.zero_le _) (Nat.zero_le _) (Nat.zero_le _) (Nat.zero_le _) (Nat.zero_le _) (fun x h => by cases h))
  generalize lowQ (lowP (phN p) p [] 0) = r at h1 h2 hx
  obtain ⟨x, f⟩ := r
  have h3 := sameExpr_A _ x (Nat.le_refl _) hx
  simp only [loV] at h1 h2
  rw [phW] at h1 h2 ⊢
  rw [exV] at h3
  have ii : (f = f) = True := eq_true rfl
  refine We ?_
  have c21 := h1; have c22 := h2; have c23 := h3; have us := ii
  exact W121
end
abbrev gl (L0 : List (List UInt8 × Int)) (L1 L2 : List (List UInt8 × List UInt8)) : Glo := ⟨fun g => if g = 6 then some acceptRow else if g = 4 then some (mapRow L0) else if g = 3 then some (mapRowS L1) else if g = 0 then some (mapRowS L2) else if g = 5 then some firstRow else none⟩
theorem law (L0 : List (List UInt8 × Int)) (hp0 : L0.Perm coreArE) (L1 : List (List UInt8 × List UInt8)) (hp1 : L1.Perm calledE) (L2 : List (List UInt8 × List UInt8)) (hp2 : L2.Perm opE) (dss : List (List D)) (h : TypedAllR (tyR Tryd.prog [29, 67] 12) [.cons (.i .i64) (.cons (.cons (.i .i64) (.cons (.i .i64) (.cons (.s) (.nil)))) (.cons (.s) (.cons (.i .i64) (.cons (.i .i64) (.cons (.cons (.i .i64) (.cons (.s) (.nil))) (.cons (.sl (.rf 29 11)) (.cons (.sl (.rf 67 15)) (.nil))))))))] dss 1048576) : @ACalls (gl L0 L1 L2) Tryd.prog 3 (argsVR [.cons (.i .i64) (.cons (.cons (.i .i64) (.cons (.i .i64) (.cons (.s) (.nil)))) (.cons (.s) (.cons (.i .i64) (.cons (.i .i64) (.cons (.cons (.i .i64) (.cons (.s) (.nil))) (.cons (.sl (.rf 29 11)) (.cons (.sl (.rf 67 15)) (.nil))))))))] dss) [] fun v _ => v = .d (.b true) := by
  letI : Glo := gl L0 L1 L2
  match dss, h with
  | [d1], ⟨_, _, _, h1, _⟩ =>
    letI : U8 := ⟨rfl, rfl⟩
    letI : CAr := ⟨L0, hp0, rfl⟩
    letI : CCa := ⟨L1, hp1, rfl⟩
    letI : COp := ⟨L2, hp2, rfl⟩
    obtain ⟨x, rfl, ok, hn⟩ := typed_ph (env := tyR Tryd.prog [29, 67] 12) (by kernel_rfl) (by kernel_rfl) _ _ (by omega) h1
    rw [phD_1]
    exact walk x ok (by omega) _ rfl
theorem map_of0 {W : World} (h : laidMetH Tryd.prog Rows.coreLowersUptoRow.laid W) : ∃ L : List (List UInt8 × Int), L.Perm coreArE ∧ GRow W (fun _ => False) 4 (mapRow L) := by
  letI : Glo := gl [] [] []
  exact map_var (t := 160) (k := 9) (e := 3) (by kernel_rfl) (by kernel_rfl) (by kernel_rfl) (by kernel_rfl) (by kernel_rfl) (Lib.laidMet.reads h (.tail _ (.head _))) (fun _ h => h)
theorem map_of1 {W : World} (h : laidMetH Tryd.prog Rows.coreLowersUptoRow.laid W) : ∃ L : List (List UInt8 × List UInt8), L.Perm calledE ∧ GRow W (fun _ => False) 3 (mapRowS L) := by
  letI : Glo := gl [] [] []
  exact map_varS (t := 86) (k := 9) (e := 9) (by kernel_rfl) (by kernel_rfl) (by kernel_rfl) (by kernel_rfl) (by kernel_rfl) (Lib.laidMet.reads h (.tail _ (.tail _ (.head _)))) (fun _ h => h)
theorem map_of2 {W : World} (h : laidMetH Tryd.prog Rows.coreLowersUptoRow.laid W) : ∃ L : List (List UInt8 × List UInt8), L.Perm opE ∧ GRow W (fun _ => False) 0 (mapRowS L) := by
  letI : Glo := gl [] [] []
  exact map_varS (t := 86) (k := 9) (e := 9) (by kernel_rfl) (by kernel_rfl) (by kernel_rfl) (by kernel_rfl) (by kernel_rfl) (Lib.laidMet.reads h (.tail _ (.tail _ (.tail _ (.head _))))) (fun _ h => h)
theorem globs {W : World} (h : laidMetH Tryd.prog Rows.coreLowersUptoRow.laid W) {L0 : List (List UInt8 × Int)} {L1 : List (List UInt8 × List UInt8)} {L2 : List (List UInt8 × List UInt8)} (hmap0 : GRow W (fun _ => False) 4 (mapRow L0)) (hmap1 : GRow W (fun _ => False) 3 (mapRowS L1)) (hmap2 : GRow W (fun _ => False) 0 (mapRowS L2)) : @Globs (gl L0 L1 L2) W := by
  letI : Glo := gl L0 L1 L2
  have r0 := Lib.laidMet.reads h (.head _)
  have r1 := Lib.laidMet.reads h (.tail _ (.head _))
  have r2 := Lib.laidMet.reads h (.tail _ (.tail _ (.head _)))
  have r3 := Lib.laidMet.reads h (.tail _ (.tail _ (.tail _ (.head _))))
  have r4 := Lib.laidMet.reads h (.tail _ (.tail _ (.tail _ (.tail _ (.head _)))))
  intro g row hg
  change (if g = 6 then some acceptRow else if g = 4 then some (mapRow L0) else if g = 3 then some (mapRowS L1) else if g = 0 then some (mapRowS L2) else if g = 5 then some firstRow else none) = some row at hg
  split at hg
  · rename_i e
    subst e
    cases hg
    exact var_row (n := 8) (t := 168) (by kernel_rfl) (by kernel_rfl) (by kernel_rfl) (by decide) r0 (fun _ h => h)
  ·
    split at hg
    · rename_i e
      subst e
      cases hg
      exact hmap0
    ·
      split at hg
      · rename_i e
        subst e
        cases hg
        exact hmap1
      ·
        split at hg
        · rename_i e
          subst e
          cases hg
          exact hmap2
        ·
          split at hg
          · rename_i e
            subst e
            cases hg
            exact var_row (n := 8) (t := 165) (by kernel_rfl) (by kernel_rfl) (by kernel_rfl) (by decide) r4 (fun _ h => h)
          ·
            cases hg
noncomputable def laidWorld (os : Os) : World :=
  let w0 := World.holding Tryd.prog os ⟨#[], #[], []⟩
  { w0 with heap := putRow (putMapS (putMapS (putMap (putRow (w0.heap) 6 acceptRow) 4 coreArE) 3 calledE) 0 opE) 5 firstRow }
theorem laid_met (os : Os) : laidMet Tryd.prog Rows.coreLowersUptoRow.laid ((laidWorld os).forCall (fun _ _ => 0) ⟨#[], #[.agg #[.int .i64 0, .int .i64 0, .int .i64 0, .string .empty, .string .empty, .int .i64 0, .int .i64 0, .int .i64 0, .string .empty, .slice none 0 0, .slice none 0 0]], []⟩).memory :=
  laidMet_of_run' 8 (by kernel_rfl) (by kernel_rfl)
theorem reads (os : Os) {H : Type} (enc : TypeId × Value → H) : ∃ places, DataW.whole enc Tryd.prog ((laidWorld os).forCall (fun _ _ => 0) ⟨#[], #[.agg #[.int .i64 0, .int .i64 0, .int .i64 0, .string .empty, .string .empty, .int .i64 0, .int .i64 0, .int .i64 0, .string .empty, .slice none 0 0, .slice none 0 0]], []⟩).memory Tryd.f3.params.toList Rows.coreLowersSpec.vars false (#[.agg #[.int .i64 0, .int .i64 0, .int .i64 0, .string .empty, .string .empty, .int .i64 0, .int .i64 0, .int .i64 0, .string .empty, .slice none 0 0, .slice none 0 0]] : Array Value).toList 8 = some ([.agg [.lit (.int .i64 0), .agg [.lit (.int .i64 0), .lit (.int .i64 0), .lit (.string [])], .lit (.string []), .lit (.int .i64 0), .lit (.int .i64 0), .agg [.lit (.int .i64 0), .lit (.string [])], .nil, .nil]], [], places) :=
  ⟨[], by kernel_rfl⟩
set_option maxRecDepth 100000 in
theorem lifted (os : Os) (started : os.Started) (H : Type) (enc : TypeId × Value → H) (F : Stop.Interp) :
    ReturnsInHanded {} Tryd.checked os 3 .any ((Rows.OpenSpec.upto Rows.coreLowersSpec).preRow enc Tryd.prog Tryd.f3 Rows.coreLowersUptoRow.domain false Rows.coreLowersUptoRow.laid) (((Rows.OpenSpec.upto Rows.coreLowersSpec).at F).post enc Tryd.prog Tryd.f3 false true false false) := by
  obtain ⟨places, hx⟩ := reads os enc
  refine returnsInHanded_of_row (C := Tryd.checked) (s := Rows.OpenSpec.upto Rows.coreLowersSpec) (letI : Glo := gl [] [] []; own) started (by kernel_rfl) Tryd.func3
    (witness_row_at (enc := enc) (C := Tryd.checked) false (laidWorld os) #[.agg #[.int .i64 0, .int .i64 0, .int .i64 0, .string .empty, .string .empty, .int .i64 0, .int .i64 0, .int .i64 0, .string .empty, .slice none 0 0, .slice none 0 0]] rfl (by kernel_rfl) (by kernel_rfl) (by kernel_rfl)
      (OpenSpec.preRow_of_cond 8 hx (by kernel_rfl) (fun k hk => by cases hk; kernel_rfl) (by kernel_rfl) (laid_met os))) ?_
  intro W base args ds gs before hval hW _ hcond _ hL _ _
  obtain ⟨L0, hp0, hmap0⟩ := map_of0 hL
  obtain ⟨L1, hp1, hmap1⟩ := map_of1 hL
  obtain ⟨L2, hp2, hmap2⟩ := map_of2 hL
  letI : Glo := gl L0 L1 L2
  refine law_contractR (n := 12) (rs := [29, 67]) (Ts := [.cons (.i .i64) (.cons (.cons (.i .i64) (.cons (.i .i64) (.cons (.s) (.nil)))) (.cons (.s) (.cons (.i .i64) (.cons (.i .i64) (.cons (.cons (.i .i64) (.cons (.s) (.nil))) (.cons (.sl (.rf 29 11)) (.cons (.sl (.rf 67 15)) (.nil))))))))]) (bt := 4) (by kernel_rfl) rfl (by kernel_rfl) Tryd.underlying4 (by kernel_rfl) (by kernel_rfl) (fun ds hds => ?_) (law L0 hp0 L1 hp1 L2 hp2) W (globs hL hmap0 hmap1 hmap2) args ds gs before base hval hW (hcond _ rfl)
  match ds, hds with
  | [d0], _ => rfl
theorem said : Rows.CoreLowersUptoSaid :=
  OpenClaim.holds_of_cond 3 Tryd.f3 rfl rfl rfl rfl rfl rfl rfl ⟨rfl, rfl, rfl, rfl, rfl⟩ rfl rfl rfl rfl rfl (by kernel_rfl) Tryd.func3 (by kernel_rfl)
    (of_decide_eq_true (by kernel_rfl)) (by unfold Func.isWrapper; first | (rw [if_pos (by decide +kernel)]; kernel_rfl) | (rw [if_neg (by decide +kernel)]; exact ⟨rfl, rfl⟩))
    (fun os started H enc _ F => by rw [OpenClaim.pre_eq_preRow]; exact lifted os started H enc F)
theorem plain (f : FuncId) (fn : Func) (hf : Tryd.pinned.checked.prog.funcNamed Rows.coreLowersUptoRow.func = some f) (hfn : Tryd.pinned.checked.prog.funcs[f]? = some fn) :
    false = Tryd.pinned.checked.prog.looks [] ∧ ∀ (j : Nat) t, fn.params[j]? = some t → Tryd.pinned.checked.prog.wantsStandIn t = false := by
  obtain rfl : f = 3 := Option.some.inj ((show Tryd.prog.funcNamed Rows.coreLowersUptoRow.func = some 3 by kernel_rfl).symm.trans hf) |>.symm
  obtain rfl : fn = Tryd.f3 := (Option.some.inj (Tryd.func3.symm.trans hfn)).symm
  refine ⟨by kernel_rfl, fun j t ht => ?_⟩
  have hm : t ∈ Tryd.f3.params.toList := by simpa using Array.mem_of_getElem? ht
  have hall : (Tryd.f3.params.toList.all fun u => !Tryd.prog.wantsStandIn u) = true := by kernel_rfl
  exact (show Tryd.prog.wantsStandIn t = false by simpa using List.all_eq_true.1 hall t hm)
theorem proved : Rows.CoreLowersUptoCardSaid :=
  Claim7.holds_tied_plain_at .later [] _ _ _ _ said (fun _ h => by cases h) (by kernel_rfl) (fun _ h => by cases h) coreLowersUpto_row_tie rfl ⟨rfl, rfl⟩ (by kernel_rfl) rfl plain (by kernel_rfl)
end Go.Proofs.YtdmkfkjdielmiaaDoor.coreLowers
