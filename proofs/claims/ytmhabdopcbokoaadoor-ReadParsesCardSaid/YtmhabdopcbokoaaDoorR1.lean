/- Data, as cells hold them. No condition. -/
import Derived.WalkKit
import Derived.RowKit3
set_option linter.all false
set_option linter.unusedSimpArgs false
set_option linter.unusedVariables false
namespace Go.Proofs.YtmhabdopcbokoaaDoor.Ab
open Go
inductive Kd : Type where
  | i (k : IntKind)
  | s
  | b
  deriving DecidableEq, Inhabited
inductive D : Type where
  | i (k : IntKind) (n : Int)
  | b (t : Bool)
  | s (l : List UInt8)
  | c (v : Value)
  | sl (sz : Nat) (rows : List (List D))
  | m (sh : List Kd) (ks : List (List D)) (vs : List D)
  deriving Inhabited
def kdOf : D → Option Kd
  | .i k _ => some (.i k)
  | .b _ => some .b
  | .s _ => some .s
  | _ => none
def keyC : D → Value
  | .i k n => .int k n
  | .b t => .bool t
  | .s l => .string ⟨l.toArray⟩
  | _ => .bool false
def keyVal : List D → Value
  | [x] => keyC x
  | l => .agg (l.map keyC).toArray
class Glo where
  glob : Nat → Option (List D)
def glob [Glo] (g : Nat) : Option (List D) := Glo.glob g
end Go.Proofs.YtmhabdopcbokoaaDoor.Ab
namespace Go.Proofs.YtmhabdopcbokoaaDoor.Ab
open Go
variable [Glo]
inductive V : Type where
  | top
  | un
  | d (x : D)
  | ag (cs : List V)
  | tu (vs : List V)
  | os (id ver : Nat)
  | pt (id ver i c : Nat)
  | rp (row : List D)
  | em
  | fn (g : Nat) (caps : List V)
  | vw (id ver n : Nat)
  | sd (id ver : Nat)
  | ab
  | mp (sh : List Kd) (ks : List (List D)) (vs : List V)
  | mo (id ver : Nat)
  deriving Inhabited
inductive Ob : Type where
  | dead
  | row (ver : Nat) (e : TypeId) (sz : Nat) (rows : List (List V))
  deriving Inhabited
abbrev Heap := List Ob
inductive Co : Type where
  | no (a : Option Addr)
  | blk (g cap : Nat)
  deriving Inhabited
abbrev Conc := Nat → Co
abbrev Frame := List (Nat × V)
def Own (H : Heap) (σ : Conc) (b : Nat) : Prop := ∃ id ver e sz rows cap, H[id]? = some (.row ver e sz rows) ∧ σ id = .blk b cap
inductive DRel (w : World) (o : Nat → Prop) : D → Value → Prop where
  | i (k : IntKind) (n : Int) : DRel w o (.i k n) (.int k n)
  | b (t : Bool) : DRel w o (.b t) (.bool t)
  | s (l : List UInt8) : DRel w o (.s l) (.string ⟨l.toArray⟩)
  | c (v : Value) : v.oneCell' = true → DRel w o (.c v) v
  | nil (sz : Nat) (a : Option Addr) (cap : Nat) : DRel w o (.sl sz []) (.slice a 0 cap)
  | sl (sz : Nat) (rows : List (List D)) (b off cap : Nat) (f : Nat → Nat → Value) : rows.length ≤ cap → b < w.heap.size → ¬ o b →
      (∀ (i : Nat) (row : List D), rows[i]? = some row → row.length = sz) →
      (∀ (i j : Nat) (row : List D) (x : D), rows[i]? = some row → row[j]? = some x → w.cell? ⟨b, off + i * sz + j, none⟩ = some (f i j)) →
      (∀ (i j : Nat) (row : List D) (x : D), rows[i]? = some row → row[j]? = some x → DRel w o x (f i j)) →
      DRel w o (.sl sz rows) (.slice (some ⟨b, off, none⟩) rows.length cap)
  | m (sh : List Kd) (ks : List (List D)) (vs : List D) (b clock : Nat) (es : Array MapEntry) : b < w.heap.size → ¬ o b → w.heap[b]? = some (.map es clock) → (∀ k, k ∈ ks → k.map kdOf = sh.map some) → es.toList.map (·.key) = ks.map keyVal → vs.length = es.size →
      (∀ (i : Nat) (x : D) (e : MapEntry), vs[i]? = some x → es[i]? = some e → DRel w o x e.val) → DRel w o (.m sh ks vs) (.map (some b))
def slv : Co → Nat → Value
  | .no a, _ => .slice a 0 0
  | .blk g cap, n => .slice (some ⟨g, 0, none⟩) n cap
inductive VRel (w : World) (o : Nat → Prop) (H : Heap) (σ : Conc) : V → Value → Prop where
  | top (v : Value) : VRel w o H σ .top v
  | un : VRel w o H σ .un undef
  | d (x : D) (v : Value) : DRel w o x v → VRel w o H σ (.d x) v
  | ag (cs : List V) (vs : Array Value) : cs.length = vs.size → (∀ (j : Nat) (c : V) (v : Value), cs[j]? = some c → vs[j]? = some v → VRel w o H σ c v) → VRel w o H σ (.ag cs) (.agg vs)
  | tu (cs : List V) (vs : Array Value) : cs.length = vs.size → (∀ (j : Nat) (c : V) (v : Value), cs[j]? = some c → vs[j]? = some v → VRel w o H σ c v) → VRel w o H σ (.tu cs) (.tuple vs)
  | os (id ver : Nat) (v : Value) : id < H.length →
      (∀ ver' e sz rows, H[id]? = some (.row ver' e sz rows) → ver ≤ ver' ∧ (ver = ver' → sz ≠ 0 ∧ v = slv (σ id) rows.length)) → VRel w o H σ (.os id ver) v
  | pt (id ver i c : Nat) (v : Value) : id < H.length →
      (∀ ver' e sz rows, H[id]? = some (.row ver' e sz rows) → ver ≤ ver' ∧ (ver = ver' → sz ≠ 0 ∧ ∃ g cap, σ id = .blk g cap ∧ v = .pointer (some ⟨g, i * sz + c, none⟩))) →
      VRel w o H σ (.pt id ver i c) v
  | rp (row : List D) (b off : Nat) (f : Nat → Value) : b < w.heap.size → ¬ o b →
      (∀ (j : Nat) (x : D), row[j]? = some x → w.cell? ⟨b, off + j, none⟩ = some (f j)) →
      (∀ (j : Nat) (x : D), row[j]? = some x → DRel w o x (f j)) →
      VRel w o H σ (.rp row) (.pointer (some ⟨b, off, none⟩))
  | em (a : Option Addr) : VRel w o H σ .em (.slice a 0 0)
  | fn (g : Nat) (cs : List V) (vs : Array Value) : cs.length = vs.size → (∀ (j : Nat) (c : V) (v : Value), cs[j]? = some c → vs[j]? = some v → VRel w o H σ c v) → VRel w o H σ (.fn g cs) (.func (.func g) #[] vs)
  | vw (id ver n : Nat) (v : Value) : id < H.length →
      (∀ ver' e sz rows, H[id]? = some (.row ver' e sz rows) → ver ≤ ver' ∧ (ver = ver' → sz ≠ 0 ∧ n ≤ rows.length ∧ v = slv (σ id) n)) → VRel w o H σ (.vw id ver n) v
  | sd (id ver : Nat) (p : Option Addr) : id < H.length →
      (∀ ver' e sz rows, H[id]? = some (.row ver' e sz rows) → ver ≤ ver' ∧ (ver = ver' → sz ≠ 0 ∧ ∀ g cap, σ id = .blk g cap → rows.length ≠ 0 → p = some ⟨g, 0, none⟩)) → VRel w o H σ (.sd id ver) (.pointer p)
  | ab (t : Bool) : VRel w o H σ .ab (.bool t)
  | mp (sh : List Kd) (ks : List (List D)) (cs : List V) (vs : Array Value) : cs.length = vs.size → (∀ (j : Nat) (c : V) (v : Value), cs[j]? = some c → vs[j]? = some v → VRel w o H σ c v) → VRel w o H σ (.mp sh ks cs) (.tuple vs)
  | mo (id ver : Nat) (v : Value) : id < H.length →
      (∀ ver' e sz rows, H[id]? = some (.row ver' e sz rows) → ver ≤ ver' ∧ (ver = ver' → sz = 0 ∧ ∃ g cap, σ id = .blk g cap ∧ v = .map (some g))) → VRel w o H σ (.mo id ver) v
def GRow (w : World) (o : Nat → Prop) (g : Nat) (row : List D) : Prop := g < w.heap.size ∧ ¬ o g ∧ ∃ f : Nat → Value,
  (∀ (j : Nat) (x : D), row[j]? = some x → w.cell? ⟨g, j, none⟩ = some (f j)) ∧ (∀ (j : Nat) (x : D), row[j]? = some x → DRel w o x (f j))
def MapAt (w : World) (o : Nat → Prop) (H : Heap) (σ : Conc) (c : Co) (w' : World) (sz : Nat) (rows : List (List V)) : Prop :=
  ∃ g cap es clock sh ks vs, c = .blk g cap ∧ w'.heap[g]? = some (.map es clock) ∧ sz = 0 ∧ rows = [[.mp sh ks vs]] ∧ (∀ k, k ∈ ks → k.map kdOf = sh.map some) ∧ (es.toList.map (·.key) = ks.map keyVal ∧ clock = es.size ∧ ∀ (j : Nat) (m : MapEntry), es[j]? = some m → m.born = j) ∧ VRel w o H σ (.mp sh ks vs) (.tuple (es.map (·.val)))
structure WOk (w : World) (H : Heap) (σ : Conc) : Prop where
  obj : ∀ id ver e sz rows, H[id]? = some (.row ver e sz rows) →
    ((∃ a, σ id = .no a) ∧ rows = []) ∨
    (∃ g cap cur, σ id = .blk g cap ∧ w.heap[g]? = some (.cells cur e (0, 0)) ∧ rows.length ≤ cap ∧ cap ≤ maxLen ∧ cur.size = cap * sz ∧
      (∀ (i : Nat) (row : List V), rows[i]? = some row → row.length = sz) ∧
      (∀ (i j : Nat) (row : List V) (v : V), rows[i]? = some row → row[j]? = some v → ∃ cv, cur[i * sz + j]? = some cv ∧ cv.oneCell' = true ∧ VRel w (Own H σ) H σ v cv)) ∨
    MapAt w (Own H σ) H σ (σ id) w sz rows
  inj : ∀ id id' ver e sz rows ver' e' sz' rows' g cap cap', H[id]? = some (.row ver e sz rows) → H[id']? = some (.row ver' e' sz' rows') → σ id = .blk g cap → σ id' = .blk g cap' → id = id'
  glob : ∀ g row, glob g = some row → GRow w (Own H σ) g row
  nil : ∀ (id : Nat) (a : Option Addr), σ id = .no a → a = none
def OutSame (w w' : World) : Prop := w'.output = w.output
theorem OutSame.refl (w : World) : OutSame w w := rfl
theorem OutSame.trans {w w1 w2 : World} (h : OutSame w w1) (k : OutSame w1 w2) : OutSame w w2 := Eq.trans k h
theorem OutSame.alloc (w : World) (c : Array Value) (t : TypeId) : OutSame w (w.alloc (.cells c t)) := rfl
theorem OutSame.drewAlloc (w : World) (c : Array Value) (t : TypeId) : OutSame w (w.drew.alloc (.cells c t)) := rfl
structure Pres (w : World) (H : Heap) (σ : Conc) (w' : World) (H' : Heap) (σ' : Conc) : Prop where
  os : w'.os = w.os
  tape : w'.tape = w.tape
  output : OutSame w w'
  size : w.heap.size ≤ w'.heap.size
  blk : ∀ b, b < w.heap.size → ¬ Own H σ b → w'.heap[b]? = w.heap[b]?
  own : ∀ b, b < w.heap.size → Own H' σ' b → Own H σ b
  hlen : H.length ≤ H'.length
  keep : ∀ id v' e' sz' rows', id < H.length → H'[id]? = some (.row v' e' sz' rows') →
    ∃ v e sz rows, H[id]? = some (.row v e sz rows) ∧ v ≤ v' ∧ (v = v' → σ' id = σ id ∧ sz = sz' ∧ rows'.length = rows.length)
theorem Pres.refl (w : World) (H : Heap) (σ : Conc) : Pres w H σ w H σ :=
  ⟨rfl, rfl, OutSame.refl w, Nat.le_refl _, fun _ _ _ => rfl, fun _ _ h => h, Nat.le_refl _, fun _ v e sz rows _ h => ⟨v, e, sz, rows, h, Nat.le_refl _, fun _ => ⟨rfl, rfl, rfl⟩⟩⟩
theorem Pres.trans {w w1 w2 : World} {H H1 H2 : Heap} {σ σ1 σ2 : Conc} (h : Pres w H σ w1 H1 σ1) (k : Pres w1 H1 σ1 w2 H2 σ2) : Pres w H σ w2 H2 σ2 := by
  refine ⟨k.os.trans h.os, k.tape.trans h.tape, h.output.trans k.output, Nat.le_trans h.size k.size, ?_, ?_, Nat.le_trans h.hlen k.hlen, ?_⟩
  · intro b hb hn
    have hn1 : ¬ Own H1 σ1 b := fun ho => hn (h.own b hb ho)
    exact (k.blk b (Nat.lt_of_lt_of_le hb h.size) hn1).trans (h.blk b hb hn)
  · intro b hb ho
    exact h.own b hb (k.own b (Nat.lt_of_lt_of_le hb h.size) ho)
  · intro id v' e' sz' rows' hid hr
    obtain ⟨v1, e1, sz1, rows1, hr1, hle1, hs1⟩ := k.keep id v' e' sz' rows' (Nat.lt_of_lt_of_le hid h.hlen) hr
    obtain ⟨v0, e0, sz0, rows0, hr0, hle0, hs0⟩ := h.keep id v1 e1 sz1 rows1 hid hr1
    refine ⟨v0, e0, sz0, rows0, hr0, Nat.le_trans hle0 hle1, fun he => ?_⟩
    have e1' : v0 = v1 := by omega
    have e2' : v1 = v' := by omega
    obtain ⟨a, b, c⟩ := hs1 e2'
    obtain ⟨a', b', c'⟩ := hs0 e1'
    exact ⟨a.trans a', b'.trans b, c.trans c'⟩
theorem cell_lt {w : World} {b off : Nat} {v : Value} (h : w.cell? ⟨b, off, none⟩ = some v) : b < w.heap.size := World.block_lt_of_cell? w _ h
theorem cell_same {w w' : World} {b off : Nat} (h : w'.heap[b]? = w.heap[b]?) : w'.cell? ⟨b, off, none⟩ = w.cell? ⟨b, off, none⟩ := by simp [World.cell?, h]
theorem DRel.mono {w w' : World} {o o' : Nat → Prop} (hsz : w.heap.size ≤ w'.heap.size) (hblk : ∀ b, b < w.heap.size → ¬ o b → w'.heap[b]? = w.heap[b]?) (hown : ∀ b, b < w.heap.size → o' b → o b) :
    ∀ {x : D} {v : Value}, DRel w o x v → DRel w' o' x v := by
  intro x v h
  induction h with
  | i k n => exact .i k n
  | b t => exact .b t
  | s l => exact .s l
  | c v h => exact .c v h
  | nil sz a cap => exact .nil sz a cap
  | sl sz rows b off cap f hcap hb hno hlen hcell _ ih =>
    exact .sl sz rows b off cap f hcap (Nat.lt_of_lt_of_le hb hsz) (fun ho => hno (hown b hb ho)) hlen
      (fun i j row x hr hx => (cell_same (hblk b hb hno)).trans (hcell i j row x hr hx)) ih
  | m sh ks vs b clock es hb hno hcell hs hk hl _ ih =>
    exact .m sh ks vs b clock es (Nat.lt_of_lt_of_le hb hsz) (fun ho => hno (hown b hb ho)) ((hblk b hb hno).trans hcell) hs hk hl ih
theorem DRel.pres {w w' : World} {H H' : Heap} {σ σ' : Conc} (p : Pres w H σ w' H' σ') {x : D} {v : Value} (h : DRel w (Own H σ) x v) : DRel w' (Own H' σ') x v :=
  h.mono p.size p.blk p.own
theorem GRow.pres {w w' : World} {H H' : Heap} {σ σ' : Conc} (p : Pres w H σ w' H' σ') {g : Nat} {row : List D} (h : GRow w (Own H σ) g row) : GRow w' (Own H' σ') g row := by
  obtain ⟨hb, hno, f, h1, h2⟩ := h
  exact ⟨Nat.lt_of_lt_of_le hb p.size, fun ho => hno (p.own g hb ho), f, fun j x hx => (cell_same (p.blk g hb hno)).trans (h1 j x hx), fun j x hx => (h2 j x hx).pres p⟩
theorem VRel.pres {w w' : World} {H H' : Heap} {σ σ' : Conc} (p : Pres w H σ w' H' σ') {x : V} {v : Value} (h : VRel w (Own H σ) H σ x v) : VRel w' (Own H' σ') H' σ' x v := by
  induction h with
  | top v => exact .top v
  | un => exact .un
  | d x v h => exact .d x v (h.pres p)
  | ag cs vs hl _ ih => exact .ag cs vs hl ih
  | tu cs vs hl _ ih => exact .tu cs vs hl ih
  | os id ver v hid h =>
    refine .os id ver v (Nat.lt_of_lt_of_le hid p.hlen) fun v' e' sz' rows' hr => ?_
    obtain ⟨v0, e0, sz0, rows0, hr0, hle, hs⟩ := p.keep id v' e' sz' rows' hid hr
    obtain ⟨hv, hval⟩ := h v0 e0 sz0 rows0 hr0
    refine ⟨Nat.le_trans hv hle, fun he => ?_⟩
    have h1 : v0 = v' := by omega
    have h2 : ver = v0 := by omega
    obtain ⟨a, b, c⟩ := hs h1
    rw [a, c]
    exact ⟨b ▸ (hval h2).1, (hval h2).2⟩
  | pt id ver i c v hid h =>
    refine .pt id ver i c v (Nat.lt_of_lt_of_le hid p.hlen) fun v' e' sz' rows' hr => ?_
    obtain ⟨v0, e0, sz0, rows0, hr0, hle, hs⟩ := p.keep id v' e' sz' rows' hid hr
    obtain ⟨hv, hval⟩ := h v0 e0 sz0 rows0 hr0
    refine ⟨Nat.le_trans hv hle, fun he => ?_⟩
    have h1 : v0 = v' := by omega
    have h2 : ver = v0 := by omega
    obtain ⟨a, b, _⟩ := hs h1
    obtain ⟨hz, g, cap, hg, hv'⟩ := hval h2
    exact ⟨b ▸ hz, g, cap, a.trans hg, b ▸ hv'⟩
  | mp sh ks cs vs hl _ ih => exact .mp sh ks cs vs hl ih
  | mo id ver v hid h =>
    refine .mo id ver v (Nat.lt_of_lt_of_le hid p.hlen) fun v' e' sz' rows' hr => ?_
    obtain ⟨v0, e0, sz0, rows0, hr0, hle, hs⟩ := p.keep id v' e' sz' rows' hid hr
    obtain ⟨hv, hval⟩ := h v0 e0 sz0 rows0 hr0
    refine ⟨Nat.le_trans hv hle, fun he => ?_⟩
    have h1 : v0 = v' := by omega
    have h2 : ver = v0 := by omega
    obtain ⟨a, b, _⟩ := hs h1
    obtain ⟨hz, g, cap, hg, hv'⟩ := hval h2
    exact ⟨b ▸ hz, g, cap, a.trans hg, hv'⟩
  | rp row b off f hb hno hcell hd =>
    exact .rp row b off f (Nat.lt_of_lt_of_le hb p.size) (fun ho => hno (p.own b hb ho)) (fun j x hx => (cell_same (p.blk b hb hno)).trans (hcell j x hx)) (fun j x hx => (hd j x hx).pres p)
  | em a => exact .em a
  | ab t => exact .ab t
  | fn g cs vs hl _ ih => exact .fn g cs vs hl ih
  | sd id ver q hid h =>
    refine .sd id ver q (Nat.lt_of_lt_of_le hid p.hlen) fun v' e' sz' rows' hr => ?_
    obtain ⟨v0, e0, sz0, rows0, hr0, hle, hs⟩ := p.keep id v' e' sz' rows' hid hr
    obtain ⟨hv, hval⟩ := h v0 e0 sz0 rows0 hr0
    refine ⟨Nat.le_trans hv hle, fun he => ?_⟩
    have h1 : v0 = v' := by omega
    have h2 : ver = v0 := by omega
    obtain ⟨a, b, c⟩ := hs h1
    exact ⟨b ▸ (hval h2).1, fun g cap hg hne => (hval h2).2 g cap (a ▸ hg) (c ▸ hne)⟩
  | vw id ver n v hid h =>
    refine .vw id ver n v (Nat.lt_of_lt_of_le hid p.hlen) fun v' e' sz' rows' hr => ?_
    obtain ⟨v0, e0, sz0, rows0, hr0, hle, hs⟩ := p.keep id v' e' sz' rows' hid hr
    obtain ⟨hv, hval⟩ := h v0 e0 sz0 rows0 hr0
    refine ⟨Nat.le_trans hv hle, fun he => ?_⟩
    have h1 : v0 = v' := by omega
    have h2 : ver = v0 := by omega
    obtain ⟨a, b, c⟩ := hs h1
    rw [a, c]
    exact ⟨b ▸ (hval h2).1, (hval h2).2⟩
section
variable {w : World} {o : Nat → Prop} {H : Heap} {σ : Conc}
theorem VRel.inv_d {x : D} {v : Value} (h : VRel w o H σ (.d x) v) : DRel w o x v := by cases h; assumption
theorem VRel.inv_ag {cs : List V} {v : Value} (h : VRel w o H σ (.ag cs) v) : ∃ vs, v = .agg vs ∧ cs.length = vs.size ∧ ∀ (j : Nat) (c : V) (v : Value), cs[j]? = some c → vs[j]? = some v → VRel w o H σ c v := by
  cases h with | ag _ vs hl hv => exact ⟨vs, rfl, hl, hv⟩
theorem VRel.inv_tu {cs : List V} {v : Value} (h : VRel w o H σ (.tu cs) v) : ∃ vs, v = .tuple vs ∧ cs.length = vs.size ∧ ∀ (j : Nat) (c : V) (v : Value), cs[j]? = some c → vs[j]? = some v → VRel w o H σ c v := by
  cases h with | tu _ vs hl hv => exact ⟨vs, rfl, hl, hv⟩
theorem VRel.inv_fn {g : Nat} {cs : List V} {v : Value} (h : VRel w o H σ (.fn g cs) v) : ∃ vs, v = .func (.func g) #[] vs ∧ cs.length = vs.size ∧ ∀ (j : Nat) (c : V) (v : Value), cs[j]? = some c → vs[j]? = some v → VRel w o H σ c v := by
  cases h with | fn _ _ vs hl hv => exact ⟨vs, rfl, hl, hv⟩
theorem VRel.inv_os {id ver ver' e sz : Nat} {rows : List (List V)} {v : Value} (h : VRel w o H σ (.os id ver) v) (hr : H[id]? = some (.row ver' e sz rows)) : ver ≤ ver' ∧ (ver = ver' → v = slv (σ id) rows.length) := by
  cases h with | os _ _ _ _ hv => exact ⟨(hv _ _ _ _ hr).1, fun e => ((hv _ _ _ _ hr).2 e).2⟩
theorem VRel.nz_os {id ver e sz : Nat} {rows : List (List V)} {v : Value} (h : VRel w o H σ (.os id ver) v) (hr : H[id]? = some (.row ver e sz rows)) : sz ≠ 0 := by
  cases h with | os _ _ _ _ hv => exact ((hv _ _ _ _ hr).2 rfl).1
theorem VRel.nz_pt {id ver i c e sz : Nat} {rows : List (List V)} {v : Value} (h : VRel w o H σ (.pt id ver i c) v) (hr : H[id]? = some (.row ver e sz rows)) : sz ≠ 0 := by
  cases h with | pt _ _ _ _ _ _ hv => exact ((hv _ _ _ _ hr).2 rfl).1
theorem VRel.inv_mo {id ver ver' e sz : Nat} {rows : List (List V)} {v : Value} (h : VRel w o H σ (.mo id ver) v) (hr : H[id]? = some (.row ver' e sz rows)) : ver ≤ ver' ∧ (ver = ver' → sz = 0 ∧ ∃ g cap, σ id = .blk g cap ∧ v = .map (some g)) := by
  cases h with | mo _ _ _ _ hv => exact hv _ _ _ _ hr
theorem VRel.inv_mp {sh : List Kd} {ks : List (List D)} {cs : List V} {v : Value} (h : VRel w o H σ (.mp sh ks cs) v) : ∃ vs, v = .tuple vs ∧ cs.length = vs.size ∧ ∀ (j : Nat) (c : V) (v : Value), cs[j]? = some c → vs[j]? = some v → VRel w o H σ c v := by
  cases h with | mp _ _ _ vs hl hv => exact ⟨vs, rfl, hl, hv⟩
theorem DRel.inv_m {w : World} {o : Nat → Prop} {sh : List Kd} {ks : List (List D)} {vs : List D} {v : Value} (h : DRel w o (.m sh ks vs) v) : ∃ (b clock : Nat) (es : Array MapEntry), v = .map (some b) ∧ b < w.heap.size ∧ ¬ o b ∧ w.heap[b]? = some (.map es clock) ∧ (∀ k, k ∈ ks → k.map kdOf = sh.map some) ∧ es.toList.map (·.key) = ks.map keyVal ∧ vs.length = es.size ∧
      (∀ (i : Nat) (x : D) (e : MapEntry), vs[i]? = some x → es[i]? = some e → DRel w o x e.val) := by
  cases h with | m _ _ _ b clock es h1 h2 h3 h4 h5 h6 h7 => exact ⟨b, clock, es, rfl, h1, h2, h3, h4, h5, h6, h7⟩
theorem VRel.inv_sd {id ver ver' e sz : Nat} {rows : List (List V)} {v : Value} (h : VRel w o H σ (.sd id ver) v) (hr : H[id]? = some (.row ver' e sz rows)) : ∃ p, v = .pointer p ∧ ver ≤ ver' ∧ (ver = ver' → ∀ g cap, σ id = .blk g cap → rows.length ≠ 0 → p = some ⟨g, 0, none⟩) := by
  cases h with | sd _ _ p _ hv => exact ⟨p, rfl, (hv _ _ _ _ hr).1, fun e => ((hv _ _ _ _ hr).2 e).2⟩
theorem VRel.inv_ab {v : Value} (h : VRel w o H σ .ab v) : ∃ t, v = .bool t := by cases h with | ab t => exact ⟨t, rfl⟩
theorem VRel.inv_pt {id ver i c ver' e sz : Nat} {rows : List (List V)} {v : Value} (h : VRel w o H σ (.pt id ver i c) v) (hr : H[id]? = some (.row ver' e sz rows)) : ver ≤ ver' ∧ (ver = ver' → ∃ g cap, σ id = .blk g cap ∧ v = .pointer (some ⟨g, i * sz + c, none⟩)) := by
  cases h with | pt _ _ _ _ _ _ hv => exact ⟨(hv _ _ _ _ hr).1, fun e => ((hv _ _ _ _ hr).2 e).2⟩
theorem VRel.inv_rp {row : List D} {v : Value} (h : VRel w o H σ (.rp row) v) : ∃ (b off : Nat) (f : Nat → Value), v = .pointer (some ⟨b, off, none⟩) ∧ b < w.heap.size ∧ ¬ o b ∧ (∀ (j : Nat) (x : D), row[j]? = some x → w.cell? ⟨b, off + j, none⟩ = some (f j)) ∧ (∀ (j : Nat) (x : D), row[j]? = some x → DRel w o x (f j)) := by
  cases h with | rp _ b off f h1 h2 h3 h4 => exact ⟨b, off, f, rfl, h1, h2, h3, h4⟩
theorem DRel.inv_i {k : IntKind} {n : Int} {v : Value} (h : DRel w o (.i k n) v) : v = .int k n := by cases h; rfl
theorem DRel.inv_b {t : Bool} {v : Value} (h : DRel w o (.b t) v) : v = .bool t := by cases h; rfl
theorem DRel.inv_s {l : List UInt8} {v : Value} (h : DRel w o (.s l) v) : v = .string ⟨l.toArray⟩ := by cases h; rfl
theorem DRel.inv_c {u v : Value} (h : DRel w o (.c u) v) : v = u := by cases h; rfl
theorem DRel.inv_sl {sz : Nat} {rows : List (List D)} {v : Value} (h : DRel w o (.sl sz rows) v) : ∃ a cap, v = .slice a rows.length cap ∧ (rows ≠ [] → ∃ (b off : Nat) (f : Nat → Nat → Value), a = some ⟨b, off, none⟩ ∧ rows.length ≤ cap ∧ b < w.heap.size ∧ ¬ o b ∧
      (∀ (i : Nat) (row : List D), rows[i]? = some row → row.length = sz) ∧
      (∀ (i j : Nat) (row : List D) (x : D), rows[i]? = some row → row[j]? = some x → w.cell? ⟨b, off + i * sz + j, none⟩ = some (f i j)) ∧
      (∀ (i j : Nat) (row : List D) (x : D), rows[i]? = some row → row[j]? = some x → DRel w o x (f i j))) := by
  cases h with
  | nil _ a cap => exact ⟨a, cap, rfl, fun h => absurd rfl h⟩
  | sl _ _ b off cap f h1 h2 h3 h4 h5 h6 => exact ⟨_, cap, rfl, fun _ => ⟨b, off, f, rfl, h1, h2, h3, h4, h5, h6⟩⟩
end
theorem Pres.alloc (w : World) (H : Heap) (σ : Conc) (c : Array Value) (t : TypeId) : Pres w H σ (w.alloc (.cells c t)) H σ :=
  ⟨rfl, rfl, OutSame.alloc w c t, by simp, fun b hb _ => RowKit.Below.heap_alloc w _ b hb, fun _ _ h => h, Nat.le_refl _, fun _ v e sz rows _ h => ⟨v, e, sz, rows, h, Nat.le_refl _, fun _ => ⟨rfl, rfl, rfl⟩⟩⟩
theorem Pres.drew (w : World) (H : Heap) (σ : Conc) : Pres w H σ w.drew H σ :=
  ⟨rfl, rfl, rfl, Nat.le_refl _, fun _ _ _ => rfl, fun _ _ h => h, Nat.le_refl _, fun _ v e sz rows _ h => ⟨v, e, sz, rows, h, Nat.le_refl _, fun _ => ⟨rfl, rfl, rfl⟩⟩⟩
theorem WOk.lt {w : World} {H : Heap} {σ : Conc} (h : WOk w H σ) {b : Nat} (ho : Own H σ b) : b < w.heap.size := by
  obtain ⟨id, ver, e, sz, rows, cap, hr, hs⟩ := ho
  rcases h.obj id ver e sz rows hr with ⟨⟨_, hn⟩, _⟩ | ⟨g, cap', cur, hg, hh, _⟩ | ⟨g, cap', es, clock, sh, ks, vs, hg, hh, _⟩
  · rw [hn] at hs; cases hs
  · rw [hg] at hs
    cases hs
    exact (Array.getElem?_eq_some_iff.1 hh).1
  · rw [hg] at hs
    cases hs
    exact (Array.getElem?_eq_some_iff.1 hh).1
theorem WOk.objs {w : World} {H : Heap} {σ : Conc} (h : WOk w H σ) {id ver e sz : Nat} {rows : List (List V)} (hr : H[id]? = some (.row ver e sz rows)) (hz : sz ≠ 0) :
    ((∃ a, σ id = .no a) ∧ rows = []) ∨
    ∃ g cap cur, σ id = .blk g cap ∧ w.heap[g]? = some (.cells cur e (0, 0)) ∧ rows.length ≤ cap ∧ cap ≤ maxLen ∧ cur.size = cap * sz ∧
      (∀ (i : Nat) (row : List V), rows[i]? = some row → row.length = sz) ∧
      (∀ (i j : Nat) (row : List V) (v : V), rows[i]? = some row → row[j]? = some v → ∃ cv, cur[i * sz + j]? = some cv ∧ cv.oneCell' = true ∧ VRel w (Own H σ) H σ v cv) := by
  rcases h.obj _ _ _ _ _ hr with h1 | h1 | ⟨g, cap, es, clock, sh, ks, vs, hg, hh, h1, _⟩
  · exact .inl h1
  · exact .inr h1
  · exact absurd h1 hz
theorem WOk.same {w w' : World} {H : Heap} {σ : Conc} (h : WOk w H σ) (p : Pres w H σ w' H σ) (hb : ∀ b, Own H σ b → w'.heap[b]? = w.heap[b]?) : WOk w' H σ := by
  refine ⟨fun id ver e sz rows hr => ?_, h.inj, fun g row hg => (h.glob g row hg).pres p, h.nil⟩
  rcases h.obj id ver e sz rows hr with hn | ⟨g, cap, cur, hg, hh, h1, h2, h3, h4, h5⟩ | ⟨g, cap, es, clock, sh, ks, vs, hg, hh, h1, h2, h3, h4, h5⟩
  · exact .inl hn
  rotate_left
  · exact .inr (.inr ⟨g, cap, es, clock, sh, ks, vs, hg, (hb g ⟨id, ver, e, sz, rows, cap, hr, hg⟩).trans hh, h1, h2, h3, h4, h5.pres p⟩)
  · refine .inr <| .inl ⟨g, cap, cur, hg, (hb g ⟨id, ver, e, sz, rows, cap, hr, hg⟩).trans hh, h1, h2, h3, h4, fun i j row v hi hj => ?_⟩
    obtain ⟨cv, hc, h1, hv⟩ := h5 i j row v hi hj
    exact ⟨cv, hc, h1, hv.pres p⟩
theorem WOk.alloc {w : World} {H : Heap} {σ : Conc} (h : WOk w H σ) (c : Array Value) (t : TypeId) : WOk (w.alloc (.cells c t)) H σ :=
  h.same (Pres.alloc w H σ c t) fun b hb => RowKit.Below.heap_alloc w _ b (h.lt hb)
theorem WOk.drew {w : World} {H : Heap} {σ : Conc} (h : WOk w H σ) : WOk w.drew H σ := h.same (Pres.drew w H σ) fun _ _ => rfl
theorem DRel.one {w : World} {o : Nat → Prop} {x : D} {v : Value} (h : DRel w o x v) : v.oneCell' = true := by
  cases h <;> first | rfl | assumption
def Frame.get (F : Frame) (x : Nat) : V := (F.lookup x).getD .top
def Frame.put (F : Frame) : Option Tmp → V → Frame
  | some x, v => (x, v) :: F
  | none, _ => F
structure Sat (n : Nat) (w : World) (H : Heap) (σ : Conc) (F : Frame) (tmps : Array Value) : Prop where
  ok : WOk w H σ
  size : tmps.size = n
  slot : ∀ x, VRel w (Own H σ) H σ (F.get x) (tmps.getD x undef)
theorem Sat.pres {n : Nat} {w w' : World} {H H' : Heap} {σ σ' : Conc} {F : Frame} {tmps : Array Value} (h : Sat n w H σ F tmps) (p : Pres w H σ w' H' σ') (hw : WOk w' H' σ') : Sat n w' H' σ' F tmps :=
  ⟨hw, h.size, fun x => (h.slot x).pres p⟩
theorem get_put_some (F : Frame) (x y : Nat) (v : V) : (F.put (some x) v).get y = if y = x then v else F.get y := by
  simp only [Frame.get, Frame.put, List.lookup_cons]
  by_cases h : y = x
  · subst h; simp
  · have : (y == x) = false := by simpa using h
    simp [this, h]
theorem Sat.put {n : Nat} {w : World} {H : Heap} {σ : Conc} {F : Frame} {a : Act} (h : Sat n w H σ F a.tmps) {dst : Option Tmp} (hd : ∀ x, dst = some x → x < n) {v : V} {val : Value} (hv : VRel w (Own H σ) H σ v val) :
    Sat n w H σ (F.put dst v) (a.put dst val).tmps := by
  cases dst with
  | none => exact h
  | some x =>
    have hx := hd x rfl
    have hsz := h.size
    refine ⟨h.ok, by simp [Act.put, hsz], fun y => ?_⟩
    rw [get_put_some]
    simp only [Act.put, Array.getD_eq_getD_getElem?, Array.getElem?_setIfInBounds]
    by_cases hy : y = x
    · subst hy
      have hlt : y < a.tmps.size := by rw [hsz]; exact hx
      rw [if_pos rfl, if_pos rfl, if_pos hlt]
      exact hv
    · rw [if_neg hy, if_neg (fun e => hy e.symm)]
      have := h.slot y
      rwa [Array.getD_eq_getD_getElem?] at this
def cV : Value → V
  | .int k n => .d (.i k n)
  | .bool t => .d (.b t)
  | .string s => .d (.s s.data.toList)
  | .agg _ => .top
  | .tuple vs => if vs.size = 0 then .un else .top
  | v => .d (.c v)
theorem cV_rel (w : World) (o : Nat → Prop) (H : Heap) (σ : Conc) (v : Value) : VRel w o H σ (cV v) v := by
  cases v with
  | int k n => exact .d _ _ (.i k n)
  | bool t => exact .d _ _ (.b t)
  | string s => exact .d _ _ (.s s.data.toList)
  | agg cs => exact .top _
  | tuple vs =>
    simp only [cV]
    split
    · rename_i h
      have : vs = #[] := by simpa using h
      subst this
      exact .un
    · exact .top _
  | _ => exact .d _ _ (.c _ rfl)
def ev (F : Frame) : Operand → V
  | .tmp t => F.get t
  | .const v => cV v
  | .global g => match glob g with | some row => .rp row | none => .d (.c (.pointer (some ⟨g, 0, none⟩)))
  | .func f => .fn f []
theorem Sat.ev {n : Nat} {w : World} {H : Heap} {σ : Conc} {F : Frame} {a : Act} (h : Sat n w H σ F a.tmps) (x : Operand) : VRel w (Own H σ) H σ (ev F x) (a.eval x) := by
  cases x with
  | tmp t => exact h.slot t
  | const v => exact cV_rel _ _ _ _ v
  | global g =>
    show VRel w (Own H σ) H σ (match glob g with | some row => .rp row | none => .d (.c (.pointer (some ⟨g, 0, none⟩)))) (.pointer (some ⟨g, 0, none⟩))
    split
    · rename_i row hg
      obtain ⟨hb, hno, f, h1, h2⟩ := h.ok.glob g row hg
      exact .rp row g 0 f hb hno (fun j x hx => by rw [Nat.zero_add]; exact h1 j x hx) h2
    · exact .d _ _ (.c _ rfl)
  | func f => exact .fn f [] #[] rfl (by simp)
end Go.Proofs.YtmhabdopcbokoaaDoor.Ab
