import Derived.WalkKit
import Derived.KernelRfl
import Derived.CallsIn
import Derived.RangeFuncIn
import Derived.RangeFuncRecord
import Derived.Maps.AppendAt
import Derived.Laws.Rows
import Derived.Laws.MakeOwn
import Derived.Deep.Draws
set_option linter.unusedVariables false
set_option linter.unusedSimpArgs false
namespace Go.Am
open Go.RowKit

/-! ### Values of the abstract machine -/
/-- What a reference into the abstract heap is: a pointer to a cell of a variable, a pointer to a cell of a row's element, the row itself. -/
inductive RefK where
  | p (off : Nat)
  | e (i off : Nat)
  | o

inductive AV where
  | any
  | int (k : IntKind) (n : Int)
  | bool (b : Bool)
  | str (s : ByteArray)
  | agg (cs : List AV)
  | tup (vs : List AV)
  | sl (rows : List (List AV))
  | slt (rows : List (List AV))
  | nils
  | elt (row : List AV) (off : Nat)
  | ref (key ver : Nat) (r : RefK)
  | func (f : FuncId) (caps : List AV)
  | nilf
  | nilp
  | yld
instance : Inhabited AV := ⟨.any⟩

/-- May it stand in one cell? -/
def AV.cell : AV → Bool
  | .any | .agg _ | .tup _ => false
  | _ => true

/-! ### The abstract heap -/
/-- Objects of the heap that are no cells: an iterator over a string; a map, by its entries. -/
inductive Ob where
  | siter (s : ByteArray) (pos : Nat)
def ObIs : Ob → Obj → Prop
  | .siter s pos, o => o = .stringIter s pos ∧ s.size ≤ maxLen
theorem ObIs.not {ob : Ob} {o : Obj} (h : ObIs ob o) : (∀ cs t fr, o ≠ .cells cs t fr) ∧ (∀ x, o ≠ .deferred x) ∧ ∀ x, o ≠ .loop x := by
  cases ob with
  | siter s pos =>
    obtain ⟨rfl, _⟩ := h
    exact ⟨fun _ _ _ e => (by cases e), fun _ e => (by cases e), fun _ e => (by cases e)⟩
inductive Blk where
  | dead (ver : Nat)
  | box (ver : Nat) (t : TypeId) (cells : List AV)
  | row (ver : Nat) (t : TypeId) (sz : Nat) (rows : List (List AV))
  | froz (ver : Nat) (rows : List (List AV))
  | fbox (ver : Nat) (cells : List AV)
  | obj (ver : Nat) (o : Ob)
def Blk.ver : Blk → Nat
  | .dead v | .box v _ _ | .row v _ _ _ | .froz v _ | .fbox v _ | .obj v _ => v
def Blk.live : Blk → Bool
  | .box .. | .row .. | .obj .. => true
  | _ => false
abbrev Heap := Nat → Option Blk

/-- The value of a reference into block g, which holds blk; a row of which there is no block is nil. -/
def RefVal (w : World) : Option Nat → Blk → RefK → Value → Prop
  | none, .row _ _ _ _, .o, v => v = .slice none 0 0
  | none, .froz _ _, .o, v => v = .slice none 0 0
  | none, _, _, _ => True
  | some _, .dead _, _, _ => True
  | some g, .box _ _ _, .p off, v => v = .pointer (some ⟨g, off, none⟩)
  | some g, .fbox _ _, .p off, v => v = .pointer (some ⟨g, off, none⟩)
  | some g, .obj _ _, .p off, v => v = .pointer (some ⟨g, off, none⟩)
  | some g, .row _ _ sz _, .e i off, v => v = .pointer (some ⟨g, i * sz + off, none⟩)
  | some g, .row _ _ sz rows, .o, v => ∃ cap, v = .slice (some ⟨g, 0, none⟩) rows.length cap ∧ ∀ cs t fr, w.heap[g]? = some (.cells cs t fr) → cs.size = cap * sz
  | some g, .froz _ rows, .o, v => ∃ cap, v = .slice (some ⟨g, 0, none⟩) rows.length cap ∧ rows.length ≤ cap ∧ rows.length ≤ maxLen
  | _, _, _, _ => True

structure Ctx where
  H : Heap
  own : Nat → Option Nat
  S : Nat → Prop
  w : World
  l : Nat

/-- The cells from an address on hold f, for as many rows as there are. -/
def CellsAt (w : World) (g off sz n : Nat) (f : Nat → Nat → Value) : Prop := ∀ i, i < n → ∀ j, j < sz → w.cell? ⟨g, off + i * sz + j, none⟩ = some (f i j)

inductive R (C : Ctx) : AV → Value → Prop
  | any (v : Value) : R C .any v
  | int (k : IntKind) (n : Int) : R C (.int k n) (.int k n)
  | bool (b : Bool) : R C (.bool b) (.bool b)
  | str (s : ByteArray) (h : s.size ≤ maxLen) : R C (.str s) (.string s)
  | agg (cs : List AV) (vs : List Value) (hl : vs.length = cs.length) (h : ∀ i a, cs[i]? = some a → R C a (vs.getD i undef)) : R C (.agg cs) (.agg vs.toArray)
  | tup (cs : List AV) (vs : List Value) (hl : vs.length = cs.length) (h : ∀ i a, cs[i]? = some a → R C a (vs.getD i undef)) : R C (.tup cs) (.tuple vs.toArray)
  | sl (rows : List (List AV)) (A : Option Addr) (cap g off sz : Nat) (f : Nat → Nat → Value) (hA : rows ≠ [] → A = some ⟨g, off, none⟩ ∧ C.S g) (hcap : rows.length ≤ cap) (hmax : rows.length ≤ maxLen)
      (hsz : ∀ r ∈ rows, r.length = sz) (hc : CellsAt C.w g off sz rows.length f) (hone : ∀ i j, (f i j).oneCell' = true)
      (h : ∀ i r, rows[i]? = some r → ∀ j a, r[j]? = some a → R C a (f i j)) : R C (.sl rows) (.slice A rows.length cap)
  | slt (rows : List (List AV)) (g off sz : Nat) (f : Nat → Nat → Value) (hA : C.S g) (hmax : rows.length ≤ maxLen)
      (hsz : ∀ r ∈ rows, r.length = sz) (hc : CellsAt C.w g off sz rows.length f) (hone : ∀ i j, (f i j).oneCell' = true)
      (h : ∀ i r, rows[i]? = some r → ∀ j a, r[j]? = some a → R C a (f i j)) : R C (.slt rows) (.slice (some ⟨g, off, none⟩) rows.length rows.length)
  | nils : R C .nils (.slice none 0 0)
  | elt (row : List AV) (off g o : Nat) (f : Nat → Value) (hA : C.S g) (hc : ∀ j, j < row.length → C.w.cell? ⟨g, o + j, none⟩ = some (f j)) (hone : ∀ j, (f j).oneCell' = true)
      (h : ∀ j a, row[j]? = some a → R C a (f j)) : R C (.elt row off) (.pointer (some ⟨g, o + off, none⟩))
  | ref (key ver : Nat) (r : RefK) (blk : Blk) (v : Value) (hb : C.H key = some blk) (hv : ver ≤ blk.ver) (hone : v.oneCell' = true) (h : blk.ver = ver → RefVal C.w (C.own key) blk r v) : R C (.ref key ver r) v
  | func (f : FuncId) (cs : List AV) (vs : List Value) (hl : vs.length = cs.length) (h : ∀ i a, cs[i]? = some a → R C a (vs.getD i undef)) : R C (.func f cs) (.func (.func f) #[] vs.toArray)
  | nilf : R C .nilf .nilFunc
  | nilp : R C .nilp (.pointer none)
  | yld : R C .yld (.func (.yield C.l) #[] #[])

theorem R.one {C : Ctx} {a : AV} {v : Value} (h : R C a v) (hc : a.cell = true) : v.oneCell' = true := by
  cases h <;> first | rfl | (simp [AV.cell] at hc; done) | assumption

/-- One context goes over into a later one: what is immutable stays, references stay or go stale. -/
structure Ctx.le (C C' : Ctx) : Prop where
  S : ∀ b, C.S b → C'.S b ∧ C'.w.heap[b]? = C.w.heap[b]?
  H : ∀ k blk, C.H k = some blk → ∃ blk', C'.H k = some blk' ∧ blk.ver ≤ blk'.ver ∧ (blk'.ver = blk.ver → ∀ r v, RefVal C.w (C.own k) blk r v → RefVal C'.w (C'.own k) blk' r v)
  l : C'.l = C.l

theorem Ctx.le.refl (C : Ctx) : C.le C := ⟨fun b hb => ⟨hb, rfl⟩, fun k blk hk => ⟨blk, hk, Nat.le_refl _, fun _ r v hr => hr⟩, rfl⟩
theorem Ctx.le.trans {A B C : Ctx} (h : A.le B) (k : B.le C) : A.le C :=
  ⟨fun b hb => ⟨(k.S b (h.S b hb).1).1, (k.S b (h.S b hb).1).2.trans (h.S b hb).2⟩, fun key blk hk => by
    obtain ⟨b1, h1, h2, h3⟩ := h.H key blk hk
    obtain ⟨b2, k1, k2, k3⟩ := k.H key b1 h1
    exact ⟨b2, k1, Nat.le_trans h2 k2, fun e r v hr => k3 (by omega) r v (h3 (by omega) r v hr)⟩, k.l.trans h.l⟩

theorem cell_same {w w' : World} {g : Nat} (h : w'.heap[g]? = w.heap[g]?) (o : Nat) : w'.cell? ⟨g, o, none⟩ = w.cell? ⟨g, o, none⟩ := World.cell?_of_block (w := w) (a := ⟨g, o, none⟩) h

theorem R.mono {C C' : Ctx} (h : C.le C') {a : AV} {v : Value} (hr : R C a v) : R C' a v := by
  induction hr with
  | any v => exact .any v
  | int k n => exact .int k n
  | bool b => exact .bool b
  | str s hs => exact .str s hs
  | agg cs vs hl _ ih => exact .agg cs vs hl ih
  | tup cs vs hl _ ih => exact .tup cs vs hl ih
  | sl rows A cap g off sz f hA hcap hmax hsz hc hone _ ih =>
    refine .sl rows A cap g off sz f (fun hr => ⟨(hA hr).1, (h.S g (hA hr).2).1⟩) hcap hmax hsz (fun i hi j hj => ?_) hone ih
    have hr : rows ≠ [] := fun e => by subst e; simp at hi
    exact (cell_same (h.S g (hA hr).2).2 _).trans (hc i hi j hj)
  | slt rows g off sz f hA hmax hsz hc hone _ ih =>
    exact .slt rows g off sz f (h.S g hA).1 hmax hsz (fun i hi j hj => (cell_same (h.S g hA).2 _).trans (hc i hi j hj)) hone ih
  | nils => exact .nils
  | elt row off g o f hA hc hone _ ih => exact .elt row off g o f (h.S g hA).1 (fun j hj => (cell_same (h.S g hA).2 _).trans (hc j hj)) hone ih
  | ref key ver r blk v hb hv hone hr =>
    obtain ⟨blk', hb', hv', hr'⟩ := h.H key blk hb
    refine .ref key ver r blk' v hb' (Nat.le_trans hv hv') hone fun e => ?_
    have e1 : blk'.ver = blk.ver := by omega
    exact hr' e1 r v (hr (by omega))
  | func f cs vs hl _ ih => exact .func f cs vs hl ih
  | nilf => exact .nilf
  | nilp => exact .nilp
  | yld => rw [← h.l]; exact .yld

/-! ### What blocks of the heap hold -/
/-- The cells cs of a block hold the abstract cells (a front of them). -/
def Holds (C : Ctx) (cs : Array Value) (cells : List AV) : Prop := ∀ (i : Nat) (a : AV), cells[i]? = some a → ∃ v, cs[i]? = some v ∧ R C a v ∧ a.cell = true

def HRel (C : Ctx) : Option Nat → Blk → Prop
  | _, .dead _ => True
  | none, .row _ _ sz rows => rows = [] ∧ 0 < sz
  | none, .froz _ rows => rows = []
  | none, _ => False
  | some g, .box _ t cells => ∃ cs, C.w.heap[g]? = some (.cells cs t (0, 0)) ∧ cs.size = cells.length ∧ Holds C cs cells
  | some g, .row _ t sz rows => ∃ cs cap, C.w.heap[g]? = some (.cells cs t (0, 0)) ∧ cs.size = cap * sz ∧ rows.length ≤ cap ∧ cap ≤ maxLen ∧ 0 < sz ∧ (∀ r ∈ rows, r.length = sz) ∧ Holds C cs rows.flatten
  | some g, .froz _ rows => ∃ cs t sz, C.w.heap[g]? = some (.cells cs t (0, 0)) ∧ C.S g ∧ 0 < sz ∧ (∀ r ∈ rows, r.length = sz) ∧ Holds C cs rows.flatten
  | some g, .obj _ ob => ∃ o, C.w.heap[g]? = some o ∧ ObIs ob o
  | some g, .fbox _ cells => ∃ cs t, C.w.heap[g]? = some (.cells cs t (0, 0)) ∧ C.S g ∧ Holds C cs cells

theorem Holds.mono {C C' : Ctx} (h : C.le C') {cs : Array Value} {cells : List AV} (hh : Holds C cs cells) : Holds C' cs cells := fun i a ha => by
  obtain ⟨v, h1, h2, h3⟩ := hh i a ha
  exact ⟨v, h1, h2.mono h, h3⟩

/-- What holds of a block goes on holding where the block is the same. -/
theorem HRel.mono {C C' : Ctx} (h : C.le C') {og : Option Nat} {blk : Blk} (hg : ∀ g, og = some g → blk.live = true → C'.w.heap[g]? = C.w.heap[g]?) (hh : HRel C og blk) : HRel C' og blk := by
  cases og with
  | none => cases blk <;> exact hh
  | some g =>
    cases blk with
    | dead _ => trivial
    | box ver t cells =>
      obtain ⟨cs, h1, h2, h3⟩ := hh
      exact ⟨cs, (hg g rfl rfl).trans h1, h2, h3.mono h⟩
    | row ver t sz rows =>
      obtain ⟨cs, cap, h1, h2, h3, h4, h5, h6, h7⟩ := hh
      exact ⟨cs, cap, (hg g rfl rfl).trans h1, h2, h3, h4, h5, h6, h7.mono h⟩
    | froz ver rows =>
      obtain ⟨cs, t, sz, h1, h2, h3, h4, h5⟩ := hh
      exact ⟨cs, t, sz, (h.S g h2).2.trans h1, (h.S g h2).1, h3, h4, h5.mono h⟩
    | fbox ver cells =>
      obtain ⟨cs, t, h1, h2, h3⟩ := hh
      exact ⟨cs, t, (h.S g h2).2.trans h1, (h.S g h2).1, h3.mono h⟩
    | obj ver ob =>
      obtain ⟨o, h1, h2⟩ := hh
      exact ⟨o, (hg g rfl rfl).trans h1, h2⟩

/-! ### The state of an activation -/
/-- What is still to be yielded; has the consumer said 'no more'? -/
structure G where
  todo : List (List AV)
  stop : Bool

structure Env where
  P : Program
  n : Nat
  w0 : World
  S0 : Nat → Prop
  X0 : Nat → Prop
  J : G → (Nat → Prop) → (Nat → Prop) → World → Prop
  l : Nat
  C0 : Ctx
  Cst : Nat → Prop
  Dst : Nat → Prop
  fixed : Bool

/-- Behind the world w0: of what was there then only X may have turned. -/
structure Fr (w0 : World) (X : Nat → Prop) (w : World) : Prop where
  os : w.os = w0.os
  tape : w.tape = w0.tape
  output : w.output = w0.output
  size : w0.heap.size ≤ w.heap.size
  block : ∀ b, b < w0.heap.size → ¬ X b → w.heap[b]? = w0.heap[b]?

structure St where
  τ : Nat → AV
  H : Heap
  g : G

/-- The consumer's blocks since the activation began. -/
structure CDOk (E : Env) (C D : Nat → Prop) : Prop where
  c0 : ∀ b, E.Cst b → C b
  c1 : ∀ b, C b → E.Cst b ∨ E.w0.heap.size ≤ b
  d0 : ∀ b, E.Dst b → D b
  d1 : ∀ b, D b → E.Dst b ∨ E.S0 b ∨ E.X0 b ∨ E.w0.heap.size ≤ b

structure RelAt (E : Env) (s : St) (a : Act) (w : World) (S : Nat → Prop) (own : Nat → Option Nat) (C D : Nat → Prop) (Ds : List Nat) : Prop where
  fr : Fr E.w0 E.X0 w
  hS : ∀ b, S b → b < w.heap.size ∧ ¬ C b ∧ (E.S0 b ∨ E.X0 b ∨ E.w0.heap.size ≤ b)
  hS0 : ∀ b, E.S0 b → S b
  hC : ∀ b, C b → D b ∧ (E.X0 b ∨ E.w0.heap.size ≤ b)
  hD : ∀ b, D b → b < w.heap.size
  j : E.J s.g C D w
  hown : ∀ k blk g, s.H k = some blk → blk.live = true → own k = some g → g < w.heap.size ∧ ¬ S g ∧ ¬ D g ∧ (E.X0 g ∨ E.w0.heap.size ≤ g)
  inj : ∀ k k' blk blk' g, s.H k = some blk → s.H k' = some blk' → blk.live = true → blk'.live = true → own k = some g → own k' = some g → k = k'
  heap : ∀ k blk, s.H k = some blk → HRel ⟨s.H, own, S, w, E.l⟩ (own k) blk
  tmps : ∀ i, R ⟨s.H, own, S, w, E.l⟩ (s.τ i) (a.tmps.getD i undef)
  size : a.tmps.size = E.n
  defers : a.defers = Ds.map fun d => { target := .collected d, args := #[] }
  hDs : ∀ d ∈ Ds, w.heap[d]? = some (.deferred (some [])) ∧ E.w0.heap.size ≤ d ∧ ¬ S d ∧ ¬ D d
  nodup : Ds.Nodup
  le : E.C0.le ⟨s.H, own, S, w, E.l⟩
  cd : CDOk E C D
  fix : E.fixed = true → Ds = []

def Rel (E : Env) (s : St) (a : Act) (w : World) : Prop := ∃ S own C D Ds, RelAt E s a w S own C D Ds

/-- The consumer's word abides whatever leaves the blocks that it hangs on. -/
def JOk (J : G → (Nat → Prop) → (Nat → Prop) → World → Prop) : Prop :=
  ∀ g C D w w', J g C D w → (∀ b, D b → w'.heap[b]? = w.heap[b]?) → w.heap.size ≤ w'.heap.size → w'.os = w.os → w'.tape = w.tape → w'.output = w.output → J g C D w'

def upd {α : Type} (f : Nat → α) (i : Nat) (v : α) : Nat → α := fun j => if j = i then v else f j
@[simp] theorem upd_same {α : Type} (f : Nat → α) (i : Nat) (v : α) : upd f i v i = v := by simp [upd]
theorem upd_other {α : Type} (f : Nat → α) (i j : Nat) (v : α) (h : j ≠ i) : upd f i v j = f j := by simp [upd, h]

/-- The heap of an activation goes over into a later one, one block (or none) apart. -/
structure Grows (w w' : World) (Y : Nat → Prop) : Prop where
  os : w'.os = w.os
  tape : w'.tape = w.tape
  output : w'.output = w.output
  size : w.heap.size ≤ w'.heap.size
  block : ∀ b, b < w.heap.size → ¬ Y b → w'.heap[b]? = w.heap[b]?

theorem Grows.refl (w : World) (Y : Nat → Prop) : Grows w w Y := ⟨rfl, rfl, rfl, Nat.le_refl _, fun _ _ _ => rfl⟩
theorem Grows.trans {a b c : World} {Y Z : Nat → Prop} (h : Grows a b Y) (k : Grows b c Z) (hz : ∀ x, Z x → x < a.heap.size → Y x) : Grows a c Y :=
  ⟨k.os.trans h.os, k.tape.trans h.tape, k.output.trans h.output, Nat.le_trans h.size k.size, fun x hx hy => (k.block x (Nat.lt_of_lt_of_le hx h.size) (fun hzx => hy (hz x hzx hx))).trans (h.block x hx hy)⟩
theorem Grows.of_below {w w' : World} (h : Below w.heap.size w w') (Y : Nat → Prop) : Grows w w' Y := ⟨h.os, h.tape, h.output, h.size, fun b hb _ => h.block b hb⟩
theorem Grows.below {w w' : World} {Y : Nat → Prop} (h : Grows w w' Y) (hY : ∀ b, ¬ Y b) : Below w.heap.size w w' := ⟨h.os, h.tape, h.output, h.size, fun b hb => h.block b hb (hY b)⟩
theorem Grows.drewN (w : World) (n : Nat) (Y : Nat → Prop) : Grows w (w.drewN n) Y := ⟨rfl, rfl, rfl, Nat.le_refl _, fun _ _ _ => rfl⟩
theorem Grows.alloc (w : World) (o : Obj) (Y : Nat → Prop) : Grows w (w.alloc o) Y := .of_below ((Below.refl _ w).alloc (Nat.le_refl _) o) Y
theorem Grows.of_grownBy {w w' : World} {row : Option Nat} (h : w.grownBy w' row) (Y : Nat → Prop) (hY : ∀ k, row = some k → Y k) : Grows w w' Y :=
  ⟨h.os, h.tape, h.output, h.size, fun b hb hn => h.block b hb fun e => hn (hY b e.symm)⟩

theorem RefVal.same {w w' : World} {og : Option Nat} {blk : Blk} (h : ∀ g, og = some g → blk.live = true → w'.heap[g]? = w.heap[g]?) {r : RefK} {v : Value} (hr : RefVal w og blk r v) : RefVal w' og blk r v := by
  cases og with
  | none => cases blk <;> cases r <;> exact hr
  | some g =>
    cases blk <;> cases r <;> simp only [RefVal] at hr ⊢ <;> first | exact hr | skip
    obtain ⟨cap, h1, h2⟩ := hr
    exact ⟨cap, h1, fun cs t fr hh => h2 cs t fr (h g rfl rfl ▸ hh)⟩

theorem Fr.grows {w0 : World} {X : Nat → Prop} {w w' : World} (h : Fr w0 X w) {Y : Nat → Prop} (hg : Grows w w' Y) (hY : ∀ b, Y b → X b ∨ w0.heap.size ≤ b) : Fr w0 X w' :=
  ⟨hg.os.trans h.os, hg.tape.trans h.tape, hg.output.trans h.output, Nat.le_trans h.size hg.size, fun b hb hx => (hg.block b (Nat.lt_of_lt_of_le hb h.size) (fun hy => (hY b hy).elim hx (fun h => absurd h (by omega)))).trans (h.block b hb hx)⟩

section
variable {E : Env} {s : St} {a : Act} {w : World} {S : Nat → Prop} {own : Nat → Option Nat} {C D : Nat → Prop} {Ds : List Nat}

abbrev ctx (E : Env) (s : St) (w : World) (S : Nat → Prop) (own : Nat → Option Nat) : Ctx := ⟨s.H, own, S, w, E.l⟩

/-- Blocks that nobody owns any more or that are new come under what is immutable. -/
theorem RelAt.leQuiet (h : RelAt E s a w S own C D Ds) {w' : World} (hg : Grows w w' fun _ => False) {S' : Nat → Prop} (hS : ∀ b, S b → S' b) : (ctx E s w S own).le (ctx E s w' S' own) where
  S := fun b hb => ⟨hS b hb, hg.block b (h.hS b hb).1 id⟩
  H := fun k blk hk => ⟨blk, hk, Nat.le_refl _, fun _ r v hr => hr.same fun g e hl => hg.block _ (h.hown k blk g hk hl e).1 id⟩
  l := rfl

/-- A step that turns no block: what it has made anew may be taken as immutable. -/
theorem RelAt.quiet (h : RelAt E s a w S own C D Ds) (hJ : JOk E.J) {w' : World} (hg : Grows w w' fun _ => False) (N : Nat → Prop) (hN : ∀ b, N b → w.heap.size ≤ b ∧ b < w'.heap.size)
    {τ' : Nat → AV} {a' : Act} (hsz : a'.tmps.size = a.tmps.size) (hd : a'.defers = a.defers)
    (ht : (ctx E s w S own).le (ctx E s w' (fun b => S b ∨ N b) own) → ∀ i, R (ctx E s w' (fun b => S b ∨ N b) own) (τ' i) (a'.tmps.getD i undef)) :
    RelAt E { s with τ := τ' } a' w' (fun b => S b ∨ N b) own C D Ds := by
  have hle := h.leQuiet hg (S' := fun b => S b ∨ N b) (fun b hb => .inl hb)
  have hnlt : ∀ b, N b → ¬ b < w.heap.size := fun b hb => by have := (hN b hb).1; omega
  have hw0 := h.fr.size
  exact {
    fr := h.fr.grows hg (fun _ hb => hb.elim)
    hS := fun b hb => by
      rcases hb with hb | hb
      · exact ⟨Nat.lt_of_lt_of_le (h.hS b hb).1 hg.size, (h.hS b hb).2.1, (h.hS b hb).2.2⟩
      · exact ⟨(hN b hb).2, fun hc => hnlt b hb (h.hD b (h.hC b hc).1), .inr (.inr (by have := (hN b hb).1; omega))⟩
    hS0 := fun b hb => .inl (h.hS0 b hb)
    hC := h.hC
    hD := fun b hb => Nat.lt_of_lt_of_le (h.hD b hb) hg.size
    j := hJ _ _ _ _ _ h.j (fun b hb => hg.block b (h.hD b hb) id) hg.size hg.os hg.tape hg.output
    hown := fun k blk g hk hl e => by
      obtain ⟨h1, h2, h3, h4⟩ := h.hown k blk g hk hl e
      exact ⟨Nat.lt_of_lt_of_le h1 hg.size, fun hs => hs.elim h2 (fun hn => hnlt _ hn h1), h3, h4⟩
    inj := h.inj
    heap := fun k blk hk => (h.heap k blk hk).mono hle (fun g e hl => hg.block _ (h.hown k blk g hk hl e).1 id)
    tmps := ht hle
    size := hsz.trans h.size
    defers := hd.trans h.defers
    hDs := fun d hd => by
      obtain ⟨h1, h2, h3, h4⟩ := h.hDs d hd
      have hlt : d < w.heap.size := (Array.getElem?_eq_some_iff.1 h1).1
      exact ⟨(hg.block d hlt id).trans h1, h2, fun hs => hs.elim h3 (fun hn => hnlt _ hn hlt), h4⟩
    nodup := h.nodup
    le := h.le.trans hle
    cd := h.cd
    fix := h.fix }

/-- Which block key k stands for: if it is live. -/
def LiveAt (s : St) (own : Nat → Option Nat) (k : Nat) (b : Nat) : Prop := ∃ blk, s.H k = some blk ∧ blk.live = true ∧ own k = some b

theorem RelAt.leKey (h : RelAt E s a w S own C D Ds) (k : Nat) (g' : Option Nat) (blk' : Blk) {w' : World} (hg : Grows w w' (LiveAt s own k))
    (hver : ∀ blk, s.H k = some blk → blk.ver ≤ blk'.ver ∧ (blk'.ver = blk.ver → ∀ r v, RefVal w (own k) blk r v → RefVal w' g' blk' r v)) :
    (ctx E s w S own).le ⟨upd s.H k (some blk'), upd own k g', S, w', E.l⟩ where
  S := fun b hb => ⟨hb, hg.block b (h.hS b hb).1 (fun ⟨blk, hk, hl, e⟩ => (h.hown k blk b hk hl e).2.1 hb)⟩
  H := fun k0 blk hk => by
    by_cases e : k0 = k
    · subst e
      exact ⟨blk', by simp, (hver blk hk).1, fun hv r v hr => by simpa using (hver blk hk).2 hv r v hr⟩
    · refine ⟨blk, by simpa [upd, e] using hk, Nat.le_refl _, fun _ r v hr => ?_⟩
      have e1 : upd own k g' k0 = own k0 := by simp [upd, e]
      show RefVal w' (upd own k g' k0) blk r v
      rw [e1]
      refine hr.same fun g eg hl => hg.block _ (h.hown k0 blk g hk hl eg).1 ?_
      rintro ⟨blk1, hk1, hl1, e2⟩
      exact e (h.inj k0 k blk blk1 g hk hk1 hl hl1 eg e2)
  l := rfl

/-- A step that turns the block of one key, or gives the key a new block, or takes it away. -/
theorem RelAt.key (h : RelAt E s a w S own C D Ds) (hJ : JOk E.J) (k : Nat) (g' : Option Nat) (blk' : Blk) {w' : World} (hg : Grows w w' (LiveAt s own k))
    (hver : ∀ blk, s.H k = some blk → blk.ver ≤ blk'.ver ∧ (blk'.ver = blk.ver → ∀ r v, RefVal w (own k) blk r v → RefVal w' g' blk' r v))
    (hg' : ∀ g, g' = some g → (w.heap.size ≤ g ∧ g < w'.heap.size) ∨ LiveAt s own k g)
    (hrel : (ctx E s w S own).le ⟨upd s.H k (some blk'), upd own k g', S, w', E.l⟩ → HRel ⟨upd s.H k (some blk'), upd own k g', S, w', E.l⟩ g' blk')
    {τ' : Nat → AV} {a' : Act} (hsz : a'.tmps.size = a.tmps.size) (hd : a'.defers = a.defers)
    (ht : (ctx E s w S own).le ⟨upd s.H k (some blk'), upd own k g', S, w', E.l⟩ → ∀ i, R ⟨upd s.H k (some blk'), upd own k g', S, w', E.l⟩ (τ' i) (a'.tmps.getD i undef)) :
    RelAt E { s with τ := τ', H := upd s.H k (some blk') } a' w' S (upd own k g') C D Ds := by
  have hle := h.leKey (E := E) k g' blk' hg hver
  have hw0 := h.fr.size
  have hin : ∀ b, LiveAt s own k b → b < w.heap.size ∧ ¬ S b ∧ ¬ D b ∧ (E.X0 b ∨ E.w0.heap.size ≤ b) := fun b ⟨blk, hk, hl, e⟩ => h.hown k blk b hk hl e
  have hgi : ∀ g, g' = some g → g < w'.heap.size ∧ ¬ S g ∧ ¬ D g ∧ (E.X0 g ∨ E.w0.heap.size ≤ g) := fun g eg => by
    rcases hg' g eg with ⟨h1, h2⟩ | h1
    · exact ⟨h2, fun hs => absurd (h.hS _ hs).1 (by omega), fun hdd => absurd (h.hD _ hdd) (by omega), .inr (by omega)⟩
    · obtain ⟨h2, h3, h4, h5⟩ := hin _ h1
      exact ⟨Nat.lt_of_lt_of_le h2 hg.size, h3, h4, h5⟩
  have hne : ∀ k0 blk g, k0 ≠ k → s.H k0 = some blk → blk.live = true → own k0 = some g → g' = some g → False := fun k0 blk g hk hb hl e eg => by
    rcases hg' g eg with ⟨h1, h2⟩ | ⟨blk1, hb1, hl1, e1⟩
    · have := (h.hown k0 blk g hb hl e).1; omega
    · exact hk (h.inj k0 k blk blk1 g hb hb1 hl hl1 e e1)
  exact {
    fr := h.fr.grows hg (fun b hb => (hin b hb).2.2.2)
    hS := fun b hb => ⟨Nat.lt_of_lt_of_le (h.hS b hb).1 hg.size, (h.hS b hb).2⟩
    hS0 := h.hS0
    hC := h.hC
    hD := fun b hb => Nat.lt_of_lt_of_le (h.hD b hb) hg.size
    j := hJ _ _ _ _ _ h.j (fun b hb => hg.block b (h.hD b hb) (fun hl => (hin b hl).2.2.1 hb)) hg.size hg.os hg.tape hg.output
    hown := fun k0 blk g hk hl eg => by
      by_cases e : k0 = k
      · subst e; exact hgi g (by simpa using eg)
      · have hk' : s.H k0 = some blk := by simpa [upd, e] using hk
        obtain ⟨h1, h2⟩ := h.hown k0 blk g hk' hl (by simpa [upd, e] using eg)
        exact ⟨Nat.lt_of_lt_of_le h1 hg.size, h2⟩
    inj := fun k1 k2 b1 b2 g hk1 hk2 hl1 hl2 eg1 eg2 => by
      by_cases e1 : k1 = k <;> by_cases e2 : k2 = k
      · rw [e1, e2]
      · have hk2' : s.H k2 = some b2 := by simpa [upd, e2] using hk2
        simp [upd, e1] at eg1
        simp [upd, e2] at eg2
        exact (hne k2 b2 g e2 hk2' hl2 eg2 eg1).elim
      · have hk1' : s.H k1 = some b1 := by simpa [upd, e1] using hk1
        simp [upd, e1] at eg1
        simp [upd, e2] at eg2
        exact (hne k1 b1 g e1 hk1' hl1 eg1 eg2).elim
      · have hk1' : s.H k1 = some b1 := by simpa [upd, e1] using hk1
        have hk2' : s.H k2 = some b2 := by simpa [upd, e2] using hk2
        simp [upd, e1] at eg1
        simp [upd, e2] at eg2
        exact h.inj k1 k2 b1 b2 g hk1' hk2' hl1 hl2 eg1 eg2
    heap := fun k0 blk hk => by
      by_cases e : k0 = k
      · subst e
        simp at hk
        subst hk
        simpa using hrel hle
      · have hk' : s.H k0 = some blk := by simpa [upd, e] using hk
        have := (h.heap k0 blk hk').mono hle (fun g eg hl => hg.block _ (h.hown k0 blk g hk' hl eg).1 (fun ⟨b1, hb1, hl1, e1⟩ => e (h.inj k0 k blk b1 g hk' hb1 hl hl1 eg e1)))
        simpa [upd, e] using this
    tmps := ht hle
    size := hsz.trans h.size
    defers := hd.trans h.defers
    hDs := fun d hd => by
      obtain ⟨h1, h2, h3, h4⟩ := h.hDs d hd
      refine ⟨(hg.block d (Array.getElem?_eq_some_iff.1 h1).1 ?_).trans h1, h2, h3, h4⟩
      rintro ⟨blk, hk, hl, e⟩
      have hh := h.heap k blk hk
      rw [e] at hh
      cases blk <;> first | (simp [Blk.live] at hl; done) | skip
      · obtain ⟨cs, hcs, _⟩ := hh; rw [h1] at hcs; cases hcs
      · obtain ⟨cs, cap, hcs, _⟩ := hh; rw [h1] at hcs; cases hcs
      · obtain ⟨o, hcs, ho⟩ := hh; rw [h1] at hcs; cases hcs; exact ho.not.2.1 _ rfl
    nodup := h.nodup
    le := h.le.trans hle
    cd := h.cd
    fix := h.fix }
end

end Go.Am
