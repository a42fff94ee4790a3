import Derived.Test.YtkagfenchknjjaaAmApp
import Derived.Test.YtkagfenchknjjaaAmEq
set_option linter.unusedVariables false
set_option linter.unusedSimpArgs false
namespace Go.Am
open Go.RowKit

/-! ### Contracts of calls that leave no trace -/
def Enters (P : Program) (f : FuncId) : Prop := ∀ args w, (callFunc f args).run P w = .ok (.enter f args) w

def RL (C : Ctx) (as : List AV) (vs : List Value) : Prop := vs.length = as.length ∧ ∀ (i : Nat) (a : AV), as[i]? = some a → R C a (vs.getD i undef)

/-- Called with args the function hands back r; nothing that was there has turned. -/
structure Spec (P : Program) (f : FuncId) (args : List AV) (r : AV) : Prop where
  enters : Enters P f
  calls : ∀ (w : World) (S : Nat → Prop) (l : Nat) (vs : List Value), (∀ b, S b → b < w.heap.size) → RL (bare S w l) args vs →
    CallsIn (FW none) 0 P f vs.toArray w fun e w' => ∃ v, e = .returned v ∧ Below w.heap.size w w' ∧ R (bare (fun b => S b ∨ (w.heap.size ≤ b ∧ b < w'.heap.size)) w' l) r v

/-! ### Freezing what leaves -/
def frz0 (H : Heap) : AV → Heap
  | .ref k ver .o => match H k with
    | some (.row v _ _ rows) => if v = ver then upd H k (some (.froz v rows)) else H
    | _ => H
  | _ => H
def frzB (H : Heap) : AV → Heap
  | .ref k ver (.p _) => match H k with
    | some (.box v _ cells) => if v = ver then upd H k (some (.fbox v cells)) else H
    | _ => H
  | a => frz0 H a
def frz1 (H : Heap) : AV → Heap
  | .agg cs => cs.foldl frz0 H
  | .func _ cs => cs.foldl frzB H
  | a => frz0 H a
def frz (H : Heap) : AV → Heap
  | .tup cs => cs.foldl frz1 H
  | a => frz1 H a
def frzs (H : Heap) (xs : List AV) : Heap := xs.foldl frz H

section
variable {E : Env} {s : St} {a : Act} {w : World} {own : Nat → Option Nat} {C D : Nat → Prop} {Ds : List Nat} {S : Nat → Prop}
/-- A step of the abstract heap alone, that makes more immutable. -/
def Frz (f : Heap → AV → Heap) : Prop := ∀ (E : Env) (s : St) (a : Act) (w : World) (S : Nat → Prop) (own : Nat → Option Nat) (C D : Nat → Prop) (Ds : List Nat) (x : AV), RelAt E s a w S own C D Ds →
  ∃ S', RelAt E { s with H := f s.H x } a w S' own C D Ds ∧ (ctx E s w S own).le ⟨f s.H x, own, S', w, E.l⟩
theorem frz0_ok : Frz frz0 := fun E s a w S own C D Ds x h => by
  unfold Am.frz0
  split
  · split
    · rename_i k ver _ v t sz rows hk
      split
      · exact ⟨_, h.freeze hk rfl⟩
      · exact ⟨S, h, .refl _⟩
    · exact ⟨S, h, .refl _⟩
  · exact ⟨S, h, .refl _⟩
theorem frzB_ok : Frz frzB := fun E s a w S own C D Ds x h => by
  unfold Am.frzB
  split
  · split
    · rename_i k ver _ _ v t cells hk
      split
      · exact ⟨_, h.freeze hk rfl⟩
      · exact ⟨S, h, .refl _⟩
    · exact ⟨S, h, .refl _⟩
  · exact frz0_ok E s a w S own C D Ds x h
theorem Frz.fold {f : Heap → AV → Heap} (hf : Frz f) : ∀ (xs : List AV) (E : Env) (s : St) (a : Act) (w : World) (S : Nat → Prop) (own : Nat → Option Nat) (C D : Nat → Prop) (Ds : List Nat), RelAt E s a w S own C D Ds →
    ∃ S', RelAt E { s with H := xs.foldl f s.H } a w S' own C D Ds ∧ (ctx E s w S own).le ⟨xs.foldl f s.H, own, S', w, E.l⟩
  | [], E, s, a, w, S, own, C, D, Ds, h => ⟨S, h, .refl _⟩
  | x :: xs, E, s, a, w, S, own, C, D, Ds, h => by
    obtain ⟨S1, h1, l1⟩ := hf E s a w S own C D Ds x h
    obtain ⟨S2, h2, l2⟩ := Frz.fold hf xs E _ a w S1 own C D Ds h1
    exact ⟨S2, h2, l1.trans l2⟩
theorem frz1_ok : Frz frz1 := fun E s a w S own C D Ds x h => by
  unfold Am.frz1
  split
  · exact frz0_ok.fold _ E s a w S own C D Ds h
  · exact frzB_ok.fold _ E s a w S own C D Ds h
  · exact frz0_ok E s a w S own C D Ds x h
theorem frz_ok : Frz frz := fun E s a w S own C D Ds x h => by
  unfold Am.frz
  split
  · exact frz1_ok.fold _ E s a w S own C D Ds h
  · exact frz1_ok E s a w S own C D Ds x h
theorem Rel.frzs (h : Rel E s a w) (xs : List AV) : Rel E { s with H := frzs s.H xs } a w := by
  obtain ⟨S, own, C, D, Ds, h⟩ := h
  obtain ⟨S', h', _⟩ := frz_ok.fold xs E s a w S own C D Ds h
  exact ⟨S', own, C, D, Ds, h'⟩
end

/-! ### Operations -/
def minV : AV → AV → Option AV
  | .int k a, .int _ b => some (.int k (if b < a then b else a))
  | _, _ => none
def maxV : AV → AV → Option AV
  | .int k a, .int _ b => some (.int k (if b > a then b else a))
  | _, _ => none
def notV : AV → Option AV
  | .bool b => some (.bool (!b))
  | _ => none
def okPtr (H : Heap) : AV → Bool
  | .ref k ver (.p _) => match H k with
    | some (.box v _ _) | some (.fbox v _) => v == ver
    | _ => false
  | .ref k ver (.e i _) => match H k with
    | some (.row v _ _ rows) => v == ver && decide (i < rows.length)
    | _ => false
  | .elt _ _ => true
  | .func _ _ | .yld => true
  | _ => false
def callArgs (τ : Nat → AV) (H : Heap) (c : Call) (caps : List AV) : List AV := (c.args.toList.map (ev τ) ++ caps).map (pur H)
def ixV (τ : Nat → AV) (x : Option Operand) : Option (Option (IntKind × Int)) := match x with
  | none => some none
  | some o => match ev τ o with
    | .int k i => some (some (k, i))
    | _ => none

/-- Values without memory. -/
def flat0 : AV → Bool
  | .bool _ | .int _ _ | .str _ => true
  | _ => false
def flat : AV → Bool
  | .tup cs | .agg cs => cs.all flat0
  | a => flat0 a
theorem R.flat0 {C C' : Ctx} {x : AV} {v : Value} (h : R C x v) (hf : Am.flat0 x = true) : R C' x v := by
  cases h with
  | bool b => exact .bool b
  | int k n => exact .int k n
  | str s hs => exact .str s hs
  | _ => simp [Am.flat0] at hf
theorem R.flat {C C' : Ctx} {x : AV} {v : Value} (h : R C x v) (hf : Am.flat x = true) : R C' x v := by
  cases h with
  | tup cs vs hl hh =>
    simp only [Am.flat] at hf
    exact .tup cs vs hl fun i a ha => (hh i a ha).flat0 (List.all_eq_true.1 hf a (List.mem_of_getElem? ha))
  | agg cs vs hl hh =>
    simp only [Am.flat] at hf
    exact .agg cs vs hl fun i a ha => (hh i a ha).flat0 (List.all_eq_true.1 hf a (List.mem_of_getElem? ha))
  | bool b => exact .bool b
  | int k n => exact .int k n
  | str s hs => exact .str s hs
  | _ => simp [Am.flat, Am.flat0] at hf

/-- Called with args the function hands back a row of its own making; nothing that was there has turned. The row's cells are flat. -/
structure RowSpec (P : Program) (f : FuncId) (args : List AV) (t : TypeId) (sz : Nat) (rows : List (List AV)) : Prop where
  enters : Enters P f
  flat : (rows.all fun r => r.all flat0) = true
  calls : ∀ (w : World) (S : Nat → Prop) (l : Nat) (vs : List Value), (∀ b, S b → b < w.heap.size) → RL (bare S w l) args vs →
    CallsIn (FW none) 0 P f vs.toArray w fun e w' => ∃ v og S', e = .returned v ∧ Below w.heap.size w w' ∧ (∀ g, og = some g → w.heap.size ≤ g ∧ g < w'.heap.size) ∧ HRel (bare S' w' l) og (.row 0 t sz rows) ∧ RefVal w' og (.row 0 t sz rows) .o v ∧ v.oneCell' = true
theorem HRel.flatRow {C C' : Ctx} {og : Option Nat} {v v' : Nat} {t : TypeId} {sz : Nat} {rows : List (List AV)} (h : HRel C og (.row v t sz rows)) (hf : (rows.all fun r => r.all flat0) = true) (hw : C'.w = C.w) : HRel C' og (.row v' t sz rows) := by
  cases og with
  | none => exact h
  | some g =>
    obtain ⟨cs, cap, h1, h2, h3, h4, h5, h6, h7⟩ := h
    refine ⟨cs, cap, by rw [hw]; exact h1, h2, h3, h4, h5, h6, fun i a ha => ?_⟩
    obtain ⟨u, k1, k2, k3⟩ := h7 i a ha
    refine ⟨u, k1, k2.flat0 ?_, k3⟩
    have hm := List.mem_of_getElem? ha
    obtain ⟨r, hr, har⟩ := List.mem_flatten.1 hm
    exact List.all_eq_true.1 (List.all_eq_true.1 hf r hr) a har

inductive OpR (P : Program) (τ : Nat → AV) (H : Heap) (o : Oper) : AV → Heap → Prop
  | move (x : Operand) (h : o.op = .move x) : OpR P τ H o (ev τ x) H
  | assign (x : Operand) (h : o.op = .assign x) : OpR P τ H o (ev τ x) H
  | pick (c x y : Operand) (t : Bool) (h : o.op = .pick c x y) (hc : ev τ c = .bool t) : OpR P τ H o (if t then ev τ x else ev τ y) H
  | alloc (e : TypeId) (d : Nat) (z : Value) (h : o.op = .alloc e) (hd : o.dst = some d) (hz : zeroOf P e = some z) (hok : okCells (ofVal z).cells = true) :
      OpR P τ H o (.ref d (nv H d) (.p 0)) (upd H d (some (.box (nv H d) e (ofVal z).cells)))
  | box (e : TypeId) (x : Operand) (d : Nat) (h : o.op = .box e x) (hd : o.dst = some d) (hok : okCells (ev τ x).cells = true) :
      OpR P τ H o (.ref d (nv H d) (.p 0)) (upd H d (some (.box (nv H d) e (ev τ x).cells)))
  | build (t : TypeId) (parts : Array (Nat × Operand)) (z : Value) (cells : List AV) (h : o.op = .build t parts) (hz : zeroOf P t = some z) (hok : fldsOk P t = true) (hzc : okCells (ofVal z).cells = true)
      (hf : fillA (placeOf P t) (ofVal z).cells (parts.toList.map fun p => (p.1, ev τ p.2)) = some cells) : OpR P τ H o (.agg cells) H
  | lit (t : TypeId) (len : Nat) (parts : Array (Nat × Operand)) (e : TypeId) (n : Nat) (z : Value) (rows : List (List AV)) (H1 : Heap) (h : o.op = .buildSlice t len parts) (he : elOf P t = some e) (hn : szOf P e = some n) (hn0 : 0 < n) (hz : zeroOf P e = some z)
      (hzc : okCells (ofVal z).cells = true) (hzn : (ofVal z).cells.length = n) (hlim : len * n ≤ 2 ^ 24) (hH : H1 = frzs H (parts.toList.map fun p => ev τ p.2))
      (hf : fillR n (List.replicate len (ofVal z).cells) (parts.toList.map fun p => (p.1, pur H1 (ev τ p.2))) = some rows) : OpR P τ H o (.slt rows) H1
  | litOwn (t : TypeId) (len : Nat) (parts : Array (Nat × Operand)) (e : TypeId) (n d : Nat) (z : Value) (rows : List (List AV)) (H1 : Heap) (h : o.op = .buildSlice t len parts) (hd : o.dst = some d) (he : elOf P t = some e) (hn : szOf P e = some n) (hn0 : 0 < n) (hz : zeroOf P e = some z)
      (hzc : okCells (ofVal z).cells = true) (hzn : (ofVal z).cells.length = n) (hlim : len * n ≤ 2 ^ 24) (hH : H1 = frzs H (parts.toList.map fun p => ev τ p.2))
      (hf : fillR n (List.replicate len (ofVal z).cells) (parts.toList.map fun p => (p.1, pur H1 (ev τ p.2))) = some rows) : OpR P τ H o (.ref d (nv H1 d) .o) (upd H1 d (some (.row (nv H1 d) e n rows)))
  | makeSlice (t e : TypeId) (l c : Operand) (n b d : Nat) (z : Value) (kl kc : IntKind) (len cap : Nat) (h : o.op = .makeSlice t l c) (hd : o.dst = some d) (he : elOf P t = some e) (hn : szOf P e = some n) (hb : byOf P e = some b) (hn0 : 0 < n) (hz : zeroOf P e = some z)
      (hzc : okCells (ofVal z).cells = true) (hzn : (ofVal z).cells.length = n) (hl : ev τ l = .int kl len) (hc : ev τ c = .int kc cap) (hlc : len ≤ cap) (hlim : b * cap ≤ 281474976710656) (h63 : cap ≤ maxLen) :
      OpR P τ H o (.ref d (nv H d) .o) (upd H d (some (.row (nv H d) e n (List.replicate len (ofVal z).cells))))
  | load (t : TypeId) (x : Operand) (n : Nat) (ag : Bool) (v : AV) (h : o.op = .load t x) (hn : szOf P t = some n) (ha : aggOf P t = some ag) (hr : rdV H n ag (ev τ x) = some v) : OpR P τ H o v H
  | store (t : TypeId) (x y : Operand) (n : Nat) (H' : Heap) (h : o.op = .store t x y) (hn : szOf P t = some n) (hw : wrV H n (ev τ y).cells (ev τ x) = some H') : OpR P τ H o (.tup []) H'
  | binOp (op : BinOp) (t yt : TypeId) (x y : Operand) (v : AV) (h : o.op = .binOp op t x y yt) (hv : binV (boolOf P t) op (ev τ x) (ev τ y) = some v) : OpR P τ H o v H
  | eqAgg (op : BinOp) (t yt : TypeId) (x y : Operand) (ng : Bool) (p : List (Nat × LK)) (v : AV) (h : o.op = .binOp op t x y yt) (hp : eqPlan P op t = some (ng, p)) (hv : eqA ng p (ev τ x) (ev τ y) = some v) : OpR P τ H o v H
  | index (t : TypeId) (x ix : Operand) (s : ByteArray) (k : IntKind) (i : Int) (b : UInt8) (h : o.op = .index t x ix) (ht : P.underlying t = some .string) (hx : ev τ x = .str s) (hi : ev τ ix = .int k i) (h0 : 0 ≤ i) (hb : s[i.toNat]? = some b) : OpR P τ H o (.int .u8 b.toNat) H
  | sliceStr (t : TypeId) (x : Operand) (lo hi : Option Operand) (s : ByteArray) (l' h' : Option (IntKind × Int)) (l hh : Nat) (h : o.op = .slice t x lo hi none) (ht : P.underlying t = some .string) (hx : ev τ x = .str s) (hlo : ixV τ lo = some l') (hhi : ixV τ hi = some h')
      (hl : (l'.map (·.2)).getD 0 = (l : Int)) (hh' : (h'.map (·.2)).getD (s.size : Int) = (hh : Int)) (hlh : l ≤ hh) (hhr : hh ≤ s.size) : OpR P τ H o (.str (s.extract l hh)) H
  | rangeStr (t : TypeId) (x : Operand) (d : Nat) (s : ByteArray) (h : o.op = .range t x) (hd : o.dst = some d) (ht : P.underlying t = some .string) (hx : ev τ x = .str s) : OpR P τ H o (.ref d (nv H d) (.p 0)) (upd H d (some (.obj (nv H d) (.siter s 0))))
  | nextStr (x : Operand) (k ver : Nat) (s : ByteArray) (pos : Nat) (h : o.op = .next x true) (hx : ev τ x = .ref k ver (.p 0)) (hk : H k = some (.obj ver (.siter s pos))) (hlt : pos < s.size) :
      OpR P τ H o (.tup [.bool true, .int .i64 pos, .int .i32 (Utf8.decode s pos).1]) (upd H k (some (.obj ver (.siter s (pos + (Utf8.decode s pos).2)))))
  | nextEnd (x : Operand) (k ver : Nat) (s : ByteArray) (pos : Nat) (h : o.op = .next x true) (hx : ev τ x = .ref k ver (.p 0)) (hk : H k = some (.obj ver (.siter s pos))) (hge : ¬ pos < s.size) : OpR P τ H o (.tup [.bool false]) H
  | not (t : TypeId) (x : Operand) (v : AV) (h : o.op = .unOp .not t x) (hv : notV (ev τ x) = some v) : OpR P τ H o v H
  | fieldAddr (t : TypeId) (x : Operand) (f off n : Nat) (v : AV) (h : o.op = .fieldAddr t x f) (hf : fldOf P t f = some (off, n)) (hn : n ≠ 0) (hv : addA H off (ev τ x) = some v) : OpR P τ H o v H
  | field (t : TypeId) (x : Operand) (f off n : Nat) (ag : Bool) (cs : List AV) (v : AV) (h : o.op = .field t x f) (hf : fldOf P t f = some (off, n)) (ha : fldAgOf P t f = some ag) (hx : ev τ x = .agg cs) (hv : readA cs off n ag = some v) : OpR P τ H o v H
  | indexAddr (t e : TypeId) (x ix : Operand) (n : Nat) (k : IntKind) (i : Int) (v : AV) (h : o.op = .indexAddr t x ix) (he : elOf P t = some e) (hn : szOf P e = some n) (hi : ev τ ix = .int k i) (hv : ixA H n i (ev τ x) = some v) : OpR P τ H o v H
  | indexArr (t e : TypeId) (x ix : Operand) (len n : Nat) (k : IntKind) (i : Int) (v : AV) (h : o.op = .indexAddr t x ix) (he : arOf P t = some (len, e)) (hn : szOf P e = some n) (hi : ev τ ix = .int k i) (h0 : 0 ≤ i) (h1 : i < len)
      (hv : addA H (i.toNat * n) (ev τ x) = some v) : OpR P τ H o v H
  | extract (x : Operand) (i : Nat) (vs : List AV) (v : AV) (h : o.op = .extract x i) (hx : ev τ x = .tup vs) (hv : vs[i]? = some v) : OpR P τ H o v H
  | slice (t e : TypeId) (x : Operand) (lo hi : Option Operand) (n : Nat) (l' h' : Option (IntKind × Int)) (rows : List (List AV)) (l hh : Nat) (h : o.op = .slice t x lo hi none) (he : elOf P t = some e) (hn : szOf P e = some n) (hx : rowsA H (ev τ x) = some rows)
      (hsz : (rows.all fun r => r.length == n) = true) (hlo : ixV τ lo = some l') (hhi : ixV τ hi = some h') (hl : (l'.map (·.2)).getD 0 = (l : Int)) (hh' : (h'.map (·.2)).getD (rows.length : Int) = (hh : Int)) (hlh : l ≤ hh) (hhr : hh ≤ rows.length) :
      OpR P τ H o (.sl ((rows.drop l).take (hh - l))) H
  | makeFunc (f : FuncId) (caps : Array Operand) (h : o.op = .makeFunc (.func f) #[] caps) : OpR P τ H o (.func f (caps.toList.map (ev τ))) H
  | nilCheck (x : Operand) (h : o.op = .nilCheck x) (hx : okPtr H (ev τ x) = true) : OpR P τ H o (ev τ x) H
  | convInt (st dt : TypeId) (x : Operand) (k k' : IntKind) (i : Int) (h : o.op = .convert st dt x) (hs : (P.underlying st).isSome = true) (hd : P.underlying dt = some (.int k)) (hx : ev τ x = .int k' i) : OpR P τ H o (.int k (k.wrap i)) H
  | len (t : TypeId) (x : Operand) (n : Nat) (h : o.op = .call { callee := .builtin .len, args := #[x], argTypes := #[t] }) (ht : (elOf P t).isSome = true) (hx : lenA H (ev τ x) = some n) : OpR P τ H o (.int .i64 n) H
  | lenStr (t : TypeId) (x : Operand) (b : ByteArray) (h : o.op = .call { callee := .builtin .len, args := #[x], argTypes := #[t] }) (ht : P.underlying t = some .string) (hx : ev τ x = .str b) : OpR P τ H o (.int .i64 b.size) H
  | min (t1 t2 : TypeId) (x y : Operand) (v : AV) (h : o.op = .call { callee := .builtin .min, args := #[x, y], argTypes := #[t1, t2] }) (hv : minV (ev τ x) (ev τ y) = some v) : OpR P τ H o v H
  | append (t e : TypeId) (x y : Operand) (n b k ver : Nat) (rows new : List (List AV)) (h : o.op = .call { callee := .builtin .append, args := #[x, y], argTypes := #[t, t] }) (he : elOf P t = some e) (hok : elemOk P e n b = true)
      (hx : ev τ x = .ref k ver .o) (hk : H k = some (.row ver e n rows)) (hy : srcA H n (ev τ y) = some new) (hb : (rows.length + new.length) * b ≤ 140737488355328) : OpR P τ H o (.ref k (nv H k) .o) (upd H k (some (.row (nv H k) e n (rows ++ new))))
  | appendNil (t e : TypeId) (x y : Operand) (n b d : Nat) (new : List (List AV)) (h : o.op = .call { callee := .builtin .append, args := #[x, y], argTypes := #[t, t] }) (he : elOf P t = some e) (hok : elemOk P e n b = true)
      (hx : ev τ x = .nils) (hd : o.dst = some d) (hy : srcA H n (ev τ y) = some new) (hb : new.length * b ≤ 140737488355328) : OpR P τ H o (.ref d (nv H d) .o) (upd H d (some (.row (nv H d) e n new)))
  | call (f : Operand) (c : Call) (fid : FuncId) (caps : List AV) (r : AV) (H1 : Heap) (h : o.op = .call c) (hc : c.callee = .value f) (hf : ev τ f = .func fid caps) (hH : H1 = frzs H (c.args.toList.map (ev τ)))
      (hcl : closedL (callArgs τ H1 c caps) = true) (hs : Spec P fid (callArgs τ H1 c caps) r) : OpR P τ H o r H1
  | callFlat (f : Operand) (c : Call) (fid : FuncId) (caps : List AV) (r : AV) (H1 : Heap) (h : o.op = .call c) (hc : c.callee = .value f) (hf : ev τ f = .func fid caps) (hH : H1 = frzs H (c.args.toList.map (ev τ)))
      (hcl : closedL (callArgs τ H1 c caps) = true) (hs : Spec P fid (callArgs τ H1 c caps) r) (hfl : flat r = true) : OpR P τ H o r H
  | callRow (f : Operand) (c : Call) (fid : FuncId) (caps : List AV) (H1 : Heap) (t : TypeId) (sz : Nat) (rows : List (List AV)) (d : Nat) (h : o.op = .call c) (hc : c.callee = .value f) (hf : ev τ f = .func fid caps) (hH : H1 = frzs H (c.args.toList.map (ev τ)))
      (hcl : closedL (callArgs τ H1 c caps) = true) (hd : o.dst = some d) (hs : RowSpec P fid (callArgs τ H1 c caps) t sz rows) : OpR P τ H o (.ref d (nv H1 d) .o) (upd H1 d (some (.row (nv H1 d) t sz rows)))

end Go.Am
