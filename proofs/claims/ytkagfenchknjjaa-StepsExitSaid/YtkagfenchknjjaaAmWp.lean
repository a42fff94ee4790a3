import Derived.Test.YtkagfenchknjjaaAmSound
set_option linter.unusedVariables false
set_option linter.unusedSimpArgs false
namespace Go.Am
open Go.RowKit

/-! ### Small words that simp does not look behind -/
def bindO {α : Type} : Option α → (α → Prop) → Prop
  | some x, f => f x
  | none, _ => False
@[simp] theorem bindO_some {α : Type} (x : α) (f : α → Prop) : bindO (some x) f = f x := rfl
@[simp] theorem bindO_none {α : Type} (f : α → Prop) : bindO none f = False := rfl
@[congr] theorem bindO_congr {α : Type} {r r' : Option α} {f : α → Prop} (h : r = r') : bindO r f = bindO r' f := by rw [h]
def ob {α β : Type} : Option α → (α → Option β) → Option β
  | some x, f => f x
  | none, _ => none
@[simp] theorem ob_some {α β : Type} (x : α) (f : α → Option β) : ob (some x) f = f x := rfl
@[simp] theorem ob_none {α β : Type} (f : α → Option β) : ob none f = none := rfl
@[congr] theorem ob_congr {α β : Type} {r r' : Option α} {f : α → Option β} (h : r = r') : ob r f = ob r' f := by rw [h]
theorem ob_eq_some {α β : Type} {r : Option α} {f : α → Option β} {y : β} (h : ob r f = some y) : ∃ x, r = some x ∧ f x = some y := by
  cases r with
  | none => cases h
  | some x => exact ⟨x, rfl, h⟩
def oif {β : Type} (b : Bool) (y : Option β) : Option β := match b with | true => y | false => none
@[simp] theorem oif_true {β : Type} (y : Option β) : oif true y = y := rfl
@[simp] theorem oif_false {β : Type} (y : Option β) : oif false y = none := rfl
@[congr] theorem oif_congr {β : Type} {b b' : Bool} {y : Option β} (h : b = b') : oif b y = oif b' y := by rw [h]
theorem oif_eq_some {β : Type} {b : Bool} {r : Option β} {y : β} (h : oif b r = some y) : b = true ∧ r = some y := by
  cases b with
  | true => exact ⟨rfl, h⟩
  | false => cases h

/-! ### One operation, reckoned -/
/-- The cells of a type's zero value. -/
def zcOf (P : Program) (t : TypeId) : Option (List AV) := ob (zeroOf P t) fun z => oif (okCells (ofVal z).cells) (some (ofVal z).cells)
def pickV : AV → AV → AV → Option AV
  | .bool true, x, _ => some x
  | .bool false, _, y => some y
  | _, _, _ => none
def intV : AV → Option (IntKind × Int)
  | .int k i => some (k, i)
  | _ => none
def aggV : AV → Option (List AV)
  | .agg cs => some cs
  | _ => none
def extV (i : Nat) : AV → Option AV
  | .tup vs => vs[i]?
  | _ => none
def kindOf (P : Program) (t : TypeId) : Option IntKind := match P.underlying t with
  | some (.int k) => some k
  | _ => none
def strOf (P : Program) (t : TypeId) : Bool := match P.underlying t with | some .string => true | _ => false
def knownOf (P : Program) (t : TypeId) : Bool := (P.underlying t).isSome
def slcV (n : Nat) (rows : List (List AV)) (lo hi : Option (IntKind × Int)) : Option AV :=
  let l := (lo.map (·.2)).getD 0
  let h := (hi.map (·.2)).getD (rows.length : Int)
  oif (decide (0 ≤ l ∧ l ≤ h ∧ h ≤ rows.length)) (oif (rows.all fun r => r.length == n) (some (.sl ((rows.drop l.toNat).take (h.toNat - l.toNat)))))
def lenV (H : Heap) : AV → Option AV
  | .str b => none
  | x => (lenA H x).map fun (n : Nat) => .int .i64 n
def slenV : AV → Option AV
  | .str b => some (.int .i64 b.size)
  | _ => none
def appV (P : Program) (H : Heap) (e n b : Nat) (d : Option Nat) (new : List (List AV)) : AV → Option (AV × Heap)
  | .ref k ver .o => match H k with
    | some (.row v t sz rows) => oif (decide (v = ver ∧ t = e ∧ sz = n ∧ (rows.length + new.length) * b ≤ 140737488355328)) (some (.ref k (nv H k) .o, upd H k (some (.row (nv H k) e n (rows ++ new)))))
    | _ => none
  | .nils => ob d fun d => oif (decide (new.length * b ≤ 140737488355328)) (some (.ref d (nv H d) .o, upd H d (some (.row (nv H d) e n new))))
  | _ => none

def mkfV (τ : Nat → AV) (H : Heap) : Fn → List Operand → Array Operand → Option (AV × Heap)
  | .func f, [], caps => some (.func f (caps.toList.map (ev τ)), H)
  | _, _, _ => none
def bltV (P : Program) (τ : Nat → AV) (H : Heap) (dst : Option Nat) : Builtin → List Operand → List TypeId → Option (AV × Heap)
  | .len, [x], [t] => match strOf P t with
    | true => ob (slenV (ev τ x)) fun v => some (v, H)
    | false => oif (elOf P t).isSome (ob (lenV H (ev τ x)) fun v => some (v, H))
  | .min, [x, y], [_, _] => ob (minV (ev τ x) (ev τ y)) fun v => some (v, H)
  | .append, [x, y], [t, u] => oif (t == u) (ob (elOf P t) fun e => ob (szOf P e) fun n => ob (byOf P e) fun b => oif (elemOk P e n b) (ob (srcA H n (ev τ y)) fun new => appV P H e n b dst new (ev τ x)))
  | _, _, _ => none

def strV : AV → Option ByteArray
  | .str s => some s
  | _ => none
def sixV : AV → AV → Option AV
  | .str s, .int _ i => oif (decide (0 ≤ i)) (match s[i.toNat]? with | some b => some (.int .u8 b.toNat) | none => none)
  | _, _ => none
def sslV (s : ByteArray) (lo hi : Option (IntKind × Int)) : Option AV :=
  let l := (lo.map (·.2)).getD 0
  let h := (hi.map (·.2)).getD (s.size : Int)
  oif (decide (0 ≤ l ∧ l ≤ h ∧ h ≤ s.size)) (some (.str (s.extract l.toNat h.toNat)))
def nxtV (H : Heap) : AV → Option (AV × Heap)
  | .ref k ver (.p 0) => match H k with
    | some (.obj v (.siter s pos)) => if v = ver then (if pos < s.size then some (.tup [.bool true, .int .i64 pos, .int .i32 (Utf8.decode s pos).1], upd H k (some (.obj ver (.siter s (pos + (Utf8.decode s pos).2))))) else some (.tup [.bool false], H)) else none
    | _ => none
  | _ => none
/-- own: is a literal to be one's own row? -/
def stepV (P : Program) (τ : Nat → AV) (H : Heap) (own : Bool) (dst : Option Nat) : Op → Option (AV × Heap)
  | .move x => some (ev τ x, H)
  | .assign x => some (ev τ x, H)
  | .pick c x y => ob (pickV (ev τ c) (ev τ x) (ev τ y)) fun v => some (v, H)
  | .alloc e => ob dst fun d => ob (zcOf P e) fun z => some (.ref d (nv H d) (.p 0), upd H d (some (.box (nv H d) e z)))
  | .box e x => ob dst fun d => oif (okCells (ev τ x).cells) (some (.ref d (nv H d) (.p 0), upd H d (some (.box (nv H d) e (ev τ x).cells))))
  | .build t parts => ob (zcOf P t) fun z => oif (fldsOk P t) (ob (fillA (placeOf P t) z (parts.toList.map fun p => (p.1, ev τ p.2))) fun cells => some (.agg cells, H))
  | .buildSlice t len parts => ob (elOf P t) fun e => ob (szOf P e) fun n => ob (zcOf P e) fun z => oif (decide (0 < n ∧ z.length = n ∧ len * n ≤ 16777216))
      (ob (fillR n (List.replicate len z) (parts.toList.map fun p => (p.1, pur (frzs H (parts.toList.map fun p => ev τ p.2)) (ev τ p.2)))) fun rows =>
        match own with
        | false => some (.slt rows, frzs H (parts.toList.map fun p => ev τ p.2))
        | true => ob dst fun d => some (.ref d (nv (frzs H (parts.toList.map fun p => ev τ p.2)) d) .o,
            upd (frzs H (parts.toList.map fun p => ev τ p.2)) d (some (.row (nv (frzs H (parts.toList.map fun p => ev τ p.2)) d) e n rows))))
  | .makeSlice t l c => ob dst fun d => ob (elOf P t) fun e => ob (szOf P e) fun n => ob (byOf P e) fun b => ob (zcOf P e) fun z => oif (decide (0 < n ∧ z.length = n)) (ob (intV (ev τ l)) fun p => ob (intV (ev τ c)) fun q =>
      oif (decide (0 ≤ p.2 ∧ p.2 ≤ q.2 ∧ b * q.2.toNat ≤ 281474976710656 ∧ q.2.toNat ≤ maxLen)) (some (.ref d (nv H d) .o, upd H d (some (.row (nv H d) e n (List.replicate p.2.toNat z))))))
  | .load t x => ob (szOf P t) fun n => ob (aggOf P t) fun ag => ob (rdV H n ag (ev τ x)) fun v => some (v, H)
  | .store t x y => ob (szOf P t) fun n => ob (wrV H n (ev τ y).cells (ev τ x)) fun H' => some (.tup [], H')
  | .binOp op t x y _ => match eqPlan P op t with
    | some q => ob (eqA q.1 q.2 (ev τ x) (ev τ y)) fun v => some (v, H)
    | none => ob (binV (boolOf P t) op (ev τ x) (ev τ y)) fun v => some (v, H)
  | .index t x ix => oif (strOf P t) (ob (sixV (ev τ x) (ev τ ix)) fun v => some (v, H))
  | .range t x => oif (strOf P t) (ob dst fun d => ob (strV (ev τ x)) fun s => some (.ref d (nv H d) (.p 0), upd H d (some (.obj (nv H d) (.siter s 0)))))
  | .next x true => nxtV H (ev τ x)
  | .unOp .not _ x => ob (notV (ev τ x)) fun v => some (v, H)
  | .fieldAddr t x f => ob (fldOf P t f) fun p => oif (decide (p.2 ≠ 0)) (ob (addA H p.1 (ev τ x)) fun v => some (v, H))
  | .field t x f => ob (fldOf P t f) fun p => ob (fldAgOf P t f) fun ag => ob (aggV (ev τ x)) fun cs => ob (readA cs p.1 p.2 ag) fun v => some (v, H)
  | .indexAddr t x ix => ob (intV (ev τ ix)) fun p => match elOf P t with
    | some e => ob (szOf P e) fun n => ob (ixA H n p.2 (ev τ x)) fun v => some (v, H)
    | none => ob (arOf P t) fun q => ob (szOf P q.2) fun n => oif (decide (0 ≤ p.2 ∧ p.2 < q.1)) (ob (addA H (p.2.toNat * n) (ev τ x)) fun v => some (v, H))
  | .extract x i => ob (extV i (ev τ x)) fun v => some (v, H)
  | .slice t x lo hi none => match strOf P t with
    | true => ob (strV (ev τ x)) fun s => ob (ixV τ lo) fun l => ob (ixV τ hi) fun h => ob (sslV s l h) fun v => some (v, H)
    | false => ob (elOf P t) fun e => ob (szOf P e) fun n => ob (rowsA H (ev τ x)) fun rows => ob (ixV τ lo) fun l => ob (ixV τ hi) fun h => ob (slcV n rows l h) fun v => some (v, H)
  | .makeFunc f first caps => mkfV τ H f first.toList caps
  | .nilCheck x => oif (okPtr H (ev τ x)) (some (ev τ x, H))
  | .convert st dt x => oif (knownOf P st) (ob (kindOf P dt) fun k => ob (intV (ev τ x)) fun p => some (.int k (k.wrap p.2), H))
  | .call c => match c.callee with
    | .builtin b => bltV P τ H dst b c.args.toList c.argTypes.toList
    | _ => none
  | _ => none

theorem zcOf_some {P : Program} {t : TypeId} {z : List AV} (h : zcOf P t = some z) : ∃ v, zeroOf P t = some v ∧ okCells (ofVal v).cells = true ∧ (ofVal v).cells = z := by
  obtain ⟨v, h1, h2⟩ := ob_eq_some h
  obtain ⟨h3, h4⟩ := oif_eq_some h2
  cases h4
  exact ⟨v, h1, h3, rfl⟩

theorem stepV_sound {P : Program} {τ : Nat → AV} {H H' : Heap} {own : Bool} {o : Oper} {v : AV} (h : stepV P τ H own o.dst o.op = some (v, H')) : OpR P τ H o v H' := by
  unfold stepV at h
  split at h
  · rename_i x hop; cases h; exact .move x hop
  · rename_i x hop; cases h; exact .assign x hop
  · rename_i c x y hop
    obtain ⟨u, hu, h⟩ := ob_eq_some h
    cases h
    unfold pickV at hu
    split at hu <;> cases hu
    · rename_i hc; exact .pick c x y true hop hc
    · rename_i hc; exact .pick c x y false hop hc
  · rename_i e hop
    obtain ⟨d, hd, h⟩ := ob_eq_some h
    obtain ⟨z, hz, h⟩ := ob_eq_some h
    cases h
    obtain ⟨zv, h1, h2, rfl⟩ := zcOf_some hz
    exact .alloc e d zv hop hd h1 h2
  · rename_i e x hop
    obtain ⟨d, hd, h⟩ := ob_eq_some h
    obtain ⟨hok, h⟩ := oif_eq_some h
    cases h
    exact .box e x d hop hd hok
  · rename_i t parts hop
    obtain ⟨z, hz, h⟩ := ob_eq_some h
    obtain ⟨hok, h⟩ := oif_eq_some h
    obtain ⟨cells, hf, h⟩ := ob_eq_some h
    cases h
    obtain ⟨zv, h1, h2, rfl⟩ := zcOf_some hz
    exact .build t parts zv cells hop h1 hok h2 hf
  · rename_i t len parts hop
    obtain ⟨e, he, h⟩ := ob_eq_some h
    obtain ⟨n, hn, h⟩ := ob_eq_some h
    obtain ⟨z, hz, h⟩ := ob_eq_some h
    obtain ⟨zv, h1, h2, rfl⟩ := zcOf_some hz
    obtain ⟨hc, h⟩ := oif_eq_some h
    obtain ⟨hn0, hzn, hlim⟩ := of_decide_eq_true hc
    obtain ⟨rows, hf, h⟩ := ob_eq_some h
    split at h
    · cases h
      exact .lit t len parts e n zv rows _ hop he hn hn0 h1 h2 hzn (by omega) rfl hf
    · obtain ⟨d, hd, h⟩ := ob_eq_some h
      cases h
      exact .litOwn t len parts e n d zv rows _ hop hd he hn hn0 h1 h2 hzn (by omega) rfl hf
  · rename_i t l c hop
    obtain ⟨d, hd, h⟩ := ob_eq_some h
    obtain ⟨e, he, h⟩ := ob_eq_some h
    obtain ⟨n, hn, h⟩ := ob_eq_some h
    obtain ⟨b, hb, h⟩ := ob_eq_some h
    obtain ⟨z, hz, h⟩ := ob_eq_some h
    obtain ⟨zv, h1, h2, rfl⟩ := zcOf_some hz
    obtain ⟨hc, h⟩ := oif_eq_some h
    obtain ⟨hn0, hzn⟩ := of_decide_eq_true hc
    obtain ⟨p, hp, h⟩ := ob_eq_some h
    obtain ⟨q, hq, h⟩ := ob_eq_some h
    obtain ⟨hc2, h⟩ := oif_eq_some h
    obtain ⟨c1, c2, c3, c4⟩ := of_decide_eq_true hc2
    cases h
    have hint : ∀ {y : AV} {r : IntKind × Int}, intV y = some r → y = .int r.1 r.2 := fun {y r} hy => by
      unfold intV at hy
      split at hy
      · cases hy; rfl
      · cases hy
    refine .makeSlice t e l c n b d zv p.1 q.1 p.2.toNat q.2.toNat hop hd he hn hb hn0 h1 h2 hzn ?_ ?_ (by omega) c3 c4
    · rw [hint hp]; congr 1; omega
    · rw [hint hq]; congr 1; omega
  · rename_i t x hop
    obtain ⟨n, hn, h⟩ := ob_eq_some h
    obtain ⟨ag, ha, h⟩ := ob_eq_some h
    obtain ⟨u, hu, h⟩ := ob_eq_some h
    cases h
    exact .load t x n ag _ hop hn ha hu
  · rename_i t x y hop
    obtain ⟨n, hn, h⟩ := ob_eq_some h
    obtain ⟨u, hu, h⟩ := ob_eq_some h
    cases h
    exact .store t x y n _ hop hn hu
  · rename_i op t x y yt hop
    split at h
    · rename_i q hq
      obtain ⟨u, hu, h⟩ := ob_eq_some h
      cases h
      exact .eqAgg op t yt x y q.1 q.2 _ hop hq hu
    · obtain ⟨u, hu, h⟩ := ob_eq_some h
      cases h
      exact .binOp op t yt x y _ hop hu
  · rename_i t x ix hop
    obtain ⟨hs, h⟩ := oif_eq_some h
    obtain ⟨u, hu, h⟩ := ob_eq_some h
    cases h
    have ht : P.underlying t = some .string := by
      unfold strOf at hs
      split at hs
      · assumption
      · cases hs
    unfold sixV at hu
    split at hu
    · rename_i sb k i hx hi
      obtain ⟨h0, hu⟩ := oif_eq_some hu
      split at hu
      · rename_i b hb
        cases hu
        exact .index t x ix sb k i b hop ht hx hi (of_decide_eq_true h0) hb
      · cases hu
    · cases hu
  · rename_i t x hop
    obtain ⟨hs, h⟩ := oif_eq_some h
    obtain ⟨d, hd, h⟩ := ob_eq_some h
    obtain ⟨sb, hu, h⟩ := ob_eq_some h
    cases h
    have ht : P.underlying t = some .string := by
      unfold strOf at hs
      split at hs
      · assumption
      · cases hs
    have hx : ev τ x = .str sb := by
      unfold strV at hu
      split at hu
      · rename_i y hy; cases hu; exact hy
      · cases hu
    exact .rangeStr t x d sb hop hd ht hx
  · rename_i x hop
    unfold nxtV at h
    split at h
    · rename_i k ver hx
      split at h
      · rename_i v' sb pos hk
        split at h
        · rename_i e
          subst e
          split at h
          · rename_i hlt
            cases h
            exact .nextStr x k _ sb pos hop hx hk hlt
          · rename_i hge
            cases h
            exact .nextEnd x k _ sb pos hop hx hk hge
        · cases h
      · cases h
    · cases h
  · rename_i t x hop
    obtain ⟨u, hu, h⟩ := ob_eq_some h
    cases h
    exact .not t x _ hop hu
  · rename_i t x f hop
    obtain ⟨p, hp, h⟩ := ob_eq_some h
    obtain ⟨hn, h⟩ := oif_eq_some h
    obtain ⟨u, hu, h⟩ := ob_eq_some h
    cases h
    exact .fieldAddr t x f p.1 p.2 _ hop hp (of_decide_eq_true hn) hu
  · rename_i t x f hop
    obtain ⟨p, hp, h⟩ := ob_eq_some h
    obtain ⟨ag, ha, h⟩ := ob_eq_some h
    obtain ⟨cs, hc, h⟩ := ob_eq_some h
    obtain ⟨u, hu, h⟩ := ob_eq_some h
    cases h
    have hx : ev τ x = .agg cs := by
      unfold aggV at hc
      split at hc
      · rename_i y hy; cases hc; exact hy
      · cases hc
    exact .field t x f p.1 p.2 ag cs _ hop hp ha hx hu
  · rename_i t x ix hop
    obtain ⟨p, hp, h⟩ := ob_eq_some h
    have hi : ev τ ix = .int p.1 p.2 := by
      unfold intV at hp
      split at hp
      · rename_i k i hi; cases hp; exact hi
      · cases hp
    split at h
    · rename_i e he
      obtain ⟨n, hn, h⟩ := ob_eq_some h
      obtain ⟨u, hu, h⟩ := ob_eq_some h
      cases h
      exact .indexAddr t e x ix n p.1 p.2 _ hop he hn hi hu
    · obtain ⟨q, hq, h⟩ := ob_eq_some h
      obtain ⟨n, hn, h⟩ := ob_eq_some h
      obtain ⟨hb, h⟩ := oif_eq_some h
      obtain ⟨u, hu, h⟩ := ob_eq_some h
      cases h
      obtain ⟨h0, h1⟩ := of_decide_eq_true hb
      exact .indexArr t q.2 x ix q.1 n p.1 p.2 _ hop hq hn hi h0 h1 hu
  · rename_i x i hop
    obtain ⟨u, hu, h⟩ := ob_eq_some h
    cases h
    unfold extV at hu
    split at hu
    · rename_i vs hx; exact .extract x i vs _ hop hx hu
    · cases hu
  · rename_i t x lo hi hop
    split at h
    · rename_i hs
      obtain ⟨sb, hu, h⟩ := ob_eq_some h
      obtain ⟨l, hl, h⟩ := ob_eq_some h
      obtain ⟨hh, hhh, h⟩ := ob_eq_some h
      obtain ⟨u, hu2, h⟩ := ob_eq_some h
      cases h
      have ht : P.underlying t = some .string := by
        unfold strOf at hs
        split at hs
        · assumption
        · cases hs
      have hx : ev τ x = .str sb := by
        unfold strV at hu
        split at hu
        · rename_i y hy; cases hu; exact hy
        · cases hu
      unfold sslV at hu2
      obtain ⟨hc, hu2⟩ := oif_eq_some hu2
      obtain ⟨c1, c2, c3⟩ := of_decide_eq_true hc
      cases hu2
      exact .sliceStr t x lo hi sb l hh _ _ hop ht hx hl hhh (by omega) (by omega) (by omega) (by omega)
    obtain ⟨e, he, h⟩ := ob_eq_some h
    obtain ⟨n, hn, h⟩ := ob_eq_some h
    obtain ⟨rows, hr, h⟩ := ob_eq_some h
    obtain ⟨l, hl, h⟩ := ob_eq_some h
    obtain ⟨hh, hhh, h⟩ := ob_eq_some h
    obtain ⟨u, hu, h⟩ := ob_eq_some h
    cases h
    unfold slcV at hu
    obtain ⟨hc, hu⟩ := oif_eq_some hu
    obtain ⟨hall, hu⟩ := oif_eq_some hu
    obtain ⟨c1, c2, c3⟩ := of_decide_eq_true hc
    cases hu
    exact .slice t e x lo hi n l hh rows _ _ hop he hn hr hall hl hhh (by omega) (by omega) (by omega) (by omega)
  · rename_i f first caps hop
    unfold mkfV at h
    split at h
    · rename_i f' hf
      cases h
      have e : first = #[] := Array.toList_inj.1 hf
      subst e
      exact .makeFunc f' _ hop
    · cases h
  · rename_i x hop
    obtain ⟨hx, h⟩ := oif_eq_some h
    cases h
    exact .nilCheck x hop hx
  · rename_i st dt x hop
    obtain ⟨hk, h⟩ := oif_eq_some h
    obtain ⟨k, hkd, h⟩ := ob_eq_some h
    obtain ⟨p, hp, h⟩ := ob_eq_some h
    cases h
    have hi : ev τ x = .int p.1 p.2 := by
      unfold intV at hp
      split at hp
      · rename_i k i hi; cases hp; exact hi
      · cases hp
    have hkd' : P.underlying dt = some (.int k) := by
      unfold kindOf at hkd
      split at hkd
      · cases hkd; assumption
      · cases hkd
    exact .convInt st dt x k p.1 p.2 hop hk hkd' hi
  · rename_i c hop
    split at h
    · rename_i b hb
      obtain ⟨callee, args, ats⟩ := c
      dsimp only at hb h
      subst hb
      unfold bltV at h
      split at h
      · rename_i x t hx ht
        have e1 : args = #[x] := Array.toList_inj.1 hx
        have e2 : ats = #[t] := Array.toList_inj.1 ht
        subst e1 e2
        split at h
        · rename_i hs
          obtain ⟨u, hu, h⟩ := ob_eq_some h
          cases h
          unfold slenV at hu
          split at hu
          · rename_i b hb
            cases hu
            have ht : P.underlying t = some .string := by
              unfold strOf at hs
              split at hs
              · assumption
              · cases hs
            exact .lenStr t x b hop ht hb
          · cases hu
        · obtain ⟨he, h⟩ := oif_eq_some h
          obtain ⟨u, hu, h⟩ := ob_eq_some h
          cases h
          unfold lenV at hu
          split at hu
          · cases hu
          · obtain ⟨m, hm, rfl⟩ := Option.map_eq_some_iff.1 hu
            exact .len t x m hop he hm
      · rename_i x y t u hx ht
        have e1 : args = #[x, y] := Array.toList_inj.1 hx
        have e2 : ats = #[t, u] := Array.toList_inj.1 ht
        subst e1 e2
        obtain ⟨r, hr, h⟩ := ob_eq_some h
        cases h
        exact .min t u x y _ hop hr
      · rename_i x y t u hx ht
        have e1 : args = #[x, y] := Array.toList_inj.1 hx
        have e2 : ats = #[t, u] := Array.toList_inj.1 ht
        subst e1 e2
        obtain ⟨htu, hA⟩ := oif_eq_some h
        clear h
        have htu : t = u := by simpa using htu
        subst htu
        obtain ⟨e, he, h⟩ := ob_eq_some hA
        clear hA
        obtain ⟨n, hn, h⟩ := ob_eq_some h
        obtain ⟨b, hb, h⟩ := ob_eq_some h
        obtain ⟨hok, h⟩ := oif_eq_some h
        obtain ⟨new, hnew, h⟩ := ob_eq_some h
        unfold appV at h
        split at h
        · rename_i k ver hx
          split at h
          · rename_i v' t' sz rows hk
            obtain ⟨hc, hB⟩ := oif_eq_some h
            clear h
            cases hB
            obtain ⟨rfl, rfl, rfl, hbb⟩ := of_decide_eq_true hc
            exact .append t _ x y _ b k _ rows new hop he hok hx hk hnew hbb
          · cases h
        · rename_i hx
          obtain ⟨d, hd, h⟩ := ob_eq_some h
          obtain ⟨hbb, h⟩ := oif_eq_some h
          cases h
          exact .appendNil t e x y n b d new hop he hok hx hd hnew (of_decide_eq_true hbb)
        · cases h
      · cases h
    · cases h
  · cases h

end Go.Am
