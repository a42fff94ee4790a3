import Derived.Test.YtnngddgaobhkiaaGreatGA1
import Derived.RangeFuncSeq
import Derived.Laws.Cover3
set_option linter.unusedVariables false
set_option linter.unusedSimpArgs false
namespace Go.Am
open Go.RowKit
def bindO {α:Type}:Option α → (α → Prop) → Prop
 | some x,f=>f x
 | none,_=>False
@[simp] theorem bindO_some {α:Type} (x:α) (f:α → Prop):bindO (some x) f = f x:=rfl
@[simp] theorem bindO_none {α:Type} (f:α → Prop):bindO none f = False:=rfl
@[congr] theorem bindO_congr {α:Type} {r r':Option α} {f:α → Prop} (h:r = r'):bindO r f = bindO r' f:=by rw [h]
def ob {α β:Type}:Option α → (α → Option β) → Option β
 | some x,f=>f x
 | none,_=>none
@[simp] theorem ob_some {α β:Type} (x:α) (f:α → Option β):ob (some x) f = f x:=rfl
@[simp] theorem ob_none {α β:Type} (f:α → Option β):ob none f = none:=rfl
@[congr] theorem ob_congr {α β:Type} {r r':Option α} {f:α → Option β} (h:r = r'):ob r f = ob r' f:=by rw [h]
theorem ob_eq_some {α β:Type} {r:Option α} {f:α → Option β} {y:β} (h:ob r f = some y):∃ x,r = some x ∧ f x = some y:=by
 cases r with
 | none=>cases h
 | some x=>exact ⟨x,rfl,h⟩
def oif {β:Type} (b:Bool) (y:Option β):Option β:=match b with | true=>y | false=>none
@[simp] theorem oif_true {β:Type} (y:Option β):oif true y = y:=rfl
@[simp] theorem oif_false {β:Type} (y:Option β):oif false y = none:=rfl
@[congr] theorem oif_congr {β:Type} {b b':Bool} {y:Option β} (h:b = b'):oif b y = oif b' y:=by rw [h]
theorem oif_eq_some {β:Type} {b:Bool} {r:Option β} {y:β} (h:oif b r = some y):b = true ∧ r = some y:=by
 cases b with
 | true=>exact ⟨rfl,h⟩
 | false=>cases h
def zcOf (P:Program) (t:TypeId):Option (List AV):=ob (zeroOf P t) fun z=>oif (okCells (ofVal z).cells) (some (ofVal z).cells)
def pickV:AV → AV → AV → Option AV
 | .bool true,x,_=>some x
 | .bool false,_,y=>some y
 | _,_,_=>none
def intV:AV → Option (IntKind × Int)
 | .int k i=>some (k,i)
 | _=>none
def aggV:AV → Option (List AV)
 | .agg cs=>some cs
 | _=>none
def extV (i:Nat):AV → Option AV
 | .tup vs=>vs[i]?
 | _=>none
def kindOf (P:Program) (t:TypeId):Option IntKind:=match P.underlying t with
 | some (.int k)=>some k
 | _=>none
def strOf (P:Program) (t:TypeId):Bool:=match P.underlying t with | some .string=>true | _=>false
def knownOf (P:Program) (t:TypeId):Bool:=(P.underlying t).isSome
def slcV (n:Nat) (rows:List (List AV)) (lo hi:Option (IntKind × Int)):Option AV:=
 let l:=(lo.map (·.2)).getD 0
 let h:=(hi.map (·.2)).getD (rows.length:Int)
 oif (decide (0 ≤ l ∧ l ≤ h ∧ h ≤ rows.length)) (oif (rows.all fun r=>r.length == n) (some (.sl ((rows.drop l.toNat).take (h.toNat - l.toNat)))))
def lenV (H:Heap):AV → Option AV
 | .str b=>none
 | x=>(lenA H x).map fun (n:Nat)=>.int .i64 n
def slenV:AV → Option AV
 | .str b=>some (.int .i64 b.size)
 | _=>none
def appV (P:Program) (H:Heap) (e n b:Nat) (d:Option Nat) (new:List (List AV)):AV → Option (AV × Heap)
 | .ref k ver .o=>match H k with
  | some (.row v t sz rows)=>oif (decide (v = ver ∧ t = e ∧ sz = n ∧ (rows.length + new.length) * b ≤ 140737488355328)) (some (.ref k (nv H k) .o,upd H k (some (.row (nv H k) e n (rows ++ new)))))
  | _=>none
 | .nils=>ob d fun d=>oif (decide (new.length * b ≤ 140737488355328)) (some (.ref d (nv H d) .o,upd H d (some (.row (nv H d) e n new))))
 | _=>none
def mkfV (τ:Nat → AV) (H:Heap):Fn → List Operand → Array Operand → Option (AV × Heap)
 | .func f,[],caps=>some (.func f (caps.toList.map (ev τ)),H)
 | _,_,_=>none
def bltV (P:Program) (τ:Nat → AV) (H:Heap) (dst:Option Nat):Builtin → List Operand → List TypeId → Option (AV × Heap)
 | .len,[x],[t]=>match strOf P t with
  | true=>ob (slenV (ev τ x)) fun v=>some (v,H)
  | false=>oif (elOf P t).isSome (ob (lenV H (ev τ x)) fun v=>some (v,H))
 | .min,[x,y],[_,_]=>ob (minV (ev τ x) (ev τ y)) fun v=>some (v,H)
 | .append,[x,y],[t,u]=>oif (t == u) (ob (elOf P t) fun e=>ob (szOf P e) fun n=>ob (byOf P e) fun b=>oif (elemOk P e n b) (ob (srcA H n (ev τ y)) fun new=>appV P H e n b dst new (ev τ x)))
 | _,_,_=>none
def strV:AV → Option ByteArray
 | .str s=>some s
 | _=>none
def sixV:AV → AV → Option AV
 | .str s,.int _ i=>oif (decide (0 ≤ i)) (match s[i.toNat]? with | some b=>some (.int .u8 b.toNat) | none=>none)
 | _,_=>none
def sslV (s:ByteArray) (lo hi:Option (IntKind × Int)):Option AV:=
 let l:=(lo.map (·.2)).getD 0
 let h:=(hi.map (·.2)).getD (s.size:Int)
 oif (decide (0 ≤ l ∧ l ≤ h ∧ h ≤ s.size)) (some (.str (s.extract l.toNat h.toNat)))
def nxtV (H:Heap):AV → Option (AV × Heap)
 | .ref k ver (.p 0)=>match H k with
  | some (.obj v (.siter s pos))=>if v = ver then (if pos < s.size then some (.tup [.bool true,.int .i64 pos,.int .i32 (Utf8.decode s pos).1],upd H k (some (.obj ver (.siter s (pos + (Utf8.decode s pos).2))))) else some (.tup [.bool false],H)) else none
  | _=>none
 | _=>none
def stepV (P:Program) (τ:Nat → AV) (H:Heap) (own:Bool) (dst:Option Nat):Op → Option (AV × Heap)
 | .move x=>some (ev τ x,H)
 | .assign x=>some (ev τ x,H)
 | .pick c x y=>ob (pickV (ev τ c) (ev τ x) (ev τ y)) fun v=>some (v,H)
 | .alloc e=>ob dst fun d=>ob (zcOf P e) fun z=>some (.ref d (nv H d) (.p 0),upd H d (some (.box (nv H d) e z)))
 | .box e x=>ob dst fun d=>oif (okCells (ev τ x).cells) (some (.ref d (nv H d) (.p 0),upd H d (some (.box (nv H d) e (ev τ x).cells))))
 | .build t parts=>ob (zcOf P t) fun z=>oif (fldsOk P t) (ob (fillA (placeOf P t) z (parts.toList.map fun p=>(p.1,ev τ p.2))) fun cells=>some (.agg cells,H))
 | .buildSlice t len parts=>ob (elOf P t) fun e=>ob (szOf P e) fun n=>ob (zcOf P e) fun z=>oif (decide (0 < n ∧ z.length = n ∧ len * n ≤ 16777216))
   (ob (fillR n (List.replicate len z) (parts.toList.map fun p=>(p.1,pur (frzs H (parts.toList.map fun p=>ev τ p.2)) (ev τ p.2)))) fun rows=>
    match own with
    | false=>some (.slt rows,frzs H (parts.toList.map fun p=>ev τ p.2))
    | true=>ob dst fun d=>some (.ref d (nv (frzs H (parts.toList.map fun p=>ev τ p.2)) d) .o,
      upd (frzs H (parts.toList.map fun p=>ev τ p.2)) d (some (.row (nv (frzs H (parts.toList.map fun p=>ev τ p.2)) d) e n rows))))
 | .makeSlice t l c=>ob dst fun d=>ob (elOf P t) fun e=>ob (szOf P e) fun n=>ob (byOf P e) fun b=>ob (zcOf P e) fun z=>oif (decide (0 < n ∧ z.length = n)) (ob (intV (ev τ l)) fun p=>ob (intV (ev τ c)) fun q=>
   oif (decide (0 ≤ p.2 ∧ p.2 ≤ q.2 ∧ b * q.2.toNat ≤ 281474976710656 ∧ q.2.toNat ≤ maxLen)) (some (.ref d (nv H d) .o,upd H d (some (.row (nv H d) e n (List.replicate p.2.toNat z))))))
 | .load t x=>ob (szOf P t) fun n=>ob (aggOf P t) fun ag=>ob (rdV H n ag (ev τ x)) fun v=>some (v,H)
 | .store t x y=>ob (szOf P t) fun n=>ob (wrV H n (ev τ y).cells (ev τ x)) fun H'=>some (.tup [],H')
 | .binOp op t x y _=>match eqPlan P op t with
  | some q=>ob (eqA q.1 q.2 (ev τ x) (ev τ y)) fun v=>some (v,H)
  | none=>ob (binV (boolOf P t) op (ev τ x) (ev τ y)) fun v=>some (v,H)
 | .index t x ix=>oif (strOf P t) (ob (sixV (ev τ x) (ev τ ix)) fun v=>some (v,H))
 | .range t x=>oif (strOf P t) (ob dst fun d=>ob (strV (ev τ x)) fun s=>some (.ref d (nv H d) (.p 0),upd H d (some (.obj (nv H d) (.siter s 0)))))
 | .next x true=>nxtV H (ev τ x)
 | .unOp .not _ x=>ob (notV (ev τ x)) fun v=>some (v,H)
 | .unOp .neg _ x=>ob (intV (ev τ x)) fun p=>some (.int p.1 (p.1.wrap (0 - p.2)),H)
 | .fieldAddr t x f=>ob (fldOf P t f) fun p=>oif (decide (p.2 ≠ 0)) (ob (addA H p.1 (ev τ x)) fun v=>some (v,H))
 | .field t x f=>ob (fldOf P t f) fun p=>ob (fldAgOf P t f) fun ag=>ob (aggV (ev τ x)) fun cs=>ob (readA cs p.1 p.2 ag) fun v=>some (v,H)
 | .indexAddr t x ix=>ob (intV (ev τ ix)) fun p=>match elOf P t with
  | some e=>ob (szOf P e) fun n=>ob (ixA H n p.2 (ev τ x)) fun v=>some (v,H)
  | none=>ob (arOf P t) fun q=>ob (szOf P q.2) fun n=>oif (decide (0 ≤ p.2 ∧ p.2 < q.1)) (ob (addA H (p.2.toNat * n) (ev τ x)) fun v=>some (v,H))
 | .extract x i=>ob (extV i (ev τ x)) fun v=>some (v,H)
 | .slice t x lo hi none=>match strOf P t with
  | true=>ob (strV (ev τ x)) fun s=>ob (ixV τ lo) fun l=>ob (ixV τ hi) fun h=>ob (sslV s l h) fun v=>some (v,H)
  | false=>ob (elOf P t) fun e=>ob (szOf P e) fun n=>ob (rowsA H (ev τ x)) fun rows=>ob (ixV τ lo) fun l=>ob (ixV τ hi) fun h=>ob (slcV n rows l h) fun v=>some (v,H)
 | .slice t x none (some hi) (some mx)=>ob (elOf P t) fun e=>ob (szOf P e) fun n=>ob (rowsA H (ev τ x)) fun rows=>ob (intV (ev τ hi)) fun p=>ob (intV (ev τ mx)) fun q=>oif (decide (p.2 = rows.length ∧ q.2 = rows.length)) (oif (rows.all fun r=>r.length == n) (some (.sl rows,H)))
 | .makeFunc f first caps=>mkfV τ H f first.toList caps
 | .nilCheck x=>oif (okPtr H (ev τ x)) (some (ev τ x,H))
 | .convert st dt x=>oif (knownOf P st) (ob (kindOf P dt) fun k=>ob (intV (ev τ x)) fun p=>some (.int k (k.wrap p.2),H))
 | .call c=>match c.callee with
  | .builtin b=>bltV P τ H dst b c.args.toList c.argTypes.toList
  | _=>none
 | _=>none
theorem intV_some {a:AV} {k:IntKind} {i:Int} (h:intV a = some (k,i)):a = .int k i:=by
 unfold intV at h
 split at h
 ·cases h; rfl
 ·cases h
theorem zcOf_some {P:Program} {t:TypeId} {z:List AV} (h:zcOf P t = some z):∃ v,zeroOf P t = some v ∧ okCells (ofVal v).cells = true ∧ (ofVal v).cells = z:=by
 obtain ⟨v,h1,h2⟩:=ob_eq_some h
 obtain ⟨h3,h4⟩:=oif_eq_some h2
 cases h4
 exact ⟨v,h1,h3,rfl⟩
theorem stepV_sound {P:Program} {τ:Nat → AV} {H H':Heap} {own:Bool} {o:Oper} {v:AV} (h:stepV P τ H own o.dst o.op = some (v,H')):OpR P τ H o v H':=by
 unfold stepV at h
 split at h
 ·rename_i x hop; cases h; exact .move x hop
 ·rename_i x hop; cases h; exact .assign x hop
 ·rename_i c x y hop
  obtain ⟨u,hu,h⟩:=ob_eq_some h
  cases h
  unfold pickV at hu
  split at hu <;> cases hu
  ·rename_i hc; exact .pick c x y true hop hc
  ·rename_i hc; exact .pick c x y false hop hc
 ·rename_i e hop
  obtain ⟨d,hd,h⟩:=ob_eq_some h
  obtain ⟨z,hz,h⟩:=ob_eq_some h
  cases h
  obtain ⟨zv,h1,h2,rfl⟩:=zcOf_some hz
  exact .alloc e d zv hop hd h1 h2
 ·rename_i e x hop
  obtain ⟨d,hd,h⟩:=ob_eq_some h
  obtain ⟨hok,h⟩:=oif_eq_some h
  cases h
  exact .box e x d hop hd hok
 ·rename_i t parts hop
  obtain ⟨z,hz,h⟩:=ob_eq_some h
  obtain ⟨hok,h⟩:=oif_eq_some h
  obtain ⟨cells,hf,h⟩:=ob_eq_some h
  cases h
  obtain ⟨zv,h1,h2,rfl⟩:=zcOf_some hz
  exact .build t parts zv cells hop h1 hok h2 hf
 ·rename_i t len parts hop
  obtain ⟨e,he,h⟩:=ob_eq_some h
  obtain ⟨n,hn,h⟩:=ob_eq_some h
  obtain ⟨z,hz,h⟩:=ob_eq_some h
  obtain ⟨zv,h1,h2,rfl⟩:=zcOf_some hz
  obtain ⟨hc,h⟩:=oif_eq_some h
  obtain ⟨hn0,hzn,hlim⟩:=of_decide_eq_true hc
  obtain ⟨rows,hf,h⟩:=ob_eq_some h
  split at h
  ·cases h
   exact .lit t len parts e n zv rows _ hop he hn hn0 h1 h2 hzn (by omega) rfl hf
  ·obtain ⟨d,hd,h⟩:=ob_eq_some h
   cases h
   exact .litOwn t len parts e n d zv rows _ hop hd he hn hn0 h1 h2 hzn (by omega) rfl hf
 ·rename_i t l c hop
  obtain ⟨d,hd,h⟩:=ob_eq_some h
  obtain ⟨e,he,h⟩:=ob_eq_some h
  obtain ⟨n,hn,h⟩:=ob_eq_some h
  obtain ⟨b,hb,h⟩:=ob_eq_some h
  obtain ⟨z,hz,h⟩:=ob_eq_some h
  obtain ⟨zv,h1,h2,rfl⟩:=zcOf_some hz
  obtain ⟨hc,h⟩:=oif_eq_some h
  obtain ⟨hn0,hzn⟩:=of_decide_eq_true hc
  obtain ⟨p,hp,h⟩:=ob_eq_some h
  obtain ⟨q,hq,h⟩:=ob_eq_some h
  obtain ⟨hc2,h⟩:=oif_eq_some h
  obtain ⟨c1,c2,c3,c4⟩:=of_decide_eq_true hc2
  cases h
  have hint:∀ {y:AV} {r:IntKind × Int},intV y = some r → y = .int r.1 r.2:=fun {y r} hy=>by
   unfold intV at hy
   split at hy
   ·cases hy; rfl
   ·cases hy
  refine .makeSlice t e l c n b d zv p.1 q.1 p.2.toNat q.2.toNat hop hd he hn hb hn0 h1 h2 hzn ?_ ?_ (by omega) c3 c4
  ·rw [hint hp]; congr 1; omega
  ·rw [hint hq]; congr 1; omega
 ·rename_i t x hop
  obtain ⟨n,hn,h⟩:=ob_eq_some h
  obtain ⟨ag,ha,h⟩:=ob_eq_some h
  obtain ⟨u,hu,h⟩:=ob_eq_some h
  cases h
  exact .load t x n ag _ hop hn ha hu
 ·rename_i t x y hop
  obtain ⟨n,hn,h⟩:=ob_eq_some h
  obtain ⟨u,hu,h⟩:=ob_eq_some h
  cases h
  exact .store t x y n _ hop hn hu
 ·rename_i op t x y yt hop
  split at h
  ·rename_i q hq
   obtain ⟨u,hu,h⟩:=ob_eq_some h
   cases h
   exact .eqAgg op t yt x y q.1 q.2 _ hop hq hu
  ·obtain ⟨u,hu,h⟩:=ob_eq_some h
   cases h
   exact .binOp op t yt x y _ hop hu
 ·rename_i t x ix hop
  obtain ⟨hs,h⟩:=oif_eq_some h
  obtain ⟨u,hu,h⟩:=ob_eq_some h
  cases h
  have ht:P.underlying t = some .string:=by
   unfold strOf at hs
   split at hs
   ·assumption
   ·cases hs
  unfold sixV at hu
  split at hu
  ·rename_i sb k i hx hi
   obtain ⟨h0,hu⟩:=oif_eq_some hu
   split at hu
   ·rename_i b hb
    cases hu
    exact .index t x ix sb k i b hop ht hx hi (of_decide_eq_true h0) hb
   ·cases hu
  ·cases hu
 ·rename_i t x hop
  obtain ⟨hs,h⟩:=oif_eq_some h
  obtain ⟨d,hd,h⟩:=ob_eq_some h
  obtain ⟨sb,hu,h⟩:=ob_eq_some h
  cases h
  have ht:P.underlying t = some .string:=by
   unfold strOf at hs
   split at hs
   ·assumption
   ·cases hs
  have hx:ev τ x = .str sb:=by
   unfold strV at hu
   split at hu
   ·rename_i y hy; cases hu; exact hy
   ·cases hu
  exact .rangeStr t x d sb hop hd ht hx
 ·rename_i x hop
  unfold nxtV at h
  split at h
  ·rename_i k ver hx
   split at h
   ·rename_i v' sb pos hk
    split at h
    ·rename_i e
     subst e
     split at h
     ·rename_i hlt
      cases h
      exact .nextStr x k _ sb pos hop hx hk hlt
     ·rename_i hge
      cases h
      exact .nextEnd x k _ sb pos hop hx hk hge
    ·cases h
   ·cases h
  ·cases h
 ·rename_i t x hop
  obtain ⟨u,hu,h⟩:=ob_eq_some h
  cases h
  exact .not t x _ hop hu
 ·rename_i t x hop
  obtain ⟨p,hp,h⟩:=ob_eq_some h
  cases h
  obtain ⟨k,i⟩:=p
  exact .neg t x k i hop (intV_some hp)
 ·rename_i t x f hop
  obtain ⟨p,hp,h⟩:=ob_eq_some h
  obtain ⟨hn,h⟩:=oif_eq_some h
  obtain ⟨u,hu,h⟩:=ob_eq_some h
  cases h
  exact .fieldAddr t x f p.1 p.2 _ hop hp (of_decide_eq_true hn) hu
 ·rename_i t x f hop
  obtain ⟨p,hp,h⟩:=ob_eq_some h
  obtain ⟨ag,ha,h⟩:=ob_eq_some h
  obtain ⟨cs,hc,h⟩:=ob_eq_some h
  obtain ⟨u,hu,h⟩:=ob_eq_some h
  cases h
  have hx:ev τ x = .agg cs:=by
   unfold aggV at hc
   split at hc
   ·rename_i y hy; cases hc; exact hy
   ·cases hc
  exact .field t x f p.1 p.2 ag cs _ hop hp ha hx hu
 ·rename_i t x ix hop
  obtain ⟨p,hp,h⟩:=ob_eq_some h
  have hi:ev τ ix = .int p.1 p.2:=by
   unfold intV at hp
   split at hp
   ·rename_i k i hi; cases hp; exact hi
   ·cases hp
  split at h
  ·rename_i e he
   obtain ⟨n,hn,h⟩:=ob_eq_some h
   obtain ⟨u,hu,h⟩:=ob_eq_some h
   cases h
   exact .indexAddr t e x ix n p.1 p.2 _ hop he hn hi hu
  ·obtain ⟨q,hq,h⟩:=ob_eq_some h
   obtain ⟨n,hn,h⟩:=ob_eq_some h
   obtain ⟨hb,h⟩:=oif_eq_some h
   obtain ⟨u,hu,h⟩:=ob_eq_some h
   cases h
   obtain ⟨h0,h1⟩:=of_decide_eq_true hb
   exact .indexArr t q.2 x ix q.1 n p.1 p.2 _ hop hq hn hi h0 h1 hu
 ·rename_i x i hop
  obtain ⟨u,hu,h⟩:=ob_eq_some h
  cases h
  unfold extV at hu
  split at hu
  ·rename_i vs hx; exact .extract x i vs _ hop hx hu
  ·cases hu
 ·rename_i t x lo hi hop
  split at h
  ·rename_i hs
   obtain ⟨sb,hu,h⟩:=ob_eq_some h
   obtain ⟨l,hl,h⟩:=ob_eq_some h
   obtain ⟨hh,hhh,h⟩:=ob_eq_some h
   obtain ⟨u,hu2,h⟩:=ob_eq_some h
   cases h
   have ht:P.underlying t = some .string:=by
    unfold strOf at hs
    split at hs
    ·assumption
    ·cases hs
   have hx:ev τ x = .str sb:=by
    unfold strV at hu
    split at hu
    ·rename_i y hy; cases hu; exact hy
    ·cases hu
   unfold sslV at hu2
   obtain ⟨hc,hu2⟩:=oif_eq_some hu2
   obtain ⟨c1,c2,c3⟩:=of_decide_eq_true hc
   cases hu2
   exact .sliceStr t x lo hi sb l hh _ _ hop ht hx hl hhh (by omega) (by omega) (by omega) (by omega)
  obtain ⟨e,he,h⟩:=ob_eq_some h
  obtain ⟨n,hn,h⟩:=ob_eq_some h
  obtain ⟨rows,hr,h⟩:=ob_eq_some h
  obtain ⟨l,hl,h⟩:=ob_eq_some h
  obtain ⟨hh,hhh,h⟩:=ob_eq_some h
  obtain ⟨u,hu,h⟩:=ob_eq_some h
  cases h
  unfold slcV at hu
  obtain ⟨hc,hu⟩:=oif_eq_some hu
  obtain ⟨hall,hu⟩:=oif_eq_some hu
  obtain ⟨c1,c2,c3⟩:=of_decide_eq_true hc
  cases hu
  exact .slice t e x lo hi n l hh rows _ _ hop he hn hr hall hl hhh (by omega) (by omega) (by omega) (by omega)
 ·rename_i t x hi mx hop
  obtain ⟨e,he,h⟩:=ob_eq_some h
  obtain ⟨n,hn,h⟩:=ob_eq_some h
  obtain ⟨rows,hr,h⟩:=ob_eq_some h
  obtain ⟨⟨k,i⟩,hp,h⟩:=ob_eq_some h
  obtain ⟨⟨k',i'⟩,hq,h⟩:=ob_eq_some h
  obtain ⟨hc,h⟩:=oif_eq_some h
  obtain ⟨hall,h⟩:=oif_eq_some h
  obtain ⟨c1,c2⟩:=of_decide_eq_true hc
  have c1:i = rows.length:=c1
  have c2:i' = rows.length:=c2
  rw [c1] at hp
  rw [c2] at hq
  cases h
  exact .slice3 t e x hi mx n k k' rows hop he hn hr hall (intV_some hp) (intV_some hq)
 ·rename_i f first caps hop
  unfold mkfV at h
  split at h
  ·rename_i f' hf
   cases h
   have e:first = #[]:=Array.toList_inj.1 hf
   subst e
   exact .makeFunc f' _ hop
  ·cases h
 ·rename_i x hop
  obtain ⟨hx,h⟩:=oif_eq_some h
  cases h
  exact .nilCheck x hop hx
 ·rename_i st dt x hop
  obtain ⟨hk,h⟩:=oif_eq_some h
  obtain ⟨k,hkd,h⟩:=ob_eq_some h
  obtain ⟨p,hp,h⟩:=ob_eq_some h
  cases h
  have hi:ev τ x = .int p.1 p.2:=by
   unfold intV at hp
   split at hp
   ·rename_i k i hi; cases hp; exact hi
   ·cases hp
  have hkd':P.underlying dt = some (.int k):=by
   unfold kindOf at hkd
   split at hkd
   ·cases hkd; assumption
   ·cases hkd
  exact .convInt st dt x k p.1 p.2 hop hk hkd' hi
 ·rename_i c hop
  split at h
  ·rename_i b hb
   obtain ⟨callee,args,ats⟩:=c
   dsimp only at hb h
   subst hb
   unfold bltV at h
   split at h
   ·rename_i x t hx ht
    have e1:args = #[x]:=Array.toList_inj.1 hx
    have e2:ats = #[t]:=Array.toList_inj.1 ht
    subst e1 e2
    split at h
    ·rename_i hs
     obtain ⟨u,hu,h⟩:=ob_eq_some h
     cases h
     unfold slenV at hu
     split at hu
     ·rename_i b hb
      cases hu
      have ht:P.underlying t = some .string:=by
       unfold strOf at hs
       split at hs
       ·assumption
       ·cases hs
      exact .lenStr t x b hop ht hb
     ·cases hu
    ·obtain ⟨he,h⟩:=oif_eq_some h
     obtain ⟨u,hu,h⟩:=ob_eq_some h
     cases h
     unfold lenV at hu
     split at hu
     ·cases hu
     ·obtain ⟨m,hm,rfl⟩:=Option.map_eq_some_iff.1 hu
      exact .len t x m hop he hm
   ·rename_i x y t u hx ht
    have e1:args = #[x,y]:=Array.toList_inj.1 hx
    have e2:ats = #[t,u]:=Array.toList_inj.1 ht
    subst e1 e2
    obtain ⟨r,hr,h⟩:=ob_eq_some h
    cases h
    exact .min t u x y _ hop hr
   ·rename_i x y t u hx ht
    have e1:args = #[x,y]:=Array.toList_inj.1 hx
    have e2:ats = #[t,u]:=Array.toList_inj.1 ht
    subst e1 e2
    obtain ⟨htu,hA⟩:=oif_eq_some h
    clear h
    have htu:t = u:=by simpa using htu
    subst htu
    obtain ⟨e,he,h⟩:=ob_eq_some hA
    clear hA
    obtain ⟨n,hn,h⟩:=ob_eq_some h
    obtain ⟨b,hb,h⟩:=ob_eq_some h
    obtain ⟨hok,h⟩:=oif_eq_some h
    obtain ⟨new,hnew,h⟩:=ob_eq_some h
    unfold appV at h
    split at h
    ·rename_i k ver hx
     split at h
     ·rename_i v' t' sz rows hk
      obtain ⟨hc,hB⟩:=oif_eq_some h
      clear h
      cases hB
      obtain ⟨rfl,rfl,rfl,hbb⟩:=of_decide_eq_true hc
      exact .append t _ x y _ b k _ rows new hop he hok hx hk hnew hbb
     ·cases h
    ·rename_i hx
     obtain ⟨d,hd,h⟩:=ob_eq_some h
     obtain ⟨hbb,h⟩:=oif_eq_some h
     cases h
     exact .appendNil t e x y n b d new hop he hok hx hd hnew (of_decide_eq_true hbb)
    ·cases h
   ·cases h
  ·cases h
 ·cases h
end Go.Am
set_option linter.unusedSectionVars false
namespace Go.Am
open Go.RowKit
mutual
def ren (σ:Nat → Nat):AV → AV
 | .ref k v r=>.ref (σ k) v r
 | .agg cs=>.agg (renL σ cs)
 | .tup cs=>.tup (renL σ cs)
 | .sl rows=>.sl (renLL σ rows)
 | .slt rows=>.slt (renLL σ rows)
 | .elt row off=>.elt (renL σ row) off
 | .func f cs=>.func f (renL σ cs)
 | a=>a
def renL (σ:Nat → Nat):List AV → List AV
 | []=>[]
 | c :: cs=>ren σ c :: renL σ cs
def renLL (σ:Nat → Nat):List (List AV) → List (List AV)
 | []=>[]
 | r :: rs=>renL σ r :: renLL σ rs
end
mutual
def okk (K:Nat → Bool):AV → Bool
 | .ref k _ _=>K k
 | .agg cs | .tup cs | .elt cs _ | .func _ cs=>okkL K cs
 | .sl rows | .slt rows=>okkLL K rows
 | _=>true
def okkL (K:Nat → Bool):List AV → Bool
 | []=>true
 | c :: cs=>okk K c && okkL K cs
def okkLL (K:Nat → Bool):List (List AV) → Bool
 | []=>true
 | r :: rs=>okkL K r && okkLL K rs
end
theorem renL_map (σ:Nat → Nat):∀ l,renL σ l = l.map (ren σ)
 | []=>rfl
 | c :: cs=>by simp [renL,renL_map σ cs]
theorem renLL_map (σ:Nat → Nat):∀ l,renLL σ l = l.map (renL σ)
 | []=>rfl
 | c :: cs=>by simp [renLL,renLL_map σ cs]
theorem renLL_flatten (σ:Nat → Nat):∀ l,(renLL σ l).flatten = renL σ l.flatten
 | []=>rfl
 | c :: cs=>by simp only [renLL,List.flatten_cons,renLL_flatten σ cs,renL_map,List.map_append]
theorem okkL_get {K:Nat → Bool}:∀ {l:List AV} {i:Nat} {a:AV},okkL K l = true → l[i]? = some a → okk K a = true
 | [],i,a,_,h=>by simp at h
 | c :: cs,0,a,h,e=>by simp only [okkL,Bool.and_eq_true] at h; simp at e; rw [← e]; exact h.1
 | c :: cs,i + 1,a,h,e=>by simp only [okkL,Bool.and_eq_true] at h; exact okkL_get h.2 (by simpa using e)
theorem okkLL_get {K:Nat → Bool}:∀ {l:List (List AV)} {i:Nat} {a:List AV},okkLL K l = true → l[i]? = some a → okkL K a = true
 | [],i,a,_,h=>by simp at h
 | c :: cs,0,a,h,e=>by simp only [okkLL,Bool.and_eq_true] at h; simp at e; rw [← e]; exact h.1
 | c :: cs,i + 1,a,h,e=>by simp only [okkLL,Bool.and_eq_true] at h; exact okkLL_get h.2 (by simpa using e)
theorem okkL_append {K:Nat → Bool}:∀ {l m:List AV},okkL K (l ++ m) = (okkL K l && okkL K m)
 | [],m=>by simp [okkL]
 | c :: cs,m=>by simp only [List.cons_append,okkL,okkL_append,Bool.and_assoc]
theorem okkLL_flatten {K:Nat → Bool}:∀ {l:List (List AV)},okkLL K l = true → okkL K l.flatten = true
 | [],_=>rfl
 | c :: cs,h=>by
  simp only [okkLL,Bool.and_eq_true] at h
  rw [List.flatten_cons,okkL_append,h.1,okkLL_flatten h.2]
  rfl
mutual
theorem ren_closed (σ:Nat → Nat):∀ {a:AV},closed a = true → ren σ a = a
 | .agg cs,h=>by simp only [closed] at h; simp only [ren,renL_closed σ h]
 | .tup cs,h=>by simp only [closed] at h; simp only [ren,renL_closed σ h]
 | .elt cs _,h=>by simp only [closed] at h; simp only [ren,renL_closed σ h]
 | .func _ cs,h=>by simp only [closed] at h; simp only [ren,renL_closed σ h]
 | .sl rows,h=>by simp only [closed] at h; simp only [ren,renLL_closed σ h]
 | .slt rows,h=>by simp only [closed] at h; simp only [ren,renLL_closed σ h]
 | .any,h=>rfl
 | .int _ _,h=>rfl
 | .bool _,h=>rfl
 | .str _,h=>rfl
 | .nils,h=>rfl
 | .nilf,h=>rfl
 | .nilp,h=>rfl
 | .yld,h=>rfl
 | .ref _ _ _,h=>by simp [closed] at h
theorem renL_closed (σ:Nat → Nat):∀ {l:List AV},closedL l = true → renL σ l = l
 | [],_=>rfl
 | c :: cs,h=>by
  simp only [closedL,Bool.and_eq_true] at h
  simp only [renL,ren_closed σ h.1,renL_closed σ h.2]
theorem renLL_closed (σ:Nat → Nat):∀ {l:List (List AV)},closedLL l = true → renLL σ l = l
 | [],_=>rfl
 | c :: cs,h=>by
  simp only [closedLL,Bool.and_eq_true] at h
  simp only [renLL,renL_closed σ h.1,renLL_closed σ h.2]
end
mutual
theorem okk_closed (K:Nat → Bool):∀ {a:AV},closed a = true → okk K a = true
 | .agg cs,h=>by simp only [closed] at h; simp only [okk,okkL_closed K h]
 | .tup cs,h=>by simp only [closed] at h; simp only [okk,okkL_closed K h]
 | .elt cs _,h=>by simp only [closed] at h; simp only [okk,okkL_closed K h]
 | .func _ cs,h=>by simp only [closed] at h; simp only [okk,okkL_closed K h]
 | .sl rows,h=>by simp only [closed] at h; simp only [okk,okkLL_closed K h]
 | .slt rows,h=>by simp only [closed] at h; simp only [okk,okkLL_closed K h]
 | .any,h=>rfl
 | .int _ _,h=>rfl
 | .bool _,h=>rfl
 | .str _,h=>rfl
 | .nils,h=>rfl
 | .nilf,h=>rfl
 | .nilp,h=>rfl
 | .yld,h=>rfl
 | .ref _ _ _,h=>by simp [closed] at h
theorem okkL_closed (K:Nat → Bool):∀ {l:List AV},closedL l = true → okkL K l = true
 | [],_=>rfl
 | c :: cs,h=>by
  simp only [closedL,Bool.and_eq_true] at h
  simp only [okkL,okk_closed K h.1,okkL_closed K h.2,Bool.and_self]
theorem okkLL_closed (K:Nat → Bool):∀ {l:List (List AV)},closedLL l = true → okkLL K l = true
 | [],_=>rfl
 | c :: cs,h=>by
  simp only [closedLL,Bool.and_eq_true] at h
  simp only [okkLL,okkL_closed K h.1,okkLL_closed K h.2,Bool.and_self]
end
theorem ren_cell (σ:Nat → Nat) (a:AV):(ren σ a).cell = a.cell:=by cases a <;> rfl
def renB (σ:Nat → Nat):Blk → Blk
 | .dead v=>.dead v
 | .box v t cells=>.box v t (renL σ cells)
 | .row v t sz rows=>.row v t sz (renLL σ rows)
 | .froz v rows=>.froz v (renLL σ rows)
 | .fbox v cells=>.fbox v (renL σ cells)
 | .obj v o=>.obj v o
def okB (K:Nat → Bool):Blk → Bool
 | .dead _ | .obj _ _=>true
 | .box _ _ cells | .fbox _ cells=>okkL K cells
 | .row _ _ _ rows | .froz _ rows=>okkLL K rows
theorem renB_ver (σ:Nat → Nat) (b:Blk):(renB σ b).ver = b.ver:=by cases b <;> rfl
theorem renB_live (σ:Nat → Nat) (b:Blk):(renB σ b).live = b.live:=by cases b <;> rfl
theorem renLL_length (σ:Nat → Nat) (l:List (List AV)):(renLL σ l).length = l.length:=by rw [renLL_map]; simp
theorem RefVal.ren (σ:Nat → Nat) (w:World) (og:Option Nat) (b:Blk) (r:RefK) (v:Value):RefVal w og (renB σ b) r v = RefVal w og b r v:=by
 cases og <;> cases b <;> cases r <;> simp only [renB,RefVal,renLL_length]
section
variable {C C2 : Ctx} {σ : Nat → Nat} {K : Nat → Bool}
structure RenOk (C C2:Ctx) (σ:Nat → Nat) (K:Nat → Bool):Prop where
 S:∀ b,C.S b → C2.S b ∧ C2.w.heap[b]? = C.w.heap[b]?
 H:∀ k,K k = true → ∀ blk,C.H k = some blk → ∃ blk2,C2.H (σ k) = some blk2 ∧ blk.ver ≤ blk2.ver ∧ (blk2.ver = blk.ver → ∀ r v,RefVal C.w (C.own k) blk r v → RefVal C2.w (C2.own (σ k)) blk2 r v)
 l:C2.l = C.l
theorem R.ren (h:RenOk C C2 σ K) {a:AV} {v:Value} (hr:R C a v):okk K a = true → R C2 (Am.ren σ a) v:=by
 induction hr with
 | any v=>exact fun _=>.any v
 | int k n=>exact fun _=>.int k n
 | bool b=>exact fun _=>.bool b
 | str s hs=>exact fun _=>.str s hs
 | agg cs vs hl _ ih=>
  intro hk
  simp only [okk] at hk
  simp only [Am.ren,renL_map]
  refine .agg _ vs (by simpa using hl) fun i a ha=>?_
  rw [List.getElem?_map] at ha
  obtain ⟨b,hb,rfl⟩:=Option.map_eq_some_iff.1 ha
  exact ih i b hb (okkL_get hk hb)
 | tup cs vs hl _ ih=>
  intro hk
  simp only [okk] at hk
  simp only [Am.ren,renL_map]
  refine .tup _ vs (by simpa using hl) fun i a ha=>?_
  rw [List.getElem?_map] at ha
  obtain ⟨b,hb,rfl⟩:=Option.map_eq_some_iff.1 ha
  exact ih i b hb (okkL_get hk hb)
 | sl rows A cap g off sz f hA hcap hmax hsz hc hone _ ih=>
  intro hk
  simp only [okk] at hk
  have el:(renLL σ rows).length = rows.length:=renLL_length σ rows
  simp only [Am.ren]
  rw [← el] at hcap hmax hc ⊢
  refine .sl _ A cap g off sz f (fun hr=>?_) hcap hmax (fun r hr=>?_) (fun i hi j hj=>?_) hone fun i r hr j a ha=>?_
  ·have hr':rows ≠ []:=fun e=>hr (by subst e; rfl)
   exact ⟨(hA hr').1,(h.S g (hA hr').2).1⟩
  ·rw [renLL_map] at hr
   obtain ⟨q,hq,rfl⟩:=List.mem_map.1 hr
   rw [renL_map,List.length_map]
   exact hsz q hq
  ·have hr':rows ≠ []:=fun e=>by subst e; simp [renLL] at hi
   exact (cell_same (h.S g (hA hr').2).2 _).trans (hc i hi j hj)
  ·rw [renLL_map,List.getElem?_map] at hr
   obtain ⟨q,hq,rfl⟩:=Option.map_eq_some_iff.1 hr
   rw [renL_map,List.getElem?_map] at ha
   obtain ⟨b,hb,rfl⟩:=Option.map_eq_some_iff.1 ha
   exact ih i q hq j b hb (okkL_get (okkLL_get hk hq) hb)
 | slt rows g off sz f hA hmax hsz hc hone _ ih=>
  intro hk
  simp only [okk] at hk
  have el:(renLL σ rows).length = rows.length:=renLL_length σ rows
  simp only [Am.ren]
  rw [← el] at hmax hc ⊢
  refine .slt _ g off sz f (h.S g hA).1 hmax (fun r hr=>?_) (fun i hi j hj=>?_) hone fun i r hr j a ha=>?_
  ·rw [renLL_map] at hr
   obtain ⟨q,hq,rfl⟩:=List.mem_map.1 hr
   rw [renL_map,List.length_map]
   exact hsz q hq
  ·exact (cell_same (h.S g hA).2 _).trans (hc i hi j hj)
  ·rw [renLL_map,List.getElem?_map] at hr
   obtain ⟨q,hq,rfl⟩:=Option.map_eq_some_iff.1 hr
   rw [renL_map,List.getElem?_map] at ha
   obtain ⟨b,hb,rfl⟩:=Option.map_eq_some_iff.1 ha
   exact ih i q hq j b hb (okkL_get (okkLL_get hk hq) hb)
 | nils=>exact fun _=>.nils
 | elt row off g o f hA hc hone _ ih=>
  intro hk
  simp only [okk] at hk
  simp only [Am.ren,renL_map]
  refine .elt _ off g o f (h.S g hA).1 (fun j hj=>?_) hone fun j a ha=>?_
  ·rw [List.length_map] at hj
   exact (cell_same (h.S g hA).2 _).trans (hc j hj)
  ·rw [List.getElem?_map] at ha
   obtain ⟨b,hb,rfl⟩:=Option.map_eq_some_iff.1 ha
   exact ih j b hb (okkL_get hk hb)
 | ref key ver r blk v hb hv hone hr=>
  intro hk
  simp only [okk] at hk
  obtain ⟨blk',hb',hv',hr'⟩:=h.H key hk blk hb
  refine .ref (σ key) ver r blk' v hb' (Nat.le_trans hv hv') hone fun e=>?_
  have e1:blk'.ver = blk.ver:=by omega
  exact hr' e1 r v (hr (by omega))
 | func f cs vs hl _ ih=>
  intro hk
  simp only [okk] at hk
  simp only [Am.ren,renL_map]
  refine .func f _ vs (by simpa using hl) fun i a ha=>?_
  rw [List.getElem?_map] at ha
  obtain ⟨b,hb,rfl⟩:=Option.map_eq_some_iff.1 ha
  exact ih i b hb (okkL_get hk hb)
 | nilf=>exact fun _=>.nilf
 | nilp=>exact fun _=>.nilp
 | yld=>intro _; rw [← h.l]; exact .yld
theorem Holds.ren (h:RenOk C C2 σ K) {cs:Array Value} {cells:List AV} (hh:Holds C cs cells) (hk:okkL K cells = true):Holds C2 cs (renL σ cells):=fun i a ha=>by
 rw [renL_map,List.getElem?_map] at ha
 obtain ⟨b,hb,rfl⟩:=Option.map_eq_some_iff.1 ha
 obtain ⟨v,h1,h2,h3⟩:=hh i b hb
 exact ⟨v,h1,h2.ren h (okkL_get hk hb),by rw [ren_cell]; exact h3⟩
theorem HRel.ren (h:RenOk C C2 σ K) {og:Option Nat} {blk:Blk} (hg:∀ g,og = some g → blk.live = true → C2.w.heap[g]? = C.w.heap[g]?) (hh:HRel C og blk) (hk:okB K blk = true):HRel C2 og (renB σ blk):=by
 cases og with
 | none=>
  cases blk with
  | dead _=>trivial
  | box v t cells=>exact hh.elim
  | fbox v cells=>exact hh.elim
  | obj v ob=>exact hh.elim
  | row v t sz rows=>
   obtain ⟨rfl,h2⟩:=hh
   exact ⟨rfl,h2⟩
  | froz v rows=>
   have e:rows = []:=hh
   subst e
   exact rfl
 | some g=>
  cases blk with
  | dead _=>trivial
  | box ver t cells=>
   obtain ⟨cs,h1,h2,h3⟩:=hh
   exact ⟨cs,(hg g rfl rfl).trans h1,by rw [renL_map,List.length_map]; exact h2,h3.ren h hk⟩
  | row ver t sz rows=>
   obtain ⟨cs,cap,h1,h2,h3,h4,h5,h6,h7⟩:=hh
   refine ⟨cs,cap,(hg g rfl rfl).trans h1,h2,by rw [renLL_length]; exact h3,h4,h5,fun r hr=>?_,?_⟩
   ·rw [renLL_map] at hr
    obtain ⟨q,hq,rfl⟩:=List.mem_map.1 hr
    rw [renL_map,List.length_map]
    exact h6 q hq
   ·rw [renLL_flatten]; exact h7.ren h (okkLL_flatten hk)
  | froz ver rows=>
   obtain ⟨cs,t,sz,h1,h2,h3,h4,h5⟩:=hh
   refine ⟨cs,t,sz,(h.S g h2).2.trans h1,(h.S g h2).1,h3,fun r hr=>?_,?_⟩
   ·rw [renLL_map] at hr
    obtain ⟨q,hq,rfl⟩:=List.mem_map.1 hr
    rw [renL_map,List.length_map]
    exact h4 q hq
   ·rw [renLL_flatten]; exact h5.ren h (okkLL_flatten hk)
  | fbox ver cells=>
   obtain ⟨cs,t,h1,h2,h3⟩:=hh
   exact ⟨cs,t,(h.S g h2).2.trans h1,(h.S g h2).1,h3.ren h hk⟩
  | obj ver ob=>
   obtain ⟨o,h1,h2⟩:=hh
   exact ⟨o,(hg g rfl rfl).trans h1,h2⟩
end
def lookB:List (Nat × Blk) → Nat → Option Blk
 | [],_=>none
 | (i,v) :: l,j=>if i = j then some v else lookB l j
def hls (l:List (Nat × Blk)) (vs:Nat → Nat):Heap:=fun k=>match lookB l k with
 | some b=>some b
 | none=>some (.dead (vs k))
theorem hls_some {l:List (Nat × Blk)} {vs:Nat → Nat} {k:Nat} {b:Blk} (h:lookB l k = some b):hls l vs k = some b:=by simp [hls,h]
theorem hls_none {l:List (Nat × Blk)} {vs:Nat → Nat} {k:Nat} (h:lookB l k = none):hls l vs k = some (.dead (vs k)):=by simp [hls,h]
theorem hls_live {l:List (Nat × Blk)} {vs:Nat → Nat} {k:Nat} {b:Blk} (h:hls l vs k = some b) (hv:b.live = true):lookB l k = some b:=by
 unfold hls at h
 split at h
 ·rename_i b' e; rw [e,← h]
 ·cases h; cases hv
def keys (l:List (Nat × Blk)):List Nat:=l.map (·.1)
theorem lookB_mem {l:List (Nat × Blk)} {k:Nat} {b:Blk} (h:lookB l k = some b):(k,b) ∈ l:=by
 induction l with
 | nil=>cases h
 | cons p r ih=>
  obtain ⟨j,v⟩:=p
  unfold lookB at h
  by_cases e:j = k
  ·subst e; rw [if_pos rfl] at h; cases h; simp
  ·rw [if_neg e] at h; simp [ih h]
theorem lookB_key {l:List (Nat × Blk)} {k:Nat} {b:Blk} (h:lookB l k = some b):k ∈ keys l:=List.mem_map_of_mem (f:=(·.1)) (lookB_mem h)
theorem lookB_none {l:List (Nat × Blk)} {k:Nat} (h:k ∉ keys l):lookB l k = none:=by
 cases e:lookB l k with
 | none=>rfl
 | some b=>exact (h (lookB_key e)).elim
theorem lookB_of_key {l:List (Nat × Blk)} {k:Nat} (h:k ∈ keys l):∃ b,lookB l k = some b:=by
 induction l with
 | nil=>simp [keys] at h
 | cons p r ih=>
  obtain ⟨j,v⟩:=p
  unfold lookB
  by_cases e:j = k
  ·exact ⟨v,by rw [if_pos e]⟩
  ·rw [if_neg e]
   refine ih ?_
   simp only [keys,List.map_cons,List.mem_cons] at h
   exact h.resolve_left fun h=>e h.symm
def LiveC (C:Ctx) (b:Nat):Prop:=∃ k blk,C.H k = some blk ∧ blk.live = true ∧ C.own k = some b
structure HOk (C:Ctx):Prop where
 hS:∀ b,C.S b → b < C.w.heap.size
 hown:∀ k blk g,C.H k = some blk → blk.live = true → C.own k = some g → g < C.w.heap.size ∧ ¬ C.S g
 inj:∀ k k' blk blk' g,C.H k = some blk → C.H k' = some blk' → blk.live = true → blk'.live = true → C.own k = some g → C.own k' = some g → k = k'
 heap:∀ k blk,C.H k = some blk → HRel C (C.own k) blk
structure HTr (C C':Ctx):Prop where
 le:C.le C'
 grows:Grows C.w C'.w (LiveC C)
 hS:∀ b,C'.S b → C.S b ∨ LiveC C b ∨ C.w.heap.size ≤ b
 hown:∀ k blk g,C'.H k = some blk → blk.live = true → C'.own k = some g → LiveC C g ∨ C.w.heap.size ≤ g
structure HSpec (P:Program) (f:FuncId) (args:List AV) (H:Heap) (Q:AV → Heap → Prop):Prop where
 enters:Enters P f
 calls:∀ (C:Ctx) (vs:List Value),C.H = H → HOk C → RL C args vs → CallsIn (FW none) 0 P f vs.toArray C.w fun e w'=>∃ v r C',e = .returned v ∧ C'.w = w' ∧ HOk C' ∧ HTr C C' ∧ R C' r v ∧ Q r C'.H
def HSpecL (P:Program) (f:FuncId) (args:List AV) (l:List (Nat × Blk)) (Q:AV → List (Nat × Blk) → Prop):Prop:=
 ∀ vs,HSpec P f args (hls l vs) fun r H'=>∃ l' vs',H' = hls l' vs' ∧ Q r l'
theorem HSpec.mono {P:Program} {f:FuncId} {args:List AV} {H:Heap} {Q Q':AV → Heap → Prop} (h:HSpec P f args H Q) (hq:∀ r H',Q r H' → Q' r H'):HSpec P f args H Q':=
 ⟨h.enters,fun C vs hH hC hR=>(h.calls C vs hH hC hR).mono fun e w' ⟨v,r,C',h1,h2,h3,h4,h5,h6⟩=>⟨v,r,C',h1,h2,h3,h4,h5,hq _ _ h6⟩⟩
theorem HSpecL.mono {P:Program} {f:FuncId} {args:List AV} {l:List (Nat × Blk)} {Q Q':AV → List (Nat × Blk) → Prop} (h:HSpecL P f args l Q) (hq:∀ r l',Q r l' → Q' r l'):HSpecL P f args l Q':=
 fun vs=>(h vs).mono fun r H' ⟨l',vs',h1,h2⟩=>⟨l',vs',h1,hq _ _ h2⟩
def asc:List (Nat × Nat) → Nat → Nat
 | [],k=>k
 | (a,b) :: r,k=>if a = k then b else asc r k
def csa:List (Nat × Nat) → Nat → Nat
 | [],k=>k
 | (a,b) :: r,k=>if b = k then a else csa r k
theorem asc_mem {ks:List (Nat × Nat)} (hn:(ks.map (·.1)).Nodup) {p:Nat × Nat} (h:p ∈ ks):asc ks p.1 = p.2:=by
 induction ks with
 | nil=>simp at h
 | cons q r ih=>
  obtain ⟨a,b⟩:=q
  unfold asc
  rcases List.mem_cons.1 h with rfl | h
  ·simp
  ·have hn':=List.nodup_cons.1 hn
   have:a ≠ p.1:=fun e=>hn'.1 (e ▸ List.mem_map_of_mem (f:=(·.1)) h)
   rw [if_neg this]
   exact ih hn'.2 h
theorem csa_mem {ks:List (Nat × Nat)} (hn:(ks.map (·.2)).Nodup) {p:Nat × Nat} (h:p ∈ ks):csa ks p.2 = p.1:=by
 induction ks with
 | nil=>simp at h
 | cons q r ih=>
  obtain ⟨a,b⟩:=q
  unfold csa
  rcases List.mem_cons.1 h with rfl | h
  ·simp
  ·have hn':=List.nodup_cons.1 hn
   have:b ≠ p.2:=fun e=>hn'.1 (e ▸ List.mem_map_of_mem (f:=(·.2)) h)
   rw [if_neg this]
   exact ih hn'.2 h
def inK (l:List Nat) (k:Nat):Bool:=l.contains k
theorem inK_iff {l:List Nat} {k:Nat}:inK l k = true ↔ k ∈ l:=by simp [inK]
def lentL (L:List (Nat × Blk)) (ks lent:List (Nat × Nat)):List (Nat × Blk):=lent.map fun p=>(p.2,renB (asc ks) ((lookB L p.1).getD (.dead 0)))
def dropK (ks:List Nat):List (Nat × Blk) → List (Nat × Blk)
 | []=>[]
 | (k,b) :: r=>if inK ks k = true then dropK ks r else (k,b) :: dropK ks r
def backL (ks:List (Nat × Nat)) (l:List (Nat × Blk)):List (Nat × Blk):=l.map fun p=>(csa ks p.1,renB (csa ks) p.2)
theorem lookB_dropK {ks:List Nat} {L:List (Nat × Blk)} {k:Nat}:lookB (dropK ks L) k = if k ∈ ks then none else lookB L k:=by
 induction L with
 | nil=>simp [dropK,lookB]
 | cons p r ih=>
  obtain ⟨j,v⟩:=p
  unfold dropK
  by_cases hj:inK ks j = true
  ·rw [if_pos hj,ih]
   by_cases hk:k ∈ ks
   ·simp [hk]
   ·have:j ≠ k:=fun e=>hk (e ▸ inK_iff.1 hj)
    simp [hk,lookB,this]
  ·rw [if_neg hj]
   unfold lookB
   by_cases e:j = k
   ·subst e
    have:j ∉ ks:=fun h=>hj (inK_iff.2 h)
    simp [this]
   ·rw [if_neg e,if_neg e,ih]
theorem lookB_append (l l':List (Nat × Blk)) (k:Nat):lookB (l ++ l') k = (lookB l k).or (lookB l' k):=by
 induction l with
 | nil=>simp [lookB]
 | cons p r ih=>
  obtain ⟨j,v⟩:=p
  show (if j = k then some v else lookB (r ++ l') k) = (if j = k then some v else lookB r k).or _
  by_cases e:j = k
  ·simp [e]
  ·simp [e,ih]
section
variable {ks lent : List (Nat × Nat)} (h1 : (ks.map (·.1)).Nodup) (h2 : (ks.map (·.2)).Nodup)
include h1 h2
theorem csa_asc {k:Nat} (h:k ∈ ks.map (·.1)):csa ks (asc ks k) = k:=by
 obtain ⟨p,hp,rfl⟩:=List.mem_map.1 h
 rw [asc_mem h1 hp,csa_mem h2 hp]
theorem asc_csa {k:Nat} (h:k ∈ ks.map (·.2)):asc ks (csa ks k) = k:=by
 obtain ⟨p,hp,rfl⟩:=List.mem_map.1 h
 rw [csa_mem h2 hp,asc_mem h1 hp]
theorem csa_in {k:Nat} (h:k ∈ ks.map (·.2)):csa ks k ∈ ks.map (·.1):=by
 obtain ⟨p,hp,rfl⟩:=List.mem_map.1 h
 rw [csa_mem h2 hp]
 exact List.mem_map_of_mem (f:=(·.1)) hp
theorem asc_in {k:Nat} (h:k ∈ ks.map (·.1)):asc ks k ∈ ks.map (·.2):=by
 obtain ⟨p,hp,rfl⟩:=List.mem_map.1 h
 rw [asc_mem h1 hp]
 exact List.mem_map_of_mem (f:=(·.2)) hp
theorem lookB_backL {l:List (Nat × Blk)} (hk:∀ k ∈ keys l,k ∈ ks.map (·.2)) {kc:Nat} (hc:kc ∈ ks.map (·.1)):lookB (backL ks l) kc = (lookB l (asc ks kc)).map (renB (csa ks)):=by
 induction l with
 | nil=>rfl
 | cons p r ih=>
  obtain ⟨j,v⟩:=p
  have hj:j ∈ ks.map (·.2):=hk j (by simp [keys])
  have ih:=ih fun k h=>hk k (by simp only [keys,List.map_cons,List.mem_cons]; exact .inr h)
  show (if csa ks j = kc then some (renB (csa ks) v) else lookB (backL ks r) kc) = (if j = asc ks kc then some v else lookB r (asc ks kc)).map _
  by_cases e:csa ks j = kc
  ·have:j = asc ks kc:=by rw [← e,asc_csa h1 h2 hj]
   rw [if_pos e,if_pos this]; rfl
  ·have:j ≠ asc ks kc:=fun e2=>e (by rw [e2,csa_asc h1 h2 hc])
   rw [if_neg e,if_neg this]; exact ih
theorem lookB_backL_none {l:List (Nat × Blk)} (hk:∀ k ∈ keys l,k ∈ ks.map (·.2)) {kc:Nat} (hc:kc ∉ ks.map (·.1)):lookB (backL ks l) kc = none:=by
 refine lookB_none fun h=>hc ?_
 simp only [keys,backL,List.map_map] at h
 obtain ⟨p,hp,rfl⟩:=List.mem_map.1 h
 exact csa_in h1 h2 (hk p.1 (List.mem_map_of_mem (f:=(·.1)) hp))
end
theorem lookB_lentL {L:List (Nat × Blk)} {ks:List (Nat × Nat)}:∀ {lent:List (Nat × Nat)},(lent.map (·.2)).Nodup → ∀ {p:Nat × Nat},p ∈ lent → lookB (lentL L ks lent) p.2 = some (renB (asc ks) ((lookB L p.1).getD (.dead 0)))
 | [],_,p,hp=>by simp at hp
 | q :: r,hn,p,hp=>by
  have hn':=List.nodup_cons.1 hn
  show (if q.2 = p.2 then some _ else lookB (lentL L ks r) p.2) = _
  rcases List.mem_cons.1 hp with rfl | hp
  ·rw [if_pos rfl]
  ·have:q.2 ≠ p.2:=fun e=>hn'.1 (by show q.2 ∈ _; rw [e]; exact List.mem_map_of_mem (f:=(·.2)) hp)
   rw [if_neg this]
   exact lookB_lentL hn'.2 hp
theorem keys_lentL {L:List (Nat × Blk)} {ks lent:List (Nat × Nat)}:keys (lentL L ks lent) = lent.map (·.2):=by simp [keys,lentL]
def ver0 (H:Heap) (k:Nat):Nat:=match H k with | some b=>b.ver | none=>0
section
variable {E : Env} {s : St} {a : Act} {w : World} {S : Nat → Prop} {own : Nat → Option Nat} {C D : Nat → Prop} {Ds : List Nat}
def lendC (E:Env) (L:List (Nat × Blk)) (VS:Nat → Nat) (w:World) (S:Nat → Prop) (own:Nat → Option Nat) (ks lent:List (Nat × Nat)):Ctx:=
 ⟨hls (lentL L ks lent) (fun k=>ver0 (hls L VS) (csa ks k)),fun k=>if k ∈ lent.map (·.2) then own (csa ks k) else none,S,w,E.l⟩
theorem lendC_H (E:Env) (L:List (Nat × Blk)) (VS:Nat → Nat) (w:World) (S:Nat → Prop) (own:Nat → Option Nat) (ks lent:List (Nat × Nat)) (k:Nat) :
  (lendC E L VS w S own ks lent).H k = hls (lentL L ks lent) (fun k=>ver0 (hls L VS) (csa ks k)) k:=rfl
theorem lendC_own (E:Env) (L:List (Nat × Blk)) (VS:Nat → Nat) (w:World) (S:Nat → Prop) (own:Nat → Option Nat) (ks lent:List (Nat × Nat)) (k:Nat) :
  (lendC E L VS w S own ks lent).own k = if k ∈ lent.map (·.2) then own (csa ks k) else none:=rfl
theorem RelAt.lendDown (h:RelAt E s a w S own C D Ds) {L:List (Nat × Blk)} {VS:Nat → Nat} (hH:∀ k b,lookB L k = some b → s.H k = some b) {lent nw:List (Nat × Nat)}
  (h1:((lent ++ nw).map (·.1)).Nodup) (h2:((lent ++ nw).map (·.2)).Nodup) (hin:∀ p ∈ lent,p.1 ∈ keys L) (hok:∀ p ∈ lent,∀ b,lookB L p.1 = some b → okB (inK (lent.map (·.1))) b = true) :
  HOk (lendC E L VS w S own (lent ++ nw) lent) ∧ RenOk (ctx E s w S own) (lendC E L VS w S own (lent ++ nw) lent) (asc (lent ++ nw)) (inK (lent.map (·.1))):=by
 have hn2:(lent.map (·.2)).Nodup:=by
  rw [List.map_append] at h2
  exact (List.nodup_append.1 h2).1
 have hren:RenOk (ctx E s w S own) (lendC E L VS w S own (lent ++ nw) lent) (asc (lent ++ nw)) (inK (lent.map (·.1))):=by
  refine ⟨fun b hb=>⟨hb,rfl⟩,fun k hk blk hb=>?_,rfl⟩
  obtain ⟨p,hp,rfl⟩:=List.mem_map.1 (inK_iff.1 hk)
  have hp':p ∈ lent ++ nw:=List.mem_append_left _ hp
  have hb:s.H p.1 = some blk:=hb
  obtain ⟨b0,hb0⟩:=lookB_of_key (hin p hp)
  rw [hH _ _ hb0] at hb
  cases hb
  rw [asc_mem h1 hp']
  refine ⟨renB (asc (lent ++ nw)) blk,?_,?_,fun _ r v hr=>?_⟩
  ·rw [lendC_H,hls_some (lookB_lentL hn2 hp),hb0]; rfl
  ·rw [renB_ver]; exact Nat.le_refl _
  ·rw [RefVal.ren]
   rw [lendC_own,if_pos (List.mem_map_of_mem (f:=(·.2)) hp),csa_mem h2 hp']
   exact hr
 have hlk:∀ k blk,hls (lentL L (lent ++ nw) lent) (fun k=>ver0 (hls L VS) (csa (lent ++ nw) k)) k = some blk → (∃ v,blk = .dead v) ∨ ∃ p ∈ lent,p.2 = k ∧ ∃ b,lookB L p.1 = some b ∧ blk = renB (asc (lent ++ nw)) b:=fun k blk hk=>by
  by_cases hm:k ∈ lent.map (·.2)
  ·obtain ⟨p,hp,rfl⟩:=List.mem_map.1 hm
   obtain ⟨b0,hb0⟩:=lookB_of_key (hin p hp)
   rw [hls_some (lookB_lentL hn2 hp),hb0] at hk
   cases hk
   exact .inr ⟨p,hp,rfl,b0,hb0,rfl⟩
  ·rw [hls_none (lookB_none (by rw [keys_lentL]; exact hm))] at hk
   cases hk
   exact .inl ⟨_,rfl⟩
 have hown:∀ p ∈ lent,(lendC E L VS w S own (lent ++ nw) lent).own p.2 = own p.1:=fun p hp=>by
  rw [lendC_own,if_pos (List.mem_map_of_mem (f:=(·.2)) hp),csa_mem h2 (List.mem_append_left _ hp)]
 refine ⟨⟨fun b hb=>(h.hS b hb).1,fun k blk g hk hl e=>?_,fun k k' blk blk' g hk hk' hl hl' e e'=>?_,fun k blk hk=>?_⟩,hren⟩
 ·rcases hlk k blk hk with ⟨v,rfl⟩ | ⟨p,hp,rfl,b,hb,rfl⟩
  ·cases hl
  ·rw [hown p hp] at e
   obtain ⟨q1,q2,_⟩:=h.hown p.1 b g (hH _ _ hb) (by rw [← hl,renB_live]) e
   exact ⟨q1,q2⟩
 ·rcases hlk k blk hk with ⟨v,rfl⟩ | ⟨p,hp,rfl,b,hb,rfl⟩
  ·cases hl
  rcases hlk k' blk' hk' with ⟨v,rfl⟩ | ⟨p',hp',rfl,b',hb',rfl⟩
  ·cases hl'
  rw [hown p hp] at e
  rw [hown p' hp'] at e'
  have:=h.inj p.1 p'.1 b b' g (hH _ _ hb) (hH _ _ hb') (by rw [← hl,renB_live]) (by rw [← hl',renB_live]) e e'
  rw [← asc_mem h1 (List.mem_append_left nw hp),← asc_mem h1 (List.mem_append_left nw hp'),this]
 ·rcases hlk k blk hk with ⟨v,rfl⟩ | ⟨p,hp,rfl,b,hb,rfl⟩
  ·cases (lendC E L VS w S own (lent ++ nw) lent).own k <;> exact trivial
  ·rw [hown p hp]
   exact (h.heap p.1 b (hH _ _ hb)).ren hren (fun _ _ _=>rfl) (hok p hp b hb)
def backH (ks:List (Nat × Nat)) (H1 H:Heap):Heap:=fun k=>if k ∈ ks.map (·.1) then (H1 (asc ks k)).map (renB (csa ks)) else H k
theorem RelAt.lendUp0 (h:RelAt E s a w S own C D Ds) (hJ:JOk E.J) {L:List (Nat × Blk)} {VS:Nat → Nat} (hH:∀ k b,lookB L k = some b → s.H k = some b) (hV:∀ k,ver0 (hls L VS) k = ver0 s.H k) {lent nw:List (Nat × Nat)}
  (h1:((lent ++ nw).map (·.1)).Nodup) (h2:((lent ++ nw).map (·.2)).Nodup) (hin:∀ p ∈ lent,p.1 ∈ keys L)
  {C':Ctx} (ht:HTr (lendC E L VS w S own (lent ++ nw) lent) C') (hok':HOk C') {l':List (Nat × Blk)} {vs':Nat → Nat} (hH':C'.H = hls l' vs') (hk':∀ k ∈ keys l',k ∈ (lent ++ nw).map (·.2))
  (hb':∀ p ∈ l',okB (inK (keys l')) p.2 = true) :
  ∃ own'',RelAt E { s with H:=backH (lent ++ nw) (hls l' vs') s.H } a C'.w C'.S own'' C D Ds ∧
   RenOk C' ⟨backH (lent ++ nw) (hls l' vs') s.H,own'',C'.S,C'.w,E.l⟩ (csa (lent ++ nw)) (inK (keys l')) ∧
   (ctx E s w S own).le ⟨backH (lent ++ nw) (hls l' vs') s.H,own'',C'.S,C'.w,E.l⟩:=by
 obtain ⟨ks,hks⟩:∃ ks,ks = lent ++ nw:=⟨_,rfl⟩
 rw [← hks] at h1 h2 ht hk' ⊢
 have hn2:(lent.map (·.2)).Nodup:=by
  rw [hks,List.map_append] at h2
  exact (List.nodup_append.1 h2).1
 have hsub:∀ p ∈ lent,p ∈ ks:=fun p hp=>by rw [hks]; exact List.mem_append_left _ hp
 let own'':Nat → Option Nat:=fun k=>if k ∈ ks.map (·.1) then C'.own (asc ks k) else own k
 let H'':Heap:=backH ks (hls l' vs') s.H
 have eC:∀ k,k ∈ ks.map (·.1) → H'' k = (C'.H (asc ks k)).map (renB (csa ks)):=fun k hk=>by
  show (if k ∈ ks.map (·.1) then _ else _) = _
  rw [if_pos hk,hH']
 have eO:∀ k,k ∉ ks.map (·.1) → H'' k = s.H k:=fun k hk=>if_neg hk
 have oC:∀ k,k ∈ ks.map (·.1) → own'' k = C'.own (asc ks k):=fun k hk=>if_pos hk
 have oO:∀ k,k ∉ ks.map (·.1) → own'' k = own k:=fun k hk=>if_neg hk
  -- the callee's live blocks are lent ones
 have hLive:∀ b,LiveC (lendC E L VS w S own ks lent) b → ∃ k blk,k ∈ ks.map (·.1) ∧ s.H k = some blk ∧ blk.live = true ∧ own k = some b:=by
  rintro b ⟨k,blk,hk,hl,e⟩
  rw [lendC_H] at hk
  rw [lendC_own] at e
  have hm:k ∈ lent.map (·.2):=by
   rw [← keys_lentL (L:=L) (ks:=ks)]
   exact lookB_key (hls_live hk hl)
  obtain ⟨p,hp,rfl⟩:=List.mem_map.1 hm
  rw [if_pos hm,csa_mem h2 (hsub p hp)] at e
  have hk2:=hls_live hk hl
  rw [lookB_lentL hn2 hp] at hk2
  obtain ⟨b0,hb0⟩:=lookB_of_key (hin p hp)
  rw [hb0] at hk2
  cases hk2
  exact ⟨p.1,b0,List.mem_map_of_mem (f:=(·.1)) (hsub p hp),hH _ _ hb0,by rw [← hl]; exact (renB_live _ _).symm,e⟩
 have hLin:∀ b,LiveC (lendC E L VS w S own ks lent) b → b < w.heap.size ∧ ¬ S b ∧ ¬ D b ∧ (E.X0 b ∨ E.w0.heap.size ≤ b):=fun b hb=>by
  obtain ⟨k,blk,_,q2,q3,q4⟩:=hLive b hb
  exact h.hown k blk b q2 q3 q4
 have hother:∀ k blk g,k ∉ ks.map (·.1) → s.H k = some blk → blk.live = true → own k = some g → ¬ LiveC (lendC E L VS w S own ks lent) g:=fun k blk g hk hb hl e hL=>by
  obtain ⟨k2,blk2,q1,q2,q3,q4⟩:=hLive g hL
  exact hk (h.inj k k2 blk blk2 g hb q2 hl q3 e q4 ▸ q1)
 have hgr:Grows w C'.w (LiveC (lendC E L VS w S own ks lent)):=ht.grows
 have hle:(ctx E s w S own).le ⟨H'',own'',C'.S,C'.w,E.l⟩:=by
  refine ⟨fun b hb=>ht.le.S b hb,fun k blk hk=>?_,rfl⟩
  have hk:s.H k = some blk:=hk
  by_cases hm:k ∈ ks.map (·.1)
  ·obtain ⟨blk0,hb0,hv0,hr0⟩:∃ blk0,(lendC E L VS w S own ks lent).H (asc ks k) = some blk0 ∧ blk0.ver = blk.ver ∧ ∀ r v,RefVal w (own k) blk r v → RefVal w ((lendC E L VS w S own ks lent).own (asc ks k)) blk0 r v:=by
    by_cases hml:asc ks k ∈ lent.map (·.2)
    ·obtain ⟨p,hp,e⟩:=List.mem_map.1 hml
     have ek:p.1 = k:=by rw [← csa_asc h1 h2 hm,← e,csa_mem h2 (hsub p hp)]
     obtain ⟨b0,hb0⟩:=lookB_of_key (hin p hp)
     have:b0 = blk:=by
      rw [← ek,hH _ _ hb0] at hk
      exact Option.some.inj hk
     subst this
     refine ⟨renB (asc ks) b0,?_,renB_ver _ _,fun r v hr=>?_⟩
     ·rw [← e,lendC_H,hls_some (lookB_lentL hn2 hp),hb0]; rfl
     ·rw [RefVal.ren,lendC_own,if_pos hml,csa_asc h1 h2 hm]
      exact hr
    ·refine ⟨.dead (ver0 (hls L VS) (csa ks (asc ks k))),(by rw [lendC_H]; exact hls_none (lookB_none (by rw [keys_lentL]; exact hml))),?_,fun r v _=>?_⟩
     ·show ver0 (hls L VS) (csa ks (asc ks k)) = blk.ver
      rw [csa_asc h1 h2 hm,hV]
      unfold ver0
      rw [hk]
     ·cases (lendC E L VS w S own ks lent).own (asc ks k) <;> exact trivial
   obtain ⟨blk1,hb1,hv1,hr1⟩:=ht.le.H (asc ks k) blk0 hb0
   refine ⟨renB (csa ks) blk1,?_,?_,fun e r v hr=>?_⟩
   ·show H'' k = _
    rw [eC k hm,hb1]; rfl
   ·rw [renB_ver,← hv0]; exact hv1
   ·rw [renB_ver] at e
    rw [RefVal.ren]
    show RefVal C'.w (own'' k) blk1 r v
    rw [oC k hm]
    exact hr1 (by omega) r v (hr0 r v hr)
  ·refine ⟨blk,(eO k hm).trans hk,Nat.le_refl _,fun _ r v hr=>?_⟩
   show RefVal C'.w (own'' k) blk r v
   rw [oO k hm]
   exact hr.same fun g e hl=>hgr.block g (h.hown k blk g hk hl e).1 (hother k blk g hm hk hl e)
 have hren:RenOk C' ⟨H'',own'',C'.S,C'.w,E.l⟩ (csa ks) (inK (keys l')):=by
  refine ⟨fun b hb=>⟨hb,rfl⟩,fun k hk blk hb=>?_,by have:=ht.le.l; exact this.symm⟩
  have hm:=hk' k (inK_iff.1 hk)
  refine ⟨renB (csa ks) blk,?_,by rw [renB_ver]; exact Nat.le_refl _,fun _ r v hr=>?_⟩
  ·show H'' (csa ks k) = _
   rw [eC _ (csa_in h1 h2 hm),asc_csa h1 h2 hm,hb]; rfl
  ·rw [RefVal.ren]
   show RefVal C'.w (own'' (csa ks k)) blk r v
   rw [oC _ (csa_in h1 h2 hm),asc_csa h1 h2 hm]
   exact hr
 have hS3:∀ b,C'.S b → S b ∨ (b < w.heap.size ∧ ¬ S b ∧ ¬ D b ∧ (E.X0 b ∨ E.w0.heap.size ≤ b) ∧ LiveC (lendC E L VS w S own ks lent) b) ∨ w.heap.size ≤ b:=fun b hb=>by
  rcases ht.hS b hb with q | q | q
  ·exact .inl q
  ·obtain ⟨a1,a2,a3,a4⟩:=hLin b q
   exact .inr (.inl ⟨a1,a2,a3,a4,q⟩)
  ·exact .inr (.inr q)
 have hw0:=h.fr.size
 have hcase:∀ k blk g,k ∈ ks.map (·.1) → H'' k = some blk → blk.live = true → own'' k = some g → ∃ blk1,C'.H (asc ks k) = some blk1 ∧ blk1.live = true ∧ C'.own (asc ks k) = some g:=fun k blk g hm hk hl e=>by
  rw [eC k hm] at hk
  obtain ⟨b1,hb1,rfl⟩:=Option.map_eq_some_iff.1 hk
  rw [oC k hm] at e
  exact ⟨b1,hb1,by rw [← hl,renB_live],e⟩
 refine ⟨own'',?_,hren,hle⟩
 exact {
  fr:=h.fr.grows hgr fun b hb=>(hLin b hb).2.2.2
  hS:=fun b hb=>by
   refine ⟨hok'.hS b hb,?_⟩
   rcases hS3 b hb with q | ⟨a1,a2,a3,a4,_⟩ | q
   ·exact (h.hS b q).2
   ·exact ⟨fun hc=>a3 (h.hC b hc).1,.inr a4⟩
   ·exact ⟨fun hc=>absurd (h.hD b (h.hC b hc).1) (by omega),.inr (.inr (by omega))⟩
  hS0:=fun b hb=>(ht.le.S b (h.hS0 b hb)).1
  hC:=h.hC
  hD:=fun b hb=>Nat.lt_of_lt_of_le (h.hD b hb) hgr.size
  j:=hJ _ _ _ _ _ h.j (fun b hb=>hgr.block b (h.hD b hb) fun hl=>(hLin b hl).2.2.1 hb) hgr.size hgr.os hgr.tape hgr.output
  hown:=fun k blk g hk hl e=>by
   have hk:H'' k = some blk:=hk
   by_cases hm:k ∈ ks.map (·.1)
   ·obtain ⟨blk1,q1,q2,q3⟩:=hcase k blk g hm hk hl e
    obtain ⟨b1,b2⟩:=hok'.hown _ blk1 g q1 q2 q3
    rcases ht.hown _ blk1 g q1 q2 q3 with q | q
    ·obtain ⟨a1,a2,a3,a4⟩:=hLin g q
     exact ⟨b1,b2,a3,a4⟩
    ·have q:w.heap.size ≤ g:=q
     exact ⟨b1,b2,fun hd=>absurd (h.hD g hd) (by omega),.inr (by omega)⟩
   ·rw [eO k hm] at hk
    rw [oO k hm] at e
    obtain ⟨a1,a2,a3,a4⟩:=h.hown k blk g hk hl e
    refine ⟨Nat.lt_of_lt_of_le a1 hgr.size,fun hs=>?_,a3,a4⟩
    rcases hS3 g hs with q | ⟨_,_,_,_,q⟩ | q
    ·exact a2 q
    ·exact hother k blk g hm hk hl e q
    ·omega
  inj:=fun k k' blk blk' g hk hk' hl hl' e e'=>by
   have hk:H'' k = some blk:=hk
   have hk':H'' k' = some blk':=hk'
   by_cases hm:k ∈ ks.map (·.1) <;> by_cases hm':k' ∈ ks.map (·.1)
   ·obtain ⟨b1,q1,q2,q3⟩:=hcase k blk g hm hk hl e
    obtain ⟨b2,p1,p2,p3⟩:=hcase k' blk' g hm' hk' hl' e'
    have:=hok'.inj _ _ b1 b2 g q1 p1 q2 p2 q3 p3
    rw [← csa_asc h1 h2 hm,← csa_asc h1 h2 hm',this]
   ·exfalso
    obtain ⟨b1,q1,q2,q3⟩:=hcase k blk g hm hk hl e
    rw [eO k' hm'] at hk'
    rw [oO k' hm'] at e'
    rcases ht.hown _ b1 g q1 q2 q3 with q | q
    ·exact hother k' blk' g hm' hk' hl' e' q
    ·have q:w.heap.size ≤ g:=q
     have:=(h.hown k' blk' g hk' hl' e').1; omega
   ·exfalso
    obtain ⟨b1,q1,q2,q3⟩:=hcase k' blk' g hm' hk' hl' e'
    rw [eO k hm] at hk
    rw [oO k hm] at e
    rcases ht.hown _ b1 g q1 q2 q3 with q | q
    ·exact hother k blk g hm hk hl e q
    ·have q:w.heap.size ≤ g:=q
     have:=(h.hown k blk g hk hl e).1; omega
   ·rw [eO k hm] at hk
    rw [oO k hm] at e
    rw [eO k' hm'] at hk'
    rw [oO k' hm'] at e'
    exact h.inj k k' blk blk' g hk hk' hl hl' e e'
  heap:=fun k blk hk=>by
   have hk:H'' k = some blk:=hk
   by_cases hm:k ∈ ks.map (·.1)
   ·have hk0:=hk
    rw [eC k hm] at hk0
    obtain ⟨b1,hb1,rfl⟩:=Option.map_eq_some_iff.1 hk0
    have hh:=hok'.heap _ b1 hb1
    show HRel _ (own'' k) _
    rw [oC k hm]
    refine hh.ren hren (fun _ _ _=>rfl) ?_
    have hb2:=hb1
    rw [hH'] at hb2
    unfold hls at hb2
    split at hb2
    ·rename_i b3 e3
     cases hb2
     exact hb' _ (lookB_mem e3)
    ·cases hb2; rfl
   ·rw [eO k hm] at hk
    show HRel _ (own'' k) _
    rw [oO k hm]
    exact (h.heap k blk hk).mono hle fun g e hl=>hgr.block g (h.hown k blk g hk hl e).1 (hother k blk g hm hk hl e)
  tmps:=fun i=>(h.tmps i).mono hle
  size:=h.size
  defers:=h.defers
  hDs:=fun d hd=>by
   obtain ⟨a1,a2,a3,a4⟩:=h.hDs d hd
   have hdL:¬ LiveC (lendC E L VS w S own ks lent) d:=fun hL=>by
    obtain ⟨k2,blk2,q1,q2,q3,q4⟩:=hLive d hL
    have hh:=h.heap k2 blk2 q2
    rw [q4] at hh
    cases blk2 <;> first | (simp [Blk.live] at q3; done) | skip
    ·obtain ⟨cs,hcs,_⟩:=hh; rw [a1] at hcs; cases hcs
    ·obtain ⟨cs,cap,hcs,_⟩:=hh; rw [a1] at hcs; cases hcs
    ·obtain ⟨o,hcs,ho⟩:=hh; rw [a1] at hcs; cases hcs; exact ho.not.2.1 _ rfl
   have hlt:=(Array.getElem?_eq_some_iff.1 a1).1
   refine ⟨(hgr.block d hlt hdL).trans a1,a2,fun hs=>?_,a4⟩
   rcases hS3 d hs with q | ⟨_,_,_,_,q⟩ | q
   ·exact a3 q
   ·exact hdL q
   ·omega
  nodup:=h.nodup
  le:=h.le.trans hle
  cd:=h.cd
  fix:=h.fix }
theorem RelAt.lendUp (h:RelAt E s a w S own C D Ds) (hJ:JOk E.J) {L:List (Nat × Blk)} {VS:Nat → Nat} (hH:s.H = hls L VS) {lent nw:List (Nat × Nat)}
  (h1:((lent ++ nw).map (·.1)).Nodup) (h2:((lent ++ nw).map (·.2)).Nodup) (hin:∀ p ∈ lent,p.1 ∈ keys L)
  {C':Ctx} (ht:HTr (lendC E L VS w S own (lent ++ nw) lent) C') (hok':HOk C') {l':List (Nat × Blk)} {vs':Nat → Nat} (hH':C'.H = hls l' vs') (hk':∀ k ∈ keys l',k ∈ (lent ++ nw).map (·.2))
  (hb':∀ p ∈ l',okB (inK (keys l')) p.2 = true) :
  ∃ own'' VS'',RelAt E { s with H:=hls (dropK ((lent ++ nw).map (·.1)) L ++ backL (lent ++ nw) l') VS'' } a C'.w C'.S own'' C D Ds ∧
   RenOk C' ⟨hls (dropK ((lent ++ nw).map (·.1)) L ++ backL (lent ++ nw) l') VS'',own'',C'.S,C'.w,E.l⟩ (csa (lent ++ nw)) (inK (keys l')) ∧
   (ctx E s w S own).le ⟨hls (dropK ((lent ++ nw).map (·.1)) L ++ backL (lent ++ nw) l') VS'',own'',C'.S,C'.w,E.l⟩:=by
 obtain ⟨own'',hq⟩:=h.lendUp0 hJ (VS:=VS) (fun k b hb=>by rw [hH]; exact hls_some hb) (fun k=>by rw [hH]) h1 h2 hin ht hok' hH' hk' hb'
 refine ⟨own'',fun k=>if k ∈ (lent ++ nw).map (·.1) then vs' (asc (lent ++ nw) k) else VS k,?_⟩
 have e:hls (dropK ((lent ++ nw).map (·.1)) L ++ backL (lent ++ nw) l') (fun k=>if k ∈ (lent ++ nw).map (·.1) then vs' (asc (lent ++ nw) k) else VS k) = backH (lent ++ nw) (hls l' vs') s.H:=by
  funext k
  show (match lookB (dropK ((lent ++ nw).map (·.1)) L ++ backL (lent ++ nw) l') k with | some b=>some b | none=>some (.dead _)) = (if k ∈ (lent ++ nw).map (·.1) then _ else _)
  by_cases hk:k ∈ (lent ++ nw).map (·.1)
  ·rw [if_pos hk,lookB_append,lookB_dropK,if_pos hk,Option.none_or,lookB_backL h1 h2 hk' hk]
   unfold hls
   cases e:lookB l' (asc (lent ++ nw) k)
   ·simp only [Option.map_none,if_pos hk]; rfl
   ·rfl
  ·rw [if_neg hk,lookB_append,lookB_dropK,if_neg hk,lookB_backL_none h1 h2 hk' hk,Option.or_none,hH]
   simp only [if_neg hk]
   rfl
 rw [e]
 exact hq
def ovr (l:List (Nat × Blk)) (H:Heap):Heap:=fun k=>match lookB l k with | some b=>some b | none=>H k
theorem backH_ovr {ks:List (Nat × Nat)} (h1:(ks.map (·.1)).Nodup) (h2:(ks.map (·.2)).Nodup) {l':List (Nat × Blk)} (hk:keys l' = ks.map (·.2)) (vs':Nat → Nat) (H:Heap):backH ks (hls l' vs') H = ovr (backL ks l') H:=by
 funext k
 have hk':∀ k ∈ keys l',k ∈ ks.map (·.2):=fun k h=>hk ▸ h
 show (if k ∈ ks.map (·.1) then _ else _) = (match lookB (backL ks l') k with | some b=>some b | none=>H k)
 by_cases hm:k ∈ ks.map (·.1)
 ·rw [if_pos hm,lookB_backL h1 h2 hk' hm]
  have:asc ks k ∈ keys l':=by rw [hk]; exact asc_in h1 h2 hm
  obtain ⟨b,hb⟩:=lookB_of_key this
  rw [hls_some hb,hb]
  rfl
 ·rw [if_neg hm,lookB_backL_none h1 h2 hk' hm]
end
end Go.Am
namespace Go.Am
open Go.RowKit
structure Turned (w w':World) (S C D C' D':Nat → Prop):Prop where
 grows:Grows w w' C
 c0:∀ b,C b → C' b
 c1:∀ b,C' b → C b ∨ w.heap.size ≤ b
 d0:∀ b,D b → D' b
 d1:∀ b,D' b → D b ∨ S b ∨ w.heap.size ≤ b
 cd:∀ b,C' b → D' b
 lt:∀ b,D' b → b < w'.heap.size
def YOk (P:Program) (J:G → (Nat → Prop) → (Nat → Prop) → World → Prop) (l:Nat) (T:Nat → Prop):Prop:=
 ∀ (args:List AV) (rest:List (List AV)) (C D:Nat → Prop) (w:World) (S:Nat → Prop) (vs:List Value),J ⟨args :: rest,false⟩ C D w → (∀ b,C b → D b) → (∀ b,D b → b < w.heap.size) →
  (∀ b,S b → b < w.heap.size ∧ ¬ C b ∧ T b) → closedL args = true → RL (bare S w l) args vs →
  YieldAt (FW none) 0 P l vs.toArray w fun e w'=>∃ b C' D',e = .returned (.bool b) ∧ J ⟨rest,!b⟩ C' D' w' ∧ Turned w w' S C D C' D'
theorem YOk.mono {P:Program} {J:G → (Nat → Prop) → (Nat → Prop) → World → Prop} {l:Nat} {T T':Nat → Prop} (h:YOk P J l T) (hT:∀ b,T' b → T b):YOk P J l T':=
 fun args rest C D w S vs hj hcd hD hS2 hcl hR=>h args rest C D w S vs hj hcd hD (fun b hb=>⟨(hS2 b hb).1,(hS2 b hb).2.1,hT b (hS2 b hb).2.2⟩) hcl hR
def Env.T (E:Env) (b:Nat):Prop:=E.S0 b ∨ E.X0 b ∨ E.w0.heap.size ≤ b
section
variable {E : Env} {s : St} {a : Act} {w : World} {S : Nat → Prop} {own : Nat → Option Nat} {C D : Nat → Prop} {Ds : List Nat} {o : Oper} {next : Act → World → Prop} {Q : Exit → Act → World → Prop} {ro : Option Nat}
theorem RelAt.le_turned (h:RelAt E s a w S own C D Ds) {w':World} {C' D':Nat → Prop} (ht:Turned w w' S C D C' D'):(ctx E s w S own).le (ctx E s w' S own) where
 S:=fun b hb=>⟨hb,ht.grows.block b (h.hS b hb).1 (h.hS b hb).2.1⟩
 H:=fun k blk hk=>⟨blk,hk,Nat.le_refl _,fun _ r v hr=>hr.same fun g e hl=>by
  obtain ⟨h1,h2,h3,h4⟩:=h.hown k blk g hk hl e
  exact ht.grows.block _ h1 fun hc=>h3 (h.hC g hc).1⟩
 l:=rfl
theorem RelAt.turned (h:RelAt E s a w S own C D Ds) {w':World} {C' D':Nat → Prop} (ht:Turned w w' S C D C' D') {g':G} (hj:E.J g' C' D' w') {d:Option Nat} (hd:∀ k,d = some k → k < E.n) {x:AV} {v:Value}
  (hv:R (ctx E s w' S own) x v):RelAt E { s with τ:=updO s.τ d x,g:=g' } (a.put d v) w' S own C' D' Ds:=by
 have hle:=h.le_turned ht
 have hw0:=h.fr.size
 exact {
  fr:=h.fr.grows ht.grows fun b hb=>(h.hC b hb).2
  hS:=fun b hb=>by
   obtain ⟨h1,h2,h3⟩:=h.hS b hb
   exact ⟨Nat.lt_of_lt_of_le h1 ht.grows.size,fun hc=>(ht.c1 b hc).elim h2 fun h4=>absurd h1 (by omega),h3⟩
  hS0:=h.hS0
  hC:=fun b hb=>⟨ht.cd b hb,(ht.c1 b hb).elim (fun h1=>(h.hC b h1).2) fun h1=>.inr (by omega)⟩
  hD:=ht.lt
  j:=hj
  hown:=fun k blk g hk hl e=>by
   obtain ⟨h1,h2,h3,h4⟩:=h.hown k blk g hk hl e
   exact ⟨Nat.lt_of_lt_of_le h1 ht.grows.size,h2,fun hd=>(ht.d1 g hd).elim h3 fun h5=>h5.elim h2 fun h5=>absurd h1 (by omega),h4⟩
  inj:=h.inj
  heap:=fun k blk hk=>(h.heap k blk hk).mono hle fun g e hl=>by
   obtain ⟨h1,h2,h3,h4⟩:=h.hown k blk g hk hl e
   exact ht.grows.block _ h1 fun hc=>h3 (h.hC g hc).1
  tmps:=R_put (fun i=>(h.tmps i).mono hle) h.size hd hv
  size:=(put_size a d v).trans h.size
  defers:=(put_defers a d v).trans h.defers
  hDs:=fun d' hd'=>by
   obtain ⟨h1,h2,h3,h4⟩:=h.hDs d' hd'
   have hlt:=(Array.getElem?_eq_some_iff.1 h1).1
   exact ⟨(ht.grows.block d' hlt fun hc=>h4 (h.hC d' hc).1).trans h1,h2,h3,fun hd=>(ht.d1 d' hd).elim h4 fun h5=>h5.elim h3 fun h5=>absurd hlt (by omega)⟩
  nodup:=h.nodup
  le:=h.le.trans hle
  cd:=⟨fun b hb=>ht.c0 b (h.cd.c0 b hb),fun b hb=>(ht.c1 b hb).elim (h.cd.c1 b) fun h1=>.inr (by omega),fun b hb=>ht.d0 b (h.cd.d0 b hb),fun b hb=>(ht.d1 b hb).elim (h.cd.d1 b) fun h1=>.inr (h1.elim (fun h1=>(h.hS b h1).2.2) fun h1=>.inr (.inr (by omega)))⟩
  fix:=h.fix }
theorem wpIn_round {l:Nat} {f:FuncId} {tmps:Array Value} {assign body:Code} {w':World} (hd:Op.isDefer o.op = false) (h:(execOp a.eval o).run E.P w = .ok (.round l f tmps assign body) w')
  (hc:RoundIn (FW none) 0 E.P l f tmps assign body w' fun e w''=>∃ v,e = .returned v ∧ next (a.put o.dst v) w''):o.wpIn (FW ro) 0 E.P a w next Q:=by
 refine ⟨fun _ _=>trivial,?_⟩
 rw [semAt_plain hd,h,Oper.uponIn_round]
 refine ⟨fun h=>by simp [FW] at h,?_⟩
 have hc':RoundIn (FW ro) 0 E.P l f tmps assign body w' fun e w''=>∃ v,e = .returned v ∧ next (a.put o.dst v) w'':=hc
 refine hc'.mono fun e w'' ⟨v,he,hn⟩=>?_
 subst he
 exact hn
end
def okY:AV → Bool
 | .yld=>true
 | a=>closed a
theorem R.bareY {C:Ctx} {x:AV} {v:Value} {l:Nat} (h:R C x v) (hl:C.l = l) (hc:okY x = true):R (Am.bare C.S C.w l) x v:=by
 by_cases hy:x = .yld
 ·subst hy
  cases h
  rw [hl]
  exact .yld
 ·have:closed x = true:=by
   unfold okY at hc
   split at hc
   ·exact (hy rfl).elim
   ·exact hc
  exact h.bare l this
structure SpecY (P:Program) (f:FuncId) (args:List AV) (xs:List (List AV)) (rt rf:AV):Prop where
 enters:Enters P f
 ft:flat rt = true
 ff:flat rf = true
 calls:∀ (J:G → (Nat → Prop) → (Nat → Prop) → World → Prop) (l:Nat) (rest:List (List AV)) (C D:Nat → Prop) (w:World) (S:Nat → Prop) (vs:List Value),JOk J → YOk P J l (fun b=>S b ∨ C b ∨ w.heap.size ≤ b) → J ⟨xs ++ rest,false⟩ C D w → (∀ b,C b → D b) → (∀ b,D b → b < w.heap.size) →
  (∀ b,S b → b < w.heap.size ∧ ¬ C b) → RL (bare S w l) args vs → CallsIn (FW none) 0 P f vs.toArray w fun e w'=>∃ v C' D',e = .returned v ∧ Turned w w' S C D C' D' ∧
   ((J ⟨rest,false⟩ C' D' w' ∧ R (bare S w' l) rt v) ∨ ∃ t,J ⟨t,true⟩ C' D' w' ∧ R (bare S w' l) rf v)
def nodupB:List Nat → Bool
 | []=>true
 | k :: l=>!inK l k && nodupB l
theorem nodupB_iff:∀ {l:List Nat},nodupB l = true → l.Nodup
 | [],_=>List.nodup_nil
 | k :: l,h=>by
  simp only [nodupB,Bool.and_eq_true,Bool.not_eq_true'] at h
  refine List.nodup_cons.2 ⟨fun hm=>?_,nodupB_iff h.2⟩
  rw [inK_iff.2 hm] at h
  exact absurd h.1 (by simp)
def lendOk (L:List (Nat × Blk)) (lent nw:List (Nat × Nat)) (args:List AV):Bool:=
 nodupB ((lent ++ nw).map (·.1)) && (nodupB ((lent ++ nw).map (·.2)) && ((lent.all fun p=>match lookB L p.1 with | some b=>okB (inK (lent.map (·.1))) b | none=>false) && args.all (okk (inK (lent.map (·.1))))))
def retOk (ks:List (Nat × Nat)) (r:AV) (l':List (Nat × Blk)):Bool:=
 (keys l').all (inK (ks.map (·.2))) && ((l'.all fun p=>okB (inK (keys l')) p.2) && okk (inK (keys l')) r)
def nilK (H:Heap) (K:Bool → Prop):AV → Prop
 | .sl rows=>K false ∧ (rows = [] → K true)
 | .slt _=>K false
 | .nils=>K true
 | .ref k ver .o=>match H k with
  | some (.row v _ _ rows)=>v = ver ∧ K false ∧ (rows = [] → K true)
  | some (.froz v rows)=>v = ver ∧ K false ∧ (rows = [] → K true)
  | _=>False
 | _=>False
theorem nilK_sound {E:Env} {s:St} {a:Act} {w:World} {S:Nat → Prop} {own:Nat → Option Nat} {C D:Nat → Prop} {Ds:List Nat} (h:RelAt E s a w S own C D Ds) {K:Bool → Prop} {x:AV} {v:Value} (hx:R (ctx E s w S own) x v) (hk:nilK s.H K x) :
  ∃ A n c,v = .slice A n c ∧ K A.isNone:=by
 unfold nilK at hk
 split at hk
 ·cases hx with
  | sl _ A cap g off sz f hA=>
   refine ⟨A,_,cap,rfl,?_⟩
   cases A with
   | some a=>exact hk.1
   | none=>
    refine hk.2 ?_
    rename_i rows _ _ _ _ _ _
    by_cases e:rows = []
    ·exact e
    ·exact absurd (hA e).1 (by simp)
 ·cases hx with
  | slt _ g off sz f hA=>exact ⟨_,_,_,rfl,hk⟩
 ·cases hx with
  | nils=>exact ⟨_,_,_,rfl,hk⟩
 ·rename_i k ver
  split at hk
  ·rename_i v' t sz rows hb
   obtain ⟨e,h1,h2⟩:=hk
   obtain ⟨q1,q2⟩:=h.ref_at hx hb e
   cases hog:own k with
   | none=>
    rw [hog] at q1 q2
    have q1:v = .slice none 0 0:=q1
    exact ⟨_,_,_,q1,h2 q2.1⟩
   | some g=>
    rw [hog] at q1
    obtain ⟨cap,q1,_⟩:=q1
    exact ⟨_,_,_,q1,h1⟩
  ·rename_i v' rows hb
   obtain ⟨e,h1,h2⟩:=hk
   obtain ⟨q1,q2⟩:=h.ref_at hx hb e
   cases hog:own k with
   | none=>
    rw [hog] at q1 q2
    have q1:v = .slice none 0 0:=q1
    have q2:rows = []:=q2
    exact ⟨_,_,_,q1,h2 q2⟩
   | some g=>
    rw [hog] at q1
    obtain ⟨cap,q1,_⟩:=q1
    exact ⟨_,_,_,q1,h1⟩
  ·exact hk.elim
 ·exact hk.elim
inductive StepR (P:Program) (s:St) (o:Oper) (K:St → Prop):Prop
 | op (v:AV) (H':Heap) (h:OpR P s.τ s.H o v H') (k:K (s.put o.dst v H'))
 | yld (f:Operand) (c:Call) (rest:List (List AV)) (h:o.op = .call c) (hc:c.callee = .value f) (hf:ev s.τ f = .yld) (hg:s.g = ⟨callArgs s.τ (frzs s.H (c.args.toList.map (ev s.τ))) c [] :: rest,false⟩)
   (hcl:closedL (callArgs s.τ (frzs s.H (c.args.toList.map (ev s.τ))) c []) = true)
   (k:∀ b:Bool,K ⟨updO s.τ o.dst (.bool b),frzs s.H (c.args.toList.map (ev s.τ)),⟨rest,!b⟩⟩)
 | call (f:Operand) (c:Call) (fid:FuncId) (caps:List AV) (xs rest:List (List AV)) (rt rf:AV) (h:o.op = .call c) (hc:c.callee = .value f) (hf:ev s.τ f = .func fid caps) (hg:s.g = ⟨xs ++ rest,false⟩)
   (hcl:(callArgs s.τ (frzs s.H (c.args.toList.map (ev s.τ))) c caps).all okY = true) (hs:SpecY P fid (callArgs s.τ (frzs s.H (c.args.toList.map (ev s.τ))) c caps) xs rt rf)
   (k1:K ⟨updO s.τ o.dst rt,frzs s.H (c.args.toList.map (ev s.τ)),⟨rest,false⟩⟩) (k2:∀ t,K ⟨updO s.τ o.dst rf,frzs s.H (c.args.toList.map (ev s.τ)),⟨t,true⟩⟩)
 | eqNil (ng:Bool) (t yt e:TypeId) (x:Operand) (h:o.op = .binOp (if ng then .neq else .eql) t x (.const (.slice none 0 0)) yt) (ht:P.underlying t = some (.slice e)) (k:nilK s.H (fun b=>K (s.put o.dst (.bool (b != ng)) s.H)) (ev s.τ x))
 | hcall (f:Operand) (c:Call) (fid:FuncId) (caps:List AV) (L:List (Nat × Blk)) (VS:Nat → Nat) (lent nw:List (Nat × Nat)) (Q:AV → List (Nat × Blk) → Prop) (h:o.op = .call c) (hc:c.callee = .value f) (hf:ev s.τ f = .func fid caps)
   (hH:s.H = hls L VS) (hok:lendOk L lent nw (c.args.toList.map (ev s.τ) ++ caps) = true) (hs:HSpecL P fid ((c.args.toList.map (ev s.τ) ++ caps).map (ren (asc (lent ++ nw)))) (lentL L (lent ++ nw) lent) Q)
   (k:∀ r l' VS',Q r l' → retOk (lent ++ nw) r l' = true ∧ K ⟨updO s.τ o.dst (ren (csa (lent ++ nw)) r),hls (dropK ((lent ++ nw).map (·.1)) L ++ backL (lent ++ nw) l') VS',s.g⟩)
 | callB (f:Operand) (c:Call) (fid:FuncId) (caps:List AV) (r:AV) (h:o.op = .call c) (hc:c.callee = .value f) (hf:ev s.τ f = .func fid caps)
   (hcl:closedL (callArgs s.τ (frzXs s.H (c.args.toList.map (ev s.τ))) c caps) = true) (hs:Spec P fid (callArgs s.τ (frzXs s.H (c.args.toList.map (ev s.τ))) c caps) r) (k:K (s.put o.dst r (frzXs s.H (c.args.toList.map (ev s.τ)))))
 | mk (k:Nat) (v:AV) (H':Heap) (t:TypeId) (l c:Operand) (hm:o.op = .makeSlice t l c) (h:OpR P s.τ s.H { o with dst:=some k } v H') (kk:K (s.put o.dst v H'))
 | frzd (x:Operand) (v:AV) (H':Heap) (h:OpR P s.τ (frz s.H (ev s.τ x)) o v H') (k:K (s.put o.dst v H'))
 | lraw (t:TypeId) (len:Nat) (parts:Array (Nat × Operand)) (e:TypeId) (n:Nat) (z:Value) (rows:List (List AV)) (h:o.op = .buildSlice t len parts) (he:elOf P t = some e) (hn:szOf P e = some n) (hn0:0 < n) (hz:zeroOf P e = some z)
   (hzc:okCells (ofVal z).cells = true) (hzn:(ofVal z).cells.length = n) (hlim:len * n ≤ 2 ^ 24)
   (hf:fillR n (List.replicate len (ofVal z).cells) (parts.toList.map fun p=>(p.1,ev s.τ p.2)) = some rows) (k:K (s.put o.dst (.slt rows) s.H))
 | hdet (f:Operand) (c:Call) (fid:FuncId) (caps:List AV) (L:List (Nat × Blk)) (lent:List (Nat × Nat)) (r:AV) (l':List (Nat × Blk)) (h:o.op = .call c) (hc:c.callee = .value f) (hf:ev s.τ f = .func fid caps)
   (hH:∀ k b,lookB L k = some b → s.H k = some b) (hok:lendOk L lent [] (c.args.toList.map (ev s.τ) ++ caps) = true) (hs:HSpecL P fid ((c.args.toList.map (ev s.τ) ++ caps).map (ren (asc lent))) (lentL L lent lent) fun x y=>x = r ∧ y = l')
   (hret:retOk lent r l' = true) (hk:keys l' = lent.map (·.2)) (k:K ⟨updO s.τ o.dst (ren (csa lent) r),ovr (backL lent l') s.H,s.g⟩)
section
variable {E : Env} {s : St} {a : Act} {w : World} {o : Oper} {next : Act → World → Prop} {Q : Exit → Act → World → Prop} {ro : Option Nat}
theorem RelAt.callRL {S:Nat → Prop} {own:Nat → Option Nat} {C D:Nat → Prop} {Ds:List Nat} (hr:RelAt E s a w S own C D Ds) (c:Call) {caps:List AV} {us:List Value} (hl:us.length = caps.length)
  (hh:∀ (i:Nat) (x:AV),caps[i]? = some x → R (ctx E s w S own) x (us.getD i undef)) (hcl:(callArgs s.τ s.H c caps).all okY = true):RL (bare S w E.l) (callArgs s.τ s.H c caps) (c.args.toList.map a.eval ++ us):=by
 refine ⟨by simp [callArgs,hl],fun i x hx=>?_⟩
 have hcx:okY x = true:=List.all_eq_true.1 hcl x (List.mem_of_getElem? hx)
 unfold callArgs at hx
 rw [List.getElem?_map] at hx
 obtain ⟨y,hy,rfl⟩:=Option.map_eq_some_iff.1 hx
 rw [List.getElem?_append] at hy
 have hR:R (ctx E s w S own) y ((c.args.toList.map a.eval ++ us).getD i undef):=by
  rw [List.getD_eq_getElem?_getD,List.getElem?_append]
  simp only [List.length_map] at hy ⊢
  split at hy
  ·rename_i hi
   rw [if_pos hi,List.getElem?_map]
   rw [List.getElem?_map] at hy
   obtain ⟨q,hq,rfl⟩:=Option.map_eq_some_iff.1 hy
   rw [hq]
   exact R_ev hr.tmps q
  ·rename_i hi
   rw [if_neg hi,← List.getD_eq_getElem?_getD]
   exact hh _ y hy
 exact (hR.pur hr.heap).bareY rfl hcx
theorem StepR.sound (hJ:JOk E.J) (hY:YOk E.P E.J E.l E.T) {K:St → Prop} (h:StepR E.P s o K) (hd:∀ k,o.dst = some k → k < E.n) (hr:Rel E s a w) (hnx:∀ s' a' w',K s' → Rel E s' a' w' → next a' w'):o.wpIn (FW ro) 0 E.P a w next Q:=by
 cases h with
 | op v H' h k=>exact h.sound hJ hd hr fun a' w' hr'=>hnx _ a' w' k hr'
 | frzd x v H' h k=>
  have hr2:Rel E { s with H:=frz s.H (ev s.τ x) } a w:=by
   obtain ⟨S,own,C,D,Ds,hr⟩:=hr.frzs [ev s.τ x]
   exact ⟨S,own,C,D,Ds,hr⟩
  exact OpR.sound (s:={ s with H:=frz s.H (ev s.τ x) }) hJ hd h hr2 fun a' w' hr'=>hnx _ a' w' k hr'
 | yld f c rest h hc hf hg hcl k=>
  obtain ⟨S,own,C,D,Ds,hr⟩:=hr.frzs (c.args.toList.map (ev s.τ))
  have h1:=R_ev hr.tmps f
  rw [show ev ({ s with H:=frzs s.H (c.args.toList.map (ev s.τ)) }:St).τ f = .yld from hf] at h1
  generalize hz:a.eval f = z at h1
  cases h1
  have hargs:=hr.callRL c (caps:=[]) (us:=[]) rfl (fun i x hx=>by simp at hx) (List.all_eq_true.2 fun x hx=>by
   have hx2:=closedL_get hcl (List.getElem?_eq_some_iff.2 ⟨_,(List.getElem_of_mem hx).choose_spec.2⟩)
   unfold okY
   split
   ·rfl
   ·exact hx2)
  rw [List.append_nil] at hargs
  have hj:E.J s.g C D w:=hr.j
  rw [hg] at hj
  obtain ⟨fn,tmps,assign,body,hy,hR⟩:=hY _ rest C D w S _ hj (fun b hb=>(hr.hC b hb).1) hr.hD (fun b hb=>⟨(hr.hS b hb).1,(hr.hS b hb).2.1,(hr.hS b hb).2.2⟩) hcl hargs
  refine wpIn_round (l:=E.l) (f:=fn) (tmps:=tmps) (assign:=assign) (body:=body) (w':=w) (by simp [h,Op.isDefer]) ?_ (hR.mono ?_)
  ·have e1:execOp a.eval o = (do let d ← resolve a.eval c o.type; invoke d.target d.args):=by simp only [execOp,h]
   rw [e1]
   unfold resolve
   simp only [hc,hz,Deferred.ofValue,Sem.run_bind,Sem.run_pure,Result.andThen_ok,invoke]
   have e2:(#[] ++ c.args.map a.eval) = (c.args.toList.map a.eval).toArray:=by
    apply Array.toList_inj.1
    simp
   rw [e2]
   exact hy
  ·rintro e w' ⟨b,C',D',rfl,hj,ht⟩
   exact ⟨_,rfl,hnx _ _ _ (k b) ⟨S,own,C',D',Ds,hr.turned ht hj hd (.bool b)⟩⟩
 | call f c fid caps xs rest rt rf h hc hf hg hcl hs k1 k2=>
  obtain ⟨S,own,C,D,Ds,hr⟩:=hr.frzs (c.args.toList.map (ev s.τ))
  have h1:=R_ev hr.tmps f
  rw [show ev ({ s with H:=frzs s.H (c.args.toList.map (ev s.τ)) }:St).τ f = .func fid caps from hf] at h1
  generalize hz:a.eval f = z at h1
  cases h1 with
  | func _ _ us hl hh=>
   have hargs:=hr.callRL c hl hh hcl
   have hj:E.J s.g C D w:=hr.j
   rw [hg] at hj
   have hcall:=hs.calls E.J E.l rest C D w S _ hJ (hY.mono fun b hb=>by
    rcases hb with hb | hb | hb
    ·exact (hr.hS b hb).2.2
    ·exact .inr (hr.hC b hb).2
    ·exact .inr (.inr (Nat.le_trans hr.fr.size hb))) hj (fun b hb=>(hr.hC b hb).1) hr.hD (fun b hb=>⟨(hr.hS b hb).1,(hr.hS b hb).2.1⟩) hargs
   refine wpIn_enter (f:=fid) (args:=(c.args.toList.map a.eval ++ us).toArray) (w':=w) (by simp [h,Op.isDefer]) ?_ (hcall.mono ?_)
   ·have e1:execOp a.eval o = (do let d ← resolve a.eval c o.type; invoke d.target d.args):=by simp only [execOp,h]
    rw [e1]
    unfold resolve
    simp only [hc,hz,Deferred.ofValue,Sem.run_bind,Sem.run_pure,Result.andThen_ok,invoke]
    have e2:(#[] ++ c.args.map a.eval ++ us.toArray) = (c.args.toList.map a.eval ++ us).toArray:=by
     apply Array.toList_inj.1
     simp
    rw [e2]
    exact hs.enters _ _
   ·rintro e w' ⟨v,C',D',rfl,ht,⟨hj,hv⟩ | ⟨t,hj,hv⟩⟩
    ·exact ⟨_,rfl,hnx _ _ _ k1 ⟨S,own,C',D',Ds,hr.turned ht hj hd (hv.flat hs.ft)⟩⟩
    ·exact ⟨_,rfl,hnx _ _ _ (k2 t) ⟨S,own,C',D',Ds,hr.turned ht hj hd (hv.flat hs.ff)⟩⟩
 | eqNil ng t yt e x h ht k=>
  obtain ⟨S,own,C,D,Ds,hr⟩:=hr
  obtain ⟨A,n,c,e1,hk⟩:=nilK_sound hr (R_ev hr.tmps x) k
  refine wpIn_value (v:=.bool (A.isNone != ng)) (w':=w) (by cases ng <;> simp [h,Op.isDefer]) ?_ (hnx _ _ _ hk (hr.putOld hJ hd (.bool _) (Grows.refl w _)))
  have e2:a.eval (.const (.slice none 0 0)) = .slice none 0 0:=rfl
  cases ng with
  | false=>
   have h:o.op = .binOp .eql t x (.const (.slice none 0 0)) yt:=h
   simp only [execOp,h,e1,e2]
   refine run_op ?_
   have hg:(eqGuard .eql t x (.const (.slice none 0 0)) (.slice A n c) (.slice none 0 0)).run E.P w = .ok () w:=rfl
   simp only [Sem.run_bind,hg,Result.andThen_ok]
   simp only [binOp]
   simp [run_equal_slice_nil w t e A n c ht]
  | true=>
   have h:o.op = .binOp .neq t x (.const (.slice none 0 0)) yt:=h
   simp only [execOp,h,e1,e2]
   refine run_op ?_
   have hg:(eqGuard .neq t x (.const (.slice none 0 0)) (.slice A n c) (.slice none 0 0)).run E.P w = .ok () w:=rfl
   simp only [Sem.run_bind,hg,Result.andThen_ok]
   simp only [binOp]
   simp [run_equal_slice_nil w t e A n c ht]
 | hcall f c fid caps L VS lent nw Q h hc hf hH hok hs k=>
  simp only [lendOk,Bool.and_eq_true] at hok
  obtain ⟨hk1,hk2,hk3,hk4⟩:=hok
  have h1:=nodupB_iff hk1
  have h2:=nodupB_iff hk2
  have hin:∀ p ∈ lent,p.1 ∈ keys L:=fun p hp=>by
   have:=List.all_eq_true.1 hk3 p hp
   split at this
   ·rename_i b hb; exact lookB_key hb
   ·cases this
  have hob:∀ p ∈ lent,∀ b,lookB L p.1 = some b → okB (inK (lent.map (·.1))) b = true:=fun p hp b hb=>by
   have:=List.all_eq_true.1 hk3 p hp
   rw [hb] at this
   exact this
  obtain ⟨S,own,C,D,Ds,hr⟩:=hr
  have hfn:=R_ev hr.tmps f
  rw [hf] at hfn
  generalize hz:a.eval f = z at hfn
  cases hfn with
  | func _ _ us hl hh=>
   obtain ⟨hC0,hren⟩:=hr.lendDown (VS:=VS) (fun k b hb=>by rw [hH]; exact hls_some hb) h1 h2 hin hob
   have hargs:RL (lendC E L VS w S own (lent ++ nw) lent) ((c.args.toList.map (ev s.τ) ++ caps).map (Am.ren (asc (lent ++ nw)))) (c.args.toList.map a.eval ++ us):=by
    refine ⟨by simp [hl],fun i x hx=>?_⟩
    rw [List.getElem?_map] at hx
    obtain ⟨y,hy,rfl⟩:=Option.map_eq_some_iff.1 hx
    have hyk:=List.all_eq_true.1 hk4 y (List.mem_of_getElem? hy)
    refine R.ren hren ?_ hyk
    rw [List.getElem?_append] at hy
    rw [List.getD_eq_getElem?_getD,List.getElem?_append]
    simp only [List.length_map] at hy ⊢
    split at hy
    ·rename_i hi
     rw [if_pos hi,List.getElem?_map]
     rw [List.getElem?_map] at hy
     obtain ⟨q,hq,rfl⟩:=Option.map_eq_some_iff.1 hy
     rw [hq]
     exact R_ev hr.tmps q
    ·rename_i hi
     rw [if_neg hi,← List.getD_eq_getElem?_getD]
     exact hh _ y hy
   have hsv:=hs fun k=>ver0 (hls L VS) (csa (lent ++ nw) k)
   have hcall:=hsv.calls (lendC E L VS w S own (lent ++ nw) lent) _ rfl hC0 hargs
   refine wpIn_enter (f:=fid) (args:=(c.args.toList.map a.eval ++ us).toArray) (w':=w) (by simp [h,Op.isDefer]) ?_ (hcall.mono fun e w' ⟨v,r,C',he,hw',hC',htr,hR,l',vs',hH',hQ⟩=>⟨v,he,?_⟩)
   ·have e1:execOp a.eval o = (do let d ← resolve a.eval c o.type; invoke d.target d.args):=by simp only [execOp,h]
    rw [e1]
    unfold resolve
    simp only [hc,hz,Deferred.ofValue,Sem.run_bind,Sem.run_pure,Result.andThen_ok,invoke]
    have e2:(#[] ++ c.args.map a.eval ++ us.toArray) = (c.args.toList.map a.eval ++ us).toArray:=by
     apply Array.toList_inj.1
     simp
    rw [e2]
    exact hsv.enters _ _
   ·subst hw'
    have hk':=(k r l' vs' hQ).1
    simp only [retOk,Bool.and_eq_true] at hk'
    obtain ⟨j1,j2,j3⟩:=hk'
    obtain ⟨own'',VS'',hr'',hren'',_⟩:=hr.lendUp hJ hH h1 h2 hin htr hC' hH' (fun k hk=>inK_iff.1 (List.all_eq_true.1 j1 k hk)) (fun p hp=>List.all_eq_true.1 j2 p hp)
    refine hnx _ _ _ (k r l' VS'' hQ).2 ?_
    exact hr''.putOld hJ hd (hR.ren hren'' j3) (Grows.refl _ _)
 | hdet f c fid caps L lent r0 l0 h hc hf hH hok hs hret hkk k=>
  have hnil:lent ++ [] = lent:=List.append_nil _
  let VS:Nat → Nat:=fun k=>ver0 s.H k
  have hV:∀ k,ver0 (hls L VS) k = ver0 s.H k:=fun k=>by
   cases hb:lookB L k with
   | some b=>unfold ver0; rw [hls_some hb,hH k b hb]
   | none=>rw [show ver0 (hls L VS) k = VS k by unfold ver0; rw [hls_none hb]; rfl]
  have hs:HSpecL E.P fid ((c.args.toList.map (ev s.τ) ++ caps).map (ren (asc (lent ++ [])))) (lentL L (lent ++ []) lent) fun x y=>x = r0 ∧ y = l0:=by rw [hnil]; exact hs
  have hret:retOk (lent ++ []) r0 l0 = true:=by rw [hnil]; exact hret
  have k:K ⟨updO s.τ o.dst (ren (csa (lent ++ [])) r0),ovr (backL (lent ++ []) l0) s.H,s.g⟩:=by rw [hnil]; exact k
  simp only [lendOk,Bool.and_eq_true] at hok
  obtain ⟨hk1,hk2,hk3,hk4⟩:=hok
  have h1:=nodupB_iff hk1
  have h2:=nodupB_iff hk2
  have hin:∀ p ∈ lent,p.1 ∈ keys L:=fun p hp=>by
   have:=List.all_eq_true.1 hk3 p hp
   split at this
   ·rename_i b hb; exact lookB_key hb
   ·cases this
  have hob:∀ p ∈ lent,∀ b,lookB L p.1 = some b → okB (inK (lent.map (·.1))) b = true:=fun p hp b hb=>by
   have:=List.all_eq_true.1 hk3 p hp
   rw [hb] at this
   exact this
  obtain ⟨S,own,C,D,Ds,hr⟩:=hr
  have hfn:=R_ev hr.tmps f
  rw [hf] at hfn
  generalize hz:a.eval f = z at hfn
  cases hfn with
  | func _ _ us hl hh=>
   obtain ⟨hC0,hren⟩:=hr.lendDown (VS:=VS) hH h1 h2 hin hob
   have hargs:RL (lendC E L VS w S own (lent ++ []) lent) ((c.args.toList.map (ev s.τ) ++ caps).map (Am.ren (asc (lent ++ [])))) (c.args.toList.map a.eval ++ us):=by
    refine ⟨by simp [hl],fun i x hx=>?_⟩
    rw [List.getElem?_map] at hx
    obtain ⟨y,hy,rfl⟩:=Option.map_eq_some_iff.1 hx
    have hyk:=List.all_eq_true.1 hk4 y (List.mem_of_getElem? hy)
    refine R.ren hren ?_ hyk
    rw [List.getElem?_append] at hy
    rw [List.getD_eq_getElem?_getD,List.getElem?_append]
    simp only [List.length_map] at hy ⊢
    split at hy
    ·rename_i hi
     rw [if_pos hi,List.getElem?_map]
     rw [List.getElem?_map] at hy
     obtain ⟨q,hq,rfl⟩:=Option.map_eq_some_iff.1 hy
     rw [hq]
     exact R_ev hr.tmps q
    ·rename_i hi
     rw [if_neg hi,← List.getD_eq_getElem?_getD]
     exact hh _ y hy
   have hsv:=hs fun k=>ver0 (hls L VS) (csa (lent ++ []) k)
   have hcall:=hsv.calls (lendC E L VS w S own (lent ++ []) lent) _ rfl hC0 hargs
   refine wpIn_enter (f:=fid) (args:=(c.args.toList.map a.eval ++ us).toArray) (w':=w) (by simp [h,Op.isDefer]) ?_ (hcall.mono fun e w' ⟨v,r,C',he,hw',hC',htr,hR,l',vs',hH',hQ⟩=>⟨v,he,?_⟩)
   ·have e1:execOp a.eval o = (do let d ← resolve a.eval c o.type; invoke d.target d.args):=by simp only [execOp,h]
    rw [e1]
    unfold resolve
    simp only [hc,hz,Deferred.ofValue,Sem.run_bind,Sem.run_pure,Result.andThen_ok,invoke]
    have e2:(#[] ++ c.args.map a.eval ++ us.toArray) = (c.args.toList.map a.eval ++ us).toArray:=by
     apply Array.toList_inj.1
     simp
    rw [e2]
    exact hsv.enters _ _
   ·subst hw'
    obtain ⟨rfl,rfl⟩:=hQ
    simp only [retOk,Bool.and_eq_true] at hret
    obtain ⟨j1,j2,j3⟩:=hret
    obtain ⟨own'',hr'',hren'',_⟩:=hr.lendUp0 hJ hH hV h1 h2 hin htr hC' hH' (fun k hk=>inK_iff.1 (List.all_eq_true.1 j1 k hk)) (fun p hp=>List.all_eq_true.1 j2 p hp)
    rw [backH_ovr h1 h2 (by rw [hkk,hnil])] at hr'' hren''
    refine hnx _ _ _ k ?_
    exact hr''.putOld hJ hd (hR.ren hren'' j3) (Grows.refl _ _)
 | callB f c fid caps r h hc hf hcl hs k=>
  obtain ⟨S,own,C,D,Ds,hr⟩:=hr.frzXs (c.args.toList.map (ev s.τ))
  have h1:=R_ev hr.tmps f
  rw [show ev ({ s with H:=frzXs s.H (c.args.toList.map (ev s.τ)) }:St).τ f = .func fid caps from hf] at h1
  generalize hz:a.eval f = z at h1
  cases h1 with
  | func _ _ us hl hh=>
   have hargs:RL (bare S w E.l) (callArgs s.τ (frzXs s.H (c.args.toList.map (ev s.τ))) c caps) (c.args.toList.map a.eval ++ us):=by
    refine ⟨by simp [callArgs,hl],fun i x hx=>?_⟩
    have hcx:=closedL_get hcl hx
    unfold callArgs at hx
    rw [List.getElem?_map] at hx
    obtain ⟨y,hy,rfl⟩:=Option.map_eq_some_iff.1 hx
    rw [List.getElem?_append] at hy
    have hR:R (ctx E { s with H:=frzXs s.H (c.args.toList.map (ev s.τ)) } w S own) y ((c.args.toList.map a.eval ++ us).getD i undef):=by
     rw [List.getD_eq_getElem?_getD,List.getElem?_append]
     simp only [List.length_map] at hy ⊢
     split at hy
     ·rename_i hi
      rw [if_pos hi,List.getElem?_map]
      rw [List.getElem?_map] at hy
      obtain ⟨q,hq,rfl⟩:=Option.map_eq_some_iff.1 hy
      rw [hq]
      exact R_ev hr.tmps q
     ·rename_i hi
      rw [if_neg hi,← List.getD_eq_getElem?_getD]
      exact hh _ y hy
    exact (hR.pur hr.heap).bare E.l hcx
   have hcall:=hs.calls w S E.l _ (fun b hb=>(hr.hS b hb).1) hargs
   refine wpIn_enter (f:=fid) (args:=(c.args.toList.map a.eval ++ us).toArray) (w':=w) (by simp [h,Op.isDefer]) ?_ (hcall.mono fun e w' ⟨u,he,hb,hu⟩=>⟨u,he,hnx _ _ _ k ?_⟩)
   ·have e1:execOp a.eval o = (do let d ← resolve a.eval c o.type; invoke d.target d.args):=by simp only [execOp,h]
    rw [e1]
    unfold resolve
    simp only [hc,hz,Deferred.ofValue,Sem.run_bind,Sem.run_pure,Result.andThen_ok,invoke]
    have e2:(#[] ++ c.args.map a.eval ++ us.toArray) = (c.args.toList.map a.eval ++ us).toArray:=by
     apply Array.toList_inj.1
     simp
    rw [e2]
    exact hs.enters _ _
   ·exact hr.putNew hJ hd (Grows.of_below hb _) (hu.of_bare _ rfl (fun b hb=>hb) rfl)
 | mk k v H' t l c hm h kk=>
  cases h with
  | makeSlice t e l c n b d z kl kc len cap h hdd he hn hb hn0 hz hzc hzn hl hc hlc hlim h63=>
   cases hdd
   obtain ⟨S,own,C,D,Ds,hr⟩:=hr
   have hval:∀ (y:Operand) (k:IntKind) (i:Int),ev s.τ y = .int k i → a.eval y = .int k i:=fun y k i hy=>by
    have h1:=R_ev hr.tmps y
    rw [hy] at h1
    generalize a.eval y = z at h1
    cases h1; rfl
   obtain ⟨cs,r1,r2,r3⟩:=run_makeSlice (C:=ctx E s w S own) he hn hb hz hzc hzn kl kc hlc hlim h63
   have h:o.op = .makeSlice t l c:=h
   refine wpIn_value (v:=.slice (some ⟨w.heap.size,0,none⟩) len cap) (w':=w.alloc (.cells cs e)) (by simp [h,Op.isDefer]) ?_ (hnx _ _ _ kk ?_)
   ·simp only [execOp,h,hval l kl len hl,hval c kc cap hc]
    exact run_op r1
   ·refine ⟨S,upd own k (some w.heap.size),C,D,Ds,hr.key hJ k (some w.heap.size) (.row (nv s.H k) e n (List.replicate len (ofVal z).cells)) (Grows.alloc w _ _) (fun blk hk=>?_)
     (fun g e=>.inl (by cases e; exact ⟨Nat.le_refl _,by simp⟩)) (fun hle=>?_) (put_size a _ _) (put_defers a _ _) fun hle=>?_⟩
    ·have:=nv_gt hk
     exact ⟨Nat.le_of_lt this,fun e=>absurd e (by show nv s.H k ≠ blk.ver; exact Nat.ne_of_gt this)⟩
    ·exact ⟨cs,cap,heap_alloc_new w _,r2,by rw [List.length_replicate]; exact hlc,h63,hn0,fun r hr=>by rw [(List.mem_replicate.1 hr).2,hzn],r3.mono hle⟩
    ·refine R_put (fun i=>(hr.tmps i).mono hle) hr.size hd ?_
     refine .ref k _ .o _ _ (upd_same _ _ _) (Nat.le_refl _) rfl fun _=>?_
     show RefVal (w.alloc (.cells cs e)) (upd own k (some w.heap.size) k) _ _ _
     rw [upd_same]
     refine ⟨cap,by rw [List.length_replicate],fun cs' t' fr hcs=>?_⟩
     rw [heap_alloc_new w (.cells cs e)] at hcs
     cases hcs
     exact r2
  | _=>simp_all
 | lraw t len parts e n z rows h he hn hn0 hz hzc hzn hlim hf k=>
  obtain ⟨S,own,C,D,Ds,hr⟩:=hr
  obtain ⟨q1,q2⟩:=map_vals hr.tmps id (fun x v h=>h) parts
  obtain ⟨cs,r1,r2,r3,r4,r5⟩:=run_buildSlice (C:=ctx E s w S own) he hn hz hzc hzn hlim q1 q2 hf
  have hgr:=Grows.alloc w (.cells cs e) fun _=>False
  have hlen:len ≤ maxLen:=by
   have:len ≤ len * n:=Nat.le_mul_of_pos_right _ hn0
   simp only [maxLen]
   omega
  have hput:=hr.putNew hJ (d:=o.dst) hd (x:=.slt rows) (v:=.slice (some ⟨w.heap.size,0,none⟩) len len) hgr (by
   have hle:=hr.leQuiet hgr (S':=fun b=>S b ∨ (w.heap.size ≤ b ∧ b < (w.alloc (.cells cs e)).heap.size)) fun b hb=>.inl hb
   have hres:=R_slt_of (C:=ctx E s (w.alloc (.cells cs e)) (fun b=>S b ∨ (w.heap.size ≤ b ∧ b < (w.alloc (.cells cs e)).heap.size)) own)
    (heap_alloc_new w (.cells cs e)) (.inr ⟨Nat.le_refl _,by simp⟩) (r3.mono hle) r4 (by omega)
   rwa [r5] at hres)
  refine wpIn_value (by simp [h,Op.isDefer]) ?_ (hnx _ _ _ k hput)
  simp only [execOp,h]
  exact run_op r1
end
end Go.Am
