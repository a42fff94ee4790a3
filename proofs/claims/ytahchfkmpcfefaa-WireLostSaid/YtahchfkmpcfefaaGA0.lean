import Derived.WalkKit
import Derived.KernelRfl
import Derived.CallsIn
import Derived.RangeFuncIn
import Derived.RangeFuncRecord
import Derived.Maps.AppendAt
import Derived.Laws.Rows
import Derived.Laws.MakeOwn
import Derived.Deep.Draws
import Derived.MapKept
set_option linter.unusedVariables false
set_option linter.unusedSimpArgs false
namespace Go.Am
open Go.RowKit
inductive RefK where
 | p (off:Nat)
 | e (i off:Nat)
 | o
inductive AV where
 | any
 | int (k:IntKind) (n:Int)
 | bool (b:Bool)
 | str (s:ByteArray)
 | agg (cs:List AV)
 | tup (vs:List AV)
 | sl (rows:List (List AV))
 | slt (rows:List (List AV))
 | nils
 | elt (row:List AV) (off:Nat)
 | ref (key ver:Nat) (r:RefK)
 | func (f:FuncId) (caps:List AV)
 | nilf
 | nilp
 | yld
instance:Inhabited AV:=⟨.any⟩
def AV.cell:AV → Bool
 | .any | .agg _ | .tup _=>false
 | _=>true
inductive KD where
 | i
 | s
 deriving DecidableEq
def KD.td:KD → TypeDesc
 | .i=>.int .i64
 | .s=>.string
inductive Ob where
 | siter (s:ByteArray) (pos:Nat)
 | mp (d:KD) (es:List (AV × AV))
def Sc0:AV → Value → Prop
 | .int k n,v=>v = .int k n
 | .bool b,v=>v = .bool b
 | .str s,v=>v = .string s ∧ s.size ≤ maxLen
 | _,_=>False
def Sc0s:List AV → List Value → Prop
 | [],[]=>True
 | a :: as,v :: vs=>Sc0 a v ∧ Sc0s as vs
 | _,_=>False
def Sc:AV → Value → Prop
 | .agg cs,v=>∃ vs:List Value,v = .agg vs.toArray ∧ Sc0s cs vs
 | a,v=>Sc0 a v
def MpIs:List (AV × AV) → List MapEntry → Prop
 | [],[]=>True
 | p :: ps,e :: es=>Sc0 p.1 e.key ∧ Sc p.2 e.val ∧ MpIs ps es
 | _,_=>False
def ObIs:Ob → Obj → Prop
 | .siter s pos,o=>o = .stringIter s pos ∧ s.size ≤ maxLen
 | .mp d es,o=>∃ en clock,o = .map en clock ∧ MapKept.Stamped en clock ∧ (∀ x ∈ en.toList,MapKept.IsKey d.td x.key) ∧ MpIs es en.toList
theorem ObIs.not {ob:Ob} {o:Obj} (h:ObIs ob o):(∀ cs t fr,o ≠ .cells cs t fr) ∧ (∀ x,o ≠ .deferred x) ∧ ∀ x,o ≠ .loop x:=by
 cases ob with
 | siter s pos=>
  obtain ⟨rfl,_⟩:=h
  exact ⟨fun _ _ _ e=>(by cases e),fun _ e=>(by cases e),fun _ e=>(by cases e)⟩
 | mp d es=>
  obtain ⟨en,clock,rfl,_⟩:=h
  exact ⟨fun _ _ _ e=>(by cases e),fun _ e=>(by cases e),fun _ e=>(by cases e)⟩
inductive Blk where
 | dead (ver:Nat)
 | box (ver:Nat) (t:TypeId) (cells:List AV)
 | row (ver:Nat) (t:TypeId) (sz:Nat) (rows:List (List AV))
 | froz (ver:Nat) (rows:List (List AV))
 | fbox (ver:Nat) (cells:List AV)
 | obj (ver:Nat) (o:Ob)
 | lent (ver:Nat) (ob:Bool)
def Blk.ver:Blk → Nat
 | .dead v | .box v _ _ | .row v _ _ _ | .froz v _ | .fbox v _ | .obj v _ | .lent v _=>v
def Blk.live:Blk → Bool
 | .box .. | .row .. | .obj ..=>true
 | _=>false
abbrev Heap:=Nat → Option Blk
def RefVal (w:World):Option Nat → Blk → RefK → Value → Prop
 | none,.row _ _ _ _,.o,v=>v = .slice none 0 0
 | none,.froz _ _,.o,v=>v = .slice none 0 0
 | none,_,_,_=>True
 | some _,.dead _,_,_=>True
 | some g,.box _ _ _,.p off,v=>v = .pointer (some ⟨g,off,none⟩)
 | some g,.fbox _ _,.p off,v=>v = .pointer (some ⟨g,off,none⟩)
 | some g,.obj _ _,.p off,v=>v = .pointer (some ⟨g,off,none⟩)
 | some g,.obj _ _,.o,v=>v = .map (some g)
 | some g,.lent _ _,.p off,v=>v = .pointer (some ⟨g,off,none⟩)
 | some g,.lent _ ob,.o,v=>if ob = true then v = .map (some g) else True
 | some g,.row _ _ sz _,.e i off,v=>v = .pointer (some ⟨g,i * sz + off,none⟩)
 | some g,.row _ _ sz rows,.o,v=>∃ cap,v = .slice (some ⟨g,0,none⟩) rows.length cap ∧ ∀ cs t fr,w.heap[g]? = some (.cells cs t fr) → cs.size = cap * sz
 | some g,.froz _ rows,.o,v=>∃ cap,v = .slice (some ⟨g,0,none⟩) rows.length cap ∧ rows.length ≤ cap ∧ rows.length ≤ maxLen
 | _,_,_,_=>True
structure Ctx where
 H:Heap
 own:Nat → Option Nat
 S:Nat → Prop
 w:World
 l:Nat
def CellsAt (w:World) (g off sz n:Nat) (f:Nat → Nat → Value):Prop:=∀ i,i < n → ∀ j,j < sz → w.cell? ⟨g,off + i * sz + j,none⟩ = some (f i j)
inductive R (C:Ctx):AV → Value → Prop
 | any (v:Value):R C .any v
 | int (k:IntKind) (n:Int):R C (.int k n) (.int k n)
 | bool (b:Bool):R C (.bool b) (.bool b)
 | str (s:ByteArray) (h:s.size ≤ maxLen):R C (.str s) (.string s)
 | agg (cs:List AV) (vs:List Value) (hl:vs.length = cs.length) (h:∀ i a,cs[i]? = some a → R C a (vs.getD i undef)):R C (.agg cs) (.agg vs.toArray)
 | tup (cs:List AV) (vs:List Value) (hl:vs.length = cs.length) (h:∀ i a,cs[i]? = some a → R C a (vs.getD i undef)):R C (.tup cs) (.tuple vs.toArray)
 | sl (rows:List (List AV)) (A:Option Addr) (cap g off sz:Nat) (f:Nat → Nat → Value) (hA:rows ≠ [] → A = some ⟨g,off,none⟩ ∧ C.S g) (hcap:rows.length ≤ cap) (hmax:rows.length ≤ maxLen)
   (hsz:∀ r ∈ rows,r.length = sz) (hc:CellsAt C.w g off sz rows.length f) (hone:∀ i j,(f i j).oneCell' = true)
   (h:∀ i r,rows[i]? = some r → ∀ j a,r[j]? = some a → R C a (f i j)):R C (.sl rows) (.slice A rows.length cap)
 | slt (rows:List (List AV)) (g off sz:Nat) (f:Nat → Nat → Value) (hA:C.S g) (hmax:rows.length ≤ maxLen)
   (hsz:∀ r ∈ rows,r.length = sz) (hc:CellsAt C.w g off sz rows.length f) (hone:∀ i j,(f i j).oneCell' = true)
   (h:∀ i r,rows[i]? = some r → ∀ j a,r[j]? = some a → R C a (f i j)):R C (.slt rows) (.slice (some ⟨g,off,none⟩) rows.length rows.length)
 | nils:R C .nils (.slice none 0 0)
 | elt (row:List AV) (off g o:Nat) (f:Nat → Value) (hA:C.S g) (hc:∀ j,j < row.length → C.w.cell? ⟨g,o + j,none⟩ = some (f j)) (hone:∀ j,(f j).oneCell' = true)
   (h:∀ j a,row[j]? = some a → R C a (f j)):R C (.elt row off) (.pointer (some ⟨g,o + off,none⟩))
 | ref (key ver:Nat) (r:RefK) (blk:Blk) (v:Value) (hb:C.H key = some blk) (hv:ver ≤ blk.ver) (hone:v.oneCell' = true) (h:blk.ver = ver → RefVal C.w (C.own key) blk r v):R C (.ref key ver r) v
 | func (f:FuncId) (cs:List AV) (vs:List Value) (hl:vs.length = cs.length) (h:∀ i a,cs[i]? = some a → R C a (vs.getD i undef)):R C (.func f cs) (.func (.func f) #[] vs.toArray)
 | nilf:R C .nilf .nilFunc
 | nilp:R C .nilp (.pointer none)
 | nilm:R C .nilp (.map none)
 | yld:R C .yld (.func (.yield C.l) #[] #[])
theorem R.one {C:Ctx} {a:AV} {v:Value} (h:R C a v) (hc:a.cell = true):v.oneCell' = true:=by
 cases h <;> first | rfl | (simp [AV.cell] at hc; done) | assumption
structure Ctx.le (C C':Ctx):Prop where
 S:∀ b,C.S b → C'.S b ∧ C'.w.heap[b]? = C.w.heap[b]?
 H:∀ k blk,C.H k = some blk → ∃ blk',C'.H k = some blk' ∧ blk.ver ≤ blk'.ver ∧ (blk'.ver = blk.ver → ∀ r v,RefVal C.w (C.own k) blk r v → RefVal C'.w (C'.own k) blk' r v)
 l:C'.l = C.l
theorem Ctx.le.refl (C:Ctx):C.le C:=⟨fun b hb=>⟨hb,rfl⟩,fun k blk hk=>⟨blk,hk,Nat.le_refl _,fun _ r v hr=>hr⟩,rfl⟩
theorem Ctx.le.trans {A B C:Ctx} (h:A.le B) (k:B.le C):A.le C:=
 ⟨fun b hb=>⟨(k.S b (h.S b hb).1).1,(k.S b (h.S b hb).1).2.trans (h.S b hb).2⟩,fun key blk hk=>by
  obtain ⟨b1,h1,h2,h3⟩:=h.H key blk hk
  obtain ⟨b2,k1,k2,k3⟩:=k.H key b1 h1
  exact ⟨b2,k1,Nat.le_trans h2 k2,fun e r v hr=>k3 (by omega) r v (h3 (by omega) r v hr)⟩,k.l.trans h.l⟩
theorem cell_same {w w':World} {g:Nat} (h:w'.heap[g]? = w.heap[g]?) (o:Nat):w'.cell? ⟨g,o,none⟩ = w.cell? ⟨g,o,none⟩:=World.cell?_of_block (w:=w) (a:=⟨g,o,none⟩) h
theorem R.mono {C C':Ctx} (h:C.le C') {a:AV} {v:Value} (hr:R C a v):R C' a v:=by
 induction hr with
 | any v=>exact .any v
 | int k n=>exact .int k n
 | bool b=>exact .bool b
 | str s hs=>exact .str s hs
 | agg cs vs hl _ ih=>exact .agg cs vs hl ih
 | tup cs vs hl _ ih=>exact .tup cs vs hl ih
 | sl rows A cap g off sz f hA hcap hmax hsz hc hone _ ih=>
  refine .sl rows A cap g off sz f (fun hr=>⟨(hA hr).1,(h.S g (hA hr).2).1⟩) hcap hmax hsz (fun i hi j hj=>?_) hone ih
  have hr:rows ≠ []:=fun e=>by subst e; simp at hi
  exact (cell_same (h.S g (hA hr).2).2 _).trans (hc i hi j hj)
 | slt rows g off sz f hA hmax hsz hc hone _ ih=>
  exact .slt rows g off sz f (h.S g hA).1 hmax hsz (fun i hi j hj=>(cell_same (h.S g hA).2 _).trans (hc i hi j hj)) hone ih
 | nils=>exact .nils
 | elt row off g o f hA hc hone _ ih=>exact .elt row off g o f (h.S g hA).1 (fun j hj=>(cell_same (h.S g hA).2 _).trans (hc j hj)) hone ih
 | ref key ver r blk v hb hv hone hr=>
  obtain ⟨blk',hb',hv',hr'⟩:=h.H key blk hb
  refine .ref key ver r blk' v hb' (Nat.le_trans hv hv') hone fun e=>?_
  have e1:blk'.ver = blk.ver:=by omega
  exact hr' e1 r v (hr (by omega))
 | func f cs vs hl _ ih=>exact .func f cs vs hl ih
 | nilf=>exact .nilf
 | nilp=>exact .nilp
 | nilm=>exact .nilm
 | yld=>rw [← h.l]; exact .yld
def Holds (C:Ctx) (cs:Array Value) (cells:List AV):Prop:=∀ (i:Nat) (a:AV),cells[i]? = some a → ∃ v,cs[i]? = some v ∧ R C a v ∧ a.cell = true
def HRel (C:Ctx):Option Nat → Blk → Prop
 | _,.dead _=>True
 | _,.lent _ _=>True
 | none,.row _ _ sz rows=>rows = [] ∧ 0 < sz
 | none,.froz _ rows=>rows = []
 | none,_=>False
 | some g,.box _ t cells=>∃ cs,C.w.heap[g]? = some (.cells cs t (0,0)) ∧ cs.size = cells.length ∧ Holds C cs cells
 | some g,.row _ t sz rows=>∃ cs cap,C.w.heap[g]? = some (.cells cs t (0,0)) ∧ cs.size = cap * sz ∧ rows.length ≤ cap ∧ cap ≤ maxLen ∧ 0 < sz ∧ (∀ r ∈ rows,r.length = sz) ∧ Holds C cs rows.flatten
 | some g,.froz _ rows=>∃ cs t sz,C.w.heap[g]? = some (.cells cs t (0,0)) ∧ C.S g ∧ 0 < sz ∧ (∀ r ∈ rows,r.length = sz) ∧ Holds C cs rows.flatten
 | some g,.obj _ ob=>∃ o,C.w.heap[g]? = some o ∧ ObIs ob o
 | some g,.fbox _ cells=>∃ cs t,C.w.heap[g]? = some (.cells cs t (0,0)) ∧ C.S g ∧ Holds C cs cells
theorem Holds.mono {C C':Ctx} (h:C.le C') {cs:Array Value} {cells:List AV} (hh:Holds C cs cells):Holds C' cs cells:=fun i a ha=>by
 obtain ⟨v,h1,h2,h3⟩:=hh i a ha
 exact ⟨v,h1,h2.mono h,h3⟩
theorem HRel.mono {C C':Ctx} (h:C.le C') {og:Option Nat} {blk:Blk} (hg:∀ g,og = some g → blk.live = true → C'.w.heap[g]? = C.w.heap[g]?) (hh:HRel C og blk):HRel C' og blk:=by
 cases og with
 | none=>cases blk <;> exact hh
 | some g=>
  cases blk with
  | dead _=>trivial
  | box ver t cells=>
   obtain ⟨cs,h1,h2,h3⟩:=hh
   exact ⟨cs,(hg g rfl rfl).trans h1,h2,h3.mono h⟩
  | row ver t sz rows=>
   obtain ⟨cs,cap,h1,h2,h3,h4,h5,h6,h7⟩:=hh
   exact ⟨cs,cap,(hg g rfl rfl).trans h1,h2,h3,h4,h5,h6,h7.mono h⟩
  | froz ver rows=>
   obtain ⟨cs,t,sz,h1,h2,h3,h4,h5⟩:=hh
   exact ⟨cs,t,sz,(h.S g h2).2.trans h1,(h.S g h2).1,h3,h4,h5.mono h⟩
  | fbox ver cells=>
   obtain ⟨cs,t,h1,h2,h3⟩:=hh
   exact ⟨cs,t,(h.S g h2).2.trans h1,(h.S g h2).1,h3.mono h⟩
  | obj ver ob=>
   obtain ⟨o,h1,h2⟩:=hh
   exact ⟨o,(hg g rfl rfl).trans h1,h2⟩
  | lent ver ob=>trivial
inductive Sp where
 | b (x:Bool)
 /-- what is still to be yielded,each with what the consumer is lent,and what it gives back -/
 | h (l:List (List AV × List (Nat × Blk) × List (Nat × Blk)))
 /-- the consumer has said 'no more',and has given this back -/
 | e (l:List (Nat × Blk))
instance:Coe Bool Sp:=⟨Sp.b⟩
structure G where
 todo:List (List AV)
 stop:Sp
structure Env where
 P:Program
 n:Nat
 w0:World
 S0:Nat → Prop
 X0:Nat → Prop
 J:G → (Nat → Prop) → (Nat → Prop) → World → Prop
 l:Nat
 C0:Ctx
 Cst:Nat → Prop
 Dst:Nat → Prop
 fixed:Bool
def Env.T (E:Env) (b:Nat):Prop:=E.S0 b ∨ E.X0 b ∨ E.w0.heap.size ≤ b
structure Fr (w0:World) (X:Nat → Prop) (w:World):Prop where
 os:w.os = w0.os
 tape:w.tape = w0.tape
 output:w.output = w0.output
 size:w0.heap.size ≤ w.heap.size
 block:∀ b,b < w0.heap.size → ¬ X b → w.heap[b]? = w0.heap[b]?
structure St where
 τ:Nat → AV
 H:Heap
 g:G
structure CDOk (E:Env) (C D:Nat → Prop):Prop where
 c1:∀ b,C b → E.Cst b ∨ E.w0.heap.size ≤ b
 d1:∀ b,D b → E.Dst b ∨ E.S0 b ∨ E.X0 b ∨ E.w0.heap.size ≤ b
structure RelAt (E:Env) (s:St) (a:Act) (w:World) (S:Nat → Prop) (own:Nat → Option Nat) (C D:Nat → Prop) (Ds:List Nat):Prop where
 fr:Fr E.w0 E.X0 w
 hS:∀ b,S b → b < w.heap.size ∧ ¬ C b ∧ (E.S0 b ∨ E.X0 b ∨ E.w0.heap.size ≤ b)
 hS0:∀ b,E.S0 b → S b
 hC:∀ b,C b → D b ∧ (E.X0 b ∨ E.w0.heap.size ≤ b)
 hD:∀ b,D b → b < w.heap.size
 j:E.J s.g C D w
 hown:∀ k blk g,s.H k = some blk → blk.live = true → own k = some g → g < w.heap.size ∧ ¬ S g ∧ ¬ D g ∧ (E.X0 g ∨ E.w0.heap.size ≤ g)
 inj:∀ k k' blk blk' g,s.H k = some blk → s.H k' = some blk' → blk.live = true → blk'.live = true → own k = some g → own k' = some g → k = k'
 heap:∀ k blk,s.H k = some blk → HRel ⟨s.H,own,S,w,E.l⟩ (own k) blk
 tmps:∀ i,R ⟨s.H,own,S,w,E.l⟩ (s.τ i) (a.tmps.getD i undef)
 size:a.tmps.size = E.n
 defers:a.defers = Ds.map fun d=>{ target:=.collected d,args:=#[] }
 hDs:∀ d ∈ Ds,w.heap[d]? = some (.deferred (some [])) ∧ E.w0.heap.size ≤ d ∧ ¬ S d ∧ ¬ D d
 nodup:Ds.Nodup
 le:E.C0.le ⟨s.H,own,S,w,E.l⟩
 cd:CDOk E C D
 fix:E.fixed = true → Ds = []
def Rel (E:Env) (s:St) (a:Act) (w:World):Prop:=∃ S own C D Ds,RelAt E s a w S own C D Ds
def JOk (J:G → (Nat → Prop) → (Nat → Prop) → World → Prop):Prop:=
 ∀ g C D w w',J g C D w → (∀ b,D b → w'.heap[b]? = w.heap[b]?) → w.heap.size ≤ w'.heap.size → w'.os = w.os → w'.tape = w.tape → w'.output = w.output → J g C D w'
def upd {α:Type} (f:Nat → α) (i:Nat) (v:α):Nat → α:=fun j=>if j = i then v else f j
@[simp] theorem upd_same {α:Type} (f:Nat → α) (i:Nat) (v:α):upd f i v i = v:=by simp [upd]
theorem upd_other {α:Type} (f:Nat → α) (i j:Nat) (v:α) (h:j ≠ i):upd f i v j = f j:=by simp [upd,h]
structure Grows (w w':World) (Y:Nat → Prop):Prop where
 os:w'.os = w.os
 tape:w'.tape = w.tape
 output:w'.output = w.output
 size:w.heap.size ≤ w'.heap.size
 block:∀ b,b < w.heap.size → ¬ Y b → w'.heap[b]? = w.heap[b]?
theorem Grows.refl (w:World) (Y:Nat → Prop):Grows w w Y:=⟨rfl,rfl,rfl,Nat.le_refl _,fun _ _ _=>rfl⟩
theorem Grows.trans {a b c:World} {Y Z:Nat → Prop} (h:Grows a b Y) (k:Grows b c Z) (hz:∀ x,Z x → x < a.heap.size → Y x):Grows a c Y:=
 ⟨k.os.trans h.os,k.tape.trans h.tape,k.output.trans h.output,Nat.le_trans h.size k.size,fun x hx hy=>(k.block x (Nat.lt_of_lt_of_le hx h.size) (fun hzx=>hy (hz x hzx hx))).trans (h.block x hx hy)⟩
theorem Grows.of_below {w w':World} (h:Below w.heap.size w w') (Y:Nat → Prop):Grows w w' Y:=⟨h.os,h.tape,h.output,h.size,fun b hb _=>h.block b hb⟩
theorem Grows.alloc (w:World) (o:Obj) (Y:Nat → Prop):Grows w (w.alloc o) Y:=.of_below ((Below.refl _ w).alloc (Nat.le_refl _) o) Y
theorem Grows.of_grownBy {w w':World} {row:Option Nat} (h:w.grownBy w' row) (Y:Nat → Prop) (hY:∀ k,row = some k → Y k):Grows w w' Y:=
 ⟨h.os,h.tape,h.output,h.size,fun b hb hn=>h.block b hb fun e=>hn (hY b e.symm)⟩
theorem RefVal.same {w w':World} {og:Option Nat} {blk:Blk} (h:∀ g,og = some g → blk.live = true → w'.heap[g]? = w.heap[g]?) {r:RefK} {v:Value} (hr:RefVal w og blk r v):RefVal w' og blk r v:=by
 cases og with
 | none=>cases blk <;> cases r <;> exact hr
 | some g=>
  cases blk <;> cases r <;> simp only [RefVal] at hr ⊢ <;> first | exact hr | skip
  obtain ⟨cap,h1,h2⟩:=hr
  exact ⟨cap,h1,fun cs t fr hh=>h2 cs t fr (h g rfl rfl ▸ hh)⟩
theorem Fr.grows {w0:World} {X:Nat → Prop} {w w':World} (h:Fr w0 X w) {Y:Nat → Prop} (hg:Grows w w' Y) (hY:∀ b,Y b → X b ∨ w0.heap.size ≤ b):Fr w0 X w':=
 ⟨hg.os.trans h.os,hg.tape.trans h.tape,hg.output.trans h.output,Nat.le_trans h.size hg.size,fun b hb hx=>(hg.block b (Nat.lt_of_lt_of_le hb h.size) (fun hy=>(hY b hy).elim hx (fun h=>absurd h (by omega)))).trans (h.block b hb hx)⟩
section
variable {E : Env} {s : St} {a : Act} {w : World} {S : Nat → Prop} {own : Nat → Option Nat} {C D : Nat → Prop} {Ds : List Nat}
abbrev ctx (E:Env) (s:St) (w:World) (S:Nat → Prop) (own:Nat → Option Nat):Ctx:=⟨s.H,own,S,w,E.l⟩
theorem RelAt.leQuiet (h:RelAt E s a w S own C D Ds) {w':World} (hg:Grows w w' fun _=>False) {S':Nat → Prop} (hS:∀ b,S b → S' b):(ctx E s w S own).le (ctx E s w' S' own) where
 S:=fun b hb=>⟨hS b hb,hg.block b (h.hS b hb).1 id⟩
 H:=fun k blk hk=>⟨blk,hk,Nat.le_refl _,fun _ r v hr=>hr.same fun g e hl=>hg.block _ (h.hown k blk g hk hl e).1 id⟩
 l:=rfl
theorem RelAt.quiet (h:RelAt E s a w S own C D Ds) (hJ:JOk E.J) {w':World} (hg:Grows w w' fun _=>False) (N:Nat → Prop) (hN:∀ b,N b → w.heap.size ≤ b ∧ b < w'.heap.size)
  {τ':Nat → AV} {a':Act} (hsz:a'.tmps.size = a.tmps.size) (hd:a'.defers = a.defers)
  (ht:(ctx E s w S own).le (ctx E s w' (fun b=>S b ∨ N b) own) → ∀ i,R (ctx E s w' (fun b=>S b ∨ N b) own) (τ' i) (a'.tmps.getD i undef)) :
  RelAt E { s with τ:=τ' } a' w' (fun b=>S b ∨ N b) own C D Ds:=by
 have hle:=h.leQuiet hg (S':=fun b=>S b ∨ N b) (fun b hb=>.inl hb)
 have hnlt:∀ b,N b → ¬ b < w.heap.size:=fun b hb=>by have:=(hN b hb).1; omega
 have hw0:=h.fr.size
 exact {
  fr:=h.fr.grows hg (fun _ hb=>hb.elim)
  hS:=fun b hb=>by
   rcases hb with hb | hb
   ·exact ⟨Nat.lt_of_lt_of_le (h.hS b hb).1 hg.size,(h.hS b hb).2.1,(h.hS b hb).2.2⟩
   ·exact ⟨(hN b hb).2,fun hc=>hnlt b hb (h.hD b (h.hC b hc).1),.inr (.inr (by have:=(hN b hb).1; omega))⟩
  hS0:=fun b hb=>.inl (h.hS0 b hb)
  hC:=h.hC
  hD:=fun b hb=>Nat.lt_of_lt_of_le (h.hD b hb) hg.size
  j:=hJ _ _ _ _ _ h.j (fun b hb=>hg.block b (h.hD b hb) id) hg.size hg.os hg.tape hg.output
  hown:=fun k blk g hk hl e=>by
   obtain ⟨h1,h2,h3,h4⟩:=h.hown k blk g hk hl e
   exact ⟨Nat.lt_of_lt_of_le h1 hg.size,fun hs=>hs.elim h2 (fun hn=>hnlt _ hn h1),h3,h4⟩
  inj:=h.inj
  heap:=fun k blk hk=>(h.heap k blk hk).mono hle (fun g e hl=>hg.block _ (h.hown k blk g hk hl e).1 id)
  tmps:=ht hle
  size:=hsz.trans h.size
  defers:=hd.trans h.defers
  hDs:=fun d hd=>by
   obtain ⟨h1,h2,h3,h4⟩:=h.hDs d hd
   have hlt:d < w.heap.size:=(Array.getElem?_eq_some_iff.1 h1).1
   exact ⟨(hg.block d hlt id).trans h1,h2,fun hs=>hs.elim h3 (fun hn=>hnlt _ hn hlt),h4⟩
  nodup:=h.nodup
  le:=h.le.trans hle
  cd:=h.cd
  fix:=h.fix }
def LiveAt (s:St) (own:Nat → Option Nat) (k:Nat) (b:Nat):Prop:=∃ blk,s.H k = some blk ∧ blk.live = true ∧ own k = some b
theorem RelAt.leKey (h:RelAt E s a w S own C D Ds) (k:Nat) (g':Option Nat) (blk':Blk) {w':World} (hg:Grows w w' (LiveAt s own k))
  (hver:∀ blk,s.H k = some blk → blk.ver ≤ blk'.ver ∧ (blk'.ver = blk.ver → ∀ r v,RefVal w (own k) blk r v → RefVal w' g' blk' r v)) :
  (ctx E s w S own).le ⟨upd s.H k (some blk'),upd own k g',S,w',E.l⟩ where
 S:=fun b hb=>⟨hb,hg.block b (h.hS b hb).1 (fun ⟨blk,hk,hl,e⟩=>(h.hown k blk b hk hl e).2.1 hb)⟩
 H:=fun k0 blk hk=>by
  by_cases e:k0 = k
  ·subst e
   exact ⟨blk',by simp,(hver blk hk).1,fun hv r v hr=>by simpa using (hver blk hk).2 hv r v hr⟩
  ·refine ⟨blk,by simpa [upd,e] using hk,Nat.le_refl _,fun _ r v hr=>?_⟩
   have e1:upd own k g' k0 = own k0:=by simp [upd,e]
   show RefVal w' (upd own k g' k0) blk r v
   rw [e1]
   refine hr.same fun g eg hl=>hg.block _ (h.hown k0 blk g hk hl eg).1 ?_
   rintro ⟨blk1,hk1,hl1,e2⟩
   exact e (h.inj k0 k blk blk1 g hk hk1 hl hl1 eg e2)
 l:=rfl
theorem RelAt.key (h:RelAt E s a w S own C D Ds) (hJ:JOk E.J) (k:Nat) (g':Option Nat) (blk':Blk) {w':World} (hg:Grows w w' (LiveAt s own k))
  (hver:∀ blk,s.H k = some blk → blk.ver ≤ blk'.ver ∧ (blk'.ver = blk.ver → ∀ r v,RefVal w (own k) blk r v → RefVal w' g' blk' r v))
  (hg':∀ g,g' = some g → (w.heap.size ≤ g ∧ g < w'.heap.size) ∨ LiveAt s own k g)
  (hrel:(ctx E s w S own).le ⟨upd s.H k (some blk'),upd own k g',S,w',E.l⟩ → HRel ⟨upd s.H k (some blk'),upd own k g',S,w',E.l⟩ g' blk')
  {τ':Nat → AV} {a':Act} (hsz:a'.tmps.size = a.tmps.size) (hd:a'.defers = a.defers)
  (ht:(ctx E s w S own).le ⟨upd s.H k (some blk'),upd own k g',S,w',E.l⟩ → ∀ i,R ⟨upd s.H k (some blk'),upd own k g',S,w',E.l⟩ (τ' i) (a'.tmps.getD i undef)) :
  RelAt E { s with τ:=τ',H:=upd s.H k (some blk') } a' w' S (upd own k g') C D Ds:=by
 have hle:=h.leKey (E:=E) k g' blk' hg hver
 have hw0:=h.fr.size
 have hin:∀ b,LiveAt s own k b → b < w.heap.size ∧ ¬ S b ∧ ¬ D b ∧ (E.X0 b ∨ E.w0.heap.size ≤ b):=fun b ⟨blk,hk,hl,e⟩=>h.hown k blk b hk hl e
 have hgi:∀ g,g' = some g → g < w'.heap.size ∧ ¬ S g ∧ ¬ D g ∧ (E.X0 g ∨ E.w0.heap.size ≤ g):=fun g eg=>by
  rcases hg' g eg with ⟨h1,h2⟩ | h1
  ·exact ⟨h2,fun hs=>absurd (h.hS _ hs).1 (by omega),fun hdd=>absurd (h.hD _ hdd) (by omega),.inr (by omega)⟩
  ·obtain ⟨h2,h3,h4,h5⟩:=hin _ h1
   exact ⟨Nat.lt_of_lt_of_le h2 hg.size,h3,h4,h5⟩
 have hne:∀ k0 blk g,k0 ≠ k → s.H k0 = some blk → blk.live = true → own k0 = some g → g' = some g → False:=fun k0 blk g hk hb hl e eg=>by
  rcases hg' g eg with ⟨h1,h2⟩ | ⟨blk1,hb1,hl1,e1⟩
  ·have:=(h.hown k0 blk g hb hl e).1; omega
  ·exact hk (h.inj k0 k blk blk1 g hb hb1 hl hl1 e e1)
 exact {
  fr:=h.fr.grows hg (fun b hb=>(hin b hb).2.2.2)
  hS:=fun b hb=>⟨Nat.lt_of_lt_of_le (h.hS b hb).1 hg.size,(h.hS b hb).2⟩
  hS0:=h.hS0
  hC:=h.hC
  hD:=fun b hb=>Nat.lt_of_lt_of_le (h.hD b hb) hg.size
  j:=hJ _ _ _ _ _ h.j (fun b hb=>hg.block b (h.hD b hb) (fun hl=>(hin b hl).2.2.1 hb)) hg.size hg.os hg.tape hg.output
  hown:=fun k0 blk g hk hl eg=>by
   by_cases e:k0 = k
   ·subst e; exact hgi g (by simpa using eg)
   ·have hk':s.H k0 = some blk:=by simpa [upd,e] using hk
    obtain ⟨h1,h2⟩:=h.hown k0 blk g hk' hl (by simpa [upd,e] using eg)
    exact ⟨Nat.lt_of_lt_of_le h1 hg.size,h2⟩
  inj:=fun k1 k2 b1 b2 g hk1 hk2 hl1 hl2 eg1 eg2=>by
   by_cases e1:k1 = k <;> by_cases e2:k2 = k
   ·rw [e1,e2]
   ·have hk2':s.H k2 = some b2:=by simpa [upd,e2] using hk2
    simp [upd,e1] at eg1
    simp [upd,e2] at eg2
    exact (hne k2 b2 g e2 hk2' hl2 eg2 eg1).elim
   ·have hk1':s.H k1 = some b1:=by simpa [upd,e1] using hk1
    simp [upd,e1] at eg1
    simp [upd,e2] at eg2
    exact (hne k1 b1 g e1 hk1' hl1 eg1 eg2).elim
   ·have hk1':s.H k1 = some b1:=by simpa [upd,e1] using hk1
    have hk2':s.H k2 = some b2:=by simpa [upd,e2] using hk2
    simp [upd,e1] at eg1
    simp [upd,e2] at eg2
    exact h.inj k1 k2 b1 b2 g hk1' hk2' hl1 hl2 eg1 eg2
  heap:=fun k0 blk hk=>by
   by_cases e:k0 = k
   ·subst e
    simp at hk
    subst hk
    simpa using hrel hle
   ·have hk':s.H k0 = some blk:=by simpa [upd,e] using hk
    have:=(h.heap k0 blk hk').mono hle (fun g eg hl=>hg.block _ (h.hown k0 blk g hk' hl eg).1 (fun ⟨b1,hb1,hl1,e1⟩=>e (h.inj k0 k blk b1 g hk' hb1 hl hl1 eg e1)))
    simpa [upd,e] using this
  tmps:=ht hle
  size:=hsz.trans h.size
  defers:=hd.trans h.defers
  hDs:=fun d hd=>by
   obtain ⟨h1,h2,h3,h4⟩:=h.hDs d hd
   refine ⟨(hg.block d (Array.getElem?_eq_some_iff.1 h1).1 ?_).trans h1,h2,h3,h4⟩
   rintro ⟨blk,hk,hl,e⟩
   have hh:=h.heap k blk hk
   rw [e] at hh
   cases blk <;> first | (simp [Blk.live] at hl; done) | skip
   ·obtain ⟨cs,hcs,_⟩:=hh; rw [h1] at hcs; cases hcs
   ·obtain ⟨cs,cap,hcs,_⟩:=hh; rw [h1] at hcs; cases hcs
   ·obtain ⟨o,hcs,ho⟩:=hh; rw [h1] at hcs; cases hcs; exact ho.not.2.1 _ rfl
  nodup:=h.nodup
  le:=h.le.trans hle
  cd:=h.cd
  fix:=h.fix }
theorem RelAt.keyN (h:RelAt E s a w S own C D Ds) (hJ:JOk E.J) (k:Nat) (g':Option Nat) (blk':Blk) {w':World} (hg:Grows w w' (LiveAt s own k))
  (hver:∀ blk,s.H k = some blk → blk.ver ≤ blk'.ver ∧ (blk'.ver = blk.ver → ∀ r v,RefVal w (own k) blk r v → RefVal w' g' blk' r v))
  (N:Nat → Prop) (hN:∀ b,N b → w.heap.size ≤ b ∧ b < w'.heap.size ∧ g' ≠ some b) (hg':∀ g,g' = some g → w.heap.size ≤ g ∧ g < w'.heap.size)
  (hrel:(ctx E s w S own).le ⟨upd s.H k (some blk'),upd own k g',fun b=>S b ∨ N b,w',E.l⟩ → HRel ⟨upd s.H k (some blk'),upd own k g',fun b=>S b ∨ N b,w',E.l⟩ g' blk')
  {τ':Nat → AV} {a':Act} (hsz:a'.tmps.size = a.tmps.size) (hd:a'.defers = a.defers)
  (ht:(ctx E s w S own).le ⟨upd s.H k (some blk'),upd own k g',fun b=>S b ∨ N b,w',E.l⟩ → ∀ i,R ⟨upd s.H k (some blk'),upd own k g',fun b=>S b ∨ N b,w',E.l⟩ (τ' i) (a'.tmps.getD i undef)) :
  RelAt E { s with τ:=τ',H:=upd s.H k (some blk') } a' w' (fun b=>S b ∨ N b) (upd own k g') C D Ds:=by
 have hle0:=h.leKey (E:=E) k g' blk' hg hver
 have hle:(ctx E s w S own).le ⟨upd s.H k (some blk'),upd own k g',fun b=>S b ∨ N b,w',E.l⟩:=⟨fun b hb=>⟨.inl (hle0.S b hb).1,(hle0.S b hb).2⟩,hle0.H,hle0.l⟩
 have hnlt:∀ b,N b → ¬ b < w.heap.size:=fun b hb=>by have:=(hN b hb).1; omega
 have hw0:=h.fr.size
 have hin:∀ b,LiveAt s own k b → b < w.heap.size ∧ ¬ S b ∧ ¬ D b ∧ (E.X0 b ∨ E.w0.heap.size ≤ b):=fun b ⟨blk,hk,hl,e⟩=>h.hown k blk b hk hl e
 have hgi:∀ g,g' = some g → g < w'.heap.size ∧ ¬ (S g ∨ N g) ∧ ¬ D g ∧ (E.X0 g ∨ E.w0.heap.size ≤ g):=fun g eg=>by
  obtain ⟨h1,h2⟩:=hg' g eg
  exact ⟨h2,fun hs=>hs.elim (fun hs=>absurd (h.hS _ hs).1 (by omega)) fun hn=>(hN g hn).2.2 eg,fun hdd=>absurd (h.hD _ hdd) (by omega),.inr (by omega)⟩
 have hne:∀ k0 blk g,k0 ≠ k → s.H k0 = some blk → blk.live = true → own k0 = some g → g' = some g → False:=fun k0 blk g hk hb hl e eg=>by
  obtain ⟨h1,h2⟩:=hg' g eg
  have:=(h.hown k0 blk g hb hl e).1
  omega
 exact {
  fr:=h.fr.grows hg (fun b hb=>(hin b hb).2.2.2)
  hS:=fun b hb=>by
   rcases hb with hb | hb
   ·exact ⟨Nat.lt_of_lt_of_le (h.hS b hb).1 hg.size,(h.hS b hb).2⟩
   ·exact ⟨(hN b hb).2.1,fun hc=>hnlt b hb (h.hD b (h.hC b hc).1),.inr (.inr (by have:=(hN b hb).1; omega))⟩
  hS0:=fun b hb=>.inl (h.hS0 b hb)
  hC:=h.hC
  hD:=fun b hb=>Nat.lt_of_lt_of_le (h.hD b hb) hg.size
  j:=hJ _ _ _ _ _ h.j (fun b hb=>hg.block b (h.hD b hb) (fun hl=>(hin b hl).2.2.1 hb)) hg.size hg.os hg.tape hg.output
  hown:=fun k0 blk g hk hl eg=>by
   by_cases e:k0 = k
   ·subst e; exact hgi g (by simpa using eg)
   ·have hk':s.H k0 = some blk:=by simpa [upd,e] using hk
    obtain ⟨h1,h2,h3⟩:=h.hown k0 blk g hk' hl (by simpa [upd,e] using eg)
    exact ⟨Nat.lt_of_lt_of_le h1 hg.size,fun hs=>hs.elim h2 fun hn=>hnlt _ hn h1,h3⟩
  inj:=fun k1 k2 b1 b2 g hk1 hk2 hl1 hl2 eg1 eg2=>by
   by_cases e1:k1 = k <;> by_cases e2:k2 = k
   ·rw [e1,e2]
   ·have hk2':s.H k2 = some b2:=by simpa [upd,e2] using hk2
    simp [upd,e1] at eg1
    simp [upd,e2] at eg2
    exact (hne k2 b2 g e2 hk2' hl2 eg2 eg1).elim
   ·have hk1':s.H k1 = some b1:=by simpa [upd,e1] using hk1
    simp [upd,e1] at eg1
    simp [upd,e2] at eg2
    exact (hne k1 b1 g e1 hk1' hl1 eg1 eg2).elim
   ·have hk1':s.H k1 = some b1:=by simpa [upd,e1] using hk1
    have hk2':s.H k2 = some b2:=by simpa [upd,e2] using hk2
    simp [upd,e1] at eg1
    simp [upd,e2] at eg2
    exact h.inj k1 k2 b1 b2 g hk1' hk2' hl1 hl2 eg1 eg2
  heap:=fun k0 blk hk=>by
   by_cases e:k0 = k
   ·subst e
    simp at hk
    subst hk
    simpa using hrel hle
   ·have hk':s.H k0 = some blk:=by simpa [upd,e] using hk
    have:=(h.heap k0 blk hk').mono hle (fun g eg hl=>hg.block _ (h.hown k0 blk g hk' hl eg).1 (fun ⟨b1,hb1,hl1,e1⟩=>e (h.inj k0 k blk b1 g hk' hb1 hl hl1 eg e1)))
    simpa [upd,e] using this
  tmps:=ht hle
  size:=hsz.trans h.size
  defers:=hd.trans h.defers
  hDs:=fun d hd=>by
   obtain ⟨h1,h2,h3,h4⟩:=h.hDs d hd
   have hlt:d < w.heap.size:=(Array.getElem?_eq_some_iff.1 h1).1
   refine ⟨(hg.block d hlt ?_).trans h1,h2,fun hs=>hs.elim h3 fun hn=>hnlt _ hn hlt,h4⟩
   rintro ⟨blk,hk,hl,e⟩
   have hh:=h.heap k blk hk
   rw [e] at hh
   cases blk <;> first | (simp [Blk.live] at hl; done) | skip
   ·obtain ⟨cs,hcs,_⟩:=hh; rw [h1] at hcs; cases hcs
   ·obtain ⟨cs,cap,hcs,_⟩:=hh; rw [h1] at hcs; cases hcs
   ·obtain ⟨o,hcs,ho⟩:=hh; rw [h1] at hcs; cases hcs; exact ho.not.2.1 _ rfl
  nodup:=h.nodup
  le:=h.le.trans hle
  cd:=h.cd
  fix:=h.fix }
end
end Go.Am
namespace Go.Am
open Go.RowKit
def szOf (P:Program) (t:TypeId):Option Nat:=(P.info? t).map (·.size)
def byOf (P:Program) (t:TypeId):Option Nat:=(P.info? t).map (·.bytes)
def zeroOf (P:Program) (t:TypeId):Option Value:=(P.info? t).bind (·.zero)
def aggOf (P:Program) (t:TypeId):Option Bool:=
 match P.underlying t with
 | some (.struct _) | some (.array _ _)=>some true
 | some _=>some false
 | none=>none
def fldOf (P:Program) (t:TypeId) (f:Nat):Option (Nat × Nat):=
 match P.underlying t with
 | some (.struct fs)=>(fs[f]?).bind fun x=>(szOf P x.type).map fun n=>(x.offset,n)
 | _=>none
def fldAgOf (P:Program) (t:TypeId) (f:Nat):Option Bool:=
 match P.underlying t with
 | some (.struct fs)=>(fs[f]?).bind fun x=>aggOf P x.type
 | _=>none
def elOf (P:Program) (t:TypeId):Option TypeId:=
 match P.underlying t with
 | some (.slice e)=>some e
 | _=>none
def arOf (P:Program) (t:TypeId):Option (Nat × TypeId):=
 match P.underlying t with
 | some (.array n e)=>some (n,e)
 | _=>none
section
variable {P : Program} {t : TypeId} (w : World)
theorem run_sz {n:Nat} (h:szOf P t = some n):(sizeOf t).run P w = .ok n w:=by
 obtain ⟨i,hi,rfl⟩:=Option.map_eq_some_iff.1 h
 simp [sizeOf,typeInfo,hi]
theorem run_zero {z:Value} (h:zeroOf P t = some z):(zeroValue t).run P w = .ok z w:=by
 obtain ⟨i,hi,hz⟩:=Option.bind_eq_some_iff.1 h
 simp [zeroValue,typeInfo,hi,hz]
theorem run_agg {b:Bool} (h:aggOf P t = some b):(isAgg t).run P w = .ok b w:=by
 unfold aggOf at h
 cases hu:P.underlying t with
 | none=>simp [hu] at h
 | some d=>
  unfold isAgg
  simp only [Sem.run_bind,run_underlying hu,Result.andThen_ok]
  rw [hu] at h
  cases d <;> simp_all
theorem elOf_iff {e:TypeId} (h:elOf P t = some e):P.underlying t = some (.slice e):=by
 unfold elOf at h
 split at h <;> simp_all
theorem arOf_iff {n:Nat} {e:TypeId} (h:arOf P t = some (n,e)):P.underlying t = some (.array n e):=by
 unfold arOf at h
 split at h <;> simp_all
theorem fldOf_iff {f o n:Nat} (h:fldOf P t f = some (o,n)):∃ fs x,P.underlying t = some (.struct fs) ∧ fs[f]? = some x ∧ szOf P x.type = some n ∧ x.offset = o:=by
 unfold fldOf at h
 split at h
 ·rename_i fs hu
  obtain ⟨x,hx,h2⟩:=Option.bind_eq_some_iff.1 h
  obtain ⟨k,hk,h3⟩:=Option.map_eq_some_iff.1 h2
  simp only [Prod.mk.injEq] at h3
  exact ⟨fs,x,hu,hx,by rw [hk,h3.2],h3.1⟩
 ·cases h
end
def ofVal0:Value → AV
 | .bool b=>.bool b
 | .int k n=>.int k n
 | .string s=>if s.size ≤ maxLen then .str s else .any
 | .slice none 0 0=>.nils
 | .pointer none=>.nilp
 | .map none=>.nilp
 | .nilFunc=>.nilf
 | _=>.any
def ofVal:Value → AV
 | .agg vs=>.agg (vs.toList.map ofVal0)
 | .tuple vs=>.tup (vs.toList.map ofVal0)
 | v=>ofVal0 v
theorem R_ofVal0 (C:Ctx) (v:Value):R C (ofVal0 v) v:=by
 unfold ofVal0
 split <;> first | constructor | skip
 split
 ·exact .str _ (by assumption)
 ·exact .any _
theorem R_ofVals (C:Ctx) (vs:List Value):∀ i a,(vs.map ofVal0)[i]? = some a → R C a (vs.getD i undef):=fun i a h=>by
 rw [List.getElem?_map] at h
 obtain ⟨v,hv,rfl⟩:=Option.map_eq_some_iff.1 h
 rw [List.getD_eq_getElem?_getD,hv]
 exact R_ofVal0 C v
theorem R_ofVal (C:Ctx) (v:Value):R C (ofVal v) v:=by
 unfold ofVal
 split
 ·rename_i vs
  exact .agg _ vs.toList (by simp) (R_ofVals C vs.toList)
 ·rename_i vs
  exact .tup _ vs.toList (by simp) (R_ofVals C vs.toList)
 ·exact R_ofVal0 C _
def AV.cells:AV → List AV
 | .agg cs=>cs
 | a=>[a]
abbrev okCells (cs:List AV):Bool:=cs.all AV.cell
theorem okCells_get {cs:List AV} (h:okCells cs = true) {i:Nat} {a:AV} (ha:cs[i]? = some a):a.cell = true:=by
 have:=List.all_eq_true.1 h a (List.mem_of_getElem? ha)
 exact this
theorem R.holds {C:Ctx} {a:AV} {v:Value} (h:R C a v) (hc:okCells a.cells = true):v.cells.size = a.cells.length ∧ Holds C v.cells a.cells:=by
 by_cases hagg:∃ cs,a = .agg cs
 ·obtain ⟨cs,rfl⟩:=hagg
  cases h with
  | agg _ vs hl hh=>
   refine ⟨by simpa [Value.cells,AV.cells] using hl,fun i a ha=>?_⟩
   have hi:i < vs.length:=by
    have:=(List.getElem?_eq_some_iff.1 ha).1
    simp only [AV.cells] at this
    omega
   refine ⟨vs[i],by simp [Value.cells,hi],?_,okCells_get hc ha⟩
   have:=hh i a ha
   rwa [List.getD_eq_getElem?_getD,List.getElem?_eq_getElem hi] at this
 ·have e:a.cells = [a]:=by cases a <;> first | rfl | exact (hagg ⟨_,rfl⟩).elim
  rw [e] at hc ⊢
  have hcell:a.cell = true:=by simpa [okCells] using hc
  have h1:=h.one hcell
  have ev:v.cells = #[v]:=by cases v <;> first | rfl | (simp [Value.oneCell'] at h1)
  rw [ev]
  refine ⟨rfl,fun i b hb=>?_⟩
  match i,hb with
  | 0,hb=>
   simp at hb
   subst hb
   exact ⟨v,by simp,h,hcell⟩
theorem Holds.one {C:Ctx} {cs:Array Value} {cells:List AV} (h:Holds C cs cells) (hs:cs.size = cells.length):∀ v ∈ cs.toList,v.oneCell' = true:=fun v hv=>by
 obtain ⟨i,hi,rfl⟩:=List.getElem_of_mem hv
 have hi':i < cells.length:=by simpa [hs] using hi
 obtain ⟨u,h1,h2,h3⟩:=h i cells[i] (List.getElem?_eq_getElem hi')
 have:u = cs.toList[i]:=by
  have h4:cs.toList[i]? = some u:=by simpa using h1
  rw [List.getElem?_eq_getElem hi] at h4
  exact (Option.some.inj h4).symm
 rw [← this]
 exact h2.one h3
def RdAt (C:Ctx) (g o:Nat) (cells:List AV):Prop:=∃ f:Nat → Value,(∀ j,j < cells.length → C.w.cell? ⟨g,o + j,none⟩ = some (f j)) ∧ ∀ j a,cells[j]? = some a → R C a (f j)
theorem Holds.rd {C:Ctx} {g:Nat} {cs:Array Value} {t:TypeId} {fr:Nat × Nat} {cells:List AV} (h:Holds C cs cells) (hg:C.w.heap[g]? = some (.cells cs t fr)):RdAt C g 0 cells:=by
 refine ⟨fun j=>cs.getD j undef,fun j hj=>?_,fun j a ha=>?_⟩
 ·obtain ⟨v,hv,_⟩:=h j cells[j] (List.getElem?_eq_getElem hj)
  rw [Nat.zero_add,cell_of_row C.w g j cs t fr hg,hv]
  simp [Array.getD_eq_getD_getElem?,hv]
 ·obtain ⟨v,hv,hr,_⟩:=h j a ha
  simpa [Array.getD_eq_getD_getElem?,hv] using hr
theorem RdAt.drop {C:Ctx} {g o:Nat} {cells:List AV} (h:RdAt C g o cells) (k:Nat):RdAt C g (o + k) (cells.drop k):=by
 obtain ⟨f,h1,h2⟩:=h
 refine ⟨fun j=>f (k + j),fun j hj=>?_,fun j a ha=>h2 _ a (by simpa [List.getElem?_drop] using ha)⟩
 rw [List.length_drop] at hj
 rw [Nat.add_assoc]
 exact h1 (k + j) (by omega)
theorem RdAt.take {C:Ctx} {g o:Nat} {cells:List AV} (h:RdAt C g o cells) (k:Nat):RdAt C g o (cells.take k):=by
 obtain ⟨f,h1,h2⟩:=h
 refine ⟨f,fun j hj=>h1 j ?_,fun j a ha=>?_⟩
 ·rw [List.length_take] at hj; omega
 ·rw [List.getElem?_take] at ha
  split at ha
  ·exact h2 j a ha
  ·cases ha
def readA (cells:List AV) (off n:Nat) (ag:Bool):Option AV:=
 if ag then (if off + n ≤ cells.length then some (.agg ((cells.drop off).take n)) else none) else cells[off]?
theorem run_read {C:Ctx} {P:Program} {g o off:Nat} {cells:List AV} (h:RdAt C g o cells) {t:TypeId} {n:Nat} {ag:Bool} (hn:szOf P t = some n) (ha:aggOf P t = some ag) {a:AV}
  (hr:readA cells off n ag = some a):∃ v,(Instr.loadAt t (.pointer (some ⟨g,o + off,none⟩))).run P C.w = .ok v C.w ∧ R C a v:=by
 unfold Instr.loadAt Instr.sureAddr loadVar
 simp only [Sem.run_bind,Sem.run_pure,Result.andThen_ok,run_agg C.w ha]
 cases ag with
 | true=>
  unfold readA at hr
  simp only [if_true] at hr
  split at hr
  ·rename_i hle
   cases hr
   obtain ⟨f,h1,h2⟩:=(h.drop off).take n
   have hlen:((cells.drop off).take n).length = n:=by rw [List.length_take,List.length_drop]; omega
   rw [hlen] at h1
   have hl:=run_loadCells (P:=P) C.w ⟨g,o + off,none⟩ n f (fun j hj=>by
    have:=h1 j hj
    unfold Addr.add
    split
    ·rename_i e; subst e; exact this
    ·exact this)
   simp only [if_true,Sem.run_bind,run_sz C.w hn,Result.andThen_ok,hl,Sem.run_pure]
   refine ⟨_,rfl,.agg _ _ (by rw [List.length_map,List.length_range,hlen]) fun i a hi=>?_⟩
   have hin:i < n:=by have:=(List.getElem?_eq_some_iff.1 hi).1; omega
   rw [List.getD_eq_getElem?_getD,List.getElem?_map,List.getElem?_range hin]
   exact h2 i a hi
  ·cases hr
 | false=>
  simp only [readA,Bool.false_eq_true,if_false] at hr
  obtain ⟨f,h1,h2⟩:=h
  have hlt:off < cells.length:=(List.getElem?_eq_some_iff.1 hr).1
  refine ⟨f off,?_,h2 off a hr⟩
  simp [h1 off hlt]
end Go.Am
namespace Go.Am
open Go.RowKit
def FW (ro:Option Nat):Fence:={ fn:=fun _=>True,depth:=none,alive:=false,round:=ro }
def Op.isDefer:Op → Bool
 | .defer _=>true
 | _=>false
section
variable {P : Program} {ro : Option Nat} {o : Oper} {a : Act} {w w' : World} {next : Act → World → Prop} {Q : Exit → Act → World → Prop}
theorem semAt_plain (h:Op.isDefer o.op = false) (ρ:Operand → Value):o.semAt ro ρ = execOp ρ o:=
 Oper.semAt_eq ro ρ o fun c e=>by rw [e] at h; cases h
theorem wpIn_value {v:Value} (hd:Op.isDefer o.op = false) (h:(execOp a.eval o).run P w = .ok (.value v) w') (hn:next (a.put o.dst v) w'):o.wpIn (FW ro) 0 P a w next Q:=by
 refine ⟨fun _ _=>trivial,?_⟩
 rw [semAt_plain hd,h]
 exact hn
theorem wpIn_none (hd:Op.isDefer o.op = false) (h:(execOp a.eval o).run P w = .ok .skip w') (hn:next (a.put o.dst undef) w'):o.wpIn (FW ro) 0 P a w next Q:=by
 refine ⟨fun _ _=>trivial,?_⟩
 rw [semAt_plain hd,h]
 exact hn
theorem wpIn_enter {f:FuncId} {args:Array Value} (hd:Op.isDefer o.op = false) (h:(execOp a.eval o).run P w = .ok (.enter f args) w')
  (hc:CallsIn (FW none) 0 P f args w' fun e w''=>∃ v,e = .returned v ∧ next (a.put o.dst v) w''):o.wpIn (FW ro) 0 P a w next Q:=by
 refine ⟨fun _ _=>trivial,?_⟩
 rw [semAt_plain hd,h,Oper.uponIn_enter]
 refine ⟨fun h=>by simp [FW] at h,?_⟩
 have hc':CallsIn (FW ro) 0 P f args w' fun e w''=>∃ v,e = .returned v ∧ next (a.put o.dst v) w'':=hc
 refine hc'.mono fun e w'' ⟨v,he,hn⟩=>?_
 subst he
 exact hn
end
def updO (τ:Nat → AV):Option Nat → AV → (Nat → AV)
 | some d,v=>upd τ d v
 | none,_=>τ
theorem put_size (a:Act) (d:Option Nat) (v:Value):(a.put d v).tmps.size = a.tmps.size:=by cases d <;> simp [Act.put]
theorem put_defers (a:Act) (d:Option Nat) (v:Value):(a.put d v).defers = a.defers:=by cases d <;> rfl
theorem R_put {C:Ctx} {τ:Nat → AV} {a:Act} {n:Nat} (h:∀ i,R C (τ i) (a.tmps.getD i undef)) (hn:a.tmps.size = n) {d:Option Nat} (hd:∀ k,d = some k → k < n) {x:AV} {v:Value} (hv:R C x v) :
  ∀ i,R C (updO τ d x i) ((a.put d v).tmps.getD i undef):=by
 intro i
 cases d with
 | none=>exact h i
 | some k=>
  have hk:=hd k rfl
  simp only [updO,Act.put]
  by_cases e:i = k
  ·subst e
   rw [upd_same]
   simpa [Array.getD_eq_getD_getElem?,hn,hk] using hv
  ·rw [upd_other _ _ _ _ e]
   have:=h i
   simpa [Array.getD_eq_getD_getElem?,Array.getElem?_setIfInBounds_ne (Ne.symm e)] using this
def ev (τ:Nat → AV):Operand → AV
 | .tmp t=>τ t
 | .const v=>ofVal v
 | .func f=>.func f []
 | .global _=>.any
theorem R_ev {C:Ctx} {τ:Nat → AV} {a:Act} (h:∀ i,R C (τ i) (a.tmps.getD i undef)) (x:Operand):R C (ev τ x) (a.eval x):=by
 cases x with
 | tmp t=>exact h t
 | const v=>exact R_ofVal C v
 | func f=>exact .func f [] [] rfl (fun i a hi=>by simp at hi)
 | global g=>exact .any _
section
variable {E : Env} {s : St} {a : Act} {w : World} {S : Nat → Prop} {own : Nat → Option Nat} {C D : Nat → Prop} {Ds : List Nat}
def St.put (s:St) (d:Option Nat) (v:AV) (H:Heap):St:={ s with τ:=updO s.τ d v,H:=H }
theorem RelAt.putOld (h:RelAt E s a w S own C D Ds) (hJ:JOk E.J) {d:Option Nat} (hd:∀ k,d = some k → k < E.n) {x:AV} {v:Value} (hv:R (ctx E s w S own) x v) {w':World} (hg:Grows w w' fun _=>False) :
  Rel E (s.put d x s.H) (a.put d v) w':=
 ⟨fun b=>S b ∨ False,own,C,D,Ds,h.quiet hJ hg (fun _=>False) (fun _ hb=>hb.elim) (put_size a d v) (put_defers a d v) fun hle=>R_put (fun i=>(h.tmps i).mono hle) h.size hd (hv.mono hle)⟩
theorem RelAt.putNew (h:RelAt E s a w S own C D Ds) (hJ:JOk E.J) {d:Option Nat} (hd:∀ k,d = some k → k < E.n) {x:AV} {v:Value} {w':World} (hg:Grows w w' fun _=>False)
  (hv:R (ctx E s w' (fun b=>S b ∨ (w.heap.size ≤ b ∧ b < w'.heap.size)) own) x v):Rel E (s.put d x s.H) (a.put d v) w':=
 ⟨_,own,C,D,Ds,h.quiet hJ hg (fun b=>w.heap.size ≤ b ∧ b < w'.heap.size) (fun _ hb=>hb) (put_size a d v) (put_defers a d v) fun hle=>R_put (fun i=>(h.tmps i).mono hle) h.size hd hv⟩
def nv (H:Heap) (k:Nat):Nat:=match H k with | none=>0 | some b=>b.ver + 1
theorem nv_gt {H:Heap} {k:Nat} {b:Blk} (h:H k = some b):b.ver < nv H k:=by simp [nv,h]
theorem RelAt.putBox (h:RelAt E s a w S own C D Ds) (hJ:JOk E.J) {d:Nat} (hd:d < E.n) (t:TypeId) {cells:List AV} {cs:Array Value} (hs:cs.size = cells.length) (hh:Holds (ctx E s w S own) cs cells) :
  Rel E (s.put (some d) (.ref d (nv s.H d) (.p 0)) (upd s.H d (some (.box (nv s.H d) t cells)))) (a.put (some d) (.pointer (some ⟨w.heap.size,0,none⟩))) (w.alloc (.cells cs t)):=by
 refine ⟨S,upd own d (some w.heap.size),C,D,Ds,h.key hJ d (some w.heap.size) (.box (nv s.H d) t cells) (Grows.alloc w _ _) (fun blk hk=>?_) (fun g e=>.inl (by cases e; exact ⟨Nat.le_refl _,by simp⟩)) (fun hle=>?_) (put_size a _ _) (put_defers a _ _) fun hle=>?_⟩
 ·have:=nv_gt hk
  exact ⟨Nat.le_of_lt this,fun e=>by have e2:nv s.H d = blk.ver:=e; omega⟩
 ·exact ⟨cs,heap_alloc_new w _,hs,hh.mono hle⟩
 ·refine R_put (fun i=>(h.tmps i).mono hle) h.size (fun k e=>by cases e; exact hd) ?_
  exact .ref d (nv s.H d) (.p 0) _ _ (upd_same _ _ _) (Nat.le_refl _) rfl fun _=>by simp [RefVal,upd]
def setL (cells:List AV) (off:Nat) (vs:List AV):List AV:=
 if off = 0 ∧ vs.length = cells.length then vs else cells.take off ++ vs ++ cells.drop (off + vs.length)
theorem setL_eq (cells:List AV) (off:Nat) (vs:List AV) (h:off + vs.length ≤ cells.length):setL cells off vs = cells.take off ++ vs ++ cells.drop (off + vs.length):=by
 unfold setL
 split
 ·rename_i e
  obtain ⟨rfl,e⟩:=e
  simp [e]
 ·rfl
theorem setL_length (cells:List AV) (off:Nat) (vs:List AV) (h:off + vs.length ≤ cells.length):(setL cells off vs).length = cells.length:=by
 rw [setL_eq _ _ _ h]
 simp only [List.length_append,List.length_take,List.length_drop]
 omega
theorem Holds.set {C:Ctx} {cs:Array Value} {cells:List AV} (h:Holds C cs cells) {off:Nat} {vs:List AV} {us:List Value} (hu:us.length = vs.length) (hv:Holds C us.toArray vs) (hl:off + vs.length ≤ cells.length) (hcs:cells.length ≤ cs.size) :
  Holds C (cs.toList.take off ++ us ++ cs.toList.drop (off + us.length)).toArray (setL cells off vs):=by
 rw [setL_eq _ _ _ hl]
 intro i a ha
 have hl2:cs.toList.length = cs.size:=rfl
 rw [List.append_assoc,List.getElem?_append] at ha
 rw [List.append_assoc]
 simp only [List.getElem?_toArray]
 rw [List.getElem?_append]
 have e1:(cells.take off).length = off:=by rw [List.length_take]; omega
 have e2:(cs.toList.take off).length = off:=by rw [List.length_take]; omega
 rw [e1] at ha
 rw [e2]
 split at ha
 ·rename_i hi
  rw [if_pos hi,List.getElem?_take,if_pos hi]
  rw [List.getElem?_take,if_pos hi] at ha
  obtain ⟨v,h1,h2⟩:=h i a ha
  exact ⟨v,by simpa using h1,h2⟩
 ·rename_i hi
  rw [if_neg hi,List.getElem?_append,hu]
  rw [List.getElem?_append] at ha
  split at ha
  ·rename_i hj
   rw [if_pos hj]
   obtain ⟨v,h1,h2⟩:=hv _ a ha
   exact ⟨v,by simpa using h1,h2⟩
  ·rename_i hj
   rw [if_neg hj,List.getElem?_drop]
   rw [List.getElem?_drop] at ha
   obtain ⟨v,h1,h2⟩:=h _ a ha
   exact ⟨v,by simpa using h1,h2⟩
end
end Go.Am
namespace Go.Am
open Go.RowKit
theorem toList_eq_iff (a b:ByteArray):(a.toList == b.toList) = decide (a = b):=by
 rw [ByteArray.toList_eq,ByteArray.toList_eq]
 by_cases h:a = b
 ·subst h; simp
 ·have:a.data.toList ≠ b.data.toList:=fun e=>h (by
   cases a; cases b
   exact congrArg ByteArray.mk (Array.toList_inj.1 e))
  rw [decide_eq_false h]
  exact beq_eq_false_iff_ne.2 this
def binV (isb:Bool):BinOp → AV → AV → Option AV
 | .add,.int k a,.int k' b=>if k = k' then some (.int k (k.wrap (a + b))) else none
 | .sub,.int k a,.int k' b=>if k = k' then some (.int k (k.wrap (a - b))) else none
 | .mul,.int k a,.int k' b=>if k = k' then some (.int k (k.wrap (a * b))) else none
 | .quo,.int k a,.int k' b=>if k = k' ∧ b ≠ 0 then some (.int k (k.wrap (a.tdiv b))) else none
 | .rem,.int k a,.int k' b=>if k = k' ∧ b ≠ 0 then some (.int k (a.tmod b)) else none
 | .shl,.int k a,.int _ b=>if b < 0 then none else some (.int k (k.wrap (a * 2 ^ min b.toNat k.bits)))
 | .shr,.int k a,.int _ b=>if b < 0 then none else some (.int k (a.fdiv (2 ^ min b.toNat k.bits)))
 | .eql,.int k a,.int k' b=>if k = k' then some (.bool (decide (a = b))) else none
 | .neq,.int k a,.int k' b=>if k = k' then some (.bool (!decide (a = b))) else none
 | .lss,.int k a,.int k' b=>if k = k' then some (.bool (decide (a < b))) else none
 | .leq,.int k a,.int k' b=>if k = k' then some (.bool (decide (a ≤ b))) else none
 | .gtr,.int k a,.int k' b=>if k = k' then some (.bool (decide (b < a))) else none
 | .geq,.int k a,.int k' b=>if k = k' then some (.bool (decide (b ≤ a))) else none
 | .add,.str a,.str b=>if a.size + b.size ≤ maxLen then some (.str (a ++ b)) else none
 | .eql,.str a,.str b=>some (.bool (decide (a = b)))
 | .neq,.str a,.str b=>some (.bool (!decide (a = b)))
 | .eql,.bool a,.bool b=>if isb then some (.bool (a == b)) else none
 | .neq,.bool a,.bool b=>if isb then some (.bool (!(a == b))) else none
 | _,_,_=>none
def boolOf (P:Program) (t:TypeId):Bool:=match P.underlying t with | some .bool=>true | _=>false
theorem boolOf_iff {P:Program} {t:TypeId} (h:boolOf P t = true):P.underlying t = some .bool:=by
 unfold boolOf at h
 split at h
 ·assumption
 ·cases h
section
variable {P : Program} {t : TypeId} {op : BinOp} (ox oy : Operand) (w : World)
theorem guard_int (k k':IntKind) (a b:Int):(eqGuard op t ox oy (.int k a) (.int k' b)).run P w = .ok () w:=by cases op <;> rfl
theorem guard_str (a b:ByteArray):(eqGuard op t ox oy (.string a) (.string b)).run P w = .ok () w:=by cases op <;> rfl
theorem guard_bool (a b:Bool):(eqGuard op t ox oy (.bool a) (.bool b)).run P w = .ok () w:=by cases op <;> rfl
theorem run_guarded {x y u:Value} {w':World} (hg:(eqGuard op t ox oy x y).run P w = .ok () w) (hb:(binOp op t x y).run P w = .ok u w'):(do eqGuard op t ox oy x y; binOp op t x y:Sem Value).run P w = .ok u w':=by
 simp only [Sem.run_bind,hg,Result.andThen_ok,hb]
end
theorem binV_sound {P:Program} {C:Ctx} {t:TypeId} {op:BinOp} {x y v:AV} {vx vy:Value} (ox oy:Operand) (hx:R C x vx) (hy:R C y vy) (h:binV (boolOf P t) op x y = some v) (w:World) :
  ∃ u,(do eqGuard op t ox oy vx vy; binOp op t vx vy:Sem Value).run P w = .ok u w ∧ R C v u:=by
 unfold binV at h
 split at h
 all_goals first | (cases h; done) | skip
 all_goals cases hx; cases hy
 case h_1 k a k' b=>split at h; (next e=>(subst e; cases h; exact ⟨_,run_guarded ox oy w (guard_int ox oy w ..) (by simp [binOp,Op.intArith]),.int _ _⟩)); (next=>cases h)
 case h_2 k a k' b=>split at h; (next e=>(subst e; cases h; exact ⟨_,run_guarded ox oy w (guard_int ox oy w ..) (by simp [binOp,Op.intArith]),.int _ _⟩)); (next=>cases h)
 case h_3 k a k' b=>split at h; (next e=>(subst e; cases h; exact ⟨_,run_guarded ox oy w (guard_int ox oy w ..) (by simp [binOp,Op.intArith]),.int _ _⟩)); (next=>cases h)
 case h_4 k a k' b=>split at h; (next e=>(obtain ⟨rfl,e⟩:=e; cases h; exact ⟨_,run_guarded ox oy w (guard_int ox oy w ..) (by simp [binOp,Op.intDiv,e]),.int _ _⟩)); (next=>cases h)
 case h_5 k a k' b=>split at h; (next e=>(obtain ⟨rfl,e⟩:=e; cases h; exact ⟨_,run_guarded ox oy w (guard_int ox oy w ..) (by simp [binOp,Op.intDiv,e]),.int _ _⟩)); (next=>cases h)
 case h_6 k a k' b=>split at h; (next e=>cases h); (next e=>(cases h; exact ⟨_,run_guarded ox oy w (guard_int ox oy w ..) (by simp [binOp,Op.shift,e]),.int _ _⟩))
 case h_7 k a k' b=>split at h; (next e=>cases h); (next e=>(cases h; exact ⟨_,run_guarded ox oy w (guard_int ox oy w ..) (by simp [binOp,Op.shift,e]),.int _ _⟩))
 case h_8 k a k' b=>split at h; (next e=>(subst e; cases h; exact ⟨_,run_guarded ox oy w (guard_int ox oy w ..) (by simp [binOp,Op.intCmp]; rfl),.bool _⟩)); (next=>cases h)
 case h_9 k a k' b=>split at h; (next e=>(subst e; cases h; exact ⟨_,run_guarded ox oy w (guard_int ox oy w ..) (by simp [binOp,Op.intCmp]; rfl),.bool _⟩)); (next=>cases h)
 case h_10 k a k' b=>split at h; (next e=>(subst e; cases h; exact ⟨_,run_guarded ox oy w (guard_int ox oy w ..) (by simp [binOp,Op.intCmp]),.bool _⟩)); (next=>cases h)
 case h_11 k a k' b=>split at h; (next e=>(subst e; cases h; exact ⟨_,run_guarded ox oy w (guard_int ox oy w ..) (by simp [binOp,Op.intCmp]),.bool _⟩)); (next=>cases h)
 case h_12 k a k' b=>split at h; (next e=>(subst e; cases h; exact ⟨_,run_guarded ox oy w (guard_int ox oy w ..) (by simp [binOp,Op.intCmp]),.bool _⟩)); (next=>cases h)
 case h_13 k a k' b=>split at h; (next e=>(subst e; cases h; exact ⟨_,run_guarded ox oy w (guard_int ox oy w ..) (by simp [binOp,Op.intCmp]),.bool _⟩)); (next=>cases h)
 case h_14 a b h1 h2=>
  split at h
  next e=>
   cases h
   refine ⟨_,run_guarded ox oy w (guard_str ox oy w ..) ?_,.str _ (by simpa using e)⟩
   have e1:¬ (((a.size + b.size:Nat):Int) > IntKind.i64.max):=by
    simp only [maxLen] at e
    have:IntKind.i64.max = 9223372036854775807:=by decide
    omega
   show (Op.stringOp .add a b).run P w = _
   unfold Op.stringOp
   simp only [if_neg e1,Sem.run_pure]
  next=>cases h
 case h_15 a b _ _=>cases h; exact ⟨_,run_guarded ox oy w (guard_str ox oy w ..) (by show (Op.stringOp .eql a b).run P w = _; simp only [Op.stringOp,Sem.run_pure,toList_eq_iff]),.bool _⟩
 case h_16 a b _ _=>cases h; exact ⟨_,run_guarded ox oy w (guard_str ox oy w ..) (by show (Op.stringOp .neq a b).run P w = _; simp only [Op.stringOp,Sem.run_pure,toList_eq_iff]),.bool _⟩
 case h_17 a b=>
  split at h
  next e=>
   cases h
   refine ⟨_,run_guarded ox oy w (guard_bool ox oy w ..) ?_,.bool _⟩
   show (do pure (.bool (← Op.equal t (.bool a) (.bool b))):Sem Value).run P w = _
   unfold Op.equal Op.maxDepth Op.equalIn
   simp [run_underlying (boolOf_iff e)]
  next=>cases h
 case h_18 a b=>
  split at h
  next e=>
   cases h
   refine ⟨_,run_guarded ox oy w (guard_bool ox oy w ..) ?_,.bool _⟩
   show (do pure (.bool (!(← Op.equal t (.bool a) (.bool b)))):Sem Value).run P w = _
   unfold Op.equal Op.maxDepth Op.equalIn
   simp [run_underlying (boolOf_iff e)]
  next=>cases h
end Go.Am
namespace Go.Am
open Go.RowKit
mutual
def closed:AV → Bool
 | .any | .ref .. | .yld=>false
 | .agg cs | .tup cs | .elt cs _ | .func _ cs=>closedL cs
 | .sl rows | .slt rows=>closedLL rows
 | _=>true
def closedL:List AV → Bool
 | []=>true
 | c :: cs=>closed c && closedL cs
def closedLL:List (List AV) → Bool
 | []=>true
 | r :: rs=>closedL r && closedLL rs
end
theorem closedL_get {cs:List AV} (h:closedL cs = true):∀ {i:Nat} {a:AV},cs[i]? = some a → closed a = true:=by
 induction cs with
 | nil=>intro i a ha; simp at ha
 | cons c cs ih=>
  intro i a ha
  simp only [closedL,Bool.and_eq_true] at h
  cases i with
  | zero=>simp at ha; subst ha; exact h.1
  | succ i=>exact ih h.2 (by simpa using ha)
theorem closedLL_get {rows:List (List AV)} (h:closedLL rows = true):∀ {i:Nat} {r:List AV},rows[i]? = some r → closedL r = true:=by
 induction rows with
 | nil=>intro i a ha; simp at ha
 | cons c cs ih=>
  intro i a ha
  simp only [closedLL,Bool.and_eq_true] at h
  cases i with
  | zero=>simp at ha; subst ha; exact h.1
  | succ i=>exact ih h.2 (by simpa using ha)
theorem closedLL_mk {rows:List (List AV)} (h:∀ r ∈ rows,closedL r = true):closedLL rows = true:=by
 induction rows with
 | nil=>rfl
 | cons c cs ih=>simp only [closedLL,Bool.and_eq_true]; exact ⟨h c (by simp),ih fun a ha=>h a (by simp [ha])⟩
theorem closedL_append {a b:List AV}:closedL (a ++ b) = (closedL a && closedL b):=by
 induction a with
 | nil=>simp [closedL]
 | cons c cs ih=>simp [closedL,ih,Bool.and_assoc]
theorem closedLL_map {α:Type} {enc:α → List AV} (h:∀ x,closedL (enc x) = true) (l:List α):closedLL (l.map enc) = true:=
 closedLL_mk fun r hr=>by obtain ⟨x,_,rfl⟩:=List.mem_map.1 hr; exact h x
abbrev bare (S:Nat → Prop) (w:World) (l:Nat):Ctx:=⟨fun _=>none,fun _=>none,S,w,l⟩
theorem R.bare {C:Ctx} {a:AV} {v:Value} (h:R C a v) (l:Nat):closed a = true → R (bare C.S C.w l) a v:=by
 induction h with
 | any v=>intro h; simp [closed] at h
 | int k n=>exact fun _=>.int k n
 | bool b=>exact fun _=>.bool b
 | str s hs=>exact fun _=>.str s hs
 | agg cs vs hl _ ih=>exact fun hc=>.agg cs vs hl fun i a ha=>ih i a ha (closedL_get (by simpa [closed] using hc) ha)
 | tup cs vs hl _ ih=>exact fun hc=>.tup cs vs hl fun i a ha=>ih i a ha (closedL_get (by simpa [closed] using hc) ha)
 | sl rows A cap g off sz f hA hcap hmax hsz hc hone _ ih=>
  exact fun hcl=>.sl rows A cap g off sz f hA hcap hmax hsz hc hone fun i r hr j a ha=>ih i r hr j a ha (closedL_get (closedLL_get (by simpa [closed] using hcl) hr) ha)
 | slt rows g off sz f hA hmax hsz hc hone _ ih=>
  exact fun hcl=>.slt rows g off sz f hA hmax hsz hc hone fun i r hr j a ha=>ih i r hr j a ha (closedL_get (closedLL_get (by simpa [closed] using hcl) hr) ha)
 | nils=>exact fun _=>.nils
 | elt row off g o f hA hc hone _ ih=>exact fun hcl=>.elt row off g o f hA hc hone fun j a ha=>ih j a ha (closedL_get (by simpa [closed] using hcl) ha)
 | ref key ver r blk v hb hv hone hr=>intro h; simp [closed] at h
 | func f cs vs hl _ ih=>exact fun hc=>.func f cs vs hl fun i a ha=>ih i a ha (closedL_get (by simpa [closed] using hc) ha)
 | nilf=>exact fun _=>.nilf
 | nilp=>exact fun _=>.nilp
 | nilm=>exact fun _=>.nilm
 | yld=>intro h; simp [closed] at h
theorem R.of_bare {S:Nat → Prop} {w:World} {l:Nat} {a:AV} {v:Value} (h:R (Am.bare S w l) a v) (C:Ctx) (hw:C.w = w) (hS:∀ b,S b → C.S b) (hl:C.l = l):R C a v:=by
 refine h.mono ⟨fun b hb=>⟨hS b hb,by rw [hw]⟩,fun k blk hk=>?_,hl⟩
 cases hk
def pur0 (H:Heap):AV → AV
 | .slt rows=>.sl rows
 | .nils=>.sl []
 | .ref k ver .o=>match H k with
  | some (.froz v rows)=>if v = ver then .sl rows else .any
  | _=>.ref k ver .o
 | .ref k ver (.p off)=>match H k with
  | some (.fbox v cells)=>if v = ver then .elt cells off else .any
  | _=>.ref k ver (.p off)
 | a=>a
def pur1 (H:Heap):AV → AV
 | .agg cs=>.agg (cs.map (pur0 H))
 | .func f cs=>.func f (cs.map (pur0 H))
 | a=>pur0 H a
def pur (H:Heap):AV → AV
 | .tup cs=>.tup (cs.map (pur1 H))
 | a=>pur1 H a
theorem flatten_row {sz:Nat}:∀ {rows:List (List AV)} (h:∀ r ∈ rows,r.length = sz) {i:Nat} {r:List AV},rows[i]? = some r → (rows.flatten.drop (i * sz)).take sz = r
 | [],_,i,r,hr=>by simp at hr
 | x :: rows,h,0,r,hr=>by
  simp at hr
  subst hr
  have:=h x (by simp)
  simp [← this]
 | x :: rows,h,i + 1,r,hr=>by
  have hx:=h x (by simp)
  have ih:=flatten_row (rows:=rows) (fun r hr=>h r (by simp [hr])) (i:=i) (r:=r) (by simpa using hr)
  rw [List.flatten_cons,Nat.add_mul,Nat.one_mul,Nat.add_comm,← List.drop_drop]
  rw [← hx,List.drop_left,hx]
  exact ih
theorem flatten_length {sz:Nat}:∀ {rows:List (List AV)} (h:∀ r ∈ rows,r.length = sz),rows.flatten.length = rows.length * sz
 | [],_=>by simp
 | x :: rows,h=>by
  have hx:=h x (by simp)
  have ih:=flatten_length (rows:=rows) (fun r hr=>h r (by simp [hr]))
  simp only [List.flatten_cons,List.length_append,List.length_cons,ih,hx]
  rw [Nat.add_mul,Nat.one_mul,Nat.add_comm]
theorem flatten_get {sz:Nat} {rows:List (List AV)} (h:∀ r ∈ rows,r.length = sz) {i:Nat} {r:List AV} (hr:rows[i]? = some r) {j:Nat} (hj:j < sz):rows.flatten[i * sz + j]? = r[j]?:=by
 have:=flatten_row h hr
 rw [← this,List.getElem?_take,if_pos hj,List.getElem?_drop]
def cellOr (cs:Array Value) (i:Nat):Value:=match cs[i]? with | some v=>if v.oneCell' then v else .bool true | none=>.bool true
theorem cellOr_one (cs:Array Value) (i:Nat):(cellOr cs i).oneCell' = true:=by
 unfold cellOr
 split
 ·split
  ·assumption
  ·rfl
 ·rfl
theorem cellOr_eq {cs:Array Value} {i:Nat} {v:Value} (h:cs[i]? = some v) (h1:v.oneCell' = true):cellOr cs i = v:=by simp [cellOr,h,h1]
theorem R_froz {C:Ctx} {g:Nat} {ver:Nat} {rows:List (List AV)} (hh:HRel C (some g) (.froz ver rows)) {cap:Nat} (hcap:rows.length ≤ cap) (hmax:rows.length ≤ maxLen):R C (.sl rows) (.slice (some ⟨g,0,none⟩) rows.length cap):=by
 obtain ⟨cs,t,sz,h1,h2,h3,h4,h5⟩:=hh
 have key:∀ i r,rows[i]? = some r → ∀ j a,r[j]? = some a → ∃ v,cs[i * sz + j]? = some v ∧ R C a v ∧ a.cell = true:=fun i r hr j a ha=>by
  have hrl:=h4 r (List.mem_of_getElem? hr)
  have hj:j < sz:=by have:=(List.getElem?_eq_some_iff.1 ha).1; omega
  exact h5 _ a ((flatten_get h4 hr hj).trans ha)
 refine .sl rows _ cap g 0 sz (fun i j=>cellOr cs (i * sz + j)) (fun _=>⟨rfl,h2⟩) hcap hmax h4 (fun i hi j hj=>?_) (fun i j=>cellOr_one _ _) fun i r hr j a ha=>?_
 ·obtain ⟨v,hv,hr,hc⟩:=key i rows[i] (List.getElem?_eq_getElem hi) j (rows[i][j]'(by rw [h4 _ (List.getElem_mem hi)]; exact hj)) (List.getElem?_eq_getElem _)
  rw [Nat.zero_add,cell_of_row C.w g _ cs t (0,0) h1,hv]
  exact congrArg some (cellOr_eq hv (hr.one hc)).symm
 ·obtain ⟨v,hv,hr2,hc⟩:=key i r hr j a ha
  rw [cellOr_eq hv (hr2.one hc)]
  exact hr2
theorem R_slt_of {C:Ctx} {g:Nat} {cs:Array Value} {t:TypeId} {fr:Nat × Nat} {rows:List (List AV)} {n:Nat} (h1:C.w.heap[g]? = some (.cells cs t fr)) (h2:C.S g) (h5:Holds C cs rows.flatten) (h4:∀ r ∈ rows,r.length = n) (hmax:rows.length ≤ maxLen) :
  R C (.slt rows) (.slice (some ⟨g,0,none⟩) rows.length rows.length):=by
 have key:∀ i r,rows[i]? = some r → ∀ j a,r[j]? = some a → ∃ v,cs[i * n + j]? = some v ∧ R C a v ∧ a.cell = true:=fun i r hr j a ha=>by
  have hrl:=h4 r (List.mem_of_getElem? hr)
  have hj:j < n:=by have:=(List.getElem?_eq_some_iff.1 ha).1; omega
  exact h5 _ a ((flatten_get h4 hr hj).trans ha)
 refine .slt rows g 0 n (fun i j=>cellOr cs (i * n + j)) h2 hmax h4 (fun i hi j hj=>?_) (fun i j=>cellOr_one _ _) fun i r hr j a ha=>?_
 ·obtain ⟨v,hv,hr,hc⟩:=key i rows[i] (List.getElem?_eq_getElem hi) j (rows[i][j]'(by rw [h4 _ (List.getElem_mem hi)]; exact hj)) (List.getElem?_eq_getElem _)
  rw [Nat.zero_add,cell_of_row C.w g _ cs t fr h1,hv]
  exact congrArg some (cellOr_eq hv (hr.one hc)).symm
 ·obtain ⟨v,hv,hr2,hc⟩:=key i r hr j a ha
  rw [cellOr_eq hv (hr2.one hc)]
  exact hr2
theorem R_fbox {C:Ctx} {g:Nat} {ver:Nat} {cells:List AV} (hh:HRel C (some g) (.fbox ver cells)) (off:Nat):R C (.elt cells off) (.pointer (some ⟨g,off,none⟩)):=by
 obtain ⟨cs,t,h1,h2,h5⟩:=hh
 have e:(⟨g,off,none⟩:Addr) = ⟨g,0 + off,none⟩:=by rw [Nat.zero_add]
 rw [e]
 refine .elt cells off g 0 (fun j=>cellOr cs j) h2 (fun j hj=>?_) (fun j=>cellOr_one _ _) fun j a ha=>?_
 ·obtain ⟨v,hv,hr,hc⟩:=h5 j cells[j] (List.getElem?_eq_getElem hj)
  rw [Nat.zero_add,cell_of_row C.w g _ cs t (0,0) h1,hv,cellOr_eq hv (hr.one hc)]
 ·obtain ⟨v,hv,hr2,hc⟩:=h5 j a ha
  rw [cellOr_eq hv (hr2.one hc)]
  exact hr2
theorem R.loose {C:Ctx} {rows:List (List AV)} {v:Value} (h:R C (.slt rows) v):R C (.sl rows) v:=by
 cases h with
 | slt _ g off sz f hA hmax hsz hc hone hh=>exact .sl rows _ _ g off sz f (fun _=>⟨rfl,hA⟩) (Nat.le_refl _) hmax hsz hc hone hh
theorem R.nil_sl {C:Ctx} {v:Value} (h:R C .nils v):R C (.sl []) v:=by
 cases h with
 | nils=>exact .sl [] none 0 0 0 0 (fun _ _=>.bool true) (fun h=>(h rfl).elim) (Nat.le_refl _) (by simp [maxLen]) (fun _ h=>by simp at h) (fun i hi=>by simp at hi) (fun _ _=>rfl) fun i r hr=>by simp at hr
section
variable {C : Ctx} (hh : ∀ k blk, C.H k = some blk → HRel C (C.own k) blk)
include hh
theorem R.pur0 {a:AV} {v:Value} (h:R C a v):R C (pur0 C.H a) v:=by
 unfold Am.pur0
 split
 ·exact h.loose
 ·exact h.nil_sl
 ·rename_i k ver
  split
  ·rename_i v' rows hk
   split
   ·subst v'
    cases h with
    | ref _ _ _ blk _ hb hv hone hr=>
     rw [hk] at hb
     cases hb
     have hhk:=hh k _ hk
     have hr:=hr rfl
     cases hog:C.own k with
     | none=>
      rw [hog] at hhk hr
      have e:rows = []:=hhk
      subst e
      have e2:v = .slice none 0 0:=hr
      subst e2
      exact R.nil_sl .nils
     | some g=>
      rw [hog] at hhk hr
      obtain ⟨cap,rfl,h1,h2⟩:=hr
      exact R_froz hhk h1 h2
   ·exact .any _
  ·exact h
 ·rename_i k ver off
  split
  ·rename_i v' rows hk
   split
   ·subst v'
    cases h with
    | ref _ _ _ blk _ hb hv hone hr=>
     rw [hk] at hb
     cases hb
     have hhk:=hh k _ hk
     have hr:=hr rfl
     cases hog:C.own k with
     | none=>rw [hog] at hhk; exact hhk.elim
     | some g=>
      rw [hog] at hhk hr
      have e:v = .pointer (some ⟨g,off,none⟩):=hr
      subst e
      exact R_fbox hhk off
   ·exact .any _
  ·exact h
 ·exact h
theorem R.pur1 {a:AV} {v:Value} (h:R C a v):R C (pur1 C.H a) v:=by
 unfold Am.pur1
 split
 ·rename_i cs
  cases h with
  | agg _ vs hl h=>
   refine .agg _ vs (by simpa using hl) fun i a ha=>?_
   rw [List.getElem?_map] at ha
   obtain ⟨b,hb,rfl⟩:=Option.map_eq_some_iff.1 ha
   exact (h i b hb).pur0 hh
 ·rename_i f cs
  cases h with
  | func _ _ vs hl h=>
   refine .func f _ vs (by simpa using hl) fun i a ha=>?_
   rw [List.getElem?_map] at ha
   obtain ⟨b,hb,rfl⟩:=Option.map_eq_some_iff.1 ha
   exact (h i b hb).pur0 hh
 ·exact h.pur0 hh
theorem R.pur {a:AV} {v:Value} (h:R C a v):R C (pur C.H a) v:=by
 unfold Am.pur
 split
 ·rename_i cs
  cases h with
  | tup _ vs hl h=>
   refine .tup _ vs (by simpa using hl) fun i a ha=>?_
   rw [List.getElem?_map] at ha
   obtain ⟨b,hb,rfl⟩:=Option.map_eq_some_iff.1 ha
   exact (h i b hb).pur1 hh
 ·exact h.pur1 hh
end
section
variable {E : Env} {s : St} {a : Act} {w : World} {S : Nat → Prop} {own : Nat → Option Nat} {C D : Nat → Prop} {Ds : List Nat}
def Blk.frozen:Blk → Option Blk
 | .row v _ _ rows=>some (.froz v rows)
 | .box v _ cells=>some (.fbox v cells)
 | _=>none
theorem RelAt.freeze (h:RelAt E s a w S own C D Ds) {k:Nat} {blk blk':Blk} (hk:s.H k = some blk) (hf:blk.frozen = some blk') :
  RelAt E { s with H:=upd s.H k (some blk') } a w (fun b=>S b ∨ own k = some b) own C D Ds ∧ (ctx E s w S own).le ⟨upd s.H k (some blk'),own,fun b=>S b ∨ own k = some b,w,E.l⟩:=by
 have hl:blk.live = true:=by cases blk <;> first | rfl | cases hf
 have hl':blk'.live = false:=by cases blk <;> cases hf <;> rfl
 have hv:blk'.ver = blk.ver:=by cases blk <;> cases hf <;> rfl
 have hhk:=h.heap k blk hk
 have hle:(ctx E s w S own).le ⟨upd s.H k (some blk'),own,fun b=>S b ∨ own k = some b,w,E.l⟩:=by
  refine ⟨fun b hb=>⟨.inl hb,rfl⟩,fun k0 b0 hk0=>?_,rfl⟩
  by_cases e:k0 = k
  ·subst e
   have hk0':s.H k0 = some b0:=hk0
   rw [hk] at hk0'
   cases hk0'
   refine ⟨_,upd_same _ _ _,Nat.le_of_eq hv.symm,fun _ r v hr=>?_⟩
   have hr:RefVal w (own k0) blk r v:=hr
   show RefVal w (own k0) blk' r v
   cases hog:own k0 with
   | none=>
    rw [hog] at hr
    cases blk <;> cases hf <;> cases r <;> exact hr
   | some g=>
    rw [hog] at hr hhk
    cases blk with
    | row ver t sz rows=>
     cases hf
     cases r with
     | p off=>trivial
     | e i off=>trivial
     | o=>
      obtain ⟨cap,hv1,hv2⟩:=hr
      obtain ⟨cs,cap',g1,g2,g3,g4,g5,g6,g7⟩:=hhk
      have e1:=hv2 cs t (0,0) g1
      rw [g2] at e1
      have e2:cap' = cap:=Nat.eq_of_mul_eq_mul_right g5 e1
      subst e2
      exact ⟨cap',hv1,g3,Nat.le_trans g3 g4⟩
    | box ver t cells=>
     cases hf
     cases r with
     | p off=>exact hr
     | e i off=>trivial
     | o=>trivial
    | _=>cases hf
  ·exact ⟨b0,by simpa [upd,e] using hk0,Nat.le_refl _,fun _ r v hr=>hr⟩
 refine ⟨?_,hle⟩
 exact {
  fr:=h.fr
  hS:=fun b hb=>by
   rcases hb with hb | hb
   ·exact h.hS b hb
   ·obtain ⟨h1,h2,h3,h4⟩:=h.hown k blk b hk hl hb
    exact ⟨h1,fun hc=>h3 (h.hC _ hc).1,.inr h4⟩
  hS0:=fun b hb=>.inl (h.hS0 b hb)
  hC:=h.hC
  hD:=h.hD
  j:=h.j
  hown:=fun k0 b0 g hk0 hl0 eg=>by
   by_cases e:k0 = k
   ·subst e
    simp at hk0
    subst hk0
    rw [hl'] at hl0
    cases hl0
   ·have hk':s.H k0 = some b0:=by simpa [upd,e] using hk0
    obtain ⟨g1,g2,g3,g4⟩:=h.hown k0 b0 g hk' hl0 eg
    exact ⟨g1,fun hs=>hs.elim g2 (fun e2=>e (h.inj k0 k b0 blk g hk' hk hl0 hl eg e2)),g3,g4⟩
  inj:=fun k1 k2 b1 b2 g hk1 hk2 hl1 hl2 eg1 eg2=>by
   have f1:k1 ≠ k:=fun e1=>by subst e1; simp at hk1; subst hk1; rw [hl'] at hl1; cases hl1
   have f2:k2 ≠ k:=fun e1=>by subst e1; simp at hk2; subst hk2; rw [hl'] at hl2; cases hl2
   exact h.inj k1 k2 b1 b2 g (by simpa [upd,f1] using hk1) (by simpa [upd,f2] using hk2) hl1 hl2 eg1 eg2
  heap:=fun k0 b0 hk0=>by
   by_cases e:k0 = k
   ·subst e
    simp at hk0
    subst hk0
    cases hog:own k0 with
    | none=>
     rw [hog] at hhk
     cases blk <;> cases hf
     ·exact hhk.elim
     ·exact hhk.1
    | some g=>
     rw [hog] at hhk
     rw [hog] at hle
     cases blk with
     | row ver t sz rows=>
      cases hf
      obtain ⟨cs,cap',g1,g2,g3,g4,g5,g6,g7⟩:=hhk
      exact ⟨cs,t,sz,g1,.inr rfl,g5,g6,g7.mono hle⟩
     | box ver t cells=>
      cases hf
      obtain ⟨cs,g1,g2,g3⟩:=hhk
      exact ⟨cs,t,g1,.inr rfl,g3.mono hle⟩
     | _=>cases hf
   ·have hk':s.H k0 = some b0:=by simpa [upd,e] using hk0
    exact (h.heap k0 b0 hk').mono hle (fun _ _ _=>rfl)
  tmps:=fun i=>(h.tmps i).mono hle
  size:=h.size
  defers:=h.defers
  hDs:=fun d hd=>by
   obtain ⟨g1,g2,g3,g4⟩:=h.hDs d hd
   refine ⟨g1,g2,fun hs=>hs.elim g3 (fun e=>?_),g4⟩
   rw [e] at hhk
   cases blk with
   | row ver t sz rows=>obtain ⟨cs,cap',g1',_⟩:=hhk; rw [g1] at g1'; cases g1'
   | box ver t cells=>obtain ⟨cs,g1',_⟩:=hhk; rw [g1] at g1'; cases g1'
   | _=>cases hf
  nodup:=h.nodup
  le:=h.le.trans hle
  cd:=h.cd
  fix:=h.fix }
end
end Go.Am
namespace Go.Am
open Go.RowKit
section
variable {E : Env} {s : St} {a : Act} {w : World} {S : Nat → Prop} {own : Nat → Option Nat} {C D : Nat → Prop} {Ds : List Nat}
theorem RelAt.ref_at (h:RelAt E s a w S own C D Ds) {k ver:Nat} {r:RefK} {blk:Blk} {v:Value} (hr:R (ctx E s w S own) (.ref k ver r) v) (hk:s.H k = some blk) (hv:blk.ver = ver) :
  RefVal w (own k) blk r v ∧ HRel (ctx E s w S own) (own k) blk:=by
 cases hr with
 | ref _ _ _ blk' _ hb hv' hone hh=>
  have hb:s.H k = some blk':=hb
  rw [hk] at hb
  cases hb
  exact ⟨hh hv,h.heap k blk hk⟩
def rdV (H:Heap) (n:Nat) (ag:Bool):AV → Option AV
 | .ref k ver (.p off)=>match H k with
  | some (.box v _ cells)=>if v = ver then readA cells off n ag else none
  | some (.fbox v cells)=>if v = ver then readA cells off n ag else none
  | _=>none
 | .ref k ver (.e i off)=>match H k with
  | some (.row v _ _ rows)=>if v = ver then (rows[i]?).bind fun r=>readA r off n ag else none
  | _=>none
 | .elt row off=>readA row off n ag
 | _=>none
theorem RelAt.rdV (h:RelAt E s a w S own C D Ds) {x y:AV} {vx:Value} (hx:R (ctx E s w S own) x vx) {t:TypeId} {n:Nat} {ag:Bool} (hn:szOf E.P t = some n) (ha:aggOf E.P t = some ag)
  (hr:rdV s.H n ag x = some y):∃ v,(Instr.loadAt t vx).run E.P w = .ok v w ∧ R (ctx E s w S own) y v:=by
 unfold Am.rdV at hr
 split at hr
 ·rename_i k ver off
  split at hr
  ·rename_i v t' cells hk
   split at hr
   ·rename_i hv
    obtain ⟨h1,h2⟩:=h.ref_at hx hk hv
    cases hog:own k with
    | none=>rw [hog] at h2; exact h2.elim
    | some g=>
     rw [hog] at h1 h2
     have e:vx = .pointer (some ⟨g,off,none⟩):=h1
     subst e
     obtain ⟨cs,g1,g2,g3⟩:=h2
     have:=run_read (P:=E.P) (g3.rd g1) hn ha hr
     rwa [Nat.zero_add] at this
   ·cases hr
  ·rename_i v cells hk
   split at hr
   ·rename_i hv
    obtain ⟨h1,h2⟩:=h.ref_at hx hk hv
    cases hog:own k with
    | none=>rw [hog] at h2; exact h2.elim
    | some g=>
     rw [hog] at h1 h2
     have e:vx = .pointer (some ⟨g,off,none⟩):=h1
     subst e
     obtain ⟨cs,t',g1,g2,g3⟩:=h2
     have:=run_read (P:=E.P) (g3.rd g1) hn ha hr
     rwa [Nat.zero_add] at this
   ·cases hr
  ·cases hr
 ·rename_i k ver i off
  split at hr
  ·rename_i v t' sz rows hk
   split at hr
   ·rename_i hv
    obtain ⟨r,hri,hr⟩:=Option.bind_eq_some_iff.1 hr
    obtain ⟨h1,h2⟩:=h.ref_at hx hk hv
    cases hog:own k with
    | none=>
     rw [hog] at h2
     have e:rows = []:=h2.1
     subst e
     simp at hri
    | some g=>
     rw [hog] at h1 h2
     have e:vx = .pointer (some ⟨g,i * sz + off,none⟩):=h1
     subst e
     obtain ⟨cs,cap,g1,g2,g3,g4,g5,g6,g7⟩:=h2
     have hrd:=((g7.rd g1).drop (i * sz)).take sz
     rw [flatten_row g6 hri,Nat.zero_add] at hrd
     exact run_read (P:=E.P) hrd hn ha hr
   ·cases hr
  ·cases hr
 ·rename_i row off
  cases hx with
  | elt _ _ g o f hA hc hone hh=>exact run_read (P:=E.P) (C:=ctx E s w S own) ⟨f,hc,hh⟩ hn ha hr
 ·cases hr
def wrV (H:Heap) (n:Nat) (x:List AV):AV → Option Heap
 | .ref k ver (.p off)=>match H k with
  | some (.box v t cells)=>if v = ver ∧ okCells x = true ∧ x.length = n ∧ off + n ≤ cells.length then some (upd H k (some (.box v t (setL cells off x)))) else none
  | _=>none
 | .ref k ver (.e i off)=>match H k with
  | some (.row v t sz rows)=>match rows[i]? with
   | some r=>if v = ver ∧ okCells x = true ∧ x.length = n ∧ off + n ≤ r.length then some (upd H k (some (.row v t sz (rows.set i (setL r off x))))) else none
   | none=>none
  | _=>none
 | _=>none
theorem run_store_at {P:Program} {t:TypeId} {n:Nat} (hn:szOf P t = some n) {w:World} {g off:Nat} {e:TypeId} {cur:Array Value} (hg:w.heap[g]? = some (.cells cur e (0,0))) {v:Value} (hv:v.cells.size = n) (hl:off + n ≤ cur.size)
  (h1:∀ u ∈ v.cells.toList,u.oneCell' = true) :
  (Instr.storeAt t (.pointer (some ⟨g,off,none⟩)) v).run P w = .ok () (w.setRow g (cur.toList.take off ++ v.cells.toList ++ cur.toList.drop (off + v.cells.toList.length)).toArray):=by
 unfold Instr.storeAt Instr.sureAddr storeVar
 simp only [Sem.run_bind,Sem.run_pure,Result.andThen_ok,run_sz w hn]
 rw [if_neg (by rw [hv]; simp)]
 have:=run_storeCells_at P g off e v.cells.toList 0 cur w hg (by rw [Array.length_toList,hv]; omega) h1
 simpa using this
theorem Grows.setRow (w:World) (g:Nat) (cs:Array Value) {Y:Nat → Prop} (hY:Y g):Grows w (w.setRow g cs) Y:=
 ⟨rfl,rfl,rfl,by simp,fun b hb hn=>setRow_other w g b cs fun e=>hn (e ▸ hY)⟩
theorem flatten_set {sz:Nat}:∀ {rows:List (List AV)} (h:∀ r ∈ rows,r.length = sz) {i:Nat} {r r':List AV} (hr:rows[i]? = some r),(rows.set i r').flatten = rows.flatten.take (i * sz) ++ r' ++ rows.flatten.drop (i * sz + sz)
 | [],_,i,r,r',hr=>by simp at hr
 | x :: rows,h,0,r,r',hr=>by
  have:=h x (by simp)
  simp [← this]
 | x :: rows,h,i + 1,r,r',hr=>by
  have hx:=h x (by simp)
  have ih:=flatten_set (rows:=rows) (fun r hr=>h r (by simp [hr])) (i:=i) (r:=r) (r':=r') (by simpa using hr)
  rw [List.set_cons_succ,List.flatten_cons,ih,List.flatten_cons,Nat.add_mul,Nat.one_mul]
  have e1:List.take (i * sz + sz) (x ++ rows.flatten) = x ++ rows.flatten.take (i * sz):=by
   rw [List.take_append,List.take_of_length_le (by omega)]
   congr 2
   omega
  have e2:List.drop (i * sz + sz + sz) (x ++ rows.flatten) = rows.flatten.drop (i * sz + sz):=by
   rw [List.drop_append,List.drop_of_length_le (by omega),List.nil_append]
   congr 1
   omega
  rw [e1,e2,List.append_assoc,List.append_assoc,List.append_assoc]
theorem RelAt.wrV (h:RelAt E s a w S own C D Ds) (hJ:JOk E.J) {x y:AV} {vx vy:Value} (hx:R (ctx E s w S own) x vx) (hy:R (ctx E s w S own) y vy) {t:TypeId} {n:Nat} (hn:szOf E.P t = some n)
  {H':Heap} (hr:wrV s.H n y.cells x = some H') {d:Option Nat} (hd:∀ k,d = some k → k < E.n) :
  ∃ w',(Instr.storeAt t vx vy).run E.P w = .ok () w' ∧ Rel E (s.put d (.tup []) H') (a.put d undef) w':=by
 have hundef:∀ C:Ctx,R C (.tup []) undef:=fun C=>.tup [] [] rfl fun i a hi=>by simp at hi
 unfold Am.wrV at hr
 split at hr
 ·rename_i k ver off
  split at hr
  ·rename_i v t' cells hk
   split at hr
   ·rename_i hc
    obtain ⟨hv,hok,hxl,hle⟩:=hc
    cases hr
    obtain ⟨h1,h2⟩:=h.ref_at hx hk hv
    cases hog:own k with
    | none=>rw [hog] at h2; exact h2.elim
    | some g=>
     rw [hog] at h1 h2
     have e:vx = .pointer (some ⟨g,off,none⟩):=h1
     subst e
     obtain ⟨cs,g1,g2,g3⟩:=h2
     obtain ⟨hs,hh⟩:=hy.holds hok
     rw [hxl] at hs
     refine ⟨_,run_store_at hn g1 hs (by omega) (hh.one (by omega)),S,upd own k (some g),C,D,Ds,h.key hJ k (some g) (.box v t' (setL cells off y.cells)) (Grows.setRow w g _ ⟨_,hk,rfl,hog⟩) (fun blk hk'=>?_)
      (fun g' e=>by cases e; exact .inr ⟨_,hk,rfl,hog⟩) (fun hle'=>?_) (put_size a _ _) (put_defers a _ _) fun hle'=>?_⟩
     ·rw [hk] at hk'
      cases hk'
      refine ⟨Nat.le_refl _,fun _ r u hu=>?_⟩
      rw [hog] at hu
      cases r <;> exact hu
     ·refine ⟨_,setRow_heap w g cs _ t' (0,0) g1,?_,(Holds.set g3 (us:=vy.cells.toList) (by rw [Array.length_toList]; omega) (by simpa using hh) (by omega) (by omega)).mono hle'⟩
      simp only [List.size_toArray,List.length_append,List.length_take,List.length_drop,Array.length_toList]
      rw [setL_length _ _ _ (by omega)]
      omega
     ·exact R_put (fun i=>(h.tmps i).mono hle') h.size hd (hundef _)
   ·cases hr
  ·cases hr
 ·rename_i k ver i off
  split at hr
  ·rename_i v t' sz rows hk
   split at hr
   ·rename_i r hri
    split at hr
    ·rename_i hc
     obtain ⟨hv,hok,hxl,hle⟩:=hc
     cases hr
     obtain ⟨h1,h2⟩:=h.ref_at hx hk hv
     cases hog:own k with
     | none=>
      rw [hog] at h2
      have e:rows = []:=h2.1
      subst e
      simp at hri
     | some g=>
      rw [hog] at h1 h2
      have e:vx = .pointer (some ⟨g,i * sz + off,none⟩):=h1
      subst e
      obtain ⟨cs,cap,g1,g2,g3,g4,g5,g6,g7⟩:=h2
      obtain ⟨hs,hh⟩:=hy.holds hok
      rw [hxl] at hs
      have hrl:=g6 r (List.mem_of_getElem? hri)
      have hil:i < rows.length:=(List.getElem?_eq_some_iff.1 hri).1
      have hfl:rows.flatten.length = rows.length * sz:=flatten_length g6
      have hi1:i * sz + sz ≤ rows.length * sz:=by
       have:(i + 1) * sz ≤ rows.length * sz:=Nat.mul_le_mul_right _ hil
       rwa [Nat.add_mul,Nat.one_mul] at this
      have hcap:rows.length * sz ≤ cap * sz:=Nat.mul_le_mul_right _ g3
      have hset:(rows.set i (setL r off y.cells)).flatten = setL rows.flatten (i * sz + off) y.cells:=by
       rw [flatten_set g6 hri,setL_eq _ _ _ (by omega),setL_eq _ _ _ (by omega)]
       have e1:=flatten_row g6 hri
       rw [← e1]
       rw [List.take_take,Nat.min_eq_left (by omega),List.drop_take,List.drop_drop]
       simp only [List.append_assoc]
       rw [← List.append_assoc,← List.take_add,]
       congr 2
       have:List.drop (i * sz + (off + y.cells.length)) rows.flatten = List.take (sz - (off + y.cells.length)) (List.drop (i * sz + (off + y.cells.length)) rows.flatten) ++ List.drop (i * sz + sz) rows.flatten:=by
        conv=>lhs; rw [← List.take_append_drop (sz - (off + y.cells.length)) (List.drop (i * sz + (off + y.cells.length)) rows.flatten)]
        rw [List.drop_drop]
        congr 2
        omega
       rw [← this,Nat.add_assoc]
      refine ⟨_,run_store_at hn g1 hs (by omega) (hh.one (by omega)),S,upd own k (some g),C,D,Ds,h.key hJ k (some g) (.row v t' sz (rows.set i (setL r off y.cells))) (Grows.setRow w g _ ⟨_,hk,rfl,hog⟩) (fun blk hk'=>?_)
       (fun g' e=>by cases e; exact .inr ⟨_,hk,rfl,hog⟩) (fun hle'=>?_) (put_size a _ _) (put_defers a _ _) fun hle'=>?_⟩
      ·rw [hk] at hk'
       cases hk'
       refine ⟨Nat.le_refl _,fun _ r u hu=>?_⟩
       rw [hog] at hu
       cases r with
       | p off=>exact hu
       | e i off=>exact hu
       | o=>
        obtain ⟨cap',e1,e2⟩:=hu
        refine ⟨cap',by rw [List.length_set]; exact e1,fun cs' t'' fr hh'=>?_⟩
        rw [setRow_heap w g cs _ t' (0,0) g1] at hh'
        cases hh'
        have:=e2 cs t' (0,0) g1
        simp only [List.size_toArray,List.length_append,List.length_take,List.length_drop,Array.length_toList]
        omega
      ·refine ⟨_,cap,setRow_heap w g cs _ t' (0,0) g1,?_,by rw [List.length_set]; exact g3,g4,g5,fun r' hr'=>?_,?_⟩
       ·simp only [List.size_toArray,List.length_append,List.length_take,List.length_drop,Array.length_toList]
        omega
       ·rcases List.mem_or_eq_of_mem_set hr' with hm | rfl
        ·exact g6 r' hm
        ·rw [setL_length _ _ _ (by omega)]; exact hrl
       ·rw [hset]
        exact (Holds.set g7 (us:=vy.cells.toList) (by rw [Array.length_toList]; omega) (by simpa using hh) (by omega) (by omega)).mono hle'
      ·exact R_put (fun i=>(h.tmps i).mono hle') h.size hd (hundef _)
    ·cases hr
   ·cases hr
  ·cases hr
 ·cases hr
end
end Go.Am
namespace Go.Am
open Go.RowKit
section
variable {E : Env} {s : St} {a : Act} {w : World} {S : Nat → Prop} {own : Nat → Option Nat} {C D : Nat → Prop} {Ds : List Nat}
def addA (H:Heap) (n:Nat):AV → Option AV
 | .ref k ver (.p off)=>match H k with
  | some (.box v _ _)=>if v = ver then some (.ref k ver (.p (off + n))) else none
  | some (.fbox v _)=>if v = ver then some (.ref k ver (.p (off + n))) else none
  | _=>none
 | .ref k ver (.e i off)=>match H k with
  | some (.row v _ _ rows)=>if v = ver ∧ i < rows.length then some (.ref k ver (.e i (off + n))) else none
  | _=>none
 | .elt row off=>some (.elt row (off + n))
 | _=>none
theorem RelAt.addA (h:RelAt E s a w S own C D Ds) {x y:AV} {vx:Value} (hx:R (ctx E s w S own) x vx) {n:Nat} (hr:addA s.H n x = some y) :
  ∃ g o,vx = .pointer (some ⟨g,o,none⟩) ∧ R (ctx E s w S own) y (.pointer (some ⟨g,o + n,none⟩)):=by
 unfold Am.addA at hr
 split at hr
 ·rename_i k ver off
  split at hr
  ·rename_i v t cells hk
   split at hr
   ·rename_i hv
    cases hr
    obtain ⟨h1,h2⟩:=h.ref_at hx hk hv
    cases hog:own k with
    | none=>rw [hog] at h2; exact h2.elim
    | some g=>
     rw [hog] at h1
     refine ⟨g,off,h1,.ref k ver _ _ _ hk (Nat.le_of_eq hv.symm) rfl fun _=>?_⟩
     show RefVal w (own k) _ _ _
     rw [hog]; rfl
   ·cases hr
  ·rename_i v cells hk
   split at hr
   ·rename_i hv
    cases hr
    obtain ⟨h1,h2⟩:=h.ref_at hx hk hv
    cases hog:own k with
    | none=>rw [hog] at h2; exact h2.elim
    | some g=>
     rw [hog] at h1
     refine ⟨g,off,h1,.ref k ver _ _ _ hk (Nat.le_of_eq hv.symm) rfl fun _=>?_⟩
     show RefVal w (own k) _ _ _
     rw [hog]; rfl
   ·cases hr
  ·cases hr
 ·rename_i k ver i off
  split at hr
  ·rename_i v t sz rows hk
   split at hr
   ·rename_i hv
    cases hr
    obtain ⟨h1,h2⟩:=h.ref_at hx hk hv.1
    cases hog:own k with
    | none=>
     rw [hog] at h2
     have e:rows = []:=h2.1
     subst e
     simp at hv
    | some g=>
     rw [hog] at h1
     refine ⟨g,i * sz + off,h1,.ref k ver _ _ _ hk (Nat.le_of_eq hv.1.symm) rfl fun _=>?_⟩
     show RefVal w (own k) _ _ _
     rw [hog]
     show _ = _
     rw [Nat.add_assoc]
   ·cases hr
  ·cases hr
 ·rename_i row off
  cases hr
  cases hx with
  | elt _ _ g o f hA hc hone hh=>
   refine ⟨g,o + off,rfl,?_⟩
   rw [Nat.add_assoc]
   exact .elt row (off + n) g o f hA hc hone hh
 ·cases hr
theorem addr_add (g o n:Nat):(⟨g,o,none⟩:Addr).add n = ⟨g,o + n,none⟩:=by
 unfold Addr.add
 split
 ·rename_i e; subst e; rfl
 ·rfl
theorem run_fieldAt {P:Program} {t:TypeId} {f o n:Nat} (hf:fldOf P t f = some (o,n)) (hn:n ≠ 0) (w:World) (g off:Nat) :
  (Instr.fieldAt t (.pointer (some ⟨g,off,none⟩)) f).run P w = .ok (.pointer (some ⟨g,off + o,none⟩)) w:=by
 obtain ⟨fs,x,hu,hx,hsz,ho⟩:=fldOf_iff hf
 unfold Instr.fieldAt Instr.sureAddr fieldPlace
 simp only [Sem.run_bind,run_underlying hu,Result.andThen_ok,hx,Sem.run_pure,run_sz w hsz]
 simp only [if_neg hn,ho,Sem.run_pure,Result.andThen_ok,addr_add]
theorem run_field {P:Program} {C:Ctx} {t:TypeId} {f off n:Nat} {ag:Bool} (w:World) (hf:fldOf P t f = some (off,n)) (ha:fldAgOf P t f = some ag) {cs:List AV} (us:List Value) (hl:us.length = cs.length)
  (hh:∀ (i:Nat) (a:AV),cs[i]? = some a → R C a (us.getD i undef)) {v:AV} (hv:readA cs off n ag = some v):∃ u,(Instr.field t (.agg us.toArray) f).run P w = .ok u w ∧ R C v u:=by
 obtain ⟨fs,x,hu,hx,hn,ho⟩:=fldOf_iff hf
 unfold fldAgOf at ha
 rw [hu] at ha
 simp only [hx,Option.bind_some] at ha
 unfold Instr.field part
 simp only [Sem.run_bind,run_underlying hu,Result.andThen_ok,hx,asAgg,Sem.run_pure,run_agg w ha]
 cases ag with
 | true=>
  unfold readA at hv
  simp only [if_true] at hv
  split at hv
  ·rename_i hle
   cases hv
   simp only [if_true,Sem.run_bind,run_sz w hn,Result.andThen_ok,Sem.run_pure,ho]
   refine ⟨_,rfl,?_⟩
   have e:us.toArray.extract off (off + n) = ((us.drop off).take n).toArray:=by simp
   rw [e]
   refine .agg _ _ (by simp [hl]) fun i a hi=>?_
   rw [List.getElem?_take] at hi
   split at hi
   ·rename_i hin
    rw [List.getElem?_drop] at hi
    have:=hh (off + i) a hi
    rw [List.getD_eq_getElem?_getD] at this ⊢
    rw [List.getElem?_take,if_pos hin,List.getElem?_drop]
    exact this
   ·cases hi
  ·cases hv
 | false=>
  simp only [readA,Bool.false_eq_true,if_false] at hv
  have hlt:off < us.length:=by have:=(List.getElem?_eq_some_iff.1 hv).1; omega
  have:=hh off v hv
  rw [List.getD_eq_getElem?_getD,List.getElem?_eq_getElem hlt] at this
  exact ⟨us[off],by simp [ho,hlt],this⟩
def ixRows (rows:List (List AV)) (i:Int) (n:Nat):Option AV:=
 if 0 ≤ i then match rows[i.toNat]? with
  | some r=>if r.length = n then some (.elt r 0) else none
  | none=>none
 else none
def ixA (H:Heap) (n:Nat) (i:Int):AV → Option AV
 | .sl rows=>ixRows rows i n
 | .slt rows=>ixRows rows i n
 | .ref k ver .o=>match H k with
  | some (.row v _ sz rows)=>if v = ver ∧ sz = n ∧ 0 ≤ i ∧ i < rows.length then some (.ref k ver (.e i.toNat 0)) else none
  | some (.froz v rows)=>if v = ver then ixRows rows i n else none
  | _=>none
 | _=>none
theorem run_indexAt_slice {P:Program} {t e:TypeId} {n:Nat} (he:elOf P t = some e) (hn:szOf P e = some n) (w:World) (k:IntKind) (i:Int) (g o len cap:Nat) (h0:0 ≤ i) (h1:i < len) :
  (Instr.indexAt t (.slice (some ⟨g,o,none⟩) len cap) (.int k i)).run P w = .ok (.pointer (some ⟨g,o + i.toNat * n,none⟩)) w:=by
 unfold Instr.indexAt asIntOf
 simp only [Sem.run_bind,Sem.run_pure,Result.andThen_ok,run_underlying (elOf_iff he)]
 rw [if_pos ⟨h0,h1⟩]
 simp only [Sem.run_bind,Sem.run_pure,Result.andThen_ok,run_sz w hn,addr_add]
theorem R_ixRows {C:Ctx} {P:Program} {t e:TypeId} {n:Nat} (he:elOf P t = some e) (hn:szOf P e = some n) {rows:List (List AV)} {v:Value} (hx:R C (.sl rows) v) (k:IntKind) {i:Int} {y:AV} (hr:ixRows rows i n = some y) :
  ∃ u,(Instr.indexAt t v (.int k i)).run P C.w = .ok u C.w ∧ R C y u:=by
 unfold ixRows at hr
 split at hr
 ·rename_i h0
  split at hr
  ·rename_i r hri
   split at hr
   ·rename_i hrl
    cases hr
    have hil:i.toNat < rows.length:=(List.getElem?_eq_some_iff.1 hri).1
    cases hx with
    | sl _ A cap g off sz f hA hcap hmax hsz hc hone hh=>
     obtain ⟨rfl,hS⟩:=hA (fun e=>by subst e; simp at hil)
     refine ⟨_,run_indexAt_slice he hn C.w k i g off rows.length cap h0 (by omega),?_⟩
     have hszn:sz = n:=by rw [← hsz r (List.mem_of_getElem? hri)]; exact hrl
     have:=R.elt (C:=C) r 0 g (off + i.toNat * n) (fun j=>f i.toNat j) hS (fun j hj=>by rw [← hszn]; exact hc i.toNat hil j (by omega)) (fun j=>hone _ _) (fun j b hb=>hh i.toNat r hri j b hb)
     rwa [Nat.add_zero] at this
   ·cases hr
  ·cases hr
 ·cases hr
theorem RelAt.ixA (h:RelAt E s a w S own C D Ds) {x y:AV} {vx:Value} (hx:R (ctx E s w S own) x vx) {t e:TypeId} {n:Nat} (he:elOf E.P t = some e) (hn:szOf E.P e = some n) (k:IntKind) {i:Int}
  (hr:ixA s.H n i x = some y):∃ v,(Instr.indexAt t vx (.int k i)).run E.P w = .ok v w ∧ R (ctx E s w S own) y v:=by
 unfold Am.ixA at hr
 split at hr
 ·exact R_ixRows (C:=ctx E s w S own) he hn hx k hr
 ·exact R_ixRows (C:=ctx E s w S own) he hn hx.loose k hr
 ·rename_i kk ver
  split at hr
  ·rename_i v t' sz rows hk
   split at hr
   ·rename_i hc
    obtain ⟨hv,hsz,h0,h1⟩:=hc
    cases hr
    obtain ⟨g1,g2⟩:=h.ref_at hx hk hv
    cases hog:own kk with
    | none=>
     rw [hog] at g2
     have e:rows = []:=g2.1
     subst e
     simp at h1
     omega
    | some g=>
     rw [hog] at g1
     obtain ⟨cap,rfl,_⟩:=g1
     refine ⟨_,run_indexAt_slice he hn w k i g 0 rows.length cap h0 h1,.ref kk ver _ _ _ hk (Nat.le_of_eq hv.symm) rfl fun _=>?_⟩
     show RefVal w (own kk) _ _ _
     rw [hog,← hsz]
     show _ = _
     rw [Nat.zero_add,Nat.add_zero]
   ·cases hr
  ·rename_i v rows hk
   split at hr
   ·rename_i hv
    have hp:=R.pur0 (C:=ctx E s w S own) h.heap hx
    have e1:pur0 s.H (.ref kk ver .o) = .sl rows:=by simp [pur0,hk,hv]
    rw [e1] at hp
    exact R_ixRows (C:=ctx E s w S own) he hn hp k hr
   ·cases hr
  ·cases hr
 ·cases hr
theorem run_indexAt_array {P:Program} {t e:TypeId} {len n:Nat} (he:arOf P t = some (len,e)) (hn:szOf P e = some n) (w:World) (k:IntKind) (i:Int) (g o:Nat) (h0:0 ≤ i) (h1:i < len) :
  (Instr.indexAt t (.pointer (some ⟨g,o,none⟩)) (.int k i)).run P w = .ok (.pointer (some ⟨g,o + i.toNat * n,none⟩)) w:=by
 unfold Instr.indexAt asIntOf Instr.sureAddr
 simp only [Sem.run_bind,Sem.run_pure,Result.andThen_ok,run_underlying (arOf_iff he)]
 rw [if_pos ⟨h0,h1⟩]
 simp only [Sem.run_bind,Sem.run_pure,Result.andThen_ok,run_sz w hn,addr_add]
def lenA (H:Heap):AV → Option Nat
 | .sl rows=>some rows.length
 | .slt rows=>some rows.length
 | .nils=>some 0
 | .ref k ver .o=>match H k with
  | some (.row v _ _ rows)=>if v = ver then some rows.length else none
  | some (.froz v rows)=>if v = ver then some rows.length else none
  | _=>none
 | _=>none
theorem RelAt.lenA (h:RelAt E s a w S own C D Ds) {x:AV} {vx:Value} (hx:R (ctx E s w S own) x vx) {n:Nat} (hr:lenA s.H x = some n) :
  n ≤ maxLen ∧ ∃ A cap,vx = .slice A n cap:=by
 unfold Am.lenA at hr
 split at hr
 ·cases hr
  cases hx with
  | sl _ A cap g off sz f hA hcap hmax hsz hc hone hh=>exact ⟨hmax,A,cap,rfl⟩
 ·cases hr
  cases hx with
  | slt _ g off sz f hA hmax hsz hc hone hh=>exact ⟨hmax,_,_,rfl⟩
 ·cases hr
  cases hx
  exact ⟨by simp [maxLen],_,_,rfl⟩
 ·rename_i k ver
  split at hr
  ·rename_i v t sz rows hk
   split at hr
   ·rename_i hv
    cases hr
    obtain ⟨g1,g2⟩:=h.ref_at hx hk hv
    cases hog:own k with
    | none=>
     rw [hog] at g1 g2
     have e:rows = []:=g2.1
     subst e
     have e2:vx = .slice none 0 0:=g1
     subst e2
     exact ⟨by simp [maxLen],_,_,rfl⟩
    | some g=>
     rw [hog] at g1 g2
     obtain ⟨cap,rfl,_⟩:=g1
     obtain ⟨cs,cap',q1,q2,q3,q4,q5⟩:=g2
     exact ⟨Nat.le_trans q3 q4,_,_,rfl⟩
   ·cases hr
  ·rename_i v rows hk
   split at hr
   ·rename_i hv
    cases hr
    obtain ⟨g1,g2⟩:=h.ref_at hx hk hv
    cases hog:own k with
    | none=>
     rw [hog] at g1 g2
     have e:rows = []:=g2
     subst e
     have e2:vx = .slice none 0 0:=g1
     subst e2
     exact ⟨by simp [maxLen],_,_,rfl⟩
    | some g=>
     rw [hog] at g1
     obtain ⟨cap,rfl,q1,q2⟩:=g1
     exact ⟨q2,_,_,rfl⟩
   ·cases hr
  ·cases hr
 ·cases hr
def rowsA (H:Heap):AV → Option (List (List AV))
 | .sl rows=>some rows
 | .slt rows=>some rows
 | .nils=>some []
 | .ref k ver .o=>match H k with
  | some (.froz v rows)=>if v = ver then some rows else none
  | _=>none
 | _=>none
theorem RelAt.rowsA (h:RelAt E s a w S own C D Ds) {x:AV} {vx:Value} (hx:R (ctx E s w S own) x vx) {rows:List (List AV)} (hr:rowsA s.H x = some rows):R (ctx E s w S own) (.sl rows) vx:=by
 unfold Am.rowsA at hr
 split at hr
 ·cases hr; exact hx
 ·cases hr; exact hx.loose
 ·cases hr; exact hx.nil_sl
 ·rename_i k ver
  split at hr
  ·rename_i v rows' hk
   split at hr
   ·rename_i hv
    cases hr
    have hp:=R.pur0 (C:=ctx E s w S own) h.heap hx
    have e1:pur0 s.H (.ref k ver .o) = .sl rows:=by simp [pur0,hk,hv]
    rwa [e1] at hp
   ·cases hr
  ·cases hr
 ·cases hr
theorem run_sliceBound {P:Program} (w:World) (k:IntKind) (i:Int) (y:Nat) (code:BoundsCode) (h0:0 ≤ i) (h1:i ≤ y):(Instr.sliceBound (.int k i) y code).run P w = .ok i.toNat w:=by
 unfold Instr.sliceBound asIntOf
 simp only [Sem.run_bind,Sem.run_pure,Result.andThen_ok]
 rw [if_pos ⟨h0,h1⟩]
 rfl
theorem run_slice_view {C:Ctx} {P:Program} {t e:TypeId} {n:Nat} (he:elOf P t = some e) (hn:szOf P e = some n) {rows:List (List AV)} {v:Value} (hx:R C (.sl rows) v) (hsz':(rows.all fun r=>r.length == n) = true) (lo hi:Option (IntKind × Int))
  {l h:Nat} (hl:(lo.map (·.2)).getD 0 = (l:Int)) (hh':(hi.map (·.2)).getD (rows.length:Int) = (h:Int)) (hlh:l ≤ h) (hhr:h ≤ rows.length) :
  ∃ u,(Instr.sliceAt t v (lo.map fun p=>.int p.1 p.2) (hi.map fun p=>.int p.1 p.2) none).run P C.w = .ok u C.w ∧ R C (.sl ((rows.drop l).take (h - l))) u:=by
 cases hx with
 | sl _ A cap g off sz f hA hcap hmax hsz hc hone hh=>
  have hb:(Instr.sliceBounds true rows.length cap (lo.map fun p=>.int p.1 p.2) (hi.map fun p=>.int p.1 p.2) none).run P C.w = .ok (l,h,cap) C.w:=by
   cases lo with
   | none=>
    have hl0:l = 0:=by simp at hl; omega
    subst hl0
    cases hi with
    | none=>
     have e:rows.length = h:=by simp at hh'; omega
     subst e
     rfl
    | some p=>
     obtain ⟨k1,i1⟩:=p
     have e:i1 = (h:Int):=by simpa using hh'
     subst e
     simp only [Instr.sliceBounds,Option.map_some,Option.map_none,Sem.run_bind,Sem.run_pure,Result.andThen_ok,run_sliceBound C.w k1 (h:Int) cap _ (by omega) (by omega),Int.toNat_natCast]
   | some q=>
    obtain ⟨k2,i2⟩:=q
    have e2:i2 = (l:Int):=by simpa using hl
    subst e2
    cases hi with
    | none=>
     have e:rows.length = h:=by simp at hh'; omega
     subst e
     simp only [Instr.sliceBounds,Option.map_some,Option.map_none,Sem.run_bind,Sem.run_pure,Result.andThen_ok,run_sliceBound C.w k2 (l:Int) rows.length _ (by omega) (by omega),Int.toNat_natCast]
    | some p=>
     obtain ⟨k1,i1⟩:=p
     have e:i1 = (h:Int):=by simpa using hh'
     subst e
     simp only [Instr.sliceBounds,Option.map_some,Option.map_none,Sem.run_bind,Sem.run_pure,Result.andThen_ok,run_sliceBound C.w k1 (h:Int) cap _ (by omega) (by omega),Int.toNat_natCast,run_sliceBound C.w k2 (l:Int) h _ (by omega) (by omega)]
  have hlen:((rows.drop l).take (h - l)).length = h - l:=by rw [List.length_take,List.length_drop]; omega
  unfold Instr.sliceAt
  simp only [Sem.run_bind,run_underlying (elOf_iff he),Result.andThen_ok]
  unfold Instr.slice
  simp only [Sem.run_bind,run_underlying (elOf_iff he),Result.andThen_ok,hb,run_sz C.w hn,Sem.run_pure]
  refine ⟨_,rfl,?_⟩
  have key:=R.sl (C:=C) ((rows.drop l).take (h - l)) (if cap = l then A else A.map (·.add (l * n))) (cap - l) g (off + l * n) n (fun i j=>f (l + i) j) (fun hne=>?_) (by rw [hlen]; omega) (by rw [hlen]; omega) (fun r hr=>?_) (fun i hi j hj=>?_) (fun i j=>hone _ _) (fun i r hr j b hb=>?_)
  ·rwa [hlen] at key
  ·have hpos:0 < ((rows.drop l).take (h - l)).length:=List.length_pos_iff.2 hne
   rw [hlen] at hpos
   obtain ⟨rfl,hS⟩:=hA (fun e=>by subst e; simp at hhr; omega)
   rw [if_neg (by omega)]
   exact ⟨by simp [addr_add],hS⟩
  ·have hm:=List.mem_of_mem_drop (List.mem_of_mem_take hr)
   have:=List.all_eq_true.1 hsz' r hm
   simpa using this
  ·rw [hlen] at hi
   have hrow:l + i < rows.length:=by omega
   have e1:sz = n:=by
    have h1:=hsz rows[l + i] (List.getElem_mem hrow)
    have h2:=List.all_eq_true.1 hsz' rows[l + i] (List.getElem_mem hrow)
    simp at h2
    omega
   subst e1
   have:=hc (l + i) hrow j hj
   rwa [Nat.add_mul,← Nat.add_assoc] at this
  ·rw [List.getElem?_take] at hr
   split at hr
   ·rw [List.getElem?_drop] at hr
    exact hh _ r hr j b hb
   ·cases hr
theorem run_slice3 {C:Ctx} {P:Program} {t e:TypeId} {n:Nat} (he:elOf P t = some e) (hn:szOf P e = some n) {rows:List (List AV)} {v:Value} (hx:R C (.sl rows) v) (hsz':(rows.all fun r=>r.length == n) = true) (k k':IntKind) :
  ∃ u,(Instr.sliceAt t v none (some (.int k rows.length)) (some (.int k' rows.length))).run P C.w = .ok u C.w ∧ R C (.sl rows) u:=by
 cases hx with
 | sl _ A cap g off sz f hA hcap hmax hsz hc hone hh=>
  have hb:(Instr.sliceBounds true rows.length cap none (some (.int k rows.length)) (some (.int k' rows.length))).run P C.w = .ok (0,rows.length,rows.length) C.w:=by
   simp only [Instr.sliceBounds,Sem.run_bind,Sem.run_pure,Result.andThen_ok,run_sliceBound C.w k' (rows.length:Int) cap _ (by omega) (by omega),Int.toNat_natCast,run_sliceBound C.w k (rows.length:Int) rows.length _ (by omega) (by omega)]
  unfold Instr.sliceAt
  simp only [Sem.run_bind,run_underlying (elOf_iff he),Result.andThen_ok]
  unfold Instr.slice
  simp only [Sem.run_bind,run_underlying (elOf_iff he),Result.andThen_ok,hb,run_sz C.w hn,Sem.run_pure,Nat.sub_zero]
  refine ⟨_,rfl,?_⟩
  refine R.sl (C:=C) rows (if rows.length = 0 then A else A.map (·.add (0 * n))) rows.length g (off + 0 * n) sz f (fun hne=>?_) (Nat.le_refl _) hmax hsz (by simpa using hc) hone hh
  have hpos:0 < rows.length:=List.length_pos_iff.2 hne
  obtain ⟨rfl,hS⟩:=hA hne
  rw [if_neg (by omega)]
  exact ⟨by simp [addr_add],hS⟩
end
end Go.Am
