import Derived.Test.YtnngddgaobhkiaaGreatGQ11
import Derived.Test.YtnngddgaobhkiaaGreatGW8
import Derived.Test.YtnngddgaobhkiaaGreatGW9
set_option linter.unusedVariables false
set_option linter.unusedSimpArgs false
namespace Go.Proofs.YtnngddgaobhkiaaGreat
open Go Go.Am Go.RowKit
def wsum (l:List Rw3):Int:=l.foldl (fun n x=>IntKind.wrap .i64 (n + x.sz 0)) 0
end Go.Proofs.YtnngddgaobhkiaaGreat
set_option linter.unusedVariables false
set_option linter.unusedSimpArgs false
namespace Go.Proofs.YtnngddgaobhkiaaGreat
open Go Go.Am Go.RowKit
end Go.Proofs.YtnngddgaobhkiaaGreat
set_option linter.unusedVariables false
set_option linter.unusedSimpArgs false
namespace Go.Proofs.YtnngddgaobhkiaaGreat
open Go Go.Am Go.RowKit
def lwC (V S D:List ByteArray) (b:Bool):List AV:=[.sl (encB V),.sl (encB S),.sl (encB D),.bool b]
@[simp] theorem lwC_closed (V S D:List ByteArray) (b:Bool):closedL (lwC V S D b) = true:=by simp [lwC]
@[simp] theorem map_lowE_closed (V:List ByteArray) (l:List Ex):closedLL (l.map fun y=>encE (lowE V y)) = true:=closedLL_sl_map (fun y=>encE (lowE V y)) (fun y=>by simp) l
@[simp] theorem map_lowP_closed (V S D:List ByteArray) (l:List Pr):closedLL (l.map fun y=>encT (lowP V S D y)) = true:=closedLL_sl_map (fun y=>encT (lowP V S D y)) (fun y=>by simp) l
def lexH (V:List ByteArray) (x:Ex) (v3 v4 v5:Nat) (n:Int) (i w:Nat):List (Nat × Blk):=
 (3,.box v3 33 (encE x)) :: (4,.box v4 33 [.int .i64 0,.int .i64 0,.str ⟨#[]⟩,.nils]) ::
  if i = 0 then [(5,.box v5 33 [.int .i64 x.kind,.int .i64 n,.str ⟨#[]⟩,.nils])]
  else [(5,.box v5 33 [.int .i64 x.kind,.int .i64 n,.str ⟨#[]⟩,.ref 41 w .o]),(41,.row w 33 4 ((x.l.take i).map fun y=>encE (lowE V y)))]
end Go.Proofs.YtnngddgaobhkiaaGreat
set_option linter.unusedVariables false
set_option linter.unusedSimpArgs false
namespace Go.Proofs.YtnngddgaobhkiaaGreat
open Go Go.Am Go.RowKit
/-- A row that is nil while it is empty. -/
def rv (k w:Nat) (l:List (List AV)):AV:=if l = [] then .nils else .ref k w .o
def rb (k w t sz:Nat) (l:List (List AV)):List (Nat × Blk):=if l = [] then [] else [(k,.row w t sz l)]
@[simp] theorem rv_nil (k w:Nat):rv k w [] = .nils:=rfl
@[simp] theorem rb_nil (k w t sz:Nat):rb k w t sz [] = []:=rfl
def nmsH (p:Prog) (v1:Nat) (V D:List ByteArray) (w1 w2:Nat):List (Nat × Blk):=(1,.box v1 76 (encProg p)) :: (rb 23 w1 9 1 (encB V) ++ rb 39 w2 9 1 (encB D))
end Go.Proofs.YtnngddgaobhkiaaGreat
set_option linter.unusedVariables false
set_option linter.unusedSimpArgs false
namespace Go.Proofs.YtnngddgaobhkiaaGreat
open Go Go.Am Go.RowKit
def encSh (v s:Int) (bs:List Rw3):List AV:=[.int .i64 v,.int .i64 s,.sl (bs.map encR3)]
def shV (v:Int) (i:Nat):ByteArray × Int:=(nthB vsL i,within (IntKind.wrap .i64 (v.tdiv (i + 1:Nat))) 9 - 4)
def shP (bs:List Rw3) (i:Nat):Dfn:=⟨nthB dsL i,((bs[i]?).map fun x=>x.pr 0).getD .skip⟩
def shProg (v:Int) (bs:List Rw3):Prog:=⟨(List.range 3).map (shV v),ssL,(List.range 5).map (shP bs)⟩
def shH (v s:Int) (bs:List Rw3) (v1 v2 v3 w w2 i j:Nat):List (Nat × Blk):=
 [(1,.box v1 24 (encSh v s bs)),(2,.box v2 76 [.nils,.nils,.nils]),(3,.box v3 76 [rv 28 w ((List.range i).map fun i=>encVr (shV v i)),.sl (encB ssL),rv 55 w2 ((List.range j).map fun i=>encDf (shP bs i))])]
  ++ (rb 28 w 121 2 ((List.range i).map fun i=>encVr (shV v i)) ++ rb 55 w2 82 9 ((List.range j).map fun i=>encDf (shP bs i)))
end Go.Proofs.YtnngddgaobhkiaaGreat
set_option linter.unusedVariables false
set_option linter.unusedSimpArgs false
namespace Go.Proofs.YtnngddgaobhkiaaGreat
open Go Go.Am Go.RowKit
def mayL (v0 v1 v2:Nat) (D:List ByteArray) (E X:List Bool):List (Nat × Blk):=
 [(0,.box v0 180 [.sl (encB D),.ref 1 v1 .o,.ref 2 v2 .o]),(1,.row v1 4 1 (encBo E)),(2,.row v2 4 1 (encBo X))]
def bt (D:List ByteArray) (E X:List Bool) (p:Pr) (i j:Nat):BB:=if j < i then p.bothAt D E X j else (false,false)
end Go.Proofs.YtnngddgaobhkiaaGreat
set_option linter.unusedVariables false
set_option linter.unusedSimpArgs false
namespace Go.Proofs.YtnngddgaobhkiaaGreat
open Go Go.Am Go.RowKit
def frnL (v0 v1 v2 v3:Nat) (D:List ByteArray) (E X is:List Bool):List (Nat × Blk):=mayL v0 v1 v2 D E X ++ [(3,.row v3 4 1 (encBo is))]
end Go.Proofs.YtnngddgaobhkiaaGreat
set_option linter.unusedVariables false
set_option linter.unusedSimpArgs false
namespace Go.Proofs.YtnngddgaobhkiaaGreat
open Go Go.Am Go.RowKit
def mayK (k0 k1 k2 v0 v1 v2:Nat) (D:List ByteArray) (E X:List Bool):List (Nat × Blk):=
 [(k0,.box v0 180 [.sl (encB D),.ref k1 v1 .o,.ref k2 v2 .o]),(k1,.row v1 4 1 (encBo E)),(k2,.row v2 4 1 (encBo X))]
end Go.Proofs.YtnngddgaobhkiaaGreat
set_option linter.unusedVariables false
set_option linter.unusedSimpArgs false
namespace Go.Proofs.YtnngddgaobhkiaaGreat
open Go Go.Am Go.RowKit
def gb:Nat → List (Nat × List Bool) → List (Nat × Blk)
 | _,[]=>[]
 | k,(v,r) :: l=>(k,.row v 4 1 (encBo r)) :: gb (k + 1) l
def gr:Nat → List (Nat × List Bool) → List (List AV)
 | _,[]=>[]
 | k,(v,_) :: l=>[.ref k v .o] :: gr (k + 1) l
def grid (k w:Nat) (l:List (Nat × List Bool)):List (Nat × Blk):=(if l = [] then [] else [(k,.row w 157 1 (gr 1000 l))]) ++ gb 1000 l
def gv (k w:Nat) (l:List (Nat × List Bool)):AV:=if l = [] then .nils else .ref k w .o
end Go.Proofs.YtnngddgaobhkiaaGreat
set_option linter.unusedVariables false
set_option linter.unusedSimpArgs false
namespace Go.Proofs.YtnngddgaobhkiaaGreat
open Go Go.Am Go.RowKit
structure V5 where
 a:Nat
 b:Nat
 c:Nat
 d:Nat
 e:Nat
def rndH (v1 w:Nat) (p:Prog) (v:V5) (M:Mx):List (Nat × Blk):=
 [(1,.box v1 76 (encProg p)),(36,.row w 157 1 [[.ref 1000 v.a .o],[.ref 1001 v.b .o],[.ref 1002 v.c .o],[.ref 1003 v.d .o],[.ref 1004 v.e .o]]),
  (1000,.row v.a 4 1 (encBo (M.getD 0 []))),(1001,.row v.b 4 1 (encBo (M.getD 1 []))),(1002,.row v.c 4 1 (encBo (M.getD 2 []))),(1003,.row v.d 4 1 (encBo (M.getD 3 []))),(1004,.row v.e 4 1 (encBo (M.getD 4 [])))]
def okM (M:Mx):Prop:=M.length = 5 ∧ ∀ q,q < 5 → (M.getD q []).length = 5
end Go.Proofs.YtnngddgaobhkiaaGreat
set_option linter.unusedVariables false
set_option linter.unusedSimpArgs false
namespace Go.Proofs.YtnngddgaobhkiaaGreat
open Go Go.Am Go.RowKit
def eC (z:Bool) (e:Ex):List AV:=if z then [.int .i64 0,.int .i64 0,.str ⟨#[]⟩,.nils] else encE e
@[simp] theorem eC_len (z:Bool) (e:Ex):(eC z e).length = 4:=by cases z <;> simp [eC]
@[simp] theorem eC_cell (z:Bool) (e:Ex):(∀ c ∈ eC z e,c.cell = true) ↔ True:=by cases z <;> simp [eC]; exact encE_cell e
@[simp] theorem eC_frz (z:Bool) (e:Ex) (H:Heap):(eC z e).foldl frz0 H = H:=by cases z <;> simp [eC]
theorem eC_four (z:Bool) (e:Ex):∃ a b c d,eC z e = [a,b,c,d]:=by
 cases z
 ·exact ⟨_,_,_,_,encE_eq e⟩
 ·exact ⟨_,_,_,_,rfl⟩
def tmc (t:Tm) (z:Bool) (lv:AV):List AV:=.int .i64 t.kind :: .int .i64 t.a :: .int .i64 t.b :: .str t.name :: (eC z t.e ++ [lv])
@[simp] theorem tmc_len (t:Tm) (z:Bool) (lv:AV):(tmc t z lv).length = 9:=by simp [tmc]
@[simp] theorem rd_tmc8 (t:Tm) (z:Bool) (lv:AV):readA (tmc t z lv) 8 1 false = some lv:=by
 obtain ⟨a,b,c,d,h⟩:=eC_four z t.e
 rw [tmc,h]; rfl
@[simp] theorem set_tmc8 (t:Tm) (z:Bool) (lv x:AV):setL (tmc t z lv) 8 [x] = tmc t z x:=by
 obtain ⟨a,b,c,d,h⟩:=eC_four z t.e
 rw [tmc,tmc,h]; rfl
@[simp] theorem tmc_cell (t:Tm) (z:Bool) (lv:AV):(∀ c ∈ tmc t z lv,c.cell = true) ↔ lv.cell = true:=by
 have:=(eC_cell z t.e).2 trivial
 obtain ⟨a,b,c,d,h⟩:=eC_four z t.e
 rw [h] at this
 rw [tmc,h]
 simp at this ⊢
 simp [this]
def isZ (k:Int):Bool:=!(decide (k = 2) || decide (k = 9))
def lprH (V S D:List ByteArray) (x:Pr) (v3 v4 v5:Nat) (i w:Nat):List (Nat × Blk):=
 (3,.box v3 80 (encPr x)) :: (4,.box v4 35 [.int .i64 0,.int .i64 0,.int .i64 0,.str ⟨#[]⟩,.int .i64 0,.int .i64 0,.str ⟨#[]⟩,.nils,.nils]) ::
  if i = 0 then [(5,.box v5 35 (tmc (lowP0 V S D x.kind x.name x.to x.e []) (isZ x.kind) .nils))]
  else [(5,.box v5 35 (tmc (lowP0 V S D x.kind x.name x.to x.e []) (isZ x.kind) (.ref 114 w .o))),(114,.row w 35 9 ((x.l.take i).map fun y=>encT (lowP V S D y)))]
end Go.Proofs.YtnngddgaobhkiaaGreat
set_option linter.unusedVariables false
set_option linter.unusedSimpArgs false
namespace Go.Proofs.YtnngddgaobhkiaaGreat
open Go Go.Am Go.RowKit
end Go.Proofs.YtnngddgaobhkiaaGreat
set_option linter.unusedVariables false
set_option linter.unusedSimpArgs false
namespace Go.Proofs.YtnngddgaobhkiaaGreat
open Go Go.Am Go.RowKit
def pvs (p:Prog):List Int:=p.vars.map (·.2)
def lowTs (v1 v2 v6 v7:Nat):List (Nat × AV):=[(1,.ref 1 v1 (.p 0)),(2,.ref 2 v2 (.p 0)),(6,.ref 49 v6 (.p 0)),(7,.ref 7 v7 (.p 0))]
@[simp] theorem encI_nil:encI [] = []:=rfl
def lowHv (p:Prog) (v1 v2 v6 v7:Nat) (V:List Int) (w:Nat):List (Nat × Blk):=
 [(1,.box v1 76 (encProg p)),(2,.box v2 29 [.nils,.int .i64 0,.nils,.int .i64 0]),(49,.box v6 118 (lwC p.V p.stacks p.D false)),
  (7,.box v7 29 [rv 72 w (encI V),.int .i64 (p.stacks.length:Nat),.nils,.int .i64 0])] ++ rb 72 w 3 1 (encI V)
def ppr (p:Prog):List Tm:=p.procs.map fun d=>lowP p.V p.stacks p.D d.body
def lowHp (p:Prog) (v1 v2 v6 v7 w w2 j:Nat):List (Nat × Blk):=
 [(1,.box v1 76 (encProg p)),(2,.box v2 29 [.nils,.int .i64 0,.nils,.int .i64 0]),(49,if j = 0 then .box v6 118 (lwC p.V p.stacks p.D false) else .fbox v6 (lwC p.V p.stacks p.D false)),
  (7,.box v7 29 [.ref 72 w .o,.int .i64 (p.stacks.length:Nat),rv 92 w2 (((ppr p).take j).map encT),.int .i64 0]),(72,.row w 3 1 (encI (pvs p)))] ++ rb 92 w2 35 9 (((ppr p).take j).map encT)
end Go.Proofs.YtnngddgaobhkiaaGreat
