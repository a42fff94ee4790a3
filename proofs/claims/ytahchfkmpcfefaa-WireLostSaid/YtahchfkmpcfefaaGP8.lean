import Derived.Test.YtahchfkmpcfefaaGA7
set_option linter.unusedVariables false
set_option linter.unusedSimpArgs false
namespace Go.Am
open Go.RowKit
structure Ex where
 mk ::
 kind:Int
 n:Int
 name:ByteArray
 l:List Ex
structure Tm where
 kind:Int
 a:Int
 b:Int
 name:ByteArray
 e:Ex
 l:List Tm
mutual
def encE:Ex → List AV
 | ⟨k,n,s,l⟩=>[.int .i64 k,.int .i64 n,.str s,.sl (encEs l)]
def encEs:List Ex → List (List AV)
 | []=>[]
 | x :: l=>encE x :: encEs l
end
mutual
def encT:Tm → List AV
 | ⟨k,a,b,s,e,l⟩=>.int .i64 k :: .int .i64 a :: .int .i64 b :: .str s :: (encE e ++ [.sl (encTs l)])
def encTs:List Tm → List (List AV)
 | []=>[]
 | x :: l=>encT x :: encTs l
end
theorem encEs_map:∀ l,encEs l = l.map encE
 | []=>rfl
 | x :: l=>by simp [encEs,encEs_map l]
theorem encTs_map:∀ l,encTs l = l.map encT
 | []=>rfl
 | x :: l=>by simp [encTs,encTs_map l]
theorem encE_eq (x:Ex):encE x = [.int .i64 x.kind,.int .i64 x.n,.str x.name,.sl (x.l.map encE)]:=by
 cases x; simp [encE,encEs_map]
theorem encT_eq (t:Tm):encT t = [.int .i64 t.kind,.int .i64 t.a,.int .i64 t.b,.str t.name,.int .i64 t.e.kind,.int .i64 t.e.n,.str t.e.name,.sl (t.e.l.map encE),.sl (t.l.map encT)]:=by
 cases t; simp [encT,encTs_map,encE_eq]
@[simp] theorem encE_len (x:Ex):(encE x).length = 4:=by rw [encE_eq]; rfl
@[simp] theorem encT_len (t:Tm):(encT t).length = 9:=by rw [encT_eq]; rfl
@[simp] theorem encT_ok (t:Tm):(encT t).all AV.cell = true:=by rw [encT_eq]; rfl
@[simp] theorem encE_ok (t:Ex):(encE t).all AV.cell = true:=by rw [encE_eq]; rfl
mutual
theorem encE_closed:∀ x:Ex,closedL (encE x) = true
 | ⟨k,n,s,l⟩=>by simp [encE,closedL,closed,encEs_closed l]
theorem encEs_closed:∀ l:List Ex,closedLL (encEs l) = true
 | []=>rfl
 | x :: l=>by simp [encEs,closedLL,encE_closed x,encEs_closed l]
end
mutual
theorem encT_closed:∀ x:Tm,closedL (encT x) = true
 | ⟨k,a,b,s,e,l⟩=>by simp [encT,closedL,closed,closedL_append,encE_closed e,encTs_closed l]
theorem encTs_closed:∀ l:List Tm,closedLL (encTs l) = true
 | []=>rfl
 | x :: l=>by simp [encTs,closedLL,encT_closed x,encTs_closed l]
end
attribute [simp] encE_closed encT_closed
@[simp] theorem rd_E0 (t:Ex):readA (encE t) 0 1 false = some (.int .i64 t.kind):=by rw [encE_eq]; rfl
@[simp] theorem rd_E1 (t:Ex):readA (encE t) 1 1 false = some (.int .i64 t.n):=by rw [encE_eq]; rfl
@[simp] theorem rd_E2 (t:Ex):readA (encE t) 2 1 false = some (.str t.name):=by rw [encE_eq]; rfl
@[simp] theorem rd_E3 (t:Ex):readA (encE t) 3 1 false = some (.sl (t.l.map encE)):=by rw [encE_eq]; rfl
@[simp] theorem rd_Eall (t:Ex):readA (encE t) 0 4 true = some (.agg (encE t)):=by simp [readA]; rw [encE_eq]; rfl
@[simp] theorem pur0_E (H:Heap) (t:Ex):(encE t).map (pur0 H) = encE t:=by rw [encE_eq]; rfl
@[simp] theorem frz0_E (H:Heap) (t:Ex):(encE t).foldl frz0 H = H:=by rw [encE_eq]; rfl
@[simp] theorem rd_T0 (t:Tm):readA (encT t) 0 1 false = some (.int .i64 t.kind):=by rw [encT_eq]; rfl
@[simp] theorem rd_T1 (t:Tm):readA (encT t) 1 1 false = some (.int .i64 t.a):=by rw [encT_eq]; rfl
@[simp] theorem rd_T2 (t:Tm):readA (encT t) 2 1 false = some (.int .i64 t.b):=by rw [encT_eq]; rfl
@[simp] theorem rd_T3 (t:Tm):readA (encT t) 3 1 false = some (.str t.name):=by rw [encT_eq]; rfl
@[simp] theorem rd_T4 (t:Tm):readA (encT t) 4 4 true = some (.agg (encE t.e)):=by simp [readA]; rw [encT_eq,encE_eq]; rfl
@[simp] theorem rd_T8 (t:Tm):readA (encT t) 8 1 false = some (.sl (t.l.map encT)):=by rw [encT_eq]; rfl
@[simp] theorem rd_Tall (t:Tm):readA (encT t) 0 9 true = some (.agg (encT t)):=by simp [readA]; rw [encT_eq]; rfl
@[simp] theorem pur0_T (H:Heap) (t:Tm):(encT t).map (pur0 H) = encT t:=by rw [encT_eq]; rfl
@[simp] theorem frz0_T (H:Heap) (t:Tm):(encT t).foldl frz0 H = H:=by rw [encT_eq]; rfl
mutual
def Tm.size:Tm → Int
 | ⟨_,_,_,_,_,l⟩=>1 + Tm.sizes l
def Tm.sizes:List Tm → Int
 | []=>0
 | t :: l=>t.size + Tm.sizes l
end
mutual
theorem Tm.size_pos:∀ t:Tm,1 ≤ t.size
 | ⟨_,_,_,_,_,l⟩=>by have:=Tm.sizes_nonneg l; simp only [Tm.size]; omega
theorem Tm.sizes_nonneg:∀ l:List Tm,0 ≤ Tm.sizes l
 | []=>Int.le_refl _
 | t :: l=>by have:=t.size_pos; have:=Tm.sizes_nonneg l; simp only [Tm.sizes]; omega
end
theorem Tm.lt_of_mem {t x:Tm} (h:x ∈ t.l):SizeOf.sizeOf x < SizeOf.sizeOf t:=by
 have:=List.sizeOf_lt_of_mem h
 cases t
 simp at *
 omega
def isSmall (c:Int):Bool:=decide (97 ≤ c) && decide (c ≤ 122)
def isDigit (c:Int):Bool:=decide (48 ≤ c) && decide (c ≤ 57)
def isInner (c:Int):Bool:=isSmall c || (isDigit c || decide (c = 95))
def kids (k:Int):Int:=if k = 1 ∨ k = 2 then 0 else if k = 3 ∨ k = 4 then 1 else 2
def numOk (v st p k n:Int):Bool:=
 if k = 1 then decide (0 ≤ n) && decide (n < v) else if k = 2 then decide (-1 ≤ n) && decide (n < v) else if k = 3 then decide (0 ≤ n) && decide (n < st) else if k = 4 then decide (0 ≤ n) && decide (n < p)
 else if k = 5 then decide (0 ≤ n) else decide (n = 0)
def Ex.none (x:Ex):Bool:=decide (x.kind = 0) && (decide (x.n = 0) && (decide (x.name = ⟨#[]⟩) && decide (x.l = [])))
def shapeOf (a b:Int) (n e:Bool) (l:Int):List AV:=[.int .i64 a,.int .i64 b,.bool n,.bool e,.int .i64 l]
def shapes:List (List AV):=[shapeOf 0 0 false false 0,shapeOf 2 0 true false 0,shapeOf 1 0 false true 0,shapeOf 3 0 false false 1,shapeOf 3 0 false false 0,shapeOf 3 0 false false 0,shapeOf 3 3 false false 0,shapeOf 0 0 false false 1,
 shapeOf 0 0 false false 0,shapeOf 0 0 false true 2,shapeOf 0 0 false false 2,shapeOf 0 0 false false 2,shapeOf 0 0 false false 2,shapeOf 4 0 false false 0,shapeOf 5 2 true false 0]
def idxB:List ByteArray → ByteArray → Int
 | [],_=>-1
 | x :: l,s=>if x = s then 0 else if idxB l s = -1 then -1 else idxB l s + 1
def words:List ByteArray:=[⟨#[118,97,114]⟩,⟨#[115,116,97,99,107]⟩,⟨#[112,114,111,99]⟩,⟨#[115,107,105,112]⟩,⟨#[100,111]⟩,⟨#[112,117,115,104]⟩,⟨#[114,101,118,101,114,115,101]⟩,⟨#[97,99,99,101,112,116]⟩,
 ⟨#[109,101,114,103,101]⟩,⟨#[98,108,111,99,107]⟩,⟨#[101,120,105,116]⟩,⟨#[105,102]⟩,⟨#[101,108,115,101]⟩,⟨#[99,104,111,111,115,101]⟩,⟨#[112,97,114]⟩,⟨#[99,97,108,108]⟩]
def isKey (s:ByteArray):Bool:=decide (0 ≤ idxB words s)
def eqL {α β:Type} (r:α → β → Bool):List α → List β → Bool
 | [],[]=>true
 | x :: l,y :: m=>r x y && eqL r l m
 | _,_=>false
theorem eqL_iff {α:Type} (r:α → α → Bool):∀ (l m:List α),(∀ x ∈ l,∀ y,r x y = true ↔ x = y) → (eqL r l m = true ↔ l = m)
 | [],[],_=>by simp [eqL]
 | [],_ :: _,_=>by simp [eqL]
 | _ :: _,[],_=>by simp [eqL]
 | x :: l,y :: m,h=>by
  have ih:=eqL_iff r l m fun z hz=>h z (by simp [hz])
  simp [eqL,ih,h x (by simp) y]
mutual
def Ex.same:Ex → Ex → Bool
 | ⟨k,n,s,l⟩,⟨k',n',s',l'⟩=>decide (k = k') && (decide (n = n') && (decide (s = s') && Ex.sames l l'))
def Ex.sames:List Ex → List Ex → Bool
 | [],[]=>true
 | x :: l,y :: m=>Ex.same x y && Ex.sames l m
 | _,_=>false
end
theorem Ex.sames_eq:∀ l m,Ex.sames l m = eqL Ex.same l m
 | [],[]=>rfl
 | [],_ :: _=>rfl
 | _ :: _,[]=>rfl
 | x :: l,y :: m=>by simp [Ex.sames,eqL,Ex.sames_eq l m]
theorem Ex.same_eq (x y:Ex):Ex.same x y = (decide (x.kind = y.kind) && (decide (x.n = y.n) && (decide (x.name = y.name) && eqL Ex.same x.l y.l))):=by
 cases x; cases y; simp [Ex.same,Ex.sames_eq]
theorem Ex.lt_of_mem {t x:Ex} (h:x ∈ t.l):SizeOf.sizeOf x < SizeOf.sizeOf t:=by
 have:=List.sizeOf_lt_of_mem h
 cases t
 simp at *
 omega
theorem Ex.same_iff (x y:Ex):Ex.same x y = true ↔ x = y:=by
 have ih:∀ z ∈ x.l,∀ w,Ex.same z w = true ↔ z = w:=fun z hz w=>Ex.same_iff z w
 rw [Ex.same_eq]
 cases x; cases y
 simp [eqL_iff Ex.same _ _ ih]
termination_by SizeOf.sizeOf x
decreasing_by exact Ex.lt_of_mem hz
mutual
def Tm.same:Tm → Tm → Bool
 | ⟨k,a,b,s,e,l⟩,⟨k',a',b',s',e',l'⟩=>(decide (k = k') && (decide (a = a') && decide (b = b'))) && (decide (s = s') && (Ex.same e e' && Tm.sames l l'))
def Tm.sames:List Tm → List Tm → Bool
 | [],[]=>true
 | x :: l,y :: m=>Tm.same x y && Tm.sames l m
 | _,_=>false
end
theorem Tm.sames_eq:∀ l m,Tm.sames l m = eqL Tm.same l m
 | [],[]=>rfl
 | [],_ :: _=>rfl
 | _ :: _,[]=>rfl
 | x :: l,y :: m=>by simp [Tm.sames,eqL,Tm.sames_eq l m]
theorem Tm.same_eq (x y:Tm):Tm.same x y = ((decide (x.kind = y.kind) && (decide (x.a = y.a) && decide (x.b = y.b))) && (decide (x.name = y.name) && (Ex.same x.e y.e && eqL Tm.same x.l y.l))):=by
 cases x; cases y; simp [Tm.same,Tm.sames_eq]
theorem Tm.same_iff (x y:Tm):Tm.same x y = true ↔ x = y:=by
 have ih:∀ z ∈ x.l,∀ w,Tm.same z w = true ↔ z = w:=fun z hz w=>Tm.same_iff z w
 rw [Tm.same_eq]
 cases x; cases y
 simp [eqL_iff Tm.same _ _ ih,Ex.same_iff,and_assoc]
termination_by SizeOf.sizeOf x
decreasing_by exact Tm.lt_of_mem hz
mutual
def Ex.wt:Ex → Nat
 | ⟨_,_,_,l⟩=>1 + Ex.wts l
def Ex.wts:List Ex → Nat
 | []=>0
 | x :: l=>x.wt + Ex.wts l
end
theorem Ex.wt_eq (x:Ex):x.wt = 1 + Ex.wts x.l:=by cases x; rfl
theorem Ex.wts_mem:∀ {l:List Ex} {x:Ex},x ∈ l → x.wt ≤ Ex.wts l
 | y :: l,x,h=>by
  simp only [Ex.wts]
  rcases List.mem_cons.1 h with rfl | h
  ·omega
  ·have:=Ex.wts_mem h; omega
theorem Ex.wts_len:∀ l:List Ex,l.length ≤ Ex.wts l
 | []=>Nat.le_refl _
 | x :: l=>by have:=Ex.wts_len l; have:=x.wt_eq; simp only [Ex.wts,List.length_cons]; omega
mutual
def Tm.wt:Tm → Nat
 | ⟨_,_,_,_,e,l⟩=>1 + e.wt + Tm.wts l
def Tm.wts:List Tm → Nat
 | []=>0
 | x :: l=>x.wt + Tm.wts l
end
theorem Tm.wt_eq (x:Tm):x.wt = 1 + x.e.wt + Tm.wts x.l:=by cases x; rfl
theorem Tm.wts_mem:∀ {l:List Tm} {x:Tm},x ∈ l → x.wt ≤ Tm.wts l
 | y :: l,x,h=>by
  simp only [Tm.wts]
  rcases List.mem_cons.1 h with rfl | h
  ·omega
  ·have:=Tm.wts_mem h; omega
theorem Tm.wts_len:∀ l:List Tm,l.length ≤ Tm.wts l
 | []=>Nat.le_refl _
 | x :: l=>by have:=Tm.wts_len l; have:=x.wt_eq; simp only [Tm.wts,List.length_cons]; omega
@[simp] theorem all_encE (l:List Ex):((l.map encE).all fun r=>r.length == 4 && okCells r) = true:=by
 simp only [List.all_map]
 exact List.all_eq_true.2 fun x _=>by simp [okCells]
@[simp] theorem all_encT (l:List Tm):((l.map encT).all fun r=>r.length == 9 && okCells r) = true:=by
 simp only [List.all_map]
 exact List.all_eq_true.2 fun x _=>by simp [okCells]
@[simp] theorem encE_cell (t:Ex):∀ c ∈ encE t,c.cell = true:=fun c h=>List.all_eq_true.1 (encE_ok t) c h
@[simp] theorem encT_cell (t:Tm):∀ c ∈ encT t,c.cell = true:=fun c h=>List.all_eq_true.1 (encT_ok t) c h
@[simp] theorem setE3 (x:Ex) (l:List Ex):setL (encE x) 3 [.sl (l.map encE)] = encE ⟨x.kind,x.n,x.name,l⟩:=by rw [encE_eq,encE_eq]; rfl
@[simp] theorem setT8 (x:Tm) (l:List Tm):setL (encT x) 8 [.sl (l.map encT)] = encT ⟨x.kind,x.a,x.b,x.name,x.e,l⟩:=by rw [encT_eq,encT_eq]; rfl
@[simp] theorem setT4 (x:Tm) (e:Ex):setL (encT x) 4 (encE e) = encT ⟨x.kind,x.a,x.b,x.name,e,x.l⟩:=by rw [encT_eq,encT_eq,encE_eq]; rfl
@[simp] theorem Ex.eta (x:Ex):(⟨x.kind,x.n,x.name,x.l⟩:Ex) = x:=by cases x; rfl
@[simp] theorem Tm.eta (x:Tm):(⟨x.kind,x.a,x.b,x.name,x.e,x.l⟩:Tm) = x:=by cases x; rfl
@[simp] theorem takeE (t:Ex) (n:Nat) (h:n = 4):List.take n (encE t) = encE t:=by rw [List.take_of_length_le (by simp [h])]
@[simp] theorem takeT (t:Tm) (n:Nat) (h:n = 9):List.take n (encT t) = encT t:=by rw [List.take_of_length_le (by simp [h])]
def Ex.zero:Ex:=⟨0,0,⟨#[]⟩,[]⟩
def Tm.of (k:Int) (l:List Tm):Tm:=⟨k,0,0,⟨#[]⟩,.zero,l⟩
def Tm.skip:Tm:=.of 0 []
def Tm.norm:Tm → Tm
 | ⟨k,a,b,s,e,[x,y]⟩=>
  if k = 12 then (if x.norm.kind = 0 then y.norm else .of 12 [x.norm,y])
  else if k = 11 then (if x.norm.kind = 0 ∧ y.norm.kind = 0 then .skip else .of 11 [x.norm,y.norm])
  else ⟨k,a,b,s,e,[x,y]⟩
 | ⟨k,a,b,s,e,[x]⟩=>if k = 7 then (if x.norm.kind = 0 then .skip else .of 7 [x.norm]) else ⟨k,a,b,s,e,[x]⟩
 | t=>t
mutual
def Tm.act:Tm → List Tm
 | ⟨k,a,b,s,e,l⟩=>⟨k,a,b,s,e,l⟩ :: (if k = 12 then Tm.act1 l else if k = 11 ∨ k = 7 then Tm.acts l else [])
def Tm.acts:List Tm → List Tm
 | []=>[]
 | x :: l=>x.act ++ Tm.acts l
def Tm.act1:List Tm → List Tm
 | []=>[]
 | x :: _=>x.act
end
def Tm.kidsA (t:Tm):List Tm:=if t.kind = 12 then t.l.take 1 else if t.kind = 11 ∨ t.kind = 7 then t.l else []
def Tm.waits (t:Tm):List Int:=t.act.filterMap fun x=>if x.kind = 14 then some x.a else none
def encI (l:List Int):List (List AV):=l.map fun n=>[.int .i64 n]
mutual
theorem Tm.act_len:∀ t:Tm,t.act.length ≤ t.wt
 | ⟨k,a,b,s,e,l⟩=>by
  have h1:=Tm.acts_len l
  have h2:(Tm.act1 l).length ≤ (Tm.acts l).length:=by
   cases l <;> simp [Tm.act1,Tm.acts]
  simp only [Tm.act,Tm.wt,List.length_cons]
  split
  ·omega
  ·split
   ·omega
   ·simp; omega
theorem Tm.acts_len:∀ l:List Tm,(Tm.acts l).length ≤ Tm.wts l
 | []=>Nat.le_refl _
 | x :: l=>by
  have:=x.act_len
  have:=Tm.acts_len l
  simp only [Tm.acts,Tm.wts,List.length_append]
  omega
end
def wtsL (l:List Tm):List Int:=l.filterMap fun x=>if x.kind = 14 then some x.a else none
@[simp] theorem encI_closed:∀ l,closedLL (encI l) = true
 | []=>rfl
 | x :: l=>by
  have:=encI_closed l
  simp only [encI,List.map_cons,closedLL,closedL,closed,Bool.and_self,Bool.true_and] at *
  exact this
@[simp] theorem encI_len (l:List Int):(encI l).length = l.length:=by simp [encI]
@[simp] theorem encI_cell:∀ l,∀ x ∈ encI l,x.length = 1 ∧ ∀ c ∈ x,c.cell = true:=by
 intro l x hx
 simp only [encI,List.mem_map] at hx
 obtain ⟨n,-,rfl⟩:=hx
 simp
@[simp] theorem encI_flat (l:List Int):((encI l).all fun r=>r.all flat0) = true:=by
 simp [encI,flat0]
def encP (t:Tm) (p:List Int) (w:Bool):List AV:=encT t ++ [.sl (encI p),.bool w]
theorem encP_eq (t:Tm) (p:List Int) (w:Bool):encP t p w = [.int .i64 t.kind,.int .i64 t.a,.int .i64 t.b,.str t.name,.int .i64 t.e.kind,.int .i64 t.e.n,.str t.e.name,.sl (t.e.l.map encE),.sl (t.l.map encT),.sl (encI p),.bool w]:=by
 rw [encP,encT_eq]; rfl
@[simp] theorem encP_len (t:Tm) (p:List Int) (w:Bool):(encP t p w).length = 11:=by rw [encP_eq]; rfl
@[simp] theorem encP_ok (t:Tm) (p:List Int) (w:Bool):(encP t p w).all AV.cell = true:=by rw [encP_eq]; rfl
@[simp] theorem encP_cell (t:Tm) (p:List Int) (w:Bool):∀ c ∈ encP t p w,c.cell = true:=fun c h=>List.all_eq_true.1 (encP_ok t p w) c h
@[simp] theorem encP_closed (t:Tm) (p:List Int) (w:Bool):closedL (encP t p w) = true:=by simp [encP,closedL_append,closedL]
@[simp] theorem rd_P0 (t:Tm) (p:List Int) (w:Bool):readA (encP t p w) 0 1 false = some (.int .i64 t.kind):=by rw [encP_eq]; rfl
@[simp] theorem rd_P8 (t:Tm) (p:List Int) (w:Bool):readA (encP t p w) 8 1 false = some (.sl (t.l.map encT)):=by rw [encP_eq]; rfl
@[simp] theorem rd_P9 (t:Tm) (p:List Int) (w:Bool):readA (encP t p w) 9 1 false = some (.sl (encI p)):=by rw [encP_eq]; rfl
@[simp] theorem rd_P10 (t:Tm) (p:List Int) (w:Bool):readA (encP t p w) 10 1 false = some (.bool w):=by rw [encP_eq]; rfl
@[simp] theorem rd_Pt (t:Tm) (p:List Int) (w:Bool):readA (encP t p w) 0 9 true = some (.agg (encT t)):=by simp [readA]; rw [encP_eq,encT_eq]; rfl
@[simp] theorem rd_Pall (t:Tm) (p:List Int) (w:Bool):readA (encP t p w) 0 11 true = some (.agg (encP t p w)):=by simp [readA]; rw [encP_eq]; rfl
@[simp] theorem pur0_P (H:Heap) (t:Tm) (p:List Int) (w:Bool):(encP t p w).map (pur0 H) = encP t p w:=by rw [encP_eq]; rfl
@[simp] theorem frz0_P (H:Heap) (t:Tm) (p:List Int) (w:Bool):(encP t p w).foldl frz0 H = H:=by rw [encP_eq]; rfl
@[simp] theorem setP10 (t:Tm) (p:List Int) (w b:Bool):setL (encP t p w) 10 [.bool b] = encP t p b:=by rw [encP_eq,encP_eq]; rfl
@[simp] theorem takeP (t:Tm) (p:List Int) (w:Bool) (n:Nat) (h:n = 11):List.take n (encP t p w) = encP t p w:=by rw [List.take_of_length_le (by simp [h])]
def kidW (k:Int) (x:Tm) (w:Bool):Bool:=if k = 7 then decide (0 < x.waits.length) else w
mutual
def Tm.pls:Tm → List Int → Bool → List (Tm × List Int × Bool)
 | ⟨k,a,b,s,e,l⟩,p,w=>(⟨k,a,b,s,e,l⟩,p,w) :: (if k = 12 ∨ k = 7 then Tm.pls1 k l p w else if k = 11 then Tm.plsL k l p w 0 else [])
def Tm.plsL (k:Int):List Tm → List Int → Bool → Nat → List (Tm × List Int × Bool)
 | [],_,_,_=>[]
 | x :: l,p,w,i=>x.pls (p ++ [(i:Int)]) (kidW k x w) ++ Tm.plsL k l p w (i + 1)
def Tm.pls1 (k:Int):List Tm → List Int → Bool → List (Tm × List Int × Bool)
 | [],_,_=>[]
 | x :: _,p,w=>x.pls (p ++ [0]) (kidW k x w)
end
def Tm.kidsP (t:Tm):Nat:=if t.kind = 12 ∨ t.kind = 7 then min t.l.length 1 else if t.kind = 11 then t.l.length else 0
section
variable (c0 c1 c2 c3 c4 c5 c6 c7 c8 a b : AV) (l xs : List AV) (t : Tm)
@[simp] theorem setT_0:setL (c0 :: c1 :: c2 :: c3 :: c4 :: c5 :: c6 :: c7 :: c8 :: l) 0 (encT t) = encT t ++ l:=by rw [setL_eq _ _ _ (by simp),encT_eq]; rfl
@[simp] theorem setT_9:setL (encT t ++ a :: l) 9 [b] = encT t ++ b :: l:=by rw [encT_eq]; rfl
@[simp] theorem setT_10:setL (encT t ++ c0 :: a :: l) 10 [b] = encT t ++ c0 :: b :: l:=by rw [encT_eq]; rfl
@[simp] theorem rdA_0:readA (encT t ++ l) 0 1 false = some (.int .i64 t.kind):=by rw [encT_eq]; rfl
@[simp] theorem rdA_8:readA (encT t ++ l) 8 1 false = some (.sl (t.l.map encT)):=by rw [encT_eq]; rfl
@[simp] theorem rdA_9:readA (encT t ++ a :: l) 9 1 false = some a:=by rw [encT_eq]; rfl
@[simp] theorem rdA_10:readA (encT t ++ a :: b :: l) 10 1 false = some b:=by rw [encT_eq]; rfl
@[simp] theorem rdA_t:readA (encT t ++ l) 0 9 true = some (.agg (encT t)):=by rw [encT_eq]; simp [readA]
@[simp] theorem rdA_all:readA (encT t ++ [a,b]) 0 11 true = some (.agg (encT t ++ [a,b])):=by rw [encT_eq]; simp [readA]
end
def encPl (x:Tm × List Int × Bool):List AV:=[.agg (encP x.1 x.2.1 x.2.2)]
abbrev Stp3:=Int × List Int × Int
def encS (x:Stp3):List AV:=[.int .i64 x.1,.sl (encI x.2.1),.int .i64 x.2.2]
@[simp] theorem encS_len (x:Stp3):(encS x).length = 3:=rfl
@[simp] theorem encS_closed (x:Stp3):closedL (encS x) = true:=by simp [encS,closedL]
@[simp] theorem encS_cell (x:Stp3):∀ c ∈ encS x,c.cell = true:=by simp [encS]
@[simp] theorem encSs_closed:∀ l:List Stp3,closedLL (l.map encS) = true
 | []=>rfl
 | x :: l=>by simp [closedLL,encSs_closed l]
def stp (k:Int) (p:List Int) (n:Nat):List Stp3:=(List.range n).map fun (a:Nat)=>(k,p,(a:Int))
@[simp] theorem stp_len (k:Int) (p:List Int) (n:Nat):(stp k p n).length = n:=by simp [stp]
def stpN (x:Tm × List Int × Bool):Nat:=
 if x.1.kind = 0 ∨ x.1.kind = 14 ∨ x.1.kind = 12 ∨ x.1.kind = 11 ∨ x.1.kind = 7 then 0 else if x.1.kind = 8 then (if x.2.2 = true then 0 else 1) else if x.1.kind = 10 then 2 else 1
def stepsAt (x:Tm × List Int × Bool):List Stp3:=stp x.1.kind x.2.1 (stpN x)
def Tm.enabledN (n:Tm):List Stp3:=(n.pls [] (decide (0 < n.waits.length))).flatMap stepsAt
def Tm.enabled (t:Tm):List Stp3:=t.norm.enabledN
mutual
theorem Tm.pls_len:∀ (t:Tm) (p:List Int) (w:Bool),(t.pls p w).length ≤ t.wt
 | ⟨k,a,b,s,e,l⟩,p,w=>by
  have h1:=Tm.plsL_len k l p w 0
  have h2:(Tm.pls1 k l p w).length ≤ (Tm.plsL k l p w 0).length:=by
   cases l <;> simp [Tm.pls1,Tm.plsL]
  simp only [Tm.pls,Tm.wt,List.length_cons]
  split
  ·omega
  ·split
   ·omega
   ·simp; omega
theorem Tm.plsL_len (k:Int):∀ (l:List Tm) (p:List Int) (w:Bool) (i:Nat),(Tm.plsL k l p w i).length ≤ Tm.wts l
 | [],_,_,_=>Nat.le_refl _
 | x :: l,p,w,i=>by
  have:=x.pls_len (p ++ [(i:Int)]) (kidW k x w)
  have:=Tm.plsL_len k l p w (i + 1)
  simp only [Tm.plsL,Tm.wts,List.length_append]
  omega
end
mutual
theorem Tm.pls_path:∀ (t:Tm) (p:List Int) (w:Bool),∀ x ∈ t.pls p w,x.2.1.length ≤ p.length + t.wt
 | ⟨k,a,b,s,e,l⟩,p,w=>by
  have h1:=Tm.plsL_path k l p w 0
  have h2:∀ x ∈ Tm.pls1 k l p w,x ∈ Tm.plsL k l p w 0:=by
   intro x hx
   cases l with
   | nil=>exact hx
   | cons y l=>
    simp only [Tm.pls1] at hx
    simp only [Tm.plsL,List.mem_append]
    exact Or.inl hx
  intro x hx
  simp only [Tm.pls,Tm.wt,List.mem_cons] at hx ⊢
  rcases hx with rfl | hx
  ·simp
  ·split at hx
   ·have:=h1 x (h2 x hx); omega
   ·split at hx
    ·have:=h1 x hx; omega
    ·simp at hx
theorem Tm.plsL_path (k:Int):∀ (l:List Tm) (p:List Int) (w:Bool) (i:Nat),∀ x ∈ Tm.plsL k l p w i,x.2.1.length ≤ p.length + 1 + Tm.wts l
 | [],_,_,_=>by simp [Tm.plsL]
 | y :: l,p,w,i=>by
  have h1:=y.pls_path (p ++ [(i:Int)]) (kidW k y w)
  have h2:=Tm.plsL_path k l p w (i + 1)
  intro x hx
  simp only [Tm.plsL,Tm.wts,List.mem_append] at hx ⊢
  rcases hx with hx | hx
  ·have:=h1 x hx; simp at this; omega
  ·have:=h2 x hx; omega
end
def Tm.status (t:Tm):Int:=if t.norm.kind = 0 then 2 else if t.enabled = [] then 1 else 0
theorem nrmL_append (a b:List AV):nrmL (a ++ b) = nrmL a ++ nrmL b:=by simp [nrmL_map]
mutual
theorem nrmL_encE:∀ x:Ex,nrmL (encE x) = encE x
 | ⟨k,n,s,l⟩=>by simp [encE,nrmL,nrm,nrmLL_encEs l]
theorem nrmLL_encEs:∀ l:List Ex,nrmLL (encEs l) = encEs l
 | []=>rfl
 | x :: l=>by simp [encEs,nrmLL,nrmL_encE x,nrmLL_encEs l]
end
mutual
theorem nrmL_encT:∀ x:Tm,nrmL (encT x) = encT x
 | ⟨k,a,b,s,e,l⟩=>by simp [encT,nrmL,nrm,nrmL_append,nrmL_encE e,nrmLL_encTs l]
theorem nrmLL_encTs:∀ l:List Tm,nrmLL (encTs l) = encTs l
 | []=>rfl
 | x :: l=>by simp [encTs,nrmLL,nrmL_encT x,nrmLL_encTs l]
end
attribute [simp] nrmL_encE nrmL_encT
def within (a n:Int):Int:=if a.tmod n < 0 then a.tmod n + n else a.tmod n
end Go.Am
