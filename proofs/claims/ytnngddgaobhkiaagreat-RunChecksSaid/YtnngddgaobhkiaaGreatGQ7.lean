import Derived.Test.YtnngddgaobhkiaaGreatGP6
set_option linter.unusedVariables false
set_option linter.unusedSimpArgs false
namespace Go.Am
open Go.RowKit
attribute [simp] closedL_append
@[simp] theorem readA_whole {cells:List AV} {n:Nat} (h:cells.length = n):readA cells 0 n true = some (.agg cells):=by subst h; simp [readA]
structure Rw2 where
 mk ::
 k:Int
 n:Int
 l:List Rw2
structure Rw3 where
 mk ::
 k:Int
 a:Int
 b:Int
 e:List Rw2
 l:List Rw3
mutual
def encR2:Rw2 → List AV
 | ⟨k,n,l⟩=>[.int .i64 k,.int .i64 n,.sl (encR2s l)]
def encR2s:List Rw2 → List (List AV)
 | []=>[]
 | x :: l=>encR2 x :: encR2s l
end
mutual
def encR3:Rw3 → List AV
 | ⟨k,a,b,e,l⟩=>[.int .i64 k,.int .i64 a,.int .i64 b,.sl (encR2s e),.sl (encR3s l)]
def encR3s:List Rw3 → List (List AV)
 | []=>[]
 | x :: l=>encR3 x :: encR3s l
end
theorem encR2s_map:∀ l,encR2s l = l.map encR2
 | []=>rfl
 | x :: l=>by simp [encR2s,encR2s_map l]
theorem encR3s_map:∀ l,encR3s l = l.map encR3
 | []=>rfl
 | x :: l=>by simp [encR3s,encR3s_map l]
theorem encR2_eq (x:Rw2):encR2 x = [.int .i64 x.k,.int .i64 x.n,.sl (x.l.map encR2)]:=by
 cases x; simp [encR2,encR2s_map]
theorem encR3_eq (x:Rw3):encR3 x = [.int .i64 x.k,.int .i64 x.a,.int .i64 x.b,.sl (x.e.map encR2),.sl (x.l.map encR3)]:=by
 cases x; simp [encR3,encR2s_map,encR3s_map]
mutual
theorem encR2_closed:∀ x:Rw2,closedL (encR2 x) = true
 | ⟨k,n,l⟩=>by simp [encR2,closedL,closed,encR2s_closed l]
theorem encR2s_closed:∀ l:List Rw2,closedLL (encR2s l) = true
 | []=>rfl
 | x :: l=>by simp [encR2s,closedLL,encR2_closed x,encR2s_closed l]
end
mutual
theorem encR3_closed:∀ x:Rw3,closedL (encR3 x) = true
 | ⟨k,a,b,e,l⟩=>by simp [encR3,closedL,closed,encR2s_closed e,encR3s_closed l]
theorem encR3s_closed:∀ l:List Rw3,closedLL (encR3s l) = true
 | []=>rfl
 | x :: l=>by simp [encR3s,closedLL,encR3_closed x,encR3s_closed l]
end
attribute [simp] encR2_closed encR3_closed
@[simp] theorem encR2_len (x:Rw2):(encR2 x).length = 3:=by rw [encR2_eq]; rfl
@[simp] theorem encR3_len (x:Rw3):(encR3 x).length = 5:=by rw [encR3_eq]; rfl
@[simp] theorem encR2_ok (t:Rw2):(encR2 t).all AV.cell = true:=by rw [encR2_eq]; rfl
@[simp] theorem encR3_ok (t:Rw3):(encR3 t).all AV.cell = true:=by rw [encR3_eq]; rfl
@[simp] theorem encR2_cell (t:Rw2):∀ c ∈ encR2 t,c.cell = true:=fun c h=>List.all_eq_true.1 (encR2_ok t) c h
@[simp] theorem encR3_cell (t:Rw3):∀ c ∈ encR3 t,c.cell = true:=fun c h=>List.all_eq_true.1 (encR3_ok t) c h
@[simp] theorem rd_R20 (t:Rw2):readA (encR2 t) 0 1 false = some (.int .i64 t.k):=by rw [encR2_eq]; rfl
@[simp] theorem rd_R21 (t:Rw2):readA (encR2 t) 1 1 false = some (.int .i64 t.n):=by rw [encR2_eq]; rfl
@[simp] theorem rd_R22 (t:Rw2):readA (encR2 t) 2 1 false = some (.sl (t.l.map encR2)):=by rw [encR2_eq]; rfl
@[simp] theorem rd_R2all (t:Rw2):readA (encR2 t) 0 3 true = some (.agg (encR2 t)):=by simp [readA]; rw [encR2_eq]; rfl
@[simp] theorem rd_R30 (t:Rw3):readA (encR3 t) 0 1 false = some (.int .i64 t.k):=by rw [encR3_eq]; rfl
@[simp] theorem rd_R31 (t:Rw3):readA (encR3 t) 1 1 false = some (.int .i64 t.a):=by rw [encR3_eq]; rfl
@[simp] theorem rd_R32 (t:Rw3):readA (encR3 t) 2 1 false = some (.int .i64 t.b):=by rw [encR3_eq]; rfl
@[simp] theorem rd_R33 (t:Rw3):readA (encR3 t) 3 1 false = some (.sl (t.e.map encR2)):=by rw [encR3_eq]; rfl
@[simp] theorem rd_R34 (t:Rw3):readA (encR3 t) 4 1 false = some (.sl (t.l.map encR3)):=by rw [encR3_eq]; rfl
@[simp] theorem rd_R3all (t:Rw3):readA (encR3 t) 0 5 true = some (.agg (encR3 t)):=by simp [readA]; rw [encR3_eq]; rfl
@[simp] theorem pur0_R2 (H:Heap) (t:Rw2):(encR2 t).map (pur0 H) = encR2 t:=by rw [encR2_eq]; rfl
@[simp] theorem frz0_R2 (H:Heap) (t:Rw2):(encR2 t).foldl frz0 H = H:=by rw [encR2_eq]; rfl
@[simp] theorem pur0_R3 (H:Heap) (t:Rw3):(encR3 t).map (pur0 H) = encR3 t:=by rw [encR3_eq]; rfl
@[simp] theorem frz0_R3 (H:Heap) (t:Rw3):(encR3 t).foldl frz0 H = H:=by rw [encR3_eq]; rfl
theorem Rw2.lt_of_mem {t x:Rw2} (h:x ∈ t.l):SizeOf.sizeOf x < SizeOf.sizeOf t:=by
 have:=List.sizeOf_lt_of_mem h
 cases t
 simp at *
 omega
theorem Rw3.lt_of_mem {t x:Rw3} (h:x ∈ t.l):SizeOf.sizeOf x < SizeOf.sizeOf t:=by
 have:=List.sizeOf_lt_of_mem h
 cases t
 simp at *
 omega
mutual
def Rw2.nodes:Rw2 → Nat
 | ⟨_,_,l⟩=>1 + Rw2.nodess l
def Rw2.nodess:List Rw2 → Nat
 | []=>0
 | x :: l=>x.nodes + Rw2.nodess l
end
mutual
def Rw2.sz:Rw2 → Nat → Int
 | ⟨_,_,l⟩,d=>if 8 < d then 1000 else Rw2.szs l d 0
def Rw2.szs:List Rw2 → Nat → Int → Int
 | [],_,n=>n
 | x :: l,d,n=>if n ≤ 20 then Rw2.szs l d (n + 1 + x.sz (d + 1)) else n
end
def sz2 (l:List Rw2) (d:Nat):Int:=if 8 < d then 1000 else Rw2.szs l d 0
theorem Rw2.sz_eq (x:Rw2) (d:Nat):x.sz d = sz2 x.l d:=by cases x; rfl
mutual
theorem Rw2.sz_le:∀ (x:Rw2) (d:Nat),0 ≤ x.sz d ∧ x.sz d ≤ 1000 + 21 * (9 - d:Nat) ∧ (x.sz d ≤ 20 → (x.nodes:Int) ≤ 1 + x.sz d)
 | ⟨k,n,l⟩,d=>by
  unfold Rw2.sz Rw2.nodes
  by_cases h:8 < d
  ·simp [h]; omega
  ·rw [if_neg h]
   have:=Rw2.szs_le l d 0 (by omega) (by omega) (by omega)
   omega
theorem Rw2.szs_le:∀ (l:List Rw2) (d:Nat) (n:Int),d ≤ 8 → 0 ≤ n → n ≤ 1000 + 21 * (9 - d:Nat) → n ≤ Rw2.szs l d n ∧ Rw2.szs l d n ≤ 1000 + 21 * (9 - d:Nat) ∧ (Rw2.szs l d n ≤ 20 → (Rw2.nodess l:Int) + n ≤ Rw2.szs l d n)
 | [],d,n,_,_,_=>by simp [Rw2.szs,Rw2.nodess]; omega
 | x :: l,d,n,hd,hn,hu=>by
  unfold Rw2.szs Rw2.nodess
  have hx:=Rw2.sz_le x (d + 1)
  by_cases h:n ≤ 20
  ·rw [if_pos h]
   have:=Rw2.szs_le l d (n + 1 + x.sz (d + 1)) hd (by omega) (by omega)
   omega
  ·rw [if_neg h]
   omega
end
theorem sz2_le (l:List Rw2) (d:Nat):0 ≤ sz2 l d ∧ sz2 l d ≤ 1189 ∧ (sz2 l d ≤ 20 → (Rw2.nodess l:Int) ≤ sz2 l d):=by
 unfold sz2
 by_cases h:8 < d
 ·simp [h]
 ·rw [if_neg h]
  have:=Rw2.szs_le l d 0 (by omega) (by omega) (by omega)
  omega
theorem Rw2.szs_drop (l:List Rw2) (i:Nat) (d:Nat) (n:Int) (h:i < l.length) (hn:n ≤ 20):Rw2.szs (l.drop i) d n = Rw2.szs (l.drop (i + 1)) d (n + 1 + sz2 l[i].l (d + 1)):=by
 rw [List.drop_eq_getElem_cons h,Rw2.szs,if_pos hn,Rw2.sz_eq]
theorem Rw2.szs_stop (l:List Rw2) (d:Nat) (n:Int) (hn:¬ n ≤ 20):Rw2.szs l d n = n:=by
 cases l <;> simp [Rw2.szs,hn]
theorem Rw2.nodes_eq (x:Rw2):x.nodes = 1 + Rw2.nodess x.l:=by cases x; rfl
mutual
def Rw3.bulk:Rw3 → Nat
 | ⟨_,_,_,e,l⟩=>1 + Rw2.nodess e + Rw3.bulks l
def Rw3.bulks:List Rw3 → Nat
 | []=>0
 | x :: l=>x.bulk + Rw3.bulks l
end
mutual
def Rw3.sz:Rw3 → Nat → Int
 | ⟨_,_,_,e,l⟩,d=>if 8 < d ∨ ¬ sz2 e 0 ≤ 20 then 1000 else Rw3.szs l d 1
def Rw3.szs:List Rw3 → Nat → Int → Int
 | [],_,n=>n
 | x :: l,d,n=>if n ≤ 40 then Rw3.szs l d (n + x.sz (d + 1)) else n
end
mutual
theorem Rw3.sz_le:∀ (x:Rw3) (d:Nat),1 ≤ x.sz d ∧ x.sz d ≤ 1000 + 40 * (9 - d:Nat) ∧ (x.sz d ≤ 40 → (x.bulk:Int) ≤ 21 * x.sz d)
 | ⟨k,a,b,e,l⟩,d=>by
  unfold Rw3.sz Rw3.bulk
  have he:=sz2_le e 0
  by_cases h:8 < d ∨ ¬ sz2 e 0 ≤ 20
  ·simp [h]; omega
  ·rw [if_neg h]
   have:=Rw3.szs_le l d 1 (by omega) (by omega) (by omega)
   omega
theorem Rw3.szs_le:∀ (l:List Rw3) (d:Nat) (n:Int),d ≤ 8 → 1 ≤ n → n ≤ 1000 + 40 * (9 - d:Nat) → n ≤ Rw3.szs l d n ∧ Rw3.szs l d n ≤ 1000 + 40 * (9 - d:Nat) ∧ (Rw3.szs l d n ≤ 40 → (Rw3.bulks l:Int) + 21 * n ≤ 21 * Rw3.szs l d n)
 | [],d,n,_,_,_=>by simp [Rw3.szs,Rw3.bulks]; omega
 | x :: l,d,n,hd,hn,hu=>by
  unfold Rw3.szs Rw3.bulks
  have hx:=Rw3.sz_le x (d + 1)
  by_cases h:n ≤ 40
  ·rw [if_pos h]
   have:=Rw3.szs_le l d (n + x.sz (d + 1)) hd (by omega) (by omega)
   omega
  ·rw [if_neg h]
   omega
end
theorem Rw3.szs_drop (l:List Rw3) (i:Nat) (d:Nat) (n:Int) (h:i < l.length) (hn:n ≤ 40):Rw3.szs (l.drop i) d n = Rw3.szs (l.drop (i + 1)) d (n + l[i].sz (d + 1)):=by
 rw [List.drop_eq_getElem_cons h,Rw3.szs,if_pos hn]
theorem Rw3.szs_stop (l:List Rw3) (d:Nat) (n:Int) (hn:¬ n ≤ 40):Rw3.szs l d n = n:=by
 cases l <;> simp [Rw3.szs,hn]
theorem Rw3.sz_eq (x:Rw3) (d:Nat):x.sz d = if 8 < d ∨ ¬ sz2 x.e 0 ≤ 20 then 1000 else Rw3.szs x.l d 1:=by cases x; rfl
def few3 (l:List Rw3):Bool:=decide (l.length ≤ 5) && decide ((l.map fun x=>x.sz 0).sum ≤ 40)
def nthB (l:List ByteArray) (i:Int):ByteArray:=l.getD i.toNat ⟨#[]⟩
def leafE (n i:Int):Ex:=⟨1,within (IntKind.wrap .i64 (n + i)) 5,⟨#[]⟩,[]⟩
def numsE:List Int:=[0,1,2,7,99,999999999999999999,5,3]
mutual
def Rw2.ex (ns:List ByteArray):Rw2 → Ex
 | ⟨k,n,l⟩=>
  if within k 24 < 4 then ⟨1,numsE.getD (within n 8).toNat 0,⟨#[]⟩,[]⟩
  else if within k 24 < 9 then (if 0 < ns.length then ⟨2,0,nthB ns (within n ns.length),[]⟩ else ⟨2,within n 3,⟨#[]⟩,[]⟩)
  else if within k 24 = 9 then ⟨3,0,⟨#[]⟩,[((Rw2.exs ns l)[0]?).getD (leafE n 0)]⟩
  else if within k 24 = 10 then ⟨4,0,⟨#[]⟩,[((Rw2.exs ns l)[0]?).getD (leafE n 0)]⟩
  else ⟨within k 24 - 6,0,⟨#[]⟩,[((Rw2.exs ns l)[0]?).getD (leafE n 0),((Rw2.exs ns l)[1]?).getD (leafE n 1)]⟩
def Rw2.exs (ns:List ByteArray):List Rw2 → List Ex
 | []=>[]
 | x :: l=>x.ex ns :: Rw2.exs ns l
end
theorem Rw2.exs_map (ns:List ByteArray):∀ l,Rw2.exs ns l = l.map (Rw2.ex ns)
 | []=>rfl
 | x :: l=>by simp [Rw2.exs,Rw2.exs_map ns l]
def Rw2.part (ns:List ByteArray) (x:Rw2) (i:Nat):Ex:=((x.l[i]?).map (Rw2.ex ns)).getD (leafE x.n i)
theorem Rw2.ex_eq (ns:List ByteArray) (x:Rw2):x.ex ns =
  if within x.k 24 < 4 then ⟨1,numsE.getD (within x.n 8).toNat 0,⟨#[]⟩,[]⟩
  else if within x.k 24 < 9 then (if 0 < ns.length then ⟨2,0,nthB ns (within x.n ns.length),[]⟩ else ⟨2,within x.n 3,⟨#[]⟩,[]⟩)
  else if within x.k 24 = 9 then ⟨3,0,⟨#[]⟩,[x.part ns 0]⟩
  else if within x.k 24 = 10 then ⟨4,0,⟨#[]⟩,[x.part ns 0]⟩
  else ⟨within x.k 24 - 6,0,⟨#[]⟩,[x.part ns 0,x.part ns 1]⟩:=by
 cases x
 simp only [Rw2.ex,Rw2.exs_map,Rw2.part,List.getElem?_map]
 rfl
def oneE (ns:List ByteArray) (l:List Rw2):Ex:=match l with
 | []=>⟨1,1,⟨#[]⟩,[]⟩
 | x :: _=>x.ex ns
theorem encE_mk (k n:Int) (s:ByteArray) (l:List Ex):encE ⟨k,n,s,l⟩ = [.int .i64 k,.int .i64 n,.str s,.sl (l.map encE)]:=encE_eq _
theorem encT_mk (k a b:Int) (s:ByteArray) (e:Ex) (l:List Tm):encT ⟨k,a,b,s,e,l⟩ = .int .i64 k :: .int .i64 a :: .int .i64 b :: .str s :: (encE e ++ [.sl (l.map encT)]):=by simp [encT,encTs_map]
structure Pr where
 mk ::
 kind:Int
 name:ByteArray
 to:ByteArray
 e:Ex
 l:List Pr
mutual
def encPr:Pr → List AV
 | ⟨k,s,t,e,l⟩=>.int .i64 k :: .str s :: .str t :: (encE e ++ [.sl (encPrs l)])
def encPrs:List Pr → List (List AV)
 | []=>[]
 | x :: l=>encPr x :: encPrs l
end
theorem encPrs_map:∀ l,encPrs l = l.map encPr
 | []=>rfl
 | x :: l=>by simp [encPrs,encPrs_map l]
theorem encPr_eq (x:Pr):encPr x = [.int .i64 x.kind,.str x.name,.str x.to,.int .i64 x.e.kind,.int .i64 x.e.n,.str x.e.name,.sl (x.e.l.map encE),.sl (x.l.map encPr)]:=by
 cases x; simp [encPr,encPrs_map,encE_eq]
theorem encPr_mk (k:Int) (s t:ByteArray) (e:Ex) (l:List Pr):encPr ⟨k,s,t,e,l⟩ = .int .i64 k :: .str s :: .str t :: (encE e ++ [.sl (l.map encPr)]):=by simp [encPr,encPrs_map]
mutual
theorem encPr_closed:∀ x:Pr,closedL (encPr x) = true
 | ⟨k,s,t,e,l⟩=>by simp [encPr,closedL,closed,closedL_append,encE_closed e,encPrs_closed l]
theorem encPrs_closed:∀ l:List Pr,closedLL (encPrs l) = true
 | []=>rfl
 | x :: l=>by simp [encPrs,closedLL,encPr_closed x,encPrs_closed l]
end
attribute [simp] encPr_closed
@[simp] theorem encPr_len (x:Pr):(encPr x).length = 8:=by rw [encPr_eq]; rfl
@[simp] theorem encPr_ok (t:Pr):(encPr t).all AV.cell = true:=by rw [encPr_eq]; rfl
@[simp] theorem encPr_cell (t:Pr):∀ c ∈ encPr t,c.cell = true:=fun c h=>List.all_eq_true.1 (encPr_ok t) c h
@[simp] theorem rd_Pr0 (t:Pr):readA (encPr t) 0 1 false = some (.int .i64 t.kind):=by rw [encPr_eq]; rfl
@[simp] theorem rd_Pr1 (t:Pr):readA (encPr t) 1 1 false = some (.str t.name):=by rw [encPr_eq]; rfl
@[simp] theorem rd_Pr2 (t:Pr):readA (encPr t) 2 1 false = some (.str t.to):=by rw [encPr_eq]; rfl
@[simp] theorem rd_Pr3 (t:Pr):readA (encPr t) 3 4 true = some (.agg (encE t.e)):=by simp [readA]; rw [encPr_eq,encE_eq]; rfl
@[simp] theorem rd_Pr7 (t:Pr):readA (encPr t) 7 1 false = some (.sl (t.l.map encPr)):=by rw [encPr_eq]; rfl
@[simp] theorem rd_Prall (t:Pr):readA (encPr t) 0 8 true = some (.agg (encPr t)):=by simp [readA]; rw [encPr_eq]; rfl
@[simp] theorem pur0_Pr (H:Heap) (t:Pr):(encPr t).map (pur0 H) = encPr t:=by rw [encPr_eq]; rfl
@[simp] theorem frz0_Pr (H:Heap) (t:Pr):(encPr t).foldl frz0 H = H:=by rw [encPr_eq]; rfl
theorem Pr.lt_of_mem {t x:Pr} (h:x ∈ t.l):SizeOf.sizeOf x < SizeOf.sizeOf t:=by
 have:=List.sizeOf_lt_of_mem h
 cases t
 simp at *
 omega
mutual
def Pr.wt:Pr → Nat
 | ⟨_,_,_,e,l⟩=>1 + e.wt + Pr.wts l
def Pr.wts:List Pr → Nat
 | []=>0
 | x :: l=>x.wt + Pr.wts l
end
theorem Pr.wt_eq (x:Pr):x.wt = 1 + x.e.wt + Pr.wts x.l:=by cases x; rfl
theorem Pr.wts_mem:∀ {l:List Pr} {x:Pr},x ∈ l → x.wt ≤ Pr.wts l
 | y :: l,x,h=>by
  simp only [Pr.wts]
  rcases List.mem_cons.1 h with rfl | h
  ·omega
  ·have:=Pr.wts_mem h; omega
theorem Pr.wts_len:∀ l:List Pr,l.length ≤ Pr.wts l
 | []=>Nat.le_refl _
 | x :: l=>by have:=Pr.wts_len l; have:=x.wt_eq; simp only [Pr.wts,List.length_cons]; omega
@[simp] theorem all_encPr (l:List Pr):((l.map encPr).all fun r=>r.length == 8 && okCells r) = true:=by
 simp only [List.all_map]
 exact List.all_eq_true.2 fun x _=>by simp [okCells]
def vsL:List ByteArray:=[⟨#[120]⟩,⟨#[121]⟩,⟨#[116,111,116,97,108]⟩]
def ssL:List ByteArray:=[⟨#[115]⟩,⟨#[117,110,100,111]⟩]
def dsL:List ByteArray:=[⟨#[109,97,105,110]⟩,⟨#[112]⟩,⟨#[113]⟩,⟨#[114,101,116,114,121]⟩,⟨#[108,97,115,116]⟩]
def psL:List ByteArray:=[⟨#[112,97,121]⟩,⟨#[115,104,105,112]⟩,⟨#[97,115,107]⟩]
def encB (l:List ByteArray):List (List AV):=l.map fun x=>[.str x]
@[simp] theorem encB_closed:∀ l,closedLL (encB l) = true
 | []=>rfl
 | x :: l=>by
  have:=encB_closed l
  simp only [encB,List.map_cons,closedLL,closedL,closed,Bool.and_self,Bool.true_and] at *
  exact this
@[simp] theorem encB_len (l:List ByteArray):(encB l).length = l.length:=by simp [encB]
@[simp] theorem encB_cell (l:List ByteArray):∀ x ∈ encB l,x.length = 1 ∧ ∀ c ∈ x,c.cell = true:=by
 intro x hx
 simp only [encB,List.mem_map] at hx
 obtain ⟨n,-,rfl⟩:=hx
 simp
@[simp] theorem encB_flat (l:List ByteArray):((encB l).all fun r=>r.all flat0) = true:=by simp [encB,flat0]
@[simp] theorem encB_nil:encB [] = []:=rfl
@[simp] theorem encB_getElem (l:List ByteArray) (i:Nat) (h:i < (encB l).length):(encB l)[i] = [.str (l[i]'(by simpa using h))]:=by simp [encB]
@[simp] theorem encI_getElem (l:List Int) (i:Nat) (h:i < (encI l).length):(encI l)[i] = [.int .i64 (l[i]'(by simpa using h))]:=by simp [encI]
theorem encB_get (l:List ByteArray) (i:Nat) (h:i < l.length):(encB l)[i]? = some [.str (l.getD i ⟨#[]⟩)]:=by
 simp [encB,List.getElem?_map,List.getElem?_eq_getElem h,List.getD_eq_getElem?_getD]
theorem ixB_row1 (l:List ByteArray) (i:Int) (h0:0 ≤ i) (h:i < l.length):ixRows (encB l) i 1 = some (.elt [.str (nthB l i)] 0):=by
 obtain ⟨j,rfl⟩:∃ j:Nat,i = j:=⟨i.toNat,by omega⟩
 rw [ixRows_nat,encB_get l j (by omega)]
 simp [nthB]
def Pr.of (k:Int) (s t:ByteArray) (l:List Pr):Pr:=⟨k,s,t,.zero,l⟩
def Pr.skip:Pr:=.of 0 ⟨#[]⟩ ⟨#[]⟩ []
def prOf (k a b:Int) (e:List Rw2) (p q:Pr):Pr:=
 if within k 20 < 2 then .of 1 (nthB psL (within b 3)) ⟨#[]⟩ []
 else if within k 20 < 4 then .of 1 (nthB psL (within b 3)) (nthB vsL (within a 3)) []
 else if within k 20 = 4 then ⟨2,⟨#[]⟩,nthB vsL (within a 3),oneE vsL e,[]⟩
 else if within k 20 < 7 then .of 3 (nthB ssL (within a 2)) ⟨#[]⟩ [p]
 else if within k 20 = 7 then .of 4 (nthB ssL (within a 2)) ⟨#[]⟩ []
 else if within k 20 = 8 then .of 5 (nthB ssL (within a 2)) ⟨#[]⟩ []
 else if within k 20 = 9 then .of 6 (nthB ssL (within a 2)) (nthB ssL (within b 2)) []
 else if within k 20 = 10 then .of 7 ⟨#[]⟩ ⟨#[]⟩ [p]
 else if within k 20 = 11 then .of 8 ⟨#[]⟩ ⟨#[]⟩ []
 else if within k 20 = 12 then ⟨9,⟨#[]⟩,⟨#[]⟩,oneE vsL e,[p,q]⟩
 else if within k 20 = 13 then .of 10 ⟨#[]⟩ ⟨#[]⟩ [p,q]
 else if within k 20 < 16 then .of 11 ⟨#[]⟩ ⟨#[]⟩ [p,q]
 else if within k 20 = 16 then .of 13 (nthB dsL (within a 5)) ⟨#[]⟩ []
 else if within k 20 = 17 then .skip
 else .of 12 ⟨#[]⟩ ⟨#[]⟩ [p,q]
mutual
def Rw3.pr:Rw3 → Nat → Pr
 | ⟨k,a,b,e,l⟩,d=>prOf k a b e (if d < 6 then ((Rw3.prs l (d + 1))[0]?).getD .skip else .skip) (if d < 6 then ((Rw3.prs l (d + 1))[1]?).getD .skip else .skip)
def Rw3.prs:List Rw3 → Nat → List Pr
 | [],_=>[]
 | x :: l,d=>x.pr d :: Rw3.prs l d
end
theorem Rw3.prs_map (d:Nat):∀ l,Rw3.prs l d = l.map fun x=>x.pr d
 | []=>rfl
 | x :: l=>by simp [Rw3.prs,Rw3.prs_map d l]
def Rw3.part (x:Rw3) (i d:Nat):Pr:=if d < 6 then ((x.l[i]?).map fun y=>y.pr (d + 1)).getD .skip else .skip
theorem Rw3.pr_eq (x:Rw3) (d:Nat):x.pr d = prOf x.k x.a x.b x.e (x.part 0 d) (x.part 1 d):=by
 cases x
 simp only [Rw3.pr,Rw3.prs_map,Rw3.part,List.getElem?_map]
section
variable (c0 c1 c2 c3 c4 c5 c6 c7 : AV) (l : List AV)
@[simp] theorem setE_0 (x:Ex):setL (c0 :: c1 :: c2 :: c3 :: l) 0 (encE x) = encE x ++ l:=by rw [setL_eq _ _ _ (by simp),encE_eq]; rfl
@[simp] theorem setE_4 (x:Ex) (b:AV):setL (encE x ++ c0 :: l) 4 [b] = encE x ++ b :: l:=by rw [encE_eq]; rfl
@[simp] theorem setPr_0 (x:Pr):setL (c0 :: c1 :: c2 :: c3 :: c4 :: c5 :: c6 :: c7 :: l) 0 (encPr x) = encPr x ++ l:=by rw [setL_eq _ _ _ (by simp),encPr_eq]; rfl
end
theorem Rw2.nodess_get (l:List Rw2) (i:Nat):(∃ x,l[i]? = some x ∧ x ∈ l) ∨ l[i]? = none:=by
 cases h:l[i]? with
 | none=>exact .inr rfl
 | some x=>exact .inl ⟨x,rfl,List.mem_of_getElem? h⟩
theorem leafE_wt (n i:Int):(leafE n i).wt = 1:=by simp [leafE,Ex.wt,Ex.wts]
theorem two_mem {α:Type} (f:α → Nat) (F:List α → Nat) (h0:F [] = 0) (hc:∀ x l,F (x :: l) = f x + F l) (l:List α) (c:Nat) (g:α → Nat) (hg:∀ x ∈ l,g x ≤ 2 * f x + 1):((l[0]?).map g).getD 1 + ((l[1]?).map g).getD 1 ≤ 2 * F l + 2:=by
 rcases l with _ | ⟨x,_ | ⟨y,l⟩⟩
 ·simp
 ·have:=hg x (by simp)
  simp [hc,h0]; omega
 ·have:=hg x (by simp)
  have:=hg y (by simp)
  simp [hc]; omega
theorem Rw2.ex_wt (ns:List ByteArray) (x:Rw2):(x.ex ns).wt ≤ 2 * x.nodes + 1:=by
 have ih:∀ y ∈ x.l,(y.ex ns).wt ≤ 2 * y.nodes + 1:=fun y hy=>Rw2.ex_wt ns y
 have hp:∀ i,(x.part ns i).wt = ((x.l[i]?).map fun y=>(y.ex ns).wt).getD 1:=fun i=>by
  unfold Rw2.part
  cases x.l[i]? <;> simp [leafE_wt]
 have h2:=two_mem Rw2.nodes Rw2.nodess rfl (fun _ _=>rfl) x.l 0 (fun y=>(y.ex ns).wt) ih
 rw [← hp 0,← hp 1] at h2
 have h1:=Ex.wt_pos (x.part ns 0)
 have h1':=Ex.wt_pos (x.part ns 1)
 rw [x.ex_eq,x.nodes_eq]
 split
 ·simp [Ex.wt,Ex.wts] <;> omega
 ·split
  ·split
   ·simp [Ex.wt,Ex.wts] <;> omega
   ·simp [Ex.wt,Ex.wts] <;> omega
  ·split
   ·simp only [Ex.wt,Ex.wts]; omega
   ·split
    ·simp only [Ex.wt,Ex.wts]; omega
    ·simp only [Ex.wt,Ex.wts]; omega
termination_by SizeOf.sizeOf x
decreasing_by exact Rw2.lt_of_mem hy
theorem oneE_wt (ns:List ByteArray) (l:List Rw2):(oneE ns l).wt ≤ 2 * Rw2.nodess l + 1:=by
 cases l with
 | nil=>simp [oneE,Ex.wt,Ex.wts]
 | cons x l=>have:=x.ex_wt ns; simp only [oneE,Rw2.nodess]; omega
theorem Rw3.bulk_eq (x:Rw3):x.bulk = 1 + Rw2.nodess x.e + Rw3.bulks x.l:=by cases x; rfl
theorem Ex.zero_wt:Ex.zero.wt = 1:=by simp [Ex.zero,Ex.wt,Ex.wts]
theorem Pr.of_wt (k:Int) (s t:ByteArray) (l:List Pr):(Pr.of k s t l).wt = 2 + Pr.wts l:=by simp [Pr.of,Pr.wt,Ex.zero_wt]
theorem Pr.ite_wt {c:Prop} [Decidable c] {x y:Pr} {n:Nat} (h1:x.wt ≤ n) (h2:y.wt ≤ n):(if c then x else y).wt ≤ n:=by split <;> assumption
theorem prOf_wt (k a b:Int) (e:List Rw2) (p q:Pr):(prOf k a b e p q).wt ≤ 2 + 2 * Rw2.nodess e + p.wt + q.wt:=by
 have h:=oneE_wt vsL e
 unfold prOf
 repeat' apply Pr.ite_wt
 all_goals first
  | (simp only [Pr.of_wt,Pr.wts,Pr.skip]; omega)
  | (simp only [Pr.wt,Pr.wts]; omega)
theorem Rw3.pr_wt (x:Rw3) (d:Nat):(x.pr d).wt ≤ 6 * x.bulk:=by
 have ih:∀ y ∈ x.l,∀ d,(y.pr d).wt ≤ 6 * y.bulk:=fun y hy d=>Rw3.pr_wt y d
 have h2:(x.part 0 d).wt + (x.part 1 d).wt ≤ 4 + 6 * Rw3.bulks x.l:=by
  unfold Rw3.part
  have hs:Pr.skip.wt = 2:=by simp [Pr.skip,Pr.of_wt,Pr.wts]
  split
  ·rcases hl:x.l with _ | ⟨y,_ | ⟨z,r⟩⟩
   ·simp [hs]
   ·have:=ih y (by simp [hl]) (d + 1)
    simp only [List.length_cons,List.getElem?_cons_zero,Option.map_some,Option.getD_some,List.getElem?_cons_succ,List.getElem?_nil,Option.map_none,Option.getD_none,hs,Rw3.bulks]
    omega
   ·have:=ih y (by simp [hl]) (d + 1)
    have:=ih z (by simp [hl]) (d + 1)
    simp only [List.getElem?_cons_zero,Option.map_some,Option.getD_some,List.getElem?_cons_succ,Rw3.bulks]
    omega
  ·rw [hs]; omega
 have:=prOf_wt x.k x.a x.b x.e (x.part 0 d) (x.part 1 d)
 rw [x.pr_eq,x.bulk_eq]
 omega
termination_by SizeOf.sizeOf x
decreasing_by exact Rw3.lt_of_mem hy
end Go.Am
namespace Go.Am
open Go.RowKit
structure Dfn where
 mk ::
 name:ByteArray
 body:Pr
def encDf (d:Dfn):List AV:=.str d.name :: encPr d.body
def encVr (v:ByteArray × Int):List AV:=[.str v.1,.int .i64 v.2]
structure Prog where
 mk ::
 vars:List (ByteArray × Int)
 stacks:List ByteArray
 procs:List Dfn
def encProg (p:Prog):List AV:=[.sl (p.vars.map encVr),.sl (encB p.stacks),.sl (p.procs.map encDf)]
def encBo (l:List Bool):List (List AV):=l.map fun b=>[.bool b]
@[simp] theorem encDf_len (d:Dfn):(encDf d).length = 9:=by simp [encDf]
@[simp] theorem encVr_len (v:ByteArray × Int):(encVr v).length = 2:=rfl
@[simp] theorem encDf_closed (d:Dfn):closedL (encDf d) = true:=by simp [encDf]
@[simp] theorem encVr_closed (v:ByteArray × Int):closedL (encVr v) = true:=by simp [encVr]
@[simp] theorem encDf_ok (d:Dfn):(encDf d).all AV.cell = true:=by simp [encDf]
@[simp] theorem encVr_ok (d:ByteArray × Int):(encVr d).all AV.cell = true:=rfl
@[simp] theorem encDf_cell (t:Dfn):∀ c ∈ encDf t,c.cell = true:=fun c h=>List.all_eq_true.1 (encDf_ok t) c h
@[simp] theorem encVr_cell (t:ByteArray × Int):∀ c ∈ encVr t,c.cell = true:=fun c h=>List.all_eq_true.1 (encVr_ok t) c h
theorem encDf_eq (d:Dfn):encDf d = [.str d.name,.int .i64 d.body.kind,.str d.body.name,.str d.body.to,.int .i64 d.body.e.kind,.int .i64 d.body.e.n,.str d.body.e.name,.sl (d.body.e.l.map encE),.sl (d.body.l.map encPr)]:=by rw [encDf,encPr_eq]
@[simp] theorem rd_Df0 (d:Dfn):readA (encDf d) 0 1 false = some (.str d.name):=rfl
@[simp] theorem rd_Df1 (d:Dfn):readA (encDf d) 1 8 true = some (.agg (encPr d.body)):=by simp [readA]; rw [encDf_eq,encPr_eq]; rfl
@[simp] theorem rd_Dfall (d:Dfn):readA (encDf d) 0 9 true = some (.agg (encDf d)):=by simp [readA]; rw [encDf_eq]; rfl
@[simp] theorem rd_Vr0 (v:ByteArray × Int):readA (encVr v) 0 1 false = some (.str v.1):=rfl
@[simp] theorem rd_Vr1 (v:ByteArray × Int):readA (encVr v) 1 1 false = some (.int .i64 v.2):=rfl
@[simp] theorem setDf1 (d:Dfn) (p:Pr):setL (encDf d) 1 (encPr p) = encDf ⟨d.name,p⟩:=by rw [setL_eq _ _ _ (by simp),encDf_eq,encDf_eq,encPr_eq]; rfl
@[simp] theorem pur0_Df (H:Heap) (t:Dfn):(encDf t).map (pur0 H) = encDf t:=by simp [encDf]
@[simp] theorem frz0_Df (H:Heap) (t:Dfn):(encDf t).foldl frz0 H = H:=by simp [encDf]
@[simp] theorem encBo_closed:∀ l,closedLL (encBo l) = true
 | []=>rfl
 | x :: l=>by
  have:=encBo_closed l
  simp only [encBo,List.map_cons,closedLL,closedL,closed,Bool.and_self,Bool.true_and] at *
  exact this
@[simp] theorem encBo_len (l:List Bool):(encBo l).length = l.length:=by simp [encBo]
@[simp] theorem encBo_cell (l:List Bool):∀ x ∈ encBo l,x.length = 1 ∧ ∀ c ∈ x,c.cell = true:=by
 intro x hx
 simp only [encBo,List.mem_map] at hx
 obtain ⟨n,-,rfl⟩:=hx
 simp
@[simp] theorem encBo_get (l:List Bool) (i:Nat):(encBo l)[i]? = (l[i]?).map fun b=>[.bool b]:=by simp [encBo]
@[simp] theorem encBo_getElem (l:List Bool) (i:Nat) (h:i < (encBo l).length):(encBo l)[i] = [.bool (l[i]'(by simpa using h))]:=by simp [encBo]
@[simp] theorem encBo_set (l:List Bool) (i:Nat) (b:Bool):(encBo l).set i [.bool b] = encBo (l.set i b):=by simp [encBo,List.map_set]
theorem encBo_rep (n:Nat) (b:Bool):List.replicate n [AV.bool b] = encBo (List.replicate n b):=by simp [encBo]
@[simp] theorem all_encDf (l:List Dfn):((l.map encDf).all fun r=>r.length == 9 && okCells r) = true:=by
 simp only [List.all_map]
 exact List.all_eq_true.2 fun x _=>by simp [okCells]
@[simp] theorem all_encVr (l:List (ByteArray × Int)):((l.map encVr).all fun r=>r.length == 2 && okCells r) = true:=by
 simp only [List.all_map]
 exact List.all_eq_true.2 fun x _=>by simp [okCells]
@[simp] theorem encProg_len (p:Prog):(encProg p).length = 3:=rfl
@[simp] theorem encProg_closed (p:Prog):closedL (encProg p) = true:=by simp [encProg]
@[simp] theorem encProg_ok (p:Prog):(encProg p).all AV.cell = true:=rfl
@[simp] theorem encProg_cell (t:Prog):∀ c ∈ encProg t,c.cell = true:=fun c h=>List.all_eq_true.1 (encProg_ok t) c h
@[simp] theorem rd_Pg0 (p:Prog):readA (encProg p) 0 1 false = some (.sl (p.vars.map encVr)):=rfl
@[simp] theorem rd_Pg1 (p:Prog):readA (encProg p) 1 1 false = some (.sl (encB p.stacks)):=rfl
@[simp] theorem rd_Pg2 (p:Prog):readA (encProg p) 2 1 false = some (.sl (p.procs.map encDf)):=rfl
@[simp] theorem rd_Pgall (p:Prog):readA (encProg p) 0 3 true = some (.agg (encProg p)):=rfl
@[simp] theorem pur0_Pg (H:Heap) (t:Prog):(encProg t).map (pur0 H) = encProg t:=rfl
@[simp] theorem frz0_Pg (H:Heap) (t:Prog):(encProg t).foldl frz0 H = H:=rfl
mutual
def lowE (V:List ByteArray):Ex → Ex
 | ⟨k,n,s,l⟩=>⟨k,if k = 2 then idxB V s else n,⟨#[]⟩,lowEs V l⟩
def lowEs (V:List ByteArray):List Ex → List Ex
 | []=>[]
 | x :: l=>lowE V x :: lowEs V l
end
mutual
def badE (V:List ByteArray):Ex → Bool
 | ⟨k,n,s,l⟩=>(decide (k = 2) && decide (idxB V s < 0)) || badEs V l
def badEs (V:List ByteArray):List Ex → Bool
 | []=>false
 | x :: l=>badE V x || badEs V l
end
theorem lowEs_map (V:List ByteArray):∀ l,lowEs V l = l.map (lowE V)
 | []=>rfl
 | x :: l=>by simp [lowEs,lowEs_map V l]
theorem lowE_eq (V:List ByteArray) (x:Ex):lowE V x = ⟨x.kind,if x.kind = 2 then idxB V x.name else x.n,⟨#[]⟩,x.l.map (lowE V)⟩:=by cases x; simp [lowE,lowEs_map]
theorem badE_eq (V:List ByteArray) (x:Ex):badE V x = ((decide (x.kind = 2) && decide (idxB V x.name < 0)) || badEs V x.l):=by cases x; simp [badE]
def lowP0 (V S D:List ByteArray) (k:Int) (s t:ByteArray) (e:Ex) (l:List Tm):Tm:=
 if k = 1 then ⟨1,if t = ⟨#[]⟩ then -1 else idxB V t,0,s,.zero,l⟩
 else if k = 2 then ⟨2,idxB V t,0,⟨#[]⟩,lowE V e,l⟩
 else if k = 3 ∨ k = 4 ∨ k = 5 then ⟨k,idxB S s,0,⟨#[]⟩,.zero,l⟩
 else if k = 6 then ⟨6,idxB S s,idxB S t,⟨#[]⟩,.zero,l⟩
 else if k = 9 then ⟨9,0,0,⟨#[]⟩,lowE V e,l⟩
 else if k = 13 then ⟨13,idxB D s,0,⟨#[]⟩,.zero,l⟩
 else ⟨k,0,0,⟨#[]⟩,.zero,l⟩
def badP0 (V S D:List ByteArray) (k:Int) (s t:ByteArray) (e:Ex):Bool:=
 if k = 1 then (if t = ⟨#[]⟩ then false else decide (idxB V t < 0))
 else if k = 2 then decide (idxB V t < 0) || badE V e
 else if k = 3 ∨ k = 4 ∨ k = 5 then decide (idxB S s < 0)
 else if k = 6 then decide (idxB S s < 0) || decide (idxB S t < 0)
 else if k = 9 then badE V e
 else if k = 13 then decide (idxB D s < 0)
 else false
mutual
def lowP (V S D:List ByteArray):Pr → Tm
 | ⟨k,s,t,e,l⟩=>lowP0 V S D k s t e (lowPs V S D l)
def lowPs (V S D:List ByteArray):List Pr → List Tm
 | []=>[]
 | x :: l=>lowP V S D x :: lowPs V S D l
end
mutual
def badP (V S D:List ByteArray):Pr → Bool
 | ⟨k,s,t,e,l⟩=>badP0 V S D k s t e || badPs V S D l
def badPs (V S D:List ByteArray):List Pr → Bool
 | []=>false
 | x :: l=>badP V S D x || badPs V S D l
end
theorem lowPs_map (V S D:List ByteArray):∀ l,lowPs V S D l = l.map (lowP V S D)
 | []=>rfl
 | x :: l=>by simp [lowPs,lowPs_map V S D l]
theorem lowP_eq (V S D:List ByteArray) (x:Pr):lowP V S D x = lowP0 V S D x.kind x.name x.to x.e (x.l.map (lowP V S D)):=by cases x; simp [lowP,lowPs_map]
theorem badP_eq (V S D:List ByteArray) (x:Pr):badP V S D x = (badP0 V S D x.kind x.name x.to x.e || badPs V S D x.l):=by cases x; simp [badP]
abbrev BB:=Bool × Bool
def bothK (D:List ByteArray) (E X:List Bool) (k:Int) (s:ByteArray) (a b:BB):BB:=
 if k = 1 then (false,false) else if k = 8 then (false,true) else if k = 4 then (true,true) else if k = 7 then (a.1 || a.2,false)
 else if k = 9 ∨ k = 10 then (a.1 || b.1,a.2 || b.2) else if k = 11 then (a.1 && b.1,a.2 || b.2) else if k = 12 then (a.1 && b.1,a.2 || (a.1 && b.2))
 else if k = 13 then (decide (0 ≤ idxB D s) && E.getD (idxB D s).toNat false,decide (0 ≤ idxB D s) && X.getD (idxB D s).toNat false)
 else (true,false)
mutual
def Pr.both (D:List ByteArray) (E X:List Bool):Pr → BB
 | ⟨k,s,t,e,l⟩=>bothK D E X k s ((Pr.boths D E X l).getD 0 (false,false)) ((Pr.boths D E X l).getD 1 (false,false))
def Pr.boths (D:List ByteArray) (E X:List Bool):List Pr → List BB
 | []=>[]
 | x :: l=>x.both D E X :: Pr.boths D E X l
end
theorem Pr.boths_map (D:List ByteArray) (E X:List Bool):∀ l,Pr.boths D E X l = l.map (Pr.both D E X)
 | []=>rfl
 | x :: l=>by simp [Pr.boths,Pr.boths_map D E X l]
def Pr.bothAt (D:List ByteArray) (E X:List Bool) (p:Pr) (i:Nat):BB:=((p.l[i]?).map (Pr.both D E X)).getD (false,false)
theorem Pr.both_eq (D:List ByteArray) (E X:List Bool) (p:Pr):p.both D E X = bothK D E X p.kind p.name (p.bothAt D E X 0) (p.bothAt D E X 1):=by
 cases p; simp [Pr.both,Pr.boths_map,Pr.bothAt,List.getD_eq_getElem?_getD]
mutual
def Pr.okS:Pr → Bool
 | ⟨k,_,_,_,l⟩=>(!decide (k = 12) || decide (l.length = 2)) && Pr.okSs l
def Pr.okSs:List Pr → Bool
 | []=>true
 | x :: l=>x.okS && Pr.okSs l
end
theorem Pr.okS_two {p:Pr} (h:p.okS = true) (hk:p.kind = 12):p.l.length = 2:=by
 cases p; simp [Pr.okS] at h hk; simpa [hk] using h.1
theorem Pr.okSs_mem:∀ {l:List Pr},Pr.okSs l = true → ∀ x ∈ l,x.okS = true
 | y :: l,h,x,hx=>by
  simp only [Pr.okSs,Bool.and_eq_true] at h
  rcases List.mem_cons.1 hx with rfl | hx
  ·exact h.1
  ·exact Pr.okSs_mem h.2 x hx
theorem Pr.okS_mem {p:Pr} (h:p.okS = true):∀ x ∈ p.l,x.okS = true:=by
 cases p; simp only [Pr.okS,Bool.and_eq_true] at h; exact Pr.okSs_mem h.2
mutual
def Pr.front (D:List ByteArray) (E X:List Bool):Pr → List Bool → List Bool
 | ⟨k,s,t,e,l⟩,is=>if k = 13 then (if 0 ≤ idxB D s then is.set (idxB D s).toNat true else is) else if k = 12 then Pr.frontS D E X l is else Pr.frontL D E X l is
def Pr.frontS (D:List ByteArray) (E X:List Bool):List Pr → List Bool → List Bool
 | x :: y :: _,is=>if (x.both D E X).1 then y.front D E X (x.front D E X is) else x.front D E X is
 | _,is=>is
def Pr.frontL (D:List ByteArray) (E X:List Bool):List Pr → List Bool → List Bool
 | [],is=>is
 | x :: l,is=>Pr.frontL D E X l (x.front D E X is)
end
theorem Pr.front_eq (D:List ByteArray) (E X:List Bool) (p:Pr) (is:List Bool):p.front D E X is = if p.kind = 13 then (if 0 ≤ idxB D p.name then is.set (idxB D p.name).toNat true else is) else if p.kind = 12 then Pr.frontS D E X p.l is else Pr.frontL D E X p.l is:=by cases p; rfl
mutual
theorem Pr.front_len (D:List ByteArray) (E X:List Bool):∀ (p:Pr) (is:List Bool),(p.front D E X is).length = is.length
 | ⟨k,s,t,e,l⟩,is=>by
  unfold Pr.front
  split
  ·split <;> simp
  ·split
   ·exact Pr.frontS_len D E X l is
   ·exact Pr.frontL_len D E X l is
theorem Pr.frontS_len (D:List ByteArray) (E X:List Bool):∀ (l:List Pr) (is:List Bool),(Pr.frontS D E X l is).length = is.length
 | [],is=>rfl
 | [_],is=>rfl
 | x :: y :: l,is=>by
  unfold Pr.frontS
  split
  ·rw [Pr.front_len D E X y,Pr.front_len D E X x]
  ·rw [Pr.front_len D E X x]
theorem Pr.frontL_len (D:List ByteArray) (E X:List Bool):∀ (l:List Pr) (is:List Bool),(Pr.frontL D E X l is).length = is.length
 | [],is=>rfl
 | x :: l,is=>by unfold Pr.frontL; rw [Pr.frontL_len D E X l,Pr.front_len D E X x]
end
theorem Pr.frontL_take (D:List ByteArray) (E X:List Bool) (l:List Pr) (is:List Bool) (i:Nat) (h:i < l.length):Pr.frontL D E X (l.take (i + 1)) is = l[i].front D E X (Pr.frontL D E X (l.take i) is):=by
 induction l generalizing i is with
 | nil=>simp at h
 | cons x l ih=>
  cases i with
  | zero=>simp [Pr.frontL]
  | succ i=>simp only [List.take_succ_cons,Pr.frontL,List.getElem_cons_succ]; exact ih _ i (by simpa using h)
abbrev EXB:=List Bool × List Bool × Bool
def stlI (D:List ByteArray) (b:Pr) (i:Nat) (st:EXB):EXB:=
 if ((b.both D st.1 st.2.1).1 && !st.1.getD i false) || ((b.both D st.1 st.2.1).2 && !st.2.1.getD i false) then (st.1.set i (st.1.getD i false || (b.both D st.1 st.2.1).1),st.2.1.set i (st.2.1.getD i false || (b.both D st.1 st.2.1).2),true) else st
def stlF (D:List ByteArray):List Pr → Nat → EXB → EXB
 | [],_,st=>st
 | b :: l,i,st=>stlF D l (i + 1) (stlI D b i st)
def cf (l:List Bool):Nat:=l.countP fun b=>!b
theorem cf_set (l:List Bool) (i:Nat) (b:Bool) (h:i < l.length):cf (l.set i (l.getD i false || b)) + (if b && !l.getD i false then 1 else 0) = cf l:=by
 unfold cf
 rw [List.countP_set (by exact h)]
 have hg:l.getD i false = l[i]:=by rw [List.getD_eq_getElem?_getD,List.getElem?_eq_getElem h]; rfl
 rw [hg]
 have h1:(if !l[i] then 1 else 0) ≤ l.countP fun b=>!b:=by
  split
  ·rename_i hl
   exact List.countP_pos_iff.2 ⟨l[i],List.getElem_mem h,hl⟩
  ·omega
 generalize l.countP (fun b=>!b) = c at *
 cases hl:l[i] <;> cases b <;> simp [hl] at h1 ⊢
 all_goals omega
theorem stlI_cf (D:List ByteArray) (b:Pr) (i:Nat) (st:EXB) (h1:i < st.1.length) (h2:i < st.2.1.length) :
  (stlI D b i st).1.length = st.1.length ∧ (stlI D b i st).2.1.length = st.2.1.length ∧ cf (stlI D b i st).1 + cf (stlI D b i st).2.1 ≤ cf st.1 + cf st.2.1 ∧
   ((stlI D b i st).2.2 = true → st.2.2 = true ∨ cf (stlI D b i st).1 + cf (stlI D b i st).2.1 < cf st.1 + cf st.2.1):=by
 unfold stlI
 split
 ·rename_i hc
  have e1:=cf_set st.1 i (b.both D st.1 st.2.1).1 h1
  have e2:=cf_set st.2.1 i (b.both D st.1 st.2.1).2 h2
  refine ⟨by simp,by simp,by simp only; omega,fun _=>.inr ?_⟩
  simp only
  simp only [Bool.or_eq_true] at hc
  rcases hc with hc | hc
  ·rw [if_pos hc] at e1; omega
  ·rw [if_pos hc] at e2; omega
 ·exact ⟨rfl,rfl,Nat.le_refl _,fun h=>.inl h⟩
theorem stlF_cf (D:List ByteArray):∀ (l:List Pr) (i:Nat) (st:EXB),i + l.length ≤ st.1.length → i + l.length ≤ st.2.1.length →
  (stlF D l i st).1.length = st.1.length ∧ (stlF D l i st).2.1.length = st.2.1.length ∧ cf (stlF D l i st).1 + cf (stlF D l i st).2.1 ≤ cf st.1 + cf st.2.1 ∧
   ((stlF D l i st).2.2 = true → st.2.2 = true ∨ cf (stlF D l i st).1 + cf (stlF D l i st).2.1 < cf st.1 + cf st.2.1)
 | [],i,st,_,_=>⟨rfl,rfl,Nat.le_refl _,fun h=>.inl h⟩
 | b :: l,i,st,h1,h2=>by
  simp only [List.length_cons] at h1 h2
  have a:=stlI_cf D b i st (by omega) (by omega)
  have c:=stlF_cf D l (i + 1) (stlI D b i st) (by omega) (by omega)
  unfold stlF
  refine ⟨by omega,by omega,by omega,fun h=>?_⟩
  rcases c.2.2.2 h with h | h
  ·rcases a.2.2.2 h with h | h
   ·exact .inl h
   ·exact .inr (by omega)
  ·exact .inr (by omega)
def stl (D:List ByteArray) (l:List Pr) (E X:List Bool):List Bool × List Bool:=
 if h:l.length ≤ E.length ∧ l.length ≤ X.length ∧ (stlF D l 0 (E,X,false)).2.2 = true then stl D l (stlF D l 0 (E,X,false)).1 (stlF D l 0 (E,X,false)).2.1
 else ((stlF D l 0 (E,X,false)).1,(stlF D l 0 (E,X,false)).2.1)
termination_by cf E + cf X
decreasing_by
 have:=(stlF_cf D l 0 (E,X,false) (by simpa using h.1) (by simpa using h.2.1)).2.2.2 h.2.2
 simpa using this
theorem stl_again {D:List ByteArray} {l:List Pr} {E X:List Bool} (h1:l.length ≤ E.length) (h2:l.length ≤ X.length) (h3:(stlF D l 0 (E,X,false)).2.2 = true) :
  stl D l E X = stl D l (stlF D l 0 (E,X,false)).1 (stlF D l 0 (E,X,false)).2.1:=by
 rw [stl]; exact dif_pos ⟨h1,h2,h3⟩
theorem stl_end {D:List ByteArray} {l:List Pr} {E X:List Bool} (h3:(stlF D l 0 (E,X,false)).2.2 = false) :
  stl D l E X = ((stlF D l 0 (E,X,false)).1,(stlF D l 0 (E,X,false)).2.1):=by
 rw [stl]; exact dif_neg fun h=>by rw [h3] at h; exact absurd h.2.2 (by simp)
theorem stl_len (D:List ByteArray) (l:List Pr) (E X:List Bool) (h1:l.length ≤ E.length) (h2:l.length ≤ X.length):(stl D l E X).1.length = E.length ∧ (stl D l E X).2.length = X.length:=by
 have hc:=stlF_cf D l 0 (E,X,false) (by simpa using h1) (by simpa using h2)
 simp only at hc
 cases h3:(stlF D l 0 (E,X,false)).2.2 with
 | true=>
  have hlt:cf (stlF D l 0 (E,X,false)).1 + cf (stlF D l 0 (E,X,false)).2.1 < cf E + cf X:=by
   have:=hc.2.2.2 h3
   simpa using this
  have ih:=stl_len D l (stlF D l 0 (E,X,false)).1 (stlF D l 0 (E,X,false)).2.1 (by omega) (by omega)
  rw [stl_again h1 h2 h3]
  omega
 | false=>
  rw [stl_end h3]
  exact ⟨hc.1,hc.2.1⟩
termination_by cf E + cf X
theorem stlF_take (D:List ByteArray) (l:List Pr) (st:EXB) (i j:Nat) (h:i < l.length):stlF D (l.take (i + 1)) j st = stlI D l[i] (j + i) (stlF D (l.take i) j st):=by
 induction l generalizing i j st with
 | nil=>simp at h
 | cons x l ih=>
  cases i with
  | zero=>simp [stlF]
  | succ i=>
   simp only [List.take_succ_cons,stlF,List.getElem_cons_succ]
   rw [ih _ i (j + 1) (by simpa using h)]
   congr 1
   omega
abbrev Mx:=List (List Bool)
def mget (M:Mx) (i j:Nat):Bool:=(M.getD i []).getD j false
def mset (M:Mx) (i j:Nat) (b:Bool):Mx:=M.set i ((M.getD i []).set j b)
def rdJ (k i:Nat):Nat → Mx → Mx
 | 0,M=>M
 | j + 1,M=>mset (rdJ k i j M) i j (mget (rdJ k i j M) i j || (mget (rdJ k i j M) i k && mget (rdJ k i j M) k j))
def rdI (n k:Nat):Nat → Mx → Mx
 | 0,M=>M
 | i + 1,M=>rdJ k i n (rdI n k i M)
def rdK (n:Nat):Nat → Mx → Mx
 | 0,M=>M
 | k + 1,M=>rdI n k n (rdK n k M)
def diagF (M:Mx):Nat → Bool
 | 0=>false
 | i + 1=>diagF M i || mget M i i
def Prog.D (p:Prog):List ByteArray:=p.procs.map (·.name)
def Prog.V (p:Prog):List ByteArray:=p.vars.map (·.1)
def Prog.stl (p:Prog):List Bool × List Bool:=Am.stl p.D (p.procs.map (·.body)) (List.replicate p.procs.length false) (List.replicate p.procs.length false)
def Prog.fronts (p:Prog):Mx:=p.procs.map fun d=>d.body.front p.D p.stl.1 p.stl.2 (List.replicate p.procs.length false)
def Prog.round (p:Prog):Bool:=diagF (rdK p.procs.length p.procs.length p.fronts) p.procs.length
def twB (l:List ByteArray):Bool:=(List.range l.length).any fun i=>!decide (idxB l (l.getD i ⟨#[]⟩) = i)
structure Cor where
 mk ::
 vars:List Int
 stacks:Int
 procs:List Tm
 main:Int
def Cor.zero:Cor:=⟨[],0,[],0⟩
def encC (c:Cor):List AV:=[.sl (encI c.vars),.int .i64 c.stacks,.sl (c.procs.map encT),.int .i64 c.main]
@[simp] theorem encC_len (c:Cor):(encC c).length = 4:=rfl
@[simp] theorem encC_closed (c:Cor):closedL (encC c) = true:=by simp [encC]
@[simp] theorem encC_ok (c:Cor):(encC c).all AV.cell = true:=rfl
@[simp] theorem encC_cell (t:Cor):∀ c ∈ encC t,c.cell = true:=fun c h=>List.all_eq_true.1 (encC_ok t) c h
def Prog.core (p:Prog):Cor:=⟨p.vars.map (·.2),p.stacks.length,p.procs.map fun d=>lowP p.V p.stacks p.D d.body,idxB p.D ⟨#[109,97,105,110]⟩⟩
def Prog.low (p:Prog):Cor × Int:=
 if 20 < p.vars.length ∨ 10 < p.stacks.length ∨ 20 < p.procs.length then (.zero,3)
 else if twB p.V || (twB p.stacks || twB p.D) then (.zero,5)
 else if badPs p.V p.stacks p.D (p.procs.map (·.body)) then (.zero,4)
 else if idxB p.D ⟨#[109,97,105,110]⟩ < 0 then (.zero,6)
 else if p.round then (.zero,7)
 else (p.core,0)
end Go.Am
namespace Go.Am
open Go.RowKit
@[simp] theorem occ_tup (cs:List AV):occ (.tup cs) = occL cs:=by simp [occ]
inductive Ex.lok:Ex → Prop
 | mk (x:Ex) (h:x.l.length ≤ 137438953472) (hl:∀ y ∈ x.l,Ex.lok y):Ex.lok x
theorem Ex.lok_len {x:Ex} (h:Ex.lok x):x.l.length ≤ 137438953472:=by cases h; assumption
theorem Ex.lok_mem {x y:Ex} (h:Ex.lok x) (hy:y ∈ x.l):Ex.lok y:=by cases h with | mk _ h hl=>exact hl y hy
theorem Ex.lok_of_wt (x:Ex) (h:x.wt ≤ 137438953472):Ex.lok x:=by
 have hw:=x.wt_eq
 have hl:=Ex.wts_len x.l
 exact .mk x (by omega) fun y hy=>Ex.lok_of_wt y (by have:=Ex.wts_mem hy; omega)
termination_by SizeOf.sizeOf x
decreasing_by exact Ex.lt_of_mem hy
inductive Tm.lok:Tm → Prop
 | mk (x:Tm) (h:x.l.length ≤ 137438953472) (he:x.e.lok) (hl:∀ y ∈ x.l,Tm.lok y):Tm.lok x
theorem Tm.lok_len {x:Tm} (h:Tm.lok x):x.l.length ≤ 137438953472:=by cases h; assumption
theorem Tm.lok_e {x:Tm} (h:Tm.lok x):Ex.lok x.e:=by cases h; assumption
theorem Tm.lok_mem {x y:Tm} (h:Tm.lok x) (hy:y ∈ x.l):Tm.lok y:=by cases h with | mk _ h he hl=>exact hl y hy
theorem Tm.lok_of_wt (x:Tm) (h:x.wt ≤ 137438953472):Tm.lok x:=by
 have hw:=x.wt_eq
 have hl:=Tm.wts_len x.l
 exact .mk x (by omega) (Ex.lok_of_wt x.e (by omega)) fun y hy=>Tm.lok_of_wt y (by have:=Tm.wts_mem hy; omega)
termination_by SizeOf.sizeOf x
decreasing_by exact Tm.lt_of_mem hy
mutual
def Ex.pre:Ex → List Ex
 | ⟨k,n,s,l⟩=>⟨k,n,s,l⟩ :: Ex.pres l
def Ex.pres:List Ex → List Ex
 | []=>[]
 | x :: l=>Ex.pre x ++ Ex.pres l
end
theorem Ex.pre_eq (x:Ex):Ex.pre x = x :: Ex.pres x.l:=by cases x; rfl
theorem Ex.pres_drop (l:List Ex) (i:Nat) (h:i < l.length):Ex.pres (l.drop i) = Ex.pre l[i] ++ Ex.pres (l.drop (i + 1)):=by
 rw [List.drop_eq_getElem_cons h]; rfl
def exOk (v:Int) (x:Ex):Bool:=decide (1 ≤ x.kind) && (decide (x.kind ≤ 17) && (decide (x.name = ⟨#[]⟩) && (decide ((x.l.length:Int) = kids x.kind) &&
 (if x.kind = 1 then decide (0 ≤ x.n) else if x.kind = 2 then decide (0 ≤ x.n) && decide (x.n < v) else decide (x.n = 0)))))
def exRight (v:Int) (x:Ex):Bool:=(Ex.pre x).all (exOk v)
theorem exRights (v:Int):∀ l,(Ex.pres l).all (exOk v) = l.all (exRight v)
 | []=>rfl
 | x :: l=>by simp only [Ex.pres,List.all_append,List.all_cons,exRights v l,exRight]
theorem exRight_eq (v:Int) (x:Ex):exRight v x = (exOk v x && x.l.all (exRight v)):=by
 unfold exRight
 rw [Ex.pre_eq,List.all_cons,exRights]
 rfl
theorem all_drop {α:Type} (f:α → Bool) (l:List α) (i:Nat) (h:i < l.length):(l.drop i).all f = (f l[i] && (l.drop (i + 1)).all f):=by
 rw [List.drop_eq_getElem_cons h,List.all_cons]
theorem all_end {α:Type} (f:α → Bool) (l:List α) (i:Nat) (h:l.length ≤ i):(l.drop i).all f = true:=by
 rw [List.drop_of_length_le h]; rfl
def byteOk (s:ByteArray) (i:Nat):Bool:=isInner (s.get! i).toNat && (decide (0 < i) || isSmall (s.get! i).toNat)
def tailOk (s:ByteArray) (i:Nat):Bool:=(List.range (s.size - i)).all fun j=>byteOk s (i + j)
def nameOk (s:ByteArray):Bool:=decide (1 ≤ s.size) && (decide (s.size ≤ 20) && (!isKey s && tailOk s 0))
theorem nameOk_ne (s:ByteArray) (h:nameOk s = true):¬ s = ⟨#[]⟩:=by
 intro e
 subst e
 revert h
 decide +kernel
def kA (k:Int):Int:=if k = 1 then 2 else if k = 2 then 1 else if k = 3 ∨ k = 4 ∨ k = 5 ∨ k = 6 then 3 else if k = 13 then 4 else if k = 14 then 5 else 0
def kB (k:Int):Int:=if k = 6 then 3 else if k = 14 then 2 else 0
def kN (k:Int):Bool:=decide (k = 1 ∨ k = 14)
def kE (k:Int):Bool:=decide (k = 2 ∨ k = 9)
def kL (k:Int):Int:=if k = 3 ∨ k = 7 then 1 else if k = 9 ∨ k = 10 ∨ k = 11 ∨ k = 12 then 2 else 0
theorem shapes_at (k:Int) (h0:0 ≤ k) (h1:k ≤ 14):ixRows shapes k 5 = some (.elt (shapeOf (kA k) (kB k) (kN k) (kE k) (kL k)) 0):=by
 have:k = 0 ∨ k = 1 ∨ k = 2 ∨ k = 3 ∨ k = 4 ∨ k = 5 ∨ k = 6 ∨ k = 7 ∨ k = 8 ∨ k = 9 ∨ k = 10 ∨ k = 11 ∨ k = 12 ∨ k = 13 ∨ k = 14:=by omega
 rcases this with rfl | rfl | rfl | rfl | rfl | rfl | rfl | rfl | rfl | rfl | rfl | rfl | rfl | rfl | rfl <;> rfl
def tmNums (v s p:Int) (t:Tm):Bool:=numOk v s p (kA t.kind) t.a && numOk v s p (kB t.kind) t.b
def tmOk (v s p:Int) (t:Tm):Bool:=numOk v s p (kA t.kind) t.a && (numOk v s p (kB t.kind) t.b && (decide ((t.l.length:Int) = kL t.kind) && ((if kN t.kind then nameOk t.name else decide (t.name = ⟨#[]⟩)) && (if kE t.kind then exRight v t.e else t.e.none))))
mutual
def tmRight (v s p:Int):Tm → Bool → Bool
 | ⟨k,a,b,n,e,l⟩,d=>decide (0 ≤ k) && (decide (k ≤ 14) && (!(d && decide (k = 14)) && (tmOk v s p ⟨k,a,b,n,e,l⟩ && tmRights v s p l (d || decide (k = 3)))))
def tmRights (v s p:Int):List Tm → Bool → Bool
 | [],_=>true
 | x :: l,d=>tmRight v s p x d && tmRights v s p l d
end
theorem tmRights_eq (v s p:Int) (d:Bool):∀ l,tmRights v s p l d = l.all fun x=>tmRight v s p x d
 | []=>rfl
 | x :: l=>by simp only [tmRights,List.all_cons,tmRights_eq v s p d l]
theorem tmRight_eq (v s p:Int) (t:Tm) (d:Bool):tmRight v s p t d = (decide (0 ≤ t.kind) && (decide (t.kind ≤ 14) && (!(d && decide (t.kind = 14)) && (tmOk v s p t && t.l.all fun x=>tmRight v s p x (d || decide (t.kind = 3)))))):=by
 cases t; simp only [tmRight,tmRights_eq]
mutual
def tmAny:Tm → Bool
 | ⟨k,_,_,_,_,l⟩=>decide (k = 14) || tmAnys l
def tmAnys:List Tm → Bool
 | []=>false
 | x :: l=>tmAny x || tmAnys l
end
theorem tmAnys_eq:∀ l,tmAnys l = l.any tmAny
 | []=>rfl
 | x :: l=>by simp only [tmAnys,List.any_cons,tmAnys_eq l]
theorem tmAny_eq (t:Tm):tmAny t = (decide (t.kind = 14) || t.l.any tmAny):=by cases t; simp only [tmAny,tmAnys_eq]
theorem all_and_not_any {α:Type} (f g:α → Bool) (l:List α):(l.all fun x=>f x && !g x) = (l.all f && !l.any g):=by
 induction l with
 | nil=>rfl
 | cons x l ih=>simp only [List.all_cons,List.any_cons,ih,Bool.not_or]; cases f x <;> cases g x <;> simp
theorem tmRight_pushed (v s p:Int) (t:Tm):tmRight v s p t true = (tmRight v s p t false && !tmAny t):=by
 have ih:∀ x ∈ t.l,tmRight v s p x true = (tmRight v s p x false && !tmAny x):=fun x hx=>tmRight_pushed v s p x
 have hall:(t.l.all fun x=>tmRight v s p x true) = ((t.l.all fun x=>tmRight v s p x false) && !t.l.any tmAny):=by
  rw [← all_and_not_any]
  generalize t.l = l at *
  induction l with
  | nil=>rfl
  | cons x l ihl=>simp only [List.all_cons]; rw [ih x (by simp),ihl fun y hy=>ih y (by simp [hy])]
 rw [tmRight_eq v s p t true,tmRight_eq v s p t false,tmAny_eq]
 simp only [Bool.true_or,Bool.false_or,Bool.true_and,Bool.false_and,Bool.not_false]
 by_cases h3:t.kind = 3
 ·rw [decide_eq_true h3,hall]
  simp only [h3]
  generalize (t.l.all fun x=>tmRight v s p x false) = a
  generalize t.l.any tmAny = b
  cases a <;> cases b <;> simp
 ·rw [decide_eq_false h3,hall]
  generalize (t.l.all fun x=>tmRight v s p x false) = a
  generalize t.l.any tmAny = b
  generalize decide (t.kind = 14) = c
  cases a <;> cases b <;> cases c <;> simp
termination_by SizeOf.sizeOf t
decreasing_by exact Tm.lt_of_mem hx
end Go.Am
namespace Go.Am
open Go.RowKit
def isI64 (n:Int):Bool:=decide (-9223372036854775808 ≤ n) && decide (n < 9223372036854775808)
def truthN (b:Bool):Int:=if b then 1 else 0
def fit (n:Int):Int × Int:=if isI64 n = true then (n,0) else (0,8)
def ev2 (k a b:Int):Int × Int:=
 if k = 5 then fit (a * b) else if k = 8 then fit (a + b) else if k = 9 then fit (a - b)
 else if k = 6 then (if b = 0 then (0,9) else fit (a.tdiv b)) else if k = 7 then (if b = 0 then (0,9) else (a.tmod b,0))
 else if k = 10 then (truthN (decide (a = b)),0) else if k = 11 then (truthN (decide (a ≠ b)),0) else if k = 12 then (truthN (decide (a < b)),0)
 else if k = 13 then (truthN (decide (a ≤ b)),0) else if k = 14 then (truthN (decide (b < a)),0) else (truthN (decide (b ≤ a)),0)
def evA (k:Int) (x:Int × Int):Int × Int:=
 if x.2 ≠ 0 then (0,x.2) else if k = 3 then (truthN (decide (x.1 = 0)),0) else fit (-x.1)
def evB (k:Int) (x y:Int × Int):Int × Int:=
 if x.2 ≠ 0 then (0,x.2) else if k = 16 ∧ x.1 = 0 then (0,0) else if k = 17 ∧ x.1 ≠ 0 then (1,0) else if y.2 ≠ 0 then (0,y.2)
 else if k = 16 ∨ k = 17 then (truthN (decide (y.1 ≠ 0)),0) else ev2 k x.1 y.1
def evE (vs:List Int):Ex → Int × Int
 | ⟨k,n,_,l⟩=>if k = 1 then (n,0) else if k = 2 then (vs.getD n.toNat 0,0) else match l with
  | []=>(0,0)
  | [x]=>evA k (evE vs x)
  | x :: y :: _=>evB k (evE vs x) (evE vs y)
theorem evE_one {vs:List Int} {x y:Ex} (h1:¬ x.kind = 1) (h2:¬ x.kind = 2) (h:x.l = [y]):evE vs x = evA x.kind (evE vs y):=by
 cases x; simp only at h h1 h2; subst h; simp only [evE,if_neg h1,if_neg h2]
theorem evE_two {vs:List Int} {x y z:Ex} (h1:¬ x.kind = 1) (h2:¬ x.kind = 2) (h:x.l = [y,z]):evE vs x = evB x.kind (evE vs y) (evE vs z):=by
 cases x; simp only at h h1 h2; subst h; simp only [evE,if_neg h1,if_neg h2]
theorem isI64_iff (n:Int):isI64 n = true ↔ -9223372036854775808 ≤ n ∧ n < 9223372036854775808:=by simp [isI64]
theorem fit_le (n:Int):isI64 (fit n).1 = true:=by
 unfold fit
 split
 ·assumption
 ·rfl
theorem truthN_le (b:Bool):isI64 (truthN b) = true:=by cases b <;> rfl
theorem ev2_le (k a b:Int) (hb:isI64 b = true):isI64 (ev2 k a b).1 = true:=by
 have hm:b ≠ 0 → isI64 (a.tmod b) = true:=fun h=>by
  rw [isI64_iff] at *
  rcases Int.lt_or_gt_of_ne h with h | h
  ·have h1:=Int.tmod_lt_of_pos a (b:=-b) (by omega)
   have h2:=Int.lt_tmod_of_pos a (b:=-b) (by omega)
   rw [Int.tmod_neg] at h1 h2
   omega
  ·have h1:=Int.tmod_lt_of_pos a h
   have h2:=Int.lt_tmod_of_pos a h
   omega
 unfold ev2
 repeat' split
 all_goals first
  | exact fit_le _
  | exact truthN_le _
  | rfl
  | exact hm (by assumption)
theorem evE_le (vs:List Int) (hv:∀ n ∈ vs,isI64 n = true) (x:Ex) (hx:∀ y ∈ Ex.pre x,isI64 y.n = true):isI64 (evE vs x).1 = true:=by
 have ih:∀ y ∈ x.l,isI64 (evE vs y).1 = true:=fun y hy=>evE_le vs hv y fun z hz=>hx z (by
  rw [Ex.pre_eq]
  refine List.mem_cons_of_mem _ ?_
  clear hx
  generalize x.l = l at hy
  induction l with
  | nil=>simp at hy
  | cons w l ih2=>
   simp only [Ex.pres,List.mem_append]
   rcases List.mem_cons.1 hy with rfl | hy
   ·exact .inl hz
   ·exact .inr (ih2 hy))
 have h0:=hx x (by rw [Ex.pre_eq]; simp)
 obtain ⟨k,n,s,l⟩:=x
 simp only at ih h0
 unfold evE
 split
 ·exact h0
 ·split
  ·show isI64 (vs.getD n.toNat 0) = true
   rw [List.getD_eq_getElem?_getD]
   cases h:vs[n.toNat]? with
   | none=>rfl
   | some m=>exact hv m (List.mem_of_getElem? h)
  ·rcases l with _ | ⟨x,_ | ⟨y,r⟩⟩
   ·rfl
   ·simp only [evA]
    repeat' split
    all_goals first
     | exact fit_le _
     | exact truthN_le _
     | rfl
   ·have hy:=ih y (by simp)
    simp only [evB]
    repeat' split
    all_goals first
     | exact ev2_le _ _ _ hy
     | exact truthN_le _
     | rfl
termination_by SizeOf.sizeOf x
decreasing_by exact Ex.lt_of_mem hy
theorem mul_wrap (a b:Int) (ha:isI64 a = true) (hb:isI64 b = true) (h0:b ≠ 0):(IntKind.wrap .i64 (a * b)).tdiv b = a ↔ isI64 (a * b) = true:=by
 rw [isI64_iff] at *
 constructor
 ·intro h
  obtain ⟨c,hc⟩:∃ c,IntKind.wrap .i64 (a * b) = c:=⟨_,rfl⟩
  rw [hc] at h
  rw [IntKind.wrap_i64] at hc
  have e:=Int.tmod_add_mul_tdiv c b
  rw [h] at e
  obtain ⟨r,hr⟩:∃ r,c.tmod b = r:=⟨_,rfl⟩
  rw [hr,Int.mul_comm b a] at e
  have hrb:-9223372036854775808 < r ∧ r < 9223372036854775808:=by
   rcases Int.lt_or_gt_of_ne h0 with h | h
   ·have h1:=Int.tmod_lt_of_pos c (b:=-b) (by omega)
    have h2:=Int.lt_tmod_of_pos c (b:=-b) (by omega)
    rw [Int.tmod_neg] at h1 h2
    omega
   ·have h1:=Int.tmod_lt_of_pos c h
    have h2:=Int.lt_tmod_of_pos c h
    omega
  generalize a * b = p at *
  omega
 ·intro h
  rw [wrap64 h.1 h.2,Int.mul_tdiv_cancel _ h0]
structure Cfg where
 mk ::
 t:Tm
 vars:List Int
 st:List (List Tm)
 steps:Int
 key:Int
structure Ev where
 mk ::
 name:ByteArray
 key:Int
 value:Int
def encEv (e:Ev):List AV:=[.str e.name,.int .i64 e.key,.int .i64 e.value]
def encSt (s:List (List Tm)):List (List AV):=s.map fun l=>[.sl (l.map encT)]
def encF (f:Cfg):List AV:=encT f.t ++ [.sl (encI f.vars),.sl (encSt f.st),.int .i64 f.steps,.int .i64 f.key]
def Cfg.zero:Cfg:=⟨.skip,[],[],0,0⟩
def Ev.zero:Ev:=⟨⟨#[]⟩,0,0⟩
theorem encF_eq (f:Cfg):encF f = [.int .i64 f.t.kind,.int .i64 f.t.a,.int .i64 f.t.b,.str f.t.name,.int .i64 f.t.e.kind,.int .i64 f.t.e.n,.str f.t.e.name,.sl (f.t.e.l.map encE),.sl (f.t.l.map encT),.sl (encI f.vars),.sl (encSt f.st),.int .i64 f.steps,.int .i64 f.key]:=by
 rw [encF,encT_eq]; rfl
@[simp] theorem encF_len (f:Cfg):(encF f).length = 13:=by rw [encF_eq]; rfl
@[simp] theorem encF_ok (f:Cfg):(encF f).all AV.cell = true:=by rw [encF_eq]; rfl
@[simp] theorem encF_cell (f:Cfg):∀ c ∈ encF f,c.cell = true:=fun c h=>List.all_eq_true.1 (encF_ok f) c h
@[simp] theorem encSt_closed:∀ s,closedLL (encSt s) = true
 | []=>rfl
 | x :: l=>by
  have:=encSt_closed l
  simp only [encSt,List.map_cons,closedLL,closedL,closed,Bool.and_true] at *
  simp [this]
@[simp] theorem encSt_len (s:List (List Tm)):(encSt s).length = s.length:=by simp [encSt]
@[simp] theorem encF_closed (f:Cfg):closedL (encF f) = true:=by simp [encF,closedL_append,closedL]
@[simp] theorem encEv_closed (e:Ev):closedL (encEv e) = true:=by simp [encEv,closedL]
@[simp] theorem pur0_F (H:Heap) (f:Cfg):(encF f).map (pur0 H) = encF f:=by rw [encF_eq]; rfl
@[simp] theorem frz0_F (H:Heap) (f:Cfg):(encF f).foldl frz0 H = H:=by rw [encF_eq]; rfl
@[simp] theorem rd_F9 (f:Cfg):readA (encF f) 9 1 false = some (.sl (encI f.vars)):=by rw [encF_eq]; rfl
@[simp] theorem rd_F10 (f:Cfg):readA (encF f) 10 1 false = some (.sl (encSt f.st)):=by rw [encF_eq]; rfl
@[simp] theorem rd_F11 (f:Cfg):readA (encF f) 11 1 false = some (.int .i64 f.steps):=by rw [encF_eq]; rfl
@[simp] theorem rd_F12 (f:Cfg):readA (encF f) 12 1 false = some (.int .i64 f.key):=by rw [encF_eq]; rfl
@[simp] theorem rd_Ft (f:Cfg):readA (encF f) 0 9 true = some (.agg (encT f.t)):=by simp [readA]; rw [encF_eq,encT_eq]; rfl
@[simp] theorem rd_F0 (f:Cfg):readA (encF f) 0 1 false = some (.int .i64 f.t.kind):=by rw [encF_eq]; rfl
@[simp] theorem rd_Fall (f:Cfg):readA (encF f) 0 13 true = some (.agg (encF f)):=by simp [readA]; rw [encF_eq]; rfl
inductive OnPath:Tm → List Int → Prop
 | nil (t:Tm):OnPath t []
 | cons (t:Tm) (i:Nat) (h:i < t.l.length) (p:List Int) (hp:OnPath t.l[i] p):OnPath t ((i:Int) :: p)
def atT:Tm → List Int → Tm
 | t,[]=>t
 | t,i :: p=>atT ((t.l[i.toNat]?).getD .skip) p
def Tm.withL (t:Tm) (l:List Tm):Tm:=⟨t.kind,t.a,t.b,t.name,t.e,l⟩
def putT:Tm → List Int → Tm → Tm
 | _,[],x=>x
 | t,i :: p,x=>t.withL (t.l.set i.toNat (putT ((t.l[i.toNat]?).getD .skip) p x))
def outT:Tm → List Int → Nat → Nat → Nat
 | _,[],_,n=>n
 | t,i :: p,k,n=>outT ((t.l[i.toNat]?).getD .skip) p (k + 1) (if t.kind = 7 then k else n)
theorem atT_cons (t:Tm) (i:Nat) (h:i < t.l.length) (p:List Int):atT t ((i:Int) :: p) = atT t.l[i] p:=by
 simp only [atT,Int.toNat_natCast,List.getElem?_eq_getElem h,Option.getD_some]
theorem putT_cons (t:Tm) (i:Nat) (h:i < t.l.length) (p:List Int) (x:Tm):putT t ((i:Int) :: p) x = t.withL (t.l.set i (putT t.l[i] p x)):=by
 simp only [putT,Int.toNat_natCast,List.getElem?_eq_getElem h,Option.getD_some]
theorem outT_cons (t:Tm) (i:Nat) (h:i < t.l.length) (p:List Int) (k n:Nat):outT t ((i:Int) :: p) k n = outT t.l[i] p (k + 1) (if t.kind = 7 then k else n):=by
 simp only [outT,Int.toNat_natCast,List.getElem?_eq_getElem h,Option.getD_some]
def stSize (s:List (List Tm)):Int:=(s.map fun l=>Tm.sizes l).sum
def stRev (l:List Tm):Tm:=match l with
 | []=>.skip
 | x :: l=>l.foldl (fun o t=>.of 12 [t,o]) x
def stAt (s:List (List Tm)) (a:Int):List Tm:=s.getD a.toNat []
def stPush (s:List (List Tm)) (a:Int) (t:Tm):List (List Tm):=s.set a.toNat (stAt s a ++ [t])
def stAccept (s:List (List Tm)) (a:Int):List (List Tm):=s.set a.toNat []
def stMerge (s:List (List Tm)) (a b:Int):List (List Tm):=if a = b then s else (s.set b.toNat (stAt s b ++ stAt s a)).set a.toNat []
structure Deed where
 mk ::
 t:Tm
 vars:List Int
 st:List (List Tm)
 key:Int
 ev:Ev
 is:Bool
 e:Int
def deed (ps:List Tm) (f:Cfg) (x:Tm) (alt:Int):Deed:=
 if x.kind = 1 then ⟨⟨14,f.key,x.a,x.name,.zero,[]⟩,f.vars,f.st,f.key + 1,⟨x.name,f.key,0⟩,true,0⟩
 else if x.kind = 2 then (if (evE f.vars x.e).2 = 0 then ⟨.skip,f.vars.set x.a.toNat (evE f.vars x.e).1,f.st,f.key,.zero,false,0⟩ else ⟨.skip,f.vars,f.st,f.key,.zero,false,(evE f.vars x.e).2⟩)
 else if x.kind = 3 then ⟨.skip,f.vars,stPush f.st x.a ((x.l[0]?).getD .skip),f.key,.zero,false,0⟩
 else if x.kind = 4 then ⟨stRev (stAt f.st x.a),f.vars,stAccept f.st x.a,f.key,.zero,false,0⟩
 else if x.kind = 5 then ⟨.skip,f.vars,stAccept f.st x.a,f.key,.zero,false,0⟩
 else if x.kind = 6 then ⟨.skip,f.vars,stMerge f.st x.a x.b,f.key,.zero,false,0⟩
 else if x.kind = 9 then ⟨(x.l[if (evE f.vars x.e).1 ≠ 0 then 0 else 1]?).getD .skip,f.vars,f.st,f.key,.zero,false,(evE f.vars x.e).2⟩
 else if x.kind = 10 then ⟨(x.l[alt.toNat]?).getD .skip,f.vars,f.st,f.key,.zero,false,0⟩
 else if x.kind = 13 then ⟨(ps[x.a.toNat]?).getD .skip,f.vars,f.st,f.key,.zero,false,0⟩
 else ⟨.skip,f.vars,f.st,f.key,.zero,false,0⟩
structure Did where
 mk ::
 f:Cfg
 ev:Ev
 is:Bool
 e:Int
def Did.no (e:Int):Did:=⟨.zero,.zero,false,e⟩
def doM (ps:List Tm) (f:Cfg) (pick:Int):Did:=
 match if pick < 0 then none else f.t.enabled[pick.toNat]? with
 | none=>.no 12
 | some s=>
  if 5000 ≤ f.steps then .no 10
  else
   let x:=atT f.t.norm s.2.1
   let d:=deed ps f x s.2.2
   if d.e ≠ 0 then .no d.e
   else
    let p:=if x.kind = 8 then s.2.1.take (outT f.t.norm s.2.1 0 0) else s.2.1
    let t:=(putT f.t.norm p d.t).norm
    if 2000 < t.size + stSize d.st then .no 11 else ⟨⟨t,d.vars,d.st,f.steps + 1,d.key⟩,d.ev,d.is,0⟩
end Go.Am
