import Derived.Test.YtahchfkmpcfefaaGP8
set_option linter.unusedVariables false
set_option linter.unusedSimpArgs false
namespace Go.Am
open Go.RowKit
attribute [simp] closedL_append
@[simp] theorem readA_whole {cells:List AV} {n:Nat} (h:cells.length = n):readA cells 0 n true = some (.agg cells):=by subst h; simp [readA]
structure Rw2 where
 mk ::
 k:Int
 n:Int
 l:List Rw2
structure Rw3 where
 mk ::
 k:Int
 a:Int
 b:Int
 e:List Rw2
 l:List Rw3
mutual
def encR2:Rw2 → List AV
 | ⟨k,n,l⟩=>[.int .i64 k,.int .i64 n,.sl (encR2s l)]
def encR2s:List Rw2 → List (List AV)
 | []=>[]
 | x :: l=>encR2 x :: encR2s l
end
mutual
def encR3:Rw3 → List AV
 | ⟨k,a,b,e,l⟩=>[.int .i64 k,.int .i64 a,.int .i64 b,.sl (encR2s e),.sl (encR3s l)]
def encR3s:List Rw3 → List (List AV)
 | []=>[]
 | x :: l=>encR3 x :: encR3s l
end
theorem encR2s_map:∀ l,encR2s l = l.map encR2
 | []=>rfl
 | x :: l=>by simp [encR2s,encR2s_map l]
theorem encR3s_map:∀ l,encR3s l = l.map encR3
 | []=>rfl
 | x :: l=>by simp [encR3s,encR3s_map l]
theorem encR2_eq (x:Rw2):encR2 x = [.int .i64 x.k,.int .i64 x.n,.sl (x.l.map encR2)]:=by
 cases x; simp [encR2,encR2s_map]
theorem encR3_eq (x:Rw3):encR3 x = [.int .i64 x.k,.int .i64 x.a,.int .i64 x.b,.sl (x.e.map encR2),.sl (x.l.map encR3)]:=by
 cases x; simp [encR3,encR2s_map,encR3s_map]
mutual
theorem encR2_closed:∀ x:Rw2,closedL (encR2 x) = true
 | ⟨k,n,l⟩=>by simp [encR2,closedL,closed,encR2s_closed l]
theorem encR2s_closed:∀ l:List Rw2,closedLL (encR2s l) = true
 | []=>rfl
 | x :: l=>by simp [encR2s,closedLL,encR2_closed x,encR2s_closed l]
end
mutual
theorem encR3_closed:∀ x:Rw3,closedL (encR3 x) = true
 | ⟨k,a,b,e,l⟩=>by simp [encR3,closedL,closed,encR2s_closed e,encR3s_closed l]
theorem encR3s_closed:∀ l:List Rw3,closedLL (encR3s l) = true
 | []=>rfl
 | x :: l=>by simp [encR3s,closedLL,encR3_closed x,encR3s_closed l]
end
attribute [simp] encR2_closed encR3_closed
@[simp] theorem encR2_len (x:Rw2):(encR2 x).length = 3:=by rw [encR2_eq]; rfl
@[simp] theorem encR3_len (x:Rw3):(encR3 x).length = 5:=by rw [encR3_eq]; rfl
@[simp] theorem encR2_ok (t:Rw2):(encR2 t).all AV.cell = true:=by rw [encR2_eq]; rfl
@[simp] theorem encR3_ok (t:Rw3):(encR3 t).all AV.cell = true:=by rw [encR3_eq]; rfl
@[simp] theorem encR2_cell (t:Rw2):∀ c ∈ encR2 t,c.cell = true:=fun c h=>List.all_eq_true.1 (encR2_ok t) c h
@[simp] theorem encR3_cell (t:Rw3):∀ c ∈ encR3 t,c.cell = true:=fun c h=>List.all_eq_true.1 (encR3_ok t) c h
@[simp] theorem rd_R20 (t:Rw2):readA (encR2 t) 0 1 false = some (.int .i64 t.k):=by rw [encR2_eq]; rfl
@[simp] theorem rd_R21 (t:Rw2):readA (encR2 t) 1 1 false = some (.int .i64 t.n):=by rw [encR2_eq]; rfl
@[simp] theorem rd_R22 (t:Rw2):readA (encR2 t) 2 1 false = some (.sl (t.l.map encR2)):=by rw [encR2_eq]; rfl
@[simp] theorem rd_R2all (t:Rw2):readA (encR2 t) 0 3 true = some (.agg (encR2 t)):=by simp [readA]; rw [encR2_eq]; rfl
@[simp] theorem rd_R30 (t:Rw3):readA (encR3 t) 0 1 false = some (.int .i64 t.k):=by rw [encR3_eq]; rfl
@[simp] theorem rd_R31 (t:Rw3):readA (encR3 t) 1 1 false = some (.int .i64 t.a):=by rw [encR3_eq]; rfl
@[simp] theorem rd_R32 (t:Rw3):readA (encR3 t) 2 1 false = some (.int .i64 t.b):=by rw [encR3_eq]; rfl
@[simp] theorem rd_R33 (t:Rw3):readA (encR3 t) 3 1 false = some (.sl (t.e.map encR2)):=by rw [encR3_eq]; rfl
@[simp] theorem rd_R34 (t:Rw3):readA (encR3 t) 4 1 false = some (.sl (t.l.map encR3)):=by rw [encR3_eq]; rfl
@[simp] theorem rd_R3all (t:Rw3):readA (encR3 t) 0 5 true = some (.agg (encR3 t)):=by simp [readA]; rw [encR3_eq]; rfl
@[simp] theorem pur0_R2 (H:Heap) (t:Rw2):(encR2 t).map (pur0 H) = encR2 t:=by rw [encR2_eq]; rfl
@[simp] theorem frz0_R2 (H:Heap) (t:Rw2):(encR2 t).foldl frz0 H = H:=by rw [encR2_eq]; rfl
@[simp] theorem pur0_R3 (H:Heap) (t:Rw3):(encR3 t).map (pur0 H) = encR3 t:=by rw [encR3_eq]; rfl
@[simp] theorem frz0_R3 (H:Heap) (t:Rw3):(encR3 t).foldl frz0 H = H:=by rw [encR3_eq]; rfl
theorem Rw2.lt_of_mem {t x:Rw2} (h:x ∈ t.l):SizeOf.sizeOf x < SizeOf.sizeOf t:=by
 have:=List.sizeOf_lt_of_mem h
 cases t
 simp at *
 omega
theorem Rw3.lt_of_mem {t x:Rw3} (h:x ∈ t.l):SizeOf.sizeOf x < SizeOf.sizeOf t:=by
 have:=List.sizeOf_lt_of_mem h
 cases t
 simp at *
 omega
mutual
def Rw2.nodes:Rw2 → Nat
 | ⟨_,_,l⟩=>1 + Rw2.nodess l
def Rw2.nodess:List Rw2 → Nat
 | []=>0
 | x :: l=>x.nodes + Rw2.nodess l
end
mutual
def Rw2.sz:Rw2 → Nat → Int
 | ⟨_,_,l⟩,d=>if 8 < d then 1000 else Rw2.szs l d 0
def Rw2.szs:List Rw2 → Nat → Int → Int
 | [],_,n=>n
 | x :: l,d,n=>if n ≤ 20 then Rw2.szs l d (n + 1 + x.sz (d + 1)) else n
end
def sz2 (l:List Rw2) (d:Nat):Int:=if 8 < d then 1000 else Rw2.szs l d 0
theorem Rw2.sz_eq (x:Rw2) (d:Nat):x.sz d = sz2 x.l d:=by cases x; rfl
mutual
theorem Rw2.sz_le:∀ (x:Rw2) (d:Nat),0 ≤ x.sz d ∧ x.sz d ≤ 1000 + 21 * (9 - d:Nat) ∧ (x.sz d ≤ 20 → (x.nodes:Int) ≤ 1 + x.sz d)
 | ⟨k,n,l⟩,d=>by
  unfold Rw2.sz Rw2.nodes
  by_cases h:8 < d
  ·simp [h]; omega
  ·rw [if_neg h]
   have:=Rw2.szs_le l d 0 (by omega) (by omega) (by omega)
   omega
theorem Rw2.szs_le:∀ (l:List Rw2) (d:Nat) (n:Int),d ≤ 8 → 0 ≤ n → n ≤ 1000 + 21 * (9 - d:Nat) → n ≤ Rw2.szs l d n ∧ Rw2.szs l d n ≤ 1000 + 21 * (9 - d:Nat) ∧ (Rw2.szs l d n ≤ 20 → (Rw2.nodess l:Int) + n ≤ Rw2.szs l d n)
 | [],d,n,_,_,_=>by simp [Rw2.szs,Rw2.nodess]; omega
 | x :: l,d,n,hd,hn,hu=>by
  unfold Rw2.szs Rw2.nodess
  have hx:=Rw2.sz_le x (d + 1)
  by_cases h:n ≤ 20
  ·rw [if_pos h]
   have:=Rw2.szs_le l d (n + 1 + x.sz (d + 1)) hd (by omega) (by omega)
   omega
  ·rw [if_neg h]
   omega
end
theorem sz2_le (l:List Rw2) (d:Nat):0 ≤ sz2 l d ∧ sz2 l d ≤ 1189 ∧ (sz2 l d ≤ 20 → (Rw2.nodess l:Int) ≤ sz2 l d):=by
 unfold sz2
 by_cases h:8 < d
 ·simp [h]
 ·rw [if_neg h]
  have:=Rw2.szs_le l d 0 (by omega) (by omega) (by omega)
  omega
theorem Rw2.szs_drop (l:List Rw2) (i:Nat) (d:Nat) (n:Int) (h:i < l.length) (hn:n ≤ 20):Rw2.szs (l.drop i) d n = Rw2.szs (l.drop (i + 1)) d (n + 1 + sz2 l[i].l (d + 1)):=by
 rw [List.drop_eq_getElem_cons h,Rw2.szs,if_pos hn,Rw2.sz_eq]
theorem Rw2.szs_stop (l:List Rw2) (d:Nat) (n:Int) (hn:¬ n ≤ 20):Rw2.szs l d n = n:=by
 cases l <;> simp [Rw2.szs,hn]
mutual
def Rw3.bulk:Rw3 → Nat
 | ⟨_,_,_,e,l⟩=>1 + Rw2.nodess e + Rw3.bulks l
def Rw3.bulks:List Rw3 → Nat
 | []=>0
 | x :: l=>x.bulk + Rw3.bulks l
end
mutual
def Rw3.sz:Rw3 → Nat → Int
 | ⟨_,_,_,e,l⟩,d=>if 8 < d ∨ ¬ sz2 e 0 ≤ 20 then 1000 else Rw3.szs l d 1
def Rw3.szs:List Rw3 → Nat → Int → Int
 | [],_,n=>n
 | x :: l,d,n=>if n ≤ 40 then Rw3.szs l d (n + x.sz (d + 1)) else n
end
mutual
theorem Rw3.sz_le:∀ (x:Rw3) (d:Nat),1 ≤ x.sz d ∧ x.sz d ≤ 1000 + 40 * (9 - d:Nat) ∧ (x.sz d ≤ 40 → (x.bulk:Int) ≤ 21 * x.sz d)
 | ⟨k,a,b,e,l⟩,d=>by
  unfold Rw3.sz Rw3.bulk
  have he:=sz2_le e 0
  by_cases h:8 < d ∨ ¬ sz2 e 0 ≤ 20
  ·simp [h]; omega
  ·rw [if_neg h]
   have:=Rw3.szs_le l d 1 (by omega) (by omega) (by omega)
   omega
theorem Rw3.szs_le:∀ (l:List Rw3) (d:Nat) (n:Int),d ≤ 8 → 1 ≤ n → n ≤ 1000 + 40 * (9 - d:Nat) → n ≤ Rw3.szs l d n ∧ Rw3.szs l d n ≤ 1000 + 40 * (9 - d:Nat) ∧ (Rw3.szs l d n ≤ 40 → (Rw3.bulks l:Int) + 21 * n ≤ 21 * Rw3.szs l d n)
 | [],d,n,_,_,_=>by simp [Rw3.szs,Rw3.bulks]; omega
 | x :: l,d,n,hd,hn,hu=>by
  unfold Rw3.szs Rw3.bulks
  have hx:=Rw3.sz_le x (d + 1)
  by_cases h:n ≤ 40
  ·rw [if_pos h]
   have:=Rw3.szs_le l d (n + x.sz (d + 1)) hd (by omega) (by omega)
   omega
  ·rw [if_neg h]
   omega
end
theorem Rw3.szs_drop (l:List Rw3) (i:Nat) (d:Nat) (n:Int) (h:i < l.length) (hn:n ≤ 40):Rw3.szs (l.drop i) d n = Rw3.szs (l.drop (i + 1)) d (n + l[i].sz (d + 1)):=by
 rw [List.drop_eq_getElem_cons h,Rw3.szs,if_pos hn]
theorem Rw3.szs_stop (l:List Rw3) (d:Nat) (n:Int) (hn:¬ n ≤ 40):Rw3.szs l d n = n:=by
 cases l <;> simp [Rw3.szs,hn]
theorem Rw3.sz_eq (x:Rw3) (d:Nat):x.sz d = if 8 < d ∨ ¬ sz2 x.e 0 ≤ 20 then 1000 else Rw3.szs x.l d 1:=by cases x; rfl
def few3 (l:List Rw3):Bool:=decide (l.length ≤ 5) && decide ((l.map fun x=>x.sz 0).sum ≤ 40)
def nthB (l:List ByteArray) (i:Int):ByteArray:=l.getD i.toNat ⟨#[]⟩
def leafE (n i:Int):Ex:=⟨1,within (IntKind.wrap .i64 (n + i)) 5,⟨#[]⟩,[]⟩
def numsE:List Int:=[0,1,2,7,99,999999999999999999,5,3]
mutual
def Rw2.ex (ns:List ByteArray):Rw2 → Ex
 | ⟨k,n,l⟩=>
  if within k 24 < 4 then ⟨1,numsE.getD (within n 8).toNat 0,⟨#[]⟩,[]⟩
  else if within k 24 < 9 then (if 0 < ns.length then ⟨2,0,nthB ns (within n ns.length),[]⟩ else ⟨2,within n 3,⟨#[]⟩,[]⟩)
  else if within k 24 = 9 then ⟨3,0,⟨#[]⟩,[((Rw2.exs ns l)[0]?).getD (leafE n 0)]⟩
  else if within k 24 = 10 then ⟨4,0,⟨#[]⟩,[((Rw2.exs ns l)[0]?).getD (leafE n 0)]⟩
  else ⟨within k 24 - 6,0,⟨#[]⟩,[((Rw2.exs ns l)[0]?).getD (leafE n 0),((Rw2.exs ns l)[1]?).getD (leafE n 1)]⟩
def Rw2.exs (ns:List ByteArray):List Rw2 → List Ex
 | []=>[]
 | x :: l=>x.ex ns :: Rw2.exs ns l
end
def Rw2.part (ns:List ByteArray) (x:Rw2) (i:Nat):Ex:=((x.l[i]?).map (Rw2.ex ns)).getD (leafE x.n i)
def oneE (ns:List ByteArray) (l:List Rw2):Ex:=match l with
 | []=>⟨1,1,⟨#[]⟩,[]⟩
 | x :: _=>x.ex ns
structure Pr where
 mk ::
 kind:Int
 name:ByteArray
 to:ByteArray
 e:Ex
 l:List Pr
mutual
def encPr:Pr → List AV
 | ⟨k,s,t,e,l⟩=>.int .i64 k :: .str s :: .str t :: (encE e ++ [.sl (encPrs l)])
def encPrs:List Pr → List (List AV)
 | []=>[]
 | x :: l=>encPr x :: encPrs l
end
theorem encPrs_map:∀ l,encPrs l = l.map encPr
 | []=>rfl
 | x :: l=>by simp [encPrs,encPrs_map l]
theorem encPr_eq (x:Pr):encPr x = [.int .i64 x.kind,.str x.name,.str x.to,.int .i64 x.e.kind,.int .i64 x.e.n,.str x.e.name,.sl (x.e.l.map encE),.sl (x.l.map encPr)]:=by
 cases x; simp [encPr,encPrs_map,encE_eq]
mutual
theorem encPr_closed:∀ x:Pr,closedL (encPr x) = true
 | ⟨k,s,t,e,l⟩=>by simp [encPr,closedL,closed,closedL_append,encE_closed e,encPrs_closed l]
theorem encPrs_closed:∀ l:List Pr,closedLL (encPrs l) = true
 | []=>rfl
 | x :: l=>by simp [encPrs,closedLL,encPr_closed x,encPrs_closed l]
end
attribute [simp] encPr_closed
@[simp] theorem encPr_len (x:Pr):(encPr x).length = 8:=by rw [encPr_eq]; rfl
@[simp] theorem encPr_ok (t:Pr):(encPr t).all AV.cell = true:=by rw [encPr_eq]; rfl
@[simp] theorem encPr_cell (t:Pr):∀ c ∈ encPr t,c.cell = true:=fun c h=>List.all_eq_true.1 (encPr_ok t) c h
@[simp] theorem rd_Pr0 (t:Pr):readA (encPr t) 0 1 false = some (.int .i64 t.kind):=by rw [encPr_eq]; rfl
@[simp] theorem rd_Pr1 (t:Pr):readA (encPr t) 1 1 false = some (.str t.name):=by rw [encPr_eq]; rfl
@[simp] theorem rd_Pr2 (t:Pr):readA (encPr t) 2 1 false = some (.str t.to):=by rw [encPr_eq]; rfl
@[simp] theorem rd_Pr3 (t:Pr):readA (encPr t) 3 4 true = some (.agg (encE t.e)):=by simp [readA]; rw [encPr_eq,encE_eq]; rfl
@[simp] theorem rd_Pr7 (t:Pr):readA (encPr t) 7 1 false = some (.sl (t.l.map encPr)):=by rw [encPr_eq]; rfl
@[simp] theorem rd_Prall (t:Pr):readA (encPr t) 0 8 true = some (.agg (encPr t)):=by simp [readA]; rw [encPr_eq]; rfl
@[simp] theorem pur0_Pr (H:Heap) (t:Pr):(encPr t).map (pur0 H) = encPr t:=by rw [encPr_eq]; rfl
@[simp] theorem frz0_Pr (H:Heap) (t:Pr):(encPr t).foldl frz0 H = H:=by rw [encPr_eq]; rfl
theorem Pr.lt_of_mem {t x:Pr} (h:x ∈ t.l):SizeOf.sizeOf x < SizeOf.sizeOf t:=by
 have:=List.sizeOf_lt_of_mem h
 cases t
 simp at *
 omega
mutual
def Pr.wt:Pr → Nat
 | ⟨_,_,_,e,l⟩=>1 + e.wt + Pr.wts l
def Pr.wts:List Pr → Nat
 | []=>0
 | x :: l=>x.wt + Pr.wts l
end
theorem Pr.wt_eq (x:Pr):x.wt = 1 + x.e.wt + Pr.wts x.l:=by cases x; rfl
theorem Pr.wts_mem:∀ {l:List Pr} {x:Pr},x ∈ l → x.wt ≤ Pr.wts l
 | y :: l,x,h=>by
  simp only [Pr.wts]
  rcases List.mem_cons.1 h with rfl | h
  ·omega
  ·have:=Pr.wts_mem h; omega
theorem Pr.wts_len:∀ l:List Pr,l.length ≤ Pr.wts l
 | []=>Nat.le_refl _
 | x :: l=>by have:=Pr.wts_len l; have:=x.wt_eq; simp only [Pr.wts,List.length_cons]; omega
@[simp] theorem all_encPr (l:List Pr):((l.map encPr).all fun r=>r.length == 8 && okCells r) = true:=by
 simp only [List.all_map]
 exact List.all_eq_true.2 fun x _=>by simp [okCells]
def vsL:List ByteArray:=[⟨#[120]⟩,⟨#[121]⟩,⟨#[116,111,116,97,108]⟩]
def ssL:List ByteArray:=[⟨#[115]⟩,⟨#[117,110,100,111]⟩]
def dsL:List ByteArray:=[⟨#[109,97,105,110]⟩,⟨#[112]⟩,⟨#[113]⟩,⟨#[114,101,116,114,121]⟩,⟨#[108,97,115,116]⟩]
def psL:List ByteArray:=[⟨#[112,97,121]⟩,⟨#[115,104,105,112]⟩,⟨#[97,115,107]⟩]
def encB (l:List ByteArray):List (List AV):=l.map fun x=>[.str x]
@[simp] theorem encB_closed:∀ l,closedLL (encB l) = true
 | []=>rfl
 | x :: l=>by
  have:=encB_closed l
  simp only [encB,List.map_cons,closedLL,closedL,closed,Bool.and_self,Bool.true_and] at *
  exact this
@[simp] theorem encB_len (l:List ByteArray):(encB l).length = l.length:=by simp [encB]
@[simp] theorem encB_cell (l:List ByteArray):∀ x ∈ encB l,x.length = 1 ∧ ∀ c ∈ x,c.cell = true:=by
 intro x hx
 simp only [encB,List.mem_map] at hx
 obtain ⟨n,-,rfl⟩:=hx
 simp
@[simp] theorem encB_flat (l:List ByteArray):((encB l).all fun r=>r.all flat0) = true:=by simp [encB,flat0]
@[simp] theorem encB_nil:encB [] = []:=rfl
@[simp] theorem encB_getElem (l:List ByteArray) (i:Nat) (h:i < (encB l).length):(encB l)[i] = [.str (l[i]'(by simpa using h))]:=by simp [encB]
@[simp] theorem encI_getElem (l:List Int) (i:Nat) (h:i < (encI l).length):(encI l)[i] = [.int .i64 (l[i]'(by simpa using h))]:=by simp [encI]
def Pr.of (k:Int) (s t:ByteArray) (l:List Pr):Pr:=⟨k,s,t,.zero,l⟩
def Pr.skip:Pr:=.of 0 ⟨#[]⟩ ⟨#[]⟩ []
def prOf (k a b:Int) (e:List Rw2) (p q:Pr):Pr:=
 if within k 20 < 2 then .of 1 (nthB psL (within b 3)) ⟨#[]⟩ []
 else if within k 20 < 4 then .of 1 (nthB psL (within b 3)) (nthB vsL (within a 3)) []
 else if within k 20 = 4 then ⟨2,⟨#[]⟩,nthB vsL (within a 3),oneE vsL e,[]⟩
 else if within k 20 < 7 then .of 3 (nthB ssL (within a 2)) ⟨#[]⟩ [p]
 else if within k 20 = 7 then .of 4 (nthB ssL (within a 2)) ⟨#[]⟩ []
 else if within k 20 = 8 then .of 5 (nthB ssL (within a 2)) ⟨#[]⟩ []
 else if within k 20 = 9 then .of 6 (nthB ssL (within a 2)) (nthB ssL (within b 2)) []
 else if within k 20 = 10 then .of 7 ⟨#[]⟩ ⟨#[]⟩ [p]
 else if within k 20 = 11 then .of 8 ⟨#[]⟩ ⟨#[]⟩ []
 else if within k 20 = 12 then ⟨9,⟨#[]⟩,⟨#[]⟩,oneE vsL e,[p,q]⟩
 else if within k 20 = 13 then .of 10 ⟨#[]⟩ ⟨#[]⟩ [p,q]
 else if within k 20 < 16 then .of 11 ⟨#[]⟩ ⟨#[]⟩ [p,q]
 else if within k 20 = 16 then .of 13 (nthB dsL (within a 5)) ⟨#[]⟩ []
 else if within k 20 = 17 then .skip
 else .of 12 ⟨#[]⟩ ⟨#[]⟩ [p,q]
mutual
def Rw3.pr:Rw3 → Nat → Pr
 | ⟨k,a,b,e,l⟩,d=>prOf k a b e (if d < 6 then ((Rw3.prs l (d + 1))[0]?).getD .skip else .skip) (if d < 6 then ((Rw3.prs l (d + 1))[1]?).getD .skip else .skip)
def Rw3.prs:List Rw3 → Nat → List Pr
 | [],_=>[]
 | x :: l,d=>x.pr d :: Rw3.prs l d
end
def Rw3.part (x:Rw3) (i d:Nat):Pr:=if d < 6 then ((x.l[i]?).map fun y=>y.pr (d + 1)).getD .skip else .skip
section
variable (c0 c1 c2 c3 c4 c5 c6 c7 : AV) (l : List AV)
@[simp] theorem setE_0 (x:Ex):setL (c0 :: c1 :: c2 :: c3 :: l) 0 (encE x) = encE x ++ l:=by rw [setL_eq _ _ _ (by simp),encE_eq]; rfl
@[simp] theorem setE_4 (x:Ex) (b:AV):setL (encE x ++ c0 :: l) 4 [b] = encE x ++ b :: l:=by rw [encE_eq]; rfl
@[simp] theorem setPr_0 (x:Pr):setL (c0 :: c1 :: c2 :: c3 :: c4 :: c5 :: c6 :: c7 :: l) 0 (encPr x) = encPr x ++ l:=by rw [setL_eq _ _ _ (by simp),encPr_eq]; rfl
end
end Go.Am
