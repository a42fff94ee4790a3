import Derived.Test.YtnngddgaobhkiaaGreatGH16
import Derived.Test.YtnngddgaobhkiaaGreatGE15
import Derived.Test.YtnngddgaobhkiaaGreatGJ14
set_option linter.unusedVariables false
set_option linter.unusedSimpArgs false
namespace Go.Proofs.YtnngddgaobhkiaaGreat
open Go Go.Am Go.RowKit
theorem stRev_ind (P:Tm → Prop) (h0:P .skip) (h2:∀ x y,P x → P y → P (.of 12 [x,y])) (l:List Tm) (h:∀ t ∈ l,P t):P (stRev l):=by
 have key:∀ (l:List Tm) (x:Tm),P x → (∀ t ∈ l,P t) → P (l.foldl (fun o t=>.of 12 [t,o]) x):=fun l=>by
  induction l with
  | nil=>intro x hx _; exact hx
  | cons y l ih=>intro x hx h; exact ih _ (h2 _ _ (h y (by simp)) hx) fun t ht=>h t (by simp [ht])
 cases l with
 | nil=>exact h0
 | cons x l=>exact key l x (h x (by simp)) fun t ht=>h t (by simp [ht])
theorem stRev_size (l:List Tm):(stRev l).size ≤ 2 * Tm.sizes l + 1:=by
 have key:∀ (l:List Tm) (x:Tm),(l.foldl (fun o t=>Tm.of 12 [t,o]) x).size ≤ x.size + 2 * Tm.sizes l:=fun l=>by
  induction l with
  | nil=>intro x; simp [Tm.sizes]
  | cons y l ih=>
   intro x
   have h1:=ih (.of 12 [y,x])
   have h2:=y.size_pos
   rw [Tm.size_eq (Tm.of 12 [y,x])] at h1
   simp only [List.foldl_cons,Tm.sizes,Tm.of] at *
   omega
 cases l with
 | nil=>decide +kernel
 | cons x l=>have:=key l x; have:=x.size_pos; simp only [stRev,Tm.sizes] at *; omega
theorem sizes_nn:∀ l:List Tm,0 ≤ Tm.sizes l
 | []=>by simp [Tm.sizes]
 | x :: l=>by have:=sizes_nn l; have:=x.size_pos; simp only [Tm.sizes]; omega
theorem sizes_app:∀ l m:List Tm,Tm.sizes (l ++ m) = Tm.sizes l + Tm.sizes m
 | [],m=>by simp [Tm.sizes]
 | x :: l,m=>by simp only [List.cons_append,Tm.sizes,sizes_app l m]; omega
theorem sizes_mem:∀ {l:List Tm} {x:Tm},x ∈ l → x.size ≤ Tm.sizes l
 | y :: l,x,h=>by
  have:=sizes_nn l; have:=y.size_pos
  rcases List.mem_cons.1 h with rfl | h
  ·simp only [Tm.sizes]; omega
  ·have:=sizes_mem h; simp only [Tm.sizes]; omega
theorem size_kid {t x:Tm} (h:x ∈ t.l):x.size ≤ t.size - 1:=by
 have:=sizes_mem h
 rw [Tm.size_eq t]; omega
theorem size_at {t:Tm} {q:List Int} (h:OnPath t q):(atT t q).size ≤ t.size:=by
 induction h with
 | nil t=>exact Int.le_refl _
 | cons t i h q hp ih=>
  rw [atT_cons t i h]
  have:=size_kid (List.getElem_mem h)
  omega
theorem stSize_set:∀ (s:List (List Tm)) (i:Nat) (h:i < s.length) (l:List Tm),stSize (s.set i l) + Tm.sizes s[i] = stSize s + Tm.sizes l
 | [],i,h,l=>by simp at h
 | x :: s,0,h,l=>by simp only [stSize,List.set_cons_zero,List.map_cons,List.sum_cons,List.getElem_cons_zero]; omega
 | x :: s,i + 1,h,l=>by
  have:=stSize_set s i (by simpa using h) l
  simp only [stSize,List.set_cons_succ,List.map_cons,List.sum_cons,List.getElem_cons_succ] at *; omega
theorem stSize_mem {s:List (List Tm)} {l:List Tm} (h:l ∈ s):Tm.sizes l ≤ stSize s:=by
 induction s with
 | nil=>simp at h
 | cons x s ih=>
  have h1:=sizes_nn x
  have h2:=stSize_nn s
  rcases List.mem_cons.1 h with rfl | h
  ·simp only [stSize,List.map_cons,List.sum_cons] at *; omega
  ·have:=ih h; simp only [stSize,List.map_cons,List.sum_cons] at *; omega
theorem stAt_get {s:List (List Tm)} {a:Int} (h0:0 ≤ a) (h:a < s.length):∃ i:Nat,a = i ∧ ∃ hi:i < s.length,stAt s a = s[i]:=by
 refine ⟨a.toNat,by omega,by omega,?_⟩
 rw [stAt,List.getD_eq_getElem?_getD,List.getElem?_eq_getElem (by omega)]; rfl
structure DeedOk (vn sn:Int) (ps:List Tm) (f:Cfg) (d:Deed):Prop where
 t:tmRight vn sn ps.length d.t false = true
 ex:allE d.t = true
 vars:(d.vars.length:Int) = vn
 nums:∀ n ∈ d.vars,isI64 n = true
 st:(d.st.length:Int) = sn
 strt:∀ l ∈ d.st,∀ t ∈ l,tmRight vn sn ps.length t true = true ∧ allE t = true
 size:d.t.size ≤ 4001
 stsz:stSize d.st ≤ 4000
 key:f.key ≤ d.key ∧ d.key ≤ f.key + 1
theorem right_ok {v s p:Int} {t:Tm} {d:Bool} (h:tmRight v s p t d = true):tmOk v s p t = true ∧ (0 ≤ t.kind ∧ t.kind ≤ 14) ∧ (d = true → t.kind ≠ 14):=by
 rw [tmRight_eq] at h
 simp only [Bool.and_eq_true] at h
 refine ⟨h.2.2.2.1,⟨of_decide_eq_true h.1,of_decide_eq_true h.2.1⟩,fun hd=>?_⟩
 have:=h.2.2.1
 subst hd
 simpa using this
theorem ok_a {v s p:Int} {t:Tm} (h:tmOk v s p t = true):numOk v s p (kA t.kind) t.a = true:=by
 unfold tmOk at h; rw [Bool.and_eq_true] at h; exact h.1
theorem ok_b {v s p:Int} {t:Tm} (h:tmOk v s p t = true):numOk v s p (kB t.kind) t.b = true:=by
 unfold tmOk at h; rw [Bool.and_eq_true,Bool.and_eq_true] at h; exact h.2.1
theorem ok_l {v s p:Int} {t:Tm} (h:tmOk v s p t = true):(t.l.length:Int) = kL t.kind:=by
 unfold tmOk at h; rw [Bool.and_eq_true,Bool.and_eq_true,Bool.and_eq_true] at h; exact of_decide_eq_true h.2.2.1
theorem ok_n {v s p:Int} {t:Tm} (h:tmOk v s p t = true):(if kN t.kind then nameOk t.name else decide (t.name = ⟨#[]⟩)) = true:=by
 unfold tmOk at h; rw [Bool.and_eq_true,Bool.and_eq_true,Bool.and_eq_true,Bool.and_eq_true] at h; exact h.2.2.2.1
theorem ok_e {v s p:Int} {t:Tm} (h:tmOk v s p t = true):(if kE t.kind then exRight v t.e else t.e.none) = true:=by
 unfold tmOk at h; rw [Bool.and_eq_true,Bool.and_eq_true,Bool.and_eq_true,Bool.and_eq_true] at h; exact h.2.2.2.2
theorem num2 {v s p n:Int} (h:numOk v s p 2 n = true):-1 ≤ n ∧ n < v:=by simpa [numOk] using h
theorem num1 {v s p n:Int} (h:numOk v s p 1 n = true):0 ≤ n ∧ n < v:=by simpa [numOk] using h
theorem num3 {v s p n:Int} (h:numOk v s p 3 n = true):0 ≤ n ∧ n < s:=by simpa [numOk] using h
theorem num4 {v s p n:Int} (h:numOk v s p 4 n = true):0 ≤ n ∧ n < p:=by simpa [numOk] using h
theorem getD_right {l:List Tm} {i:Nat} {P:Tm → Prop} (h0:P .skip) (h:∀ x ∈ l,P x):P ((l[i]?).getD .skip):=by
 cases e:l[i]? with
 | none=>exact h0
 | some x=>exact h x (List.mem_of_getElem? e)
theorem set_st {vn sn:Int} {n:Int} {s:List (List Tm)} (h:∀ l ∈ s,∀ t ∈ l,tmRight vn sn n t true = true ∧ allE t = true) (i:Nat) (m:List Tm) (hm:∀ t ∈ m,tmRight vn sn n t true = true ∧ allE t = true) :
  ∀ l ∈ s.set i m,∀ t ∈ l,tmRight vn sn n t true = true ∧ allE t = true:=fun l hl=>by
 rcases List.mem_or_eq_of_mem_set hl with hl | rfl
 ·exact h l hl
 ·exact hm
theorem wait_right (v s p:Int) (x:Tm) (k:Int) (hx:tmRight v s p x false = true) (hk:x.kind = 1) (h0:0 ≤ k):tmRight v s p ⟨14,k,x.a,x.name,.zero,[]⟩ false = true:=by
 have ho:=(right_ok hx).1
 have ha:=ok_a ho
 have hn:=ok_n ho
 rw [hk] at ha hn
 have zn:Ex.zero.none = true:=by decide +kernel
 have ha:=num2 (s:=s) (p:=p) ha
 rw [tmRight_eq]
 simp [tmOk,numOk,kA,kB,kN,kE,kL,zn,ha,h0] at hn ⊢
 exact hn
theorem deed_ok {vn sn:Int} {ps:List Tm} {f:Cfg} (he:Env8 vn sn ps) (hf:OkF vn sn ps f) (x:Tm) (alt:Int) (hx:tmRight vn sn ps.length x false = true) (hxe:allE x = true) (hxs:x.size ≤ f.t.size) (h14:x.kind ≠ 14) :
  DeedOk vn sn ps f (deed ps f x alt):=by
 obtain ⟨ho,⟨hk0,hk1⟩,-⟩:=right_ok hx
 have hskip:tmRight vn sn ps.length .skip false = true:=right_skip _ _ _ _
 have hsz:=hf.size
 have hssz:=stSize_nn f.st
 have htsz:=f.t.size_pos
 have zs:Tm.skip.size = 1:=by decide +kernel
 have b0:stSize f.st ≤ 4000:=by omega
 have hkey:f.key ≤ f.key ∧ f.key ≤ f.key + 1:=by omega
 unfold deed
 split
 ·rename_i k
  have hsz2:(⟨14,f.key,x.a,x.name,.zero,[]⟩:Tm).size = 1:=by rw [Tm.size_eq]; simp [Tm.sizes]
  refine ⟨wait_right _ _ _ x _ hx k hf.key.1,?_,hf.vars,hf.nums,hf.st,hf.strt,by simp only; omega,b0,by simp only; omega⟩
  rw [allE_eq]; simp [exN_zero]
 split
 ·rename_i k1 k
  have hb:DeedOk vn sn ps f ⟨.skip,f.vars,f.st,f.key,.zero,false,(evE f.vars x.e).2⟩:=⟨hskip,allE_skip,hf.vars,hf.nums,hf.st,hf.strt,by simp only; omega,b0,hkey⟩
  split
  ·refine ⟨hskip,allE_skip,by simp only [List.length_set]; exact hf.vars,?_,hf.st,hf.strt,by simp only; omega,b0,hkey⟩
   intro n hn
   rcases List.mem_or_eq_of_mem_set hn with hn | rfl
   ·exact hf.nums n hn
   ·refine evE_le _ hf.nums _ fun y hy=>?_
    rw [allE_eq,Bool.and_eq_true,exN,Bool.and_eq_true] at hxe
    exact List.all_eq_true.1 hxe.1.2 y hy
  ·exact hb
 split
 ·rename_i k1 k2 k
  have ha:=ok_a ho; rw [k] at ha
  have ha:=num3 (v:=vn) (p:=ps.length) ha
  obtain ⟨i,hi,hil,e⟩:=stAt_get (s:=f.st) ha.1 (by rw [hf.st]; exact ha.2)
  have hl:=ok_l ho; rw [k] at hl
  have hl:(x.l.length:Int) = 1:=hl
  obtain ⟨y,hy⟩:∃ y,x.l = [y]:=List.length_eq_one_iff.1 (by omega)
  have hy2:y ∈ x.l:=by rw [hy]; simp
  have hry:=right_kid _ _ _ _ _ hx y hy2
  rw [decide_eq_true k,Bool.or_true] at hry
  have hey:=allE_kid hxe y hy2
  have hys:=size_kid hy2
  have hset:=stSize_set f.st i hil (f.st[i] ++ [y])
  rw [sizes_app] at hset
  simp only [hy,List.getElem?_cons_zero,Option.getD_some,stPush,e]
  rw [show x.a.toNat = i by omega]
  refine ⟨hskip,allE_skip,hf.vars,hf.nums,by simp only [List.length_set]; exact hf.st,?_,by simp only; omega,by simp only [Tm.sizes] at *; omega,hkey⟩
  refine set_st hf.strt _ _ fun t ht=>?_
  rcases List.mem_append.1 ht with ht | ht
  ·exact hf.strt _ (List.getElem_mem hil) t ht
  ·rw [List.mem_singleton.1 ht]; exact ⟨hry,hey⟩
 split
 ·rename_i k1 k2 k3 k
  have ha:=ok_a ho; rw [k] at ha
  have ha:=num3 (v:=vn) (p:=ps.length) ha
  obtain ⟨i,hi,hil,e⟩:=stAt_get (s:=f.st) ha.1 (by rw [hf.st]; exact ha.2)
  have hm:=hf.strt _ (List.getElem_mem hil)
  have hset:=stSize_set f.st i hil []
  have hms:=stSize_mem (List.getElem_mem hil)
  have hrs:=stRev_size f.st[i]
  have hnn:=sizes_nn f.st[i]
  simp only [stAccept,e]
  rw [show x.a.toNat = i by omega]
  refine ⟨?_,?_,hf.vars,hf.nums,by simp only [List.length_set]; exact hf.st,?_,by simp only; omega,by simp only [Tm.sizes] at *; omega,hkey⟩
  ·exact stRev_ind (fun t=>tmRight vn sn ps.length t false = true) hskip (fun x y hx hy=>right_of2 _ _ _ _ _ _ _ (.inl rfl) hx hy) _ fun t ht=>right_weak _ _ _ _ _ (hm t ht).1
  ·exact stRev_ind (fun t=>allE t = true) allE_skip (fun x y hx hy=>allE_of _ _ (by simp [hx,hy])) _ fun t ht=>(hm t ht).2
  ·exact set_st hf.strt _ _ (by simp)
 split
 ·rename_i k1 k2 k3 k4 k
  have ha:=ok_a ho; rw [k] at ha
  have ha:=num3 (v:=vn) (p:=ps.length) ha
  obtain ⟨i,hi,hil,e⟩:=stAt_get (s:=f.st) ha.1 (by rw [hf.st]; exact ha.2)
  have hset:=stSize_set f.st i hil []
  have hnn:=sizes_nn f.st[i]
  simp only [stAccept]
  rw [show x.a.toNat = i by omega]
  refine ⟨hskip,allE_skip,hf.vars,hf.nums,by simp only [List.length_set]; exact hf.st,?_,by simp only; omega,by simp only [Tm.sizes] at *; omega,hkey⟩
  exact set_st hf.strt _ _ (by simp)
 split
 ·rename_i k1 k2 k3 k4 k5 k
  have ha:=ok_a ho; rw [k] at ha
  have ha:=num3 (v:=vn) (p:=ps.length) ha
  obtain ⟨i,hi,hil,e⟩:=stAt_get (s:=f.st) ha.1 (by rw [hf.st]; exact ha.2)
  have hb:=ok_b ho; rw [k] at hb
  have hb:=num3 (v:=vn) (p:=ps.length) hb
  obtain ⟨j,hj,hjl,ej⟩:=stAt_get (s:=f.st) hb.1 (by rw [hf.st]; exact hb.2)
  simp only [stMerge]
  split
  ·exact ⟨hskip,allE_skip,hf.vars,hf.nums,hf.st,hf.strt,by simp only; omega,b0,hkey⟩
  ·rename_i hne
   have hij:i ≠ j:=by intro h; subst h; omega
   rw [show x.a.toNat = i by omega,show x.b.toNat = j by omega,e,ej]
   have hm:=hf.strt _ (List.getElem_mem hil)
   have hmj:=hf.strt _ (List.getElem_mem hjl)
   have h1:=stSize_set f.st j hjl (f.st[j] ++ f.st[i])
   have h2:=stSize_set (f.st.set j (f.st[j] ++ f.st[i])) i (by simpa using hil) []
   rw [List.getElem_set_ne (fun h=>hij h.symm)] at h2
   rw [sizes_app] at h1
   refine ⟨hskip,allE_skip,hf.vars,hf.nums,by simp only [List.length_set]; exact hf.st,?_,by simp only; omega,by simp only [Tm.sizes] at *; omega,hkey⟩
   refine set_st (set_st hf.strt _ _ fun t ht=>?_) _ _ (by simp)
   rcases List.mem_append.1 ht with ht | ht
   ·exact hmj t ht
   ·exact hm t ht
 have kid:∀ i:Nat,x.kind ≠ 3 → tmRight vn sn ps.length ((x.l[i]?).getD .skip) false = true ∧ allE ((x.l[i]?).getD .skip) = true ∧ ((x.l[i]?).getD .skip).size ≤ 4001:=fun i h3=>by
  refine getD_right (P:=fun y=>tmRight vn sn ps.length y false = true ∧ allE y = true ∧ y.size ≤ 4001) ⟨hskip,allE_skip,by omega⟩ fun y hy=>⟨?_,allE_kid hxe y hy,by have:=size_kid hy; omega⟩
  have:=right_kid _ _ _ _ _ hx y hy
  rwa [decide_eq_false h3,Bool.or_false] at this
 split
 ·rename_i k
  obtain ⟨h1,h2,h3⟩:=kid (if (evE f.vars x.e).1 ≠ 0 then 0 else 1) (by omega)
  exact ⟨h1,h2,hf.vars,hf.nums,hf.st,hf.strt,h3,b0,hkey⟩
 split
 ·rename_i k
  obtain ⟨h1,h2,h3⟩:=kid alt.toNat (by omega)
  exact ⟨h1,h2,hf.vars,hf.nums,hf.st,hf.strt,h3,b0,hkey⟩
 split
 ·have:=getD_right (l:=ps) (i:=x.a.toNat) (P:=fun y=>tmRight vn sn ps.length y false = true ∧ allE y = true ∧ y.size ≤ 4001) ⟨hskip,allE_skip,by omega⟩ fun y hy=>⟨right_weak _ _ _ _ _ (he.right y hy),he.small y hy,by have:=he.size y hy; omega⟩
  exact ⟨this.1,this.2.1,hf.vars,hf.nums,hf.st,hf.strt,this.2.2,b0,hkey⟩
 ·exact ⟨hskip,allE_skip,hf.vars,hf.nums,hf.st,hf.strt,by simp only; omega,b0,hkey⟩
def toP (t:Tm) (s:Stp3):List Int:=if (atT t s.2.1).kind = 8 then s.2.1.take (outT t s.2.1 0 0) else s.2.1
theorem enabled_eq {t:Tm} (h:t.norm = t):t.enabled = t.enabledN:=by rw [Tm.enabled,h]
theorem step_deed {vn sn:Int} {ps:List Tm} {f:Cfg} (he:Env8 vn sn ps) (hf:OkF vn sn ps f) {s:Stp3} (hs:s ∈ f.t.enabled):DeedOk vn sn ps f (deed ps f (atT f.t s.2.1) s.2.2):=by
 rw [enabled_eq hf.norm] at hs
 have hk:=step_ok f.t s hs
 refine deed_ok he hf _ _ (at_right _ _ _ hk.act _ hf.t) (allE_at (actP_on hk.act) hf.ex) (size_at (actP_on hk.act)) ?_
 rw [← hk.kind]
 have:=hk.some
 omega
theorem toP_act {t:Tm} {s:Stp3} (h:ActP t s.2.1):ActP t (toP t s):=by
 unfold toP; split
 ·exact actP_take h _
 ·exact h
structure PutOk (vn sn:Int) (ps:List Tm) (x:Tm):Prop where
 t:tmRight vn sn ps.length x false = true
 ex:allE x = true
 size:x.size ≤ 6001
theorem put_ok {vn sn:Int} {ps:List Tm} {f:Cfg} (he:Env8 vn sn ps) (hf:OkF vn sn ps f) {s:Stp3} (hs:s ∈ f.t.enabled):PutOk vn sn ps (putT f.t (toP f.t s) (deed ps f (atT f.t s.2.1) s.2.2).t):=by
 have hd:=step_deed he hf hs
 rw [enabled_eq hf.norm] at hs
 have ha:=toP_act (step_ok f.t s hs).act
 have:=hf.size
 have:=stSize_nn f.st
 have:=hd.size
 have:=size_put (actP_on ha) (deed ps f (atT f.t s.2.1) s.2.2).t
 exact ⟨put_right _ _ _ ha _ _ hf.t hd.t,allE_put (actP_on ha) _ hf.ex hd.ex,by omega⟩
theorem PutOk.wt {vn sn:Int} {ps:List Tm} {t:Tm} (h:PutOk vn sn ps t):t.wt ≤ 137438953472:=by
 have:=allE_wt t h.ex
 have:=h.size
 omega
theorem doM_eq {ps:List Tm} {f:Cfg} (hn:f.t.norm = f.t) (pick:Int):doM ps f pick = match if pick < 0 then none else f.t.enabled[pick.toNat]? with
  | none=>.no 12
  | some s=>if 5000 ≤ f.steps then .no 10 else if (deed ps f (atT f.t s.2.1) s.2.2).e ≠ 0 then .no (deed ps f (atT f.t s.2.1) s.2.2).e
   else if 2000 < (putT f.t (toP f.t s) (deed ps f (atT f.t s.2.1) s.2.2).t).norm.size + stSize (deed ps f (atT f.t s.2.1) s.2.2).st then .no 11
   else ⟨⟨(putT f.t (toP f.t s) (deed ps f (atT f.t s.2.1) s.2.2).t).norm,(deed ps f (atT f.t s.2.1) s.2.2).vars,(deed ps f (atT f.t s.2.1) s.2.2).st,f.steps + 1,(deed ps f (atT f.t s.2.1) s.2.2).key⟩,(deed ps f (atT f.t s.2.1) s.2.2).ev,(deed ps f (atT f.t s.2.1) s.2.2).is,0⟩:=by
 rw [doM]
 simp only [hn] <;> rfl
theorem doM_ok {vn sn:Int} {ps:List Tm} {f:Cfg} (he:Env8 vn sn ps) (hf:OkF vn sn ps f) (pick:Int) (h:(doM ps f pick).e = 0):OkF vn sn ps (doM ps f pick).f:=by
 rw [doM_eq hf.norm] at h ⊢
 split
 ·rename_i e; rw [e] at h; simp [Did.no] at h
 ·rename_i s e
  simp only [e] at h
  have hs:s ∈ f.t.enabled:=by
   split at e
   ·cases e
   ·exact List.mem_of_getElem? e
  have hd:=step_deed he hf hs
  have hp:=put_ok he hf hs
  have hok:=right_okN _ _ _ _ _ hp.t
  by_cases h1:5000 ≤ f.steps
  ·rw [if_pos h1] at h; simp [Did.no] at h
  rw [if_neg h1] at h ⊢
  by_cases h2:(deed ps f (atT f.t s.2.1) s.2.2).e ≠ 0
  ·rw [if_pos h2] at h; exact absurd h h2
  rw [if_neg h2] at h ⊢
  by_cases h3:2000 < (putT f.t (toP f.t s) (deed ps f (atT f.t s.2.1) s.2.2).t).norm.size + stSize (deed ps f (atT f.t s.2.1) s.2.2).st
  ·rw [if_pos h3] at h; simp [Did.no] at h
  rw [if_neg h3]
  have h5:=hf.steps
  have h6:=hd.key
  have h7:=hf.key
  exact ⟨right_norm _ _ _ _ _ hp.t,allE_norm _ hok hp.ex,norm_norm _ hok,hd.vars,hd.nums,hd.st,hd.strt,by simp only; omega,by simp only; omega,by simp only; omega⟩
end Go.Proofs.YtnngddgaobhkiaaGreat
namespace Go.Proofs.YtnngddgaobhkiaaGreat
open Go Go.Am Go.RowKit
theorem size_set:∀ (l:List Tm) (i:Nat) (h:i < l.length) (y:Tm),Tm.sizes (l.set i y) + l[i].size = Tm.sizes l + y.size
 | [],i,h,y=>by simp at h
 | z :: l,0,h,y=>by simp only [List.set_cons_zero,Tm.sizes,List.getElem_cons_zero]; omega
 | z :: l,i + 1,h,y=>by have:=size_set l i (by simpa using h) y; simp only [List.set_cons_succ,Tm.sizes,List.getElem_cons_succ]; omega
theorem size_put_eq {t:Tm} {q:List Int} (h:OnPath t q) (x:Tm):(putT t q x).size + (atT t q).size = t.size + x.size:=by
 induction h with
 | nil t=>simp only [putT,atT]; omega
 | cons t i h q hp ih=>
  rw [putT_cons t i h,atT_cons t i h,Tm.size_eq,Tm.size_eq t]
  have:=size_set t.l i h (putT t.l[i] q x)
  simp only [Tm.withL]
  omega
theorem waitP_act (key:Int) (t:Tm) (p:List Int) (h:waitP key t = some p):ActP t p:=by
 rw [waitP_eq] at h
 by_cases k14:t.kind = 14
 ·rw [if_pos k14] at h
  by_cases ha:t.a = key
  ·rw [if_pos ha] at h; cases h; exact .nil t
  ·rw [if_neg ha] at h; cases h
 ·rw [if_neg k14] at h
  have sub:∃ (k:Nat) (q:List Int) (hk:k < t.l.length),(t.kind = 12 ∨ t.kind = 11 ∨ t.kind = 7) ∧ p = (k:Int) :: q ∧ waitP key t.l[k] = some q:=by
   by_cases k12:t.kind = 12
   ·rw [if_pos k12] at h
    obtain ⟨k,q,hk,e,hq⟩:=waitPs_some key _ 0 p h
    have hk2:k < t.l.length:=by simp at hk; omega
    exact ⟨k,q,hk2,.inl k12,by simpa using e,by simpa using hq⟩
   ·rw [if_neg k12] at h
    by_cases k11:t.kind = 11 ∨ t.kind = 7
    ·rw [if_pos k11] at h
     obtain ⟨k,q,hk,e,hq⟩:=waitPs_some key _ 0 p h
     exact ⟨k,q,hk,.inr k11,by simpa using e,hq⟩
    ·rw [if_neg k11] at h; cases h
  obtain ⟨k,q,hk,hkind,rfl,hq⟩:=sub
  exact .cons t k hk hkind q (waitP_act key t.l[k] q hq)
termination_by SizeOf.sizeOf t
decreasing_by exact Tm.lt_of_mem (List.getElem_mem hk)
theorem tell_b {vn sn:Int} {ps:List Tm} {f:Cfg} (hf:OkF vn sn ps f) {key:Int} {p:List Int} (h:waitP key f.t = some p):(atT f.t p).b < f.vars.length ∧ -1 ≤ (atT f.t p).b ∧ nameOk (atT f.t p).name = true:=by
 have hr:=at_right _ _ _ (waitP_act _ _ _ h) _ hf.t
 have hk:=(waitP_on _ _ _ h).2.1
 have ho:=(right_ok hr).1
 have hb:=ok_b ho; rw [hk] at hb
 have hb:=num2 (s:=sn) (p:=ps.length) hb
 have hn:=ok_n ho; rw [hk] at hn
 rw [hf.vars]
 exact ⟨hb.2,hb.1,hn⟩
theorem tell_put {vn sn:Int} {ps:List Tm} {f:Cfg} (hf:OkF vn sn ps f) {key:Int} {p:List Int} (h:waitP key f.t = some p):tmRight vn sn ps.length (putT f.t p .skip) false = true ∧ allE (putT f.t p .skip) = true ∧ (putT f.t p .skip).size ≤ f.t.size:=by
 have ha:=waitP_act _ _ _ h
 have:=size_put_eq (actP_on ha) .skip
 have:=(atT f.t p).size_pos
 have zs:Tm.skip.size = 1:=by decide +kernel
 exact ⟨put_right _ _ _ ha _ _ hf.t (right_skip _ _ _ _),allE_put (actP_on ha) _ hf.ex allE_skip,by omega⟩
theorem OkF.wt {vn sn:Int} {ps:List Tm} {f:Cfg} (hf:OkF vn sn ps f):f.t.wt ≤ 20002000:=by
 have:=allE_wt _ hf.ex
 have:=hf.size
 have:=stSize_nn f.st
 omega
theorem OkF.vlen {vn sn:Int} {ps:List Tm} {f:Cfg} (hf:OkF vn sn ps f) (hv:vn ≤ 1000):f.vars.length ≤ 1000:=by have:=hf.vars; omega
theorem OkF.slen {vn sn:Int} {ps:List Tm} {f:Cfg} (hf:OkF vn sn ps f) (hv:sn ≤ 1000):f.st.length ≤ 1000:=by have:=hf.st; omega
theorem sizes_len (l:List Tm):(l.length:Int) ≤ Tm.sizes l:=Tm.sizes_length l
theorem OkF.srow {vn sn:Int} {ps:List Tm} {f:Cfg} (hf:OkF vn sn ps f):∀ l ∈ f.st,l.length ≤ 2000 ∧ ∀ x ∈ l,x.lok:=fun l hl=>by
 have h1:=stSize_mem hl
 have h2:=hf.size
 have h3:=f.t.size_pos
 have h4:=sizes_len l
 refine ⟨by omega,fun x hx=>Tm.lok_of_wt x ?_⟩
 have:=allE_wt x (hf.strt l hl x hx).2
 have:=sizes_mem hx
 omega
theorem tellM_eq {f:Cfg} (hn:f.t.norm = f.t) (key value:Int):tellM f key value = match waitP key f.t with
  | none=>⟨.zero,.zero,false⟩
  | some p=>⟨{ f with t:=(putT f.t p .skip).norm,vars:=if 0 ≤ (atT f.t p).b then f.vars.set (atT f.t p).b.toNat value else f.vars },⟨(atT f.t p).name,key,value⟩,true⟩:=by
 rw [tellM]; simp only [hn] <;> rfl
theorem tellM_ok {vn sn:Int} {ps:List Tm} {f:Cfg} (hf:OkF vn sn ps f) (key value:Int) (hv:isI64 value = true) (h:(tellM f key value).is = true):OkF vn sn ps (tellM f key value).f:=by
 rw [tellM_eq hf.norm] at h ⊢
 split
 ·rename_i e; rw [e] at h; cases h
 ·rename_i p e
  obtain ⟨h1,h2,h3⟩:=tell_put hf e
  have hok:=right_okN _ _ _ _ _ h1
  have h4:=norm_size _ hok
  have h5:=hf.size
  refine ⟨right_norm _ _ _ _ _ h1,allE_norm _ hok h2,norm_norm _ hok,?_,?_,hf.st,hf.strt,by simp only; omega,hf.steps,hf.key⟩
  ·simp only; split
   ·rw [List.length_set]; exact hf.vars
   ·exact hf.vars
  ·simp only; split
   ·intro n hn
    rcases List.mem_or_eq_of_mem_set hn with hn | rfl
    ·exact hf.nums n hn
    ·exact hv
   ·exact hf.nums
end Go.Proofs.YtnngddgaobhkiaaGreat
namespace Go.Proofs.YtnngddgaobhkiaaGreat
open Go Go.Am Go.RowKit
attribute [local simp] W21 W21_rs W21_b1 W21_b2 W21_b3 W21_b4 W21_b10 W21_b11 W21_b13 W21_b15 W21_b17 W21_b19 W21_b20 W21_b21 W21_b22 W21_b23 W21_b25 W21_b26 W21_b27 W21_b28 W21_b29 W21_b30 W21_b31 W21_b32 W21_b33 W21_b34 W21_b37 W21_b43 W21_b44 W21_k9 W21_k35 W21_s50 W21_g51
theorem sScope_out {s:St} {B g:(Nat → St → Prop) → St → Prop} (I:St → Prop) (hB:∀ J:Nat → St → Prop,(∀ s,I s → J 0 s) → B J s) (hg:∀ J s,I s → g J s):@sScope s ⟨B⟩ ⟨[(0,g)]⟩:=by
 unfold sScope
 refine ⟨fun l m s=>l = 0 ∧ I s,hB _ fun s h=>⟨0,s,.refl s,rfl,h⟩,fun l m s h=>?_⟩
 obtain ⟨rfl,h⟩:=h
 exact hg _ s h
theorem no_f (e:Int):(Did.no e).f = .zero:=rfl
theorem no_ev (e:Int):(Did.no e).ev = .zero:=rfl
theorem no_is (e:Int):(Did.no e).is = false:=rfl
theorem no_e (e:Int):(Did.no e).e = e:=rfl
theorem encF_zero:encF .zero = [.int .i64 0,.int .i64 0,.int .i64 0,.str ⟨#[]⟩,.int .i64 0,.int .i64 0,.str ⟨#[]⟩,.sl [],.sl [],.sl [],.sl [],.int .i64 0,.int .i64 0]:=by rw [encF_eq]; rfl
theorem encEv_zero:encEv .zero = [.str ⟨#[]⟩,.int .i64 0,.int .i64 0]:=rfl
theorem onP_len {t:Tm} {p:List Int} (h:OnPath t p):p.length ≤ t.wt:=by
 induction h with
 | nil t=>simp
 | cons t i h p hp ih=>
  have h1:=Tm.wt_eq t
  have h2:=Tm.wts_mem (List.getElem_mem h)
  simp only [List.length_cons]
  omega
def didR (d:Did):AV:=.tup [.agg (encF d.f),.agg (encEv d.ev),.bool d.is,.int .i64 d.e]
def doH (c:Cor) (f g:Cfg) (vars:List Int) (ev:Ev) (B11:List AV) (x:Tm) (cs:List AV) (v3 v4 v6 v7 v60 v11 v12 v14:Nat):List (Nat × Blk):=
 [(3,.box v3 29 (encC c)),(4,.box v4 38 (encF f)),(6,.box v6 38 (encFL g 60 v60)),(7,.box v7 44 (encEv ev)),(60,.row v60 3 1 (encI vars)),
  (11,.box v11 60 B11),(12,.box v12 35 (encT x)),(14,.box v14 35 cs)]
def doI (r:AV) (s:St):Prop:=∃ (T:List (Nat × AV)) (VS:Nat → Nat) (e:Int) (c:Cor) (f g:Cfg) (vars:List Int) (ev:Ev) (B11:List AV) (x:Tm) (cs:List AV) (v3 v4 v6 v7 v60 v11 v12 v14:Nat),
 s = ⟨Am.look T,hls (doH c f g vars ev B11 x cs v3 v4 v6 v7 v60 v11 v12 v14) VS,noG⟩ ∧ Am.look T 6 = .ref 6 v6 (.p 0) ∧ Am.look T 7 = .ref 7 v7 (.p 0) ∧ Am.look T 9 = .int .i64 e ∧ r = didR (.no e)
@[simp] theorem encEv_len (ev:Ev):(encEv ev).length = 3:=rfl
@[simp] theorem encEv_ok (ev:Ev):(encEv ev).all AV.cell = true:=rfl
@[simp] theorem encEv_cell (ev:Ev):∀ c ∈ encEv ev,c.cell = true:=by simp [encEv]
theorem rd_Ev (ev:Ev):readA (encEv ev) 0 3 true = some (.agg (encEv ev)):=rfl
theorem do_g51 (r:AV) (J:Nat → St → Prop) (s:St) (h:doI r s):W21_g51 (retK Tryz.prog [.cell 6 38,.cell 7 44,.tmp 8,.tmp 9] r) J s:=by
 obtain ⟨T,VS,e,c,f,g,vars,ev,B11,x,cs,v3,v4,v6,v7,v60,v11,v12,v14,rfl,h6,h7,h9,rfl⟩:=h
 simp only [didR,no_f,no_ev,no_is,no_e,encF_zero,encEv_zero,doH]
 simp [h6,h7,h9,retW_eq,encEv]
theorem do_k9 (c:Cor) (f g:Cfg) (vars:List Int) (ev:Ev) (is:Bool) (B11:List AV) (x y:Tm) (cs:List AV) (p:List Int) (v3 v4 v6 v7 v60 v11 v12 v14:Nat) (hT:TellsT cs y)
  (hon:OnPath g.t p) (hpl:p.length ≤ 137438953472) (hlok:g.t.lok) (hwt:(putT g.t p y).wt ≤ 137438953472) (hwn:(putT g.t p y).norm.wt ≤ 137438953472) (hsn:(putT g.t p y).norm.size ≤ 1000000) (hss:stSize g.st ≤ 1000000)
  (hsl:g.st.length ≤ 137438953472) (hsk:∀ l ∈ g.st,l.length ≤ 137438953472) (hst:0 ≤ g.steps ∧ g.steps ≤ 5000)
  (J:Nat → St → Prop) (r:AV) (hJ:∀ s,doI r s → J 0 s)
  (hr:r = didR (if 2000 < (putT g.t p y).norm.size + stSize g.st then .no 11 else ⟨⟨(putT g.t p y).norm,vars,g.st,g.steps + 1,g.key⟩,ev,is,0⟩))
  (T:List (Nat × AV)) (VS:Nat → Nat) (h6:Am.look T 6 = .ref 6 v6 (.p 0)) (h7:Am.look T 7 = .ref 7 v7 (.p 0)) (h8:Am.look T 8 = .bool is) (h13:Am.look T 13 = .sl (encI p)) (h14:Am.look T 14 = .ref 14 v14 (.p 0)) :
  W21_k9 (retK Tryz.prog [.cell 6 38,.cell 7 44,.tmp 8,.tmp 9] r) J ⟨Am.look T,hls (doH c f g vars ev B11 x cs v3 v4 v6 v7 v60 v11 v12 v14) VS,noG⟩:=by
 have h1:=sp_put p g.t y hon hpl hlok
 have h2:=sp_nrm (putT g.t p y) hwt
 have h3:=sp_sz (putT g.t p y).norm (by omega)
 have h4:=sp_ssz g.st hss hsl hsk
 have hrd:=readA_whole hT.len
 have hpu:=hT.pur
 have hfz:=hT.frz
 have hnn:=stSize_nn g.st
 have hpos:=(putT g.t p y).norm.size_pos
 have e1:=setFL_t g 60 v60 (putT g.t p y).norm
 generalize (putT g.t p y).norm = n at *
 generalize putT g.t p y = m at *
 have e2:setL (encFL { g with t:=n } 60 v60) 11 [.int .i64 (g.steps + 1)] = encFL { g with t:=n,steps:=g.steps + 1 } 60 v60:=by rw [encFL_eq,encFL_eq]; rfl
 have w1:IntKind.wrap .i64 (g.steps + 1) = g.steps + 1:=wrap64 (by omega) (by omega)
 have w2:IntKind.wrap .i64 (n.size + stSize g.st) = n.size + stSize g.st:=wrap64 (by omega) (by omega)
 by_cases h:2000 < n.size + stSize g.st
 ·rw [if_pos h] at hr
  simp only [doH]
  simp [h6,h7,h8,h13,h14,hrd,hpu,hfz]
  refine scall_pure h1 (by simp [hpu,hfz]) (by simp [hpu,hfz]) ?_
  simp [hfz]
  refine scall_pure h2 (by simp) (by simp) ?_
  simp [h6,e1,e2,w1]
  refine scall0_pure h3 (by simp) (by simp) ?_
  simp [h6]
  refine scall0_pure h4 (by simp) (by simp) ?_
  simp [h6,w2,h]
  refine hJ _ ⟨_,VS,11,c,f,{ g with t:=n,steps:=g.steps + 1 },vars,ev,B11,x,cs,v3,v4,v6,v7,v60,v11,v12,v14,rfl,?_,?_,?_,hr⟩
  ·simp [h6]
  ·simp [h7]
  ·simp
 ·rw [if_neg h] at hr
  subst hr
  have h':¬ 2000 < n.size + stSize g.st:=h
  simp only [doH]
  simp [h6,h7,h8,h13,h14,hrd,hpu,hfz]
  refine scall_pure h1 (by simp [hpu,hfz]) (by simp [hpu,hfz]) ?_
  simp [hfz]
  refine scall_pure h2 (by simp) (by simp) ?_
  simp [h6,e1,e2,w1]
  refine scall0_pure h3 (by simp) (by simp) ?_
  simp [h6]
  refine scall0_pure h4 (by simp) (by simp) ?_
  simp [h6,h7,h8,w2,h',encEv]
  simp [retW_eq,h6,h7,didR,encEv]
  rw [fl_ret _ _ 60 v60 3 vars (by simp)]
  exact ⟨by simp,rfl⟩
theorem do_fin (c:Cor) (f:Cfg) {vn sn:Int} (he:Env8 vn sn c.procs) (hf:OkF vn sn c.procs f) (hvn:vn ≤ 1000) (hsn:sn ≤ 1000) (st:Stp3) (hs:st ∈ f.t.enabled) (t:Tm) (vars:List Int) (sts:List (List Tm)) (key:Int) (ev:Ev) (is:Bool)
  (hd:deed c.procs f (atT f.t st.2.1) st.2.2 = ⟨t,vars,sts,key,ev,is,0⟩) (B11:List AV) (x:Tm) (cs:List AV) (v3 v4 v6 v7 v60 v11 v12 v14:Nat) (hT:TellsT cs t)
  (J:Nat → St → Prop) (r:AV) (hJ:∀ s,doI r s → J 0 s)
  (hr:r = didR (if (deed c.procs f (atT f.t st.2.1) st.2.2).e ≠ 0 then .no (deed c.procs f (atT f.t st.2.1) st.2.2).e
   else if 2000 < (putT f.t (toP f.t st) (deed c.procs f (atT f.t st.2.1) st.2.2).t).norm.size + stSize (deed c.procs f (atT f.t st.2.1) st.2.2).st then .no 11
   else ⟨⟨(putT f.t (toP f.t st) (deed c.procs f (atT f.t st.2.1) st.2.2).t).norm,(deed c.procs f (atT f.t st.2.1) st.2.2).vars,(deed c.procs f (atT f.t st.2.1) st.2.2).st,f.steps + 1,(deed c.procs f (atT f.t st.2.1) st.2.2).key⟩,(deed c.procs f (atT f.t st.2.1) st.2.2).ev,(deed c.procs f (atT f.t st.2.1) st.2.2).is,0⟩))
  (T:List (Nat × AV)) (VS:Nat → Nat) (h6:Am.look T 6 = .ref 6 v6 (.p 0)) (h7:Am.look T 7 = .ref 7 v7 (.p 0)) (h8:Am.look T 8 = .bool is) (h13:Am.look T 13 = .sl (encI (toP f.t st))) (h14:Am.look T 14 = .ref 14 v14 (.p 0)) :
  W21_k9 (retK Tryz.prog [.cell 6 38,.cell 7 44,.tmp 8,.tmp 9] r) J ⟨Am.look T,hls (doH c f ⟨f.t,f.vars,sts,f.steps,key⟩ vars ev B11 x cs v3 v4 v6 v7 v60 v11 v12 v14) VS,noG⟩:=by
 have hdo:=step_deed he hf hs
 have hpo:=put_ok he hf hs
 have hso:=step_ok f.t st (by rw [← enabled_eq hf.norm]; exact hs)
 have hact:=toP_act hso.act
 have hon:=actP_on hact
 rw [hd] at hr hdo hpo
 have hwt:=hf.wt
 have hok:=right_okN _ _ _ _ _ hpo.t
 have hnw:=Tm.norm_wt (putT f.t (toP f.t st) t)
 have hpw:=hpo.wt
 have hns:=norm_size _ hok
 have hps:=hpo.size
 have hlen:=onP_len hon
 have h1:=hdo.stsz
 have h2:=hdo.st
 simp only at hr h1 h2 hpw hps hns
 refine do_k9 c f ⟨f.t,f.vars,sts,f.steps,key⟩ vars ev is B11 x t cs (toP f.t st) v3 v4 v6 v7 v60 v11 v12 v14 hT hon ?_ (Tm.lok_of_wt _ ?_) hpw ?_ ?_ ?_ ?_ ?_ ?_ J r hJ ?_ T VS h6 h7 h8 h13 h14
 ·try simp only
  omega
 ·try simp only
  omega
 ·try simp only
  omega
 ·try simp only
  omega
 ·try simp only
  omega
 ·try simp only
  omega
 ·intro l hl
  have hl:l ∈ sts:=hl
  have:=stSize_mem hl
  have:=sizes_len l
  omega
 ·have:=hf.steps; simp only; omega
 ·rw [hr,if_neg (by simp)]
theorem tells_wait (k a:Int) (n:ByteArray):TellsT [.int .i64 14,.int .i64 k,.int .i64 a,.str n,.int .i64 0,.int .i64 0,.str ⟨#[]⟩,.nils,.nils] ⟨14,k,a,n,.zero,[]⟩ where
 len:=rfl
 ok:=rfl
 pur:=fun H=>by rw [encT_eq]; rfl
 frz:=fun H=>rfl
theorem len_two {l:List Tm} (h:l.length = 2):∃ y z,l = [y,z]:=by
 rcases l with _ | ⟨y,_ | ⟨z,_ | ⟨w,l⟩⟩⟩
 ·simp at h
 ·simp at h
 ·exact ⟨y,z,rfl⟩
 ·simp at h
theorem stAt_nat {s:List (List Tm)} {a:Nat} (h:a < s.length):stAt s a = s[a]:=by rw [stAt,List.getD_eq_getElem?_getD,Int.toNat_natCast,List.getElem?_eq_getElem h]; rfl
theorem setFL_12 (f:Cfg) (j v:Nat) (k:Int):setL (encFL f j v) 12 [.int .i64 k] = encFL { f with key:=k } j v:=by rw [encFL_eq,encFL_eq]; rfl
theorem do_k35 (c:Cor) (f:Cfg) {vn sn:Int} (he:Env8 vn sn c.procs) (hf:OkF vn sn c.procs f) (hvn:vn ≤ 1000) (hsn:sn ≤ 1000) (st:Stp3) (hs:st ∈ f.t.enabled) (val:Int)
  (hval:(atT f.t st.2.1).kind = 2 ∨ (atT f.t st.2.1).kind = 9 → evE f.vars (atT f.t st.2.1).e = (val,0)) (v3 v4 v6 v7 v60 v11 v12 v14:Nat)
  (J:Nat → St → Prop) (r:AV) (hJ:∀ s,doI r s → J 0 s) (hr:r = didR (if (deed c.procs f (atT f.t st.2.1) st.2.2).e ≠ 0 then .no (deed c.procs f (atT f.t st.2.1) st.2.2).e
   else if 2000 < (putT f.t (toP f.t st) (deed c.procs f (atT f.t st.2.1) st.2.2).t).norm.size + stSize (deed c.procs f (atT f.t st.2.1) st.2.2).st then .no 11
   else ⟨⟨(putT f.t (toP f.t st) (deed c.procs f (atT f.t st.2.1) st.2.2).t).norm,(deed c.procs f (atT f.t st.2.1) st.2.2).vars,(deed c.procs f (atT f.t st.2.1) st.2.2).st,f.steps + 1,(deed c.procs f (atT f.t st.2.1) st.2.2).key⟩,(deed c.procs f (atT f.t st.2.1) st.2.2).ev,(deed c.procs f (atT f.t st.2.1) st.2.2).is,0⟩))
  (T:List (Nat × AV)) (VS:Nat → Nat) (h3:Am.look T 3 = .ref 3 v3 (.p 0)) (h6:Am.look T 6 = .ref 6 v6 (.p 0)) (h7:Am.look T 7 = .ref 7 v7 (.p 0)) (h8:Am.look T 8 = .bool false) (h11:Am.look T 11 = .ref 11 v11 (.p 0))
  (h12:Am.look T 12 = .ref 12 v12 (.p 0)) (h13:Am.look T 13 = .sl (encI st.2.1)) (h14:Am.look T 14 = .ref 14 v14 (.p 0)) (h15:Am.look T 15 = .int .i64 val) :
  W21_k35 (retK Tryz.prog [.cell 6 38,.cell 7 44,.tmp 8,.tmp 9] r) J
   ⟨Am.look T,hls [(3,.box v3 29 (encC c)),(4,.box v4 38 (encF f)),(6,.box v6 38 (encFL f 60 v60)),(7,.box v7 44 [.str ⟨#[]⟩,.int .i64 0,.int .i64 0]),(60,.row v60 3 1 (encI f.vars)),
  (11,.box v11 60 [.int .i64 st.1,.sl (encI st.2.1),.int .i64 st.2.2]),(12,.box v12 35 (encT (atT f.t st.2.1))),(14,.box v14 35 [.int .i64 0,.int .i64 0,.int .i64 0,.str ⟨#[]⟩,.int .i64 0,.int .i64 0,.str ⟨#[]⟩,.nils,.nils])] VS,noG⟩:=by
 have hfin:=fun t vars sts key ev is hd B11 x cs=>do_fin c f he hf hvn hsn st hs t vars sts key ev is hd B11 x cs v3 v4 v6 v7 v60 v11 v12 v14
 have hso:=step_ok f.t st (by rw [← enabled_eq hf.norm]; exact hs)
 have hxr:=at_right _ _ _ hso.act _ hf.t
 have hon:=actP_on hso.act
 have hpl:=onP_len hon
 have hwt:=hf.wt
 have hblk:=sp_blk f.t st.2.1 hon (by omega)
 obtain ⟨hok,⟨hk0,hk1⟩,-⟩:=right_ok hxr
 have hks:=hso.some
 rw [hso.kind] at hks
 have halt:=hso.alt
 rw [hso.kind] at halt
 have hto:toP f.t st = if (atT f.t st.2.1).kind = 8 then st.2.1.take (outT f.t st.2.1 0 0) else st.2.1:=rfl
 have hslen:=hf.slen hsn
 have hrow:=hf.srow
 have hkey:=hf.key
 have hsteps:=hf.steps
 have hst:=hf.st
 have hvars:=hf.vars
 have hxe:=allE_at hon hf.ex
 have hxw:=allE_wt _ hxe
 have hxs:=size_at hon
 have hfs:=hf.size
 have hfn:=stSize_nn f.st
 have wkey:IntKind.wrap .i64 (f.key + 1) = f.key + 1:=wrap64 (by omega) (by omega)
 have s10:=fun sts=>setFL_10 f 60 v60 sts
 have s12:=fun k=>setFL_12 f 60 v60 k
 have hkids:∀ y ∈ (atT f.t st.2.1).l,y.lok:=fun y hy=>Tm.lok_of_wt y (by have:=allE_wt y (allE_kid hxe y hy); have:=size_kid hy; omega)
 have hdeed:deed c.procs f (atT f.t st.2.1) st.2.2 = deed c.procs f (atT f.t st.2.1) st.2.2:=rfl
 generalize hx:atT f.t st.2.1 = x at *
 have cases:x.kind = 1 ∨ x.kind = 2 ∨ x.kind = 3 ∨ x.kind = 4 ∨ x.kind = 5 ∨ x.kind = 6 ∨ x.kind = 8 ∨ x.kind = 9 ∨ x.kind = 10 ∨ x.kind = 13:=by omega
 rcases cases with k | k | k | k | k | k | k | k | k | k
 ·-- TDo
  rw [k,if_neg (by omega)] at hto
  simp [-W21_k9,k,h3,h6,h7,h8,h11,h12,h13,h14,h15,wkey,s12]
  refine hfin ⟨14,f.key,x.a,x.name,.zero,[]⟩ f.vars f.st (f.key + 1) ⟨x.name,f.key,0⟩ true (by unfold deed; rw [if_pos k]) _ x _ (tells_wait _ _ _) J r hJ hr _ VS ?_ ?_ ?_ ?_ ?_
  ·simp [h6]
  ·simp [h7]
  ·simp
  ·simp [h13,hto]
  ·simp [h14]
 ·-- TSet
  rw [k,if_neg (by omega)] at hto
  have ha:=ok_a hok; rw [k] at ha
  have ha:=num1 (s:=sn) (p:=c.procs.length) ha
  have ha0:=ha.1
  have ha1:x.a < f.vars.length:=by omega
  have hlt:x.a.toNat < f.vars.length:=by omega
  have eset:(encI f.vars).set x.a.toNat [.int .i64 val] = encI (f.vars.set x.a.toNat val):=by simp [encI,List.map_set]
  simp [-W21_k9,k,h3,h6,h7,h8,h11,h12,h13,h14,h15,ha0,ha1,eset]
  refine hfin .skip (f.vars.set x.a.toNat val) f.st f.key .zero false (by unfold deed; rw [if_neg (by omega),if_pos k]; rw [hval (.inl k),if_pos rfl]) _ x _ tells_zero J r hJ hr _ VS ?_ ?_ ?_ ?_ ?_
  ·simp [h6]
  ·simp [h7]
  ·simp [h8]
  ·simp [h13,hto]
  ·simp [h14]
 ·-- TPush
  rw [k,if_neg (by omega)] at hto
  have ha:=ok_a hok; rw [k] at ha
  have ha:=num3 (v:=vn) (p:=c.procs.length) ha
  obtain ⟨a,hxa⟩:∃ a:Nat,x.a = a:=⟨x.a.toNat,by omega⟩
  have hl:=ok_l hok; rw [k] at hl
  have hl:(x.l.length:Int) = 1:=hl
  obtain ⟨y,hy⟩:∃ y,x.l = [y]:=List.length_eq_one_iff.1 (by omega)
  have hp:=sp_psh f.st a y (by omega) (by omega) (fun l hl=>by have:=hrow l hl; exact ⟨by omega,this.2⟩) (hkids y (by rw [hy]; simp))
  simp [-W21_k9,k,h3,h6,h7,h8,h11,h12,h13,h14,h15,hxa,hy]
  refine scall0_pure hp (by simp) (by simp) ?_
  simp [-W21_k9,k,h3,h6,h7,h8,h11,h12,h13,h14,h15,s10]
  refine hfin .skip f.vars (stPush f.st a y) f.key .zero false (by unfold deed; rw [if_neg (by omega),if_neg (by omega),if_pos k]; rw [hxa,hy]; rfl) _ x _ tells_zero J r hJ hr _ VS ?_ ?_ ?_ ?_ ?_
  ·simp [h6]
  ·simp [h7]
  ·simp [h8]
  ·simp [h13,hto]
  ·simp [h14]
 ·-- TReverse
  rw [k,if_neg (by omega)] at hto
  have ha:=ok_a hok; rw [k] at ha
  have ha:=num3 (v:=vn) (p:=c.procs.length) ha
  obtain ⟨a,hxa⟩:∃ a:Nat,x.a = a:=⟨x.a.toNat,by omega⟩
  have hal:a < f.st.length:=by omega
  have hp:=sp_rev f.st a hal (by omega) (fun l hl=>by have:=hrow l hl; exact ⟨by omega,this.2⟩)
  simp [-W21_k9,k,h3,h6,h7,h8,h11,h12,h13,h14,h15,hxa]
  refine scall_pure hp (by simp) (by simp) ?_
  simp [-W21_k9,k,h3,h6,h7,h8,h11,h12,h13,h14,h15,s10]
  refine hfin (stRev f.st[a]) f.vars (stAccept f.st a) f.key .zero false (by unfold deed; rw [if_neg (by omega),if_neg (by omega),if_neg (by omega),if_pos k]; rw [hxa,stAt_nat hal]) _ x _ (tells_enc _) J r hJ hr _ VS ?_ ?_ ?_ ?_ ?_
  ·simp [h6]
  ·simp [h7]
  ·simp [h8]
  ·simp [h13,hto]
  ·simp [h14]
 ·-- TAccept
  rw [k,if_neg (by omega)] at hto
  have ha:=ok_a hok; rw [k] at ha
  have ha:=num3 (v:=vn) (p:=c.procs.length) ha
  have hp:=sp_acc f.st x.a (by omega) (by omega) (fun l hl=>by have:=hrow l hl; exact ⟨by omega,this.2⟩)
  simp [-W21_k9,k,h3,h6,h7,h8,h11,h12,h13,h14,h15]
  refine scall_pure hp (by simp) (by simp) ?_
  simp [-W21_k9,k,h3,h6,h7,h8,h11,h12,h13,h14,h15,s10]
  refine hfin .skip f.vars (stAccept f.st x.a) f.key .zero false (by unfold deed; rw [if_neg (by omega),if_neg (by omega),if_neg (by omega),if_neg (by omega),if_pos k]) _ x _ tells_zero J r hJ hr _ VS ?_ ?_ ?_ ?_ ?_
  ·simp [h6]
  ·simp [h7]
  ·simp [h8]
  ·simp [h13,hto]
  ·simp [h14]
 ·-- TMerge
  rw [k,if_neg (by omega)] at hto
  have ha:=ok_a hok; rw [k] at ha
  have ha:=num3 (v:=vn) (p:=c.procs.length) ha
  have hb:=ok_b hok; rw [k] at hb
  have hb:=num3 (v:=vn) (p:=c.procs.length) hb
  obtain ⟨a,hxa⟩:∃ a:Nat,x.a = a:=⟨x.a.toNat,by omega⟩
  obtain ⟨b,hxb⟩:∃ b:Nat,x.b = b:=⟨x.b.toNat,by omega⟩
  have hp:Am.Spec Tryz.prog 34 [.sl (encSt f.st),.int .i64 a,.int .i64 b] (.sl (encSt (stMerge f.st a b))):=by
   by_cases hab:a = b
   ·subst hab
    have:=sp_mrg0 f.st a (by omega) (fun l hl=>by have:=hrow l hl; exact ⟨by omega,this.2⟩)
    rw [show stMerge f.st a a = f.st from by rw [stMerge,if_pos rfl]]
    exact this
   ·exact sp_mrg f.st a b hab (by omega) (by omega) (by omega) (fun l hl=>by have:=hrow l hl; exact ⟨by omega,this.2⟩)
  simp [-W21_k9,k,h3,h6,h7,h8,h11,h12,h13,h14,h15,hxa,hxb]
  refine scall_pure hp (by simp) (by simp) ?_
  simp [-W21_k9,k,h3,h6,h7,h8,h11,h12,h13,h14,h15,s10]
  refine hfin .skip f.vars (stMerge f.st a b) f.key .zero false (by unfold deed; rw [if_neg (by omega),if_neg (by omega),if_neg (by omega),if_neg (by omega),if_neg (by omega),if_pos k]; rw [hxa,hxb]) _ x _ tells_zero J r hJ hr _ VS ?_ ?_ ?_ ?_ ?_
  ·simp [h6]
  ·simp [h7]
  ·simp [h8]
  ·simp [h13,hto]
  ·simp [h14]
 ·-- TExit
  rw [k,if_pos rfl] at hto
  simp [-W21_k9,k,h3,h6,h7,h8,h11,h12,h13,h14,h15]
  refine scall_pure hblk (by simp) (by simp) ?_
  simp [-W21_k9,k,h3,h6,h7,h8,h11,h12,h13,h14,h15]
  refine hfin .skip f.vars f.st f.key .zero false (by unfold deed; rw [if_neg (by omega),if_neg (by omega),if_neg (by omega),if_neg (by omega),if_neg (by omega),if_neg (by omega),if_neg (by omega),if_neg (by omega),if_neg (by omega)]) _ x _ tells_zero J r hJ hr _ VS ?_ ?_ ?_ ?_ ?_
  ·simp [h6]
  ·simp [h7]
  ·simp [h8]
  ·simp [h13,hto]
  ·simp [h14]
 ·-- TIf
  rw [k,if_neg (by omega)] at hto
  have hl:=ok_l hok; rw [k] at hl
  have hl:(x.l.length:Int) = 2:=hl
  obtain ⟨y,z,hy⟩:∃ y z,x.l = [y,z]:=len_two (by omega)
  by_cases hv:val = 0
  ·simp [-W21_k9,k,h3,h6,h7,h8,h11,h12,h13,h14,h15,hy,hv]
   refine hfin z f.vars f.st f.key .zero false (by unfold deed; rw [if_neg (by omega),if_neg (by omega),if_neg (by omega),if_neg (by omega),if_neg (by omega),if_neg (by omega),if_pos k]; rw [hval (.inr k),hy,if_neg (by simp [hv])]; rfl) _ x _ (tells_enc _) J r hJ hr _ VS ?_ ?_ ?_ ?_ ?_
   ·simp [h6]
   ·simp [h7]
   ·simp [h8]
   ·simp [h13,hto]
   ·simp [h14]
  ·simp [-W21_k9,k,h3,h6,h7,h8,h11,h12,h13,h14,h15,hy,hv]
   refine hfin y f.vars f.st f.key .zero false (by unfold deed; rw [if_neg (by omega),if_neg (by omega),if_neg (by omega),if_neg (by omega),if_neg (by omega),if_neg (by omega),if_pos k]; rw [hval (.inr k),hy,if_pos (by simpa using hv)]; rfl) _ x _ (tells_enc _) J r hJ hr _ VS ?_ ?_ ?_ ?_ ?_
   ·simp [h6]
   ·simp [h7]
   ·simp [h8]
   ·simp [h13,hto]
   ·simp [h14]
 ·-- TChoose
  rw [k,if_neg (by omega)] at hto
  have hl:=ok_l hok; rw [k] at hl
  have hl:(x.l.length:Int) = 2:=hl
  obtain ⟨y,z,hy⟩:∃ y z,x.l = [y,z]:=len_two (by omega)
  rw [if_pos k] at halt
  have h01:st.2.2 = 0 ∨ st.2.2 = 1:=by omega
  rcases h01 with hv | hv
  ·simp [-W21_k9,k,h3,h6,h7,h8,h11,h12,h13,h14,h15,hy,hv]
   refine hfin y f.vars f.st f.key .zero false (by unfold deed; rw [if_neg (by omega),if_neg (by omega),if_neg (by omega),if_neg (by omega),if_neg (by omega),if_neg (by omega),if_neg (by omega),if_pos k]; rw [hv,hy]; rfl) _ x _ (tells_enc _) J r hJ hr _ VS ?_ ?_ ?_ ?_ ?_
   ·simp [h6]
   ·simp [h7]
   ·simp [h8]
   ·simp [h13,hto]
   ·simp [h14]
  ·simp [-W21_k9,k,h3,h6,h7,h8,h11,h12,h13,h14,h15,hy,hv]
   refine hfin z f.vars f.st f.key .zero false (by unfold deed; rw [if_neg (by omega),if_neg (by omega),if_neg (by omega),if_neg (by omega),if_neg (by omega),if_neg (by omega),if_neg (by omega),if_pos k]; rw [hv,hy]; rfl) _ x _ (tells_enc _) J r hJ hr _ VS ?_ ?_ ?_ ?_ ?_
   ·simp [h6]
   ·simp [h7]
   ·simp [h8]
   ·simp [h13,hto]
   ·simp [h14]
 ·-- TCall
  rw [k,if_neg (by omega)] at hto
  have ha:=ok_a hok; rw [k] at ha
  have ha:=num4 (v:=vn) (s:=sn) ha
  obtain ⟨a,hxa⟩:∃ a:Nat,x.a = a:=⟨x.a.toNat,by omega⟩
  have hal:a < c.procs.length:=by omega
  have hix:ixRows (c.procs.map encT) (a:Int) 9 = some (.elt (encT c.procs[a]) 0):=by rw [ixRows_nat]; simp [List.getElem?_eq_getElem hal]
  simp [-W21_k9,k,h3,h6,h7,h8,h11,h12,h13,h14,h15,hxa,hix]
  refine hfin c.procs[a] f.vars f.st f.key .zero false (by unfold deed; rw [if_neg (by omega),if_neg (by omega),if_neg (by omega),if_neg (by omega),if_neg (by omega),if_neg (by omega),if_neg (by omega),if_neg (by omega),if_pos k]; rw [hxa,Int.toNat_natCast,List.getElem?_eq_getElem hal]; rfl) _ x _ (tells_enc _) J r hJ hr _ VS ?_ ?_ ?_ ?_ ?_
  ·simp [h6]
  ·simp [h7]
  ·simp [h8]
  ·simp [h13,hto]
  ·simp [h14]
theorem sp_do (c:Cor) (f:Cfg) (pick:Int) {vn sn:Int} (he:Env8 vn sn c.procs) (hf:OkF vn sn c.procs f) (hvn:vn ≤ 1000) (hsn:sn ≤ 1000) :
  Am.Spec Tryz.prog 21 [.agg (encC c),.agg (encF f),.int .i64 pick] (.tup [.agg (encF (doM c.procs f pick).f),.agg (encEv (doM c.procs f pick).ev),.bool (doM c.procs f pick).is,.int .i64 (doM c.procs f pick).e]):=by
 have hwt:=hf.wt
 have henb:=sp_enb f.t (by omega)
 have ho:=hs_rown f (by omega) (by have:=hf.vlen hvn; omega) (by have:=hf.slen hsn; omega) (fun l hl=>by have:=hf.srow l hl; exact ⟨by omega,this.2⟩)
 rw [hf.norm] at ho
 rw [doM_eq hf.norm]
 by_cases h0:pick < 0
 ·rw [if_pos h0]
  simp only [no_f,no_ev,no_is,no_e,encF_zero,encEv_zero]
  refine W21_S (by simp) ?_
  intro vs
  simp
  refine sScope_straight fun J=>?_
  simp
  refine scall_pure henb (by simp) (by simp) ?_
  simp [h0,retW_eq]
 rw [if_neg h0]
 by_cases h1:(f.t.enabled.length:Int) ≤ pick
 ·rw [List.getElem?_eq_none (by omega)]
  simp only [no_f,no_ev,no_is,no_e,encF_zero,encEv_zero]
  refine W21_S (by simp) ?_
  intro vs
  simp
  refine sScope_straight fun J=>?_
  simp
  refine scall_pure henb (by simp) (by simp) ?_
  simp [h0,h1,retW_eq]
 have hlt:pick.toNat < f.t.enabled.length:=by omega
 rw [List.getElem?_eq_getElem hlt]
 simp only
 by_cases h2:5000 ≤ f.steps
 ·rw [if_pos h2]
  simp only [no_f,no_ev,no_is,no_e,encF_zero,encEv_zero]
  refine W21_S (by simp) ?_
  intro vs
  simp
  refine sScope_straight fun J=>?_
  simp
  refine scall_pure henb (by simp) (by simp) ?_
  simp [h0,h1,h2,retW_eq]
 rw [if_neg h2]
 have hs:=List.getElem_mem hlt
 obtain ⟨i,hi⟩:∃ i:Nat,pick = i:=⟨pick.toNat,by omega⟩
 subst hi
 have hlt':i < f.t.enabled.length:=hlt
 generalize hst:f.t.enabled[(i:Int).toNat] = st at *
 have hix:ixRows (f.t.enabled.map encS) (i:Int) 3 = some (.elt (encS st) 0):=by
  rw [ixRows_nat]; simp [List.getElem?_eq_getElem hlt',← hst]
 have hso:=step_ok f.t st (by rw [← enabled_eq hf.norm]; exact hs)
 have hon:=actP_on hso.act
 have hpl:=onP_len hon
 have hat:=sp_rat f.t st.2.1 hon (by omega)
 have hxr:=at_right _ _ _ hso.act _ hf.t
 have hxe:=allE_at hon hf.ex
 obtain ⟨hok,-,-⟩:=right_ok hxr
 have hev:(atT f.t st.2.1).kind = 2 ∨ (atT f.t st.2.1).kind = 9 → Am.Spec Tryz.prog 47 [.agg (encE (atT f.t st.2.1).e),.sl (encI f.vars)] (encR (evE f.vars (atT f.t st.2.1).e)):=fun hk=>by
  have h:=ok_e hok
  have ke:kE (atT f.t st.2.1).kind = true:=decide_eq_true hk
  rw [if_pos ke,← hf.vars] at h
  refine sp_eev f.vars hf.nums (hf.vlen hvn) _ h fun y hy=>?_
  rw [allE_eq,Bool.and_eq_true,exN,Bool.and_eq_true] at hxe
  exact List.all_eq_true.1 hxe.1.2 y hy
 have hK:=fun val hval v3 v4 v6 v7 v60 v11 v12 v14=>do_k35 c f he hf hvn hsn st hs val hval v3 v4 v6 v7 v60 v11 v12 v14
 have ho:Am.HSpecL Tryz.prog 41 [.agg (encF f)] [] fun r l'=>∃ v,r = .agg (encFL f 8 v) ∧ l' = [(8,.row v 3 1 (encI f.vars))]:=ho
 obtain ⟨r,hr⟩:∃ r,r = didR (if (deed c.procs f (atT f.t st.2.1) st.2.2).e ≠ 0 then .no (deed c.procs f (atT f.t st.2.1) st.2.2).e
   else if 2000 < (putT f.t (toP f.t st) (deed c.procs f (atT f.t st.2.1) st.2.2).t).norm.size + stSize (deed c.procs f (atT f.t st.2.1) st.2.2).st then .no 11
   else ⟨⟨(putT f.t (toP f.t st) (deed c.procs f (atT f.t st.2.1) st.2.2).t).norm,(deed c.procs f (atT f.t st.2.1) st.2.2).vars,(deed c.procs f (atT f.t st.2.1) st.2.2).st,f.steps + 1,(deed c.procs f (atT f.t st.2.1) st.2.2).key⟩,(deed c.procs f (atT f.t st.2.1) st.2.2).ev,(deed c.procs f (atT f.t st.2.1) st.2.2).is,0⟩):=⟨_,rfl⟩
 show Am.Spec Tryz.prog 21 [.agg (encC c),.agg (encF f),.int .i64 (i:Nat)] (didR (if (deed c.procs f (atT f.t st.2.1) st.2.2).e ≠ 0 then .no (deed c.procs f (atT f.t st.2.1) st.2.2).e
   else if 2000 < (putT f.t (toP f.t st) (deed c.procs f (atT f.t st.2.1) st.2.2).t).norm.size + stSize (deed c.procs f (atT f.t st.2.1) st.2.2).st then .no 11
   else ⟨⟨(putT f.t (toP f.t st) (deed c.procs f (atT f.t st.2.1) st.2.2).t).norm,(deed c.procs f (atT f.t st.2.1) st.2.2).vars,(deed c.procs f (atT f.t st.2.1) st.2.2).st,f.steps + 1,(deed c.procs f (atT f.t st.2.1) st.2.2).key⟩,(deed c.procs f (atT f.t st.2.1) st.2.2).ev,(deed c.procs f (atT f.t st.2.1) st.2.2).is,0⟩))
 rw [← hr]
 by_cases hk:(atT f.t st.2.1).kind = 2 ∨ (atT f.t st.2.1).kind = 9
 ·have hev:=hev hk
  have hd:(deed c.procs f (atT f.t st.2.1) st.2.2).e = (evE f.vars (atT f.t st.2.1).e).2:=by
   rcases hk with k | k
   ·unfold deed
    rw [if_neg (by omega),if_pos k]
    split
    ·rename_i h; exact h.symm
    ·rfl
   ·unfold deed
    rw [if_neg (by omega),if_neg (by omega),if_neg (by omega),if_neg (by omega),if_neg (by omega),if_neg (by omega),if_pos k]
  have hm:(decide ((atT f.t st.2.1).kind = 2) || decide ((atT f.t st.2.1).kind = 9)) = true:=by simpa using hk
  by_cases hz:(evE f.vars (atT f.t st.2.1).e).2 = 0
  ·have hK:=hK (evE f.vars (atT f.t st.2.1).e).1 (fun _=>by rw [← hz])
   generalize atT f.t st.2.1 = x at *
   generalize evE f.vars x.e = ev at *
   simp only [encR] at hev
   rcases hk with k | k
   ·refine W21_S (by simp) ?_
    intro vs
    simp
    refine sScope_out (doI r) (fun J hJ=>?_) (fun J s h=>do_g51 _ J s h)
    simp
    refine scall_pure henb (by simp) (by simp) ?_
    simp [h0,h1,h2]
    refine scall_heap [] [(60,8)] ho (by simp) (by simp) (by simp) ?_
    intro r' l' VS' hrl
    obtain ⟨v,rfl,rfl⟩:=hrl
    refine ⟨by simp [encFL_okk],?_⟩
    simp [encFL_ren,hix,encS]
    refine scall_pure hat (by simp) (by simp) ?_
    simp [-W21_k35,-W21_k9,k]
    refine scall_flat hev (by simp) (by simp) rfl ?_
    simp [-W21_k35,-W21_k9,k,hz]
    refine hK _ _ _ _ _ _ _ _ J r hJ hr _ VS' ?_ ?_ ?_ ?_ ?_ ?_ ?_ ?_ ?_
    all_goals simp
   ·refine W21_S (by simp) ?_
    intro vs
    simp
    refine sScope_out (doI r) (fun J hJ=>?_) (fun J s h=>do_g51 _ J s h)
    simp
    refine scall_pure henb (by simp) (by simp) ?_
    simp [h0,h1,h2]
    refine scall_heap [] [(60,8)] ho (by simp) (by simp) (by simp) ?_
    intro r' l' VS' hrl
    obtain ⟨v,rfl,rfl⟩:=hrl
    refine ⟨by simp [encFL_okk],?_⟩
    simp [encFL_ren,hix,encS]
    refine scall_pure hat (by simp) (by simp) ?_
    simp [-W21_k35,-W21_k9,k]
    refine scall_flat hev (by simp) (by simp) rfl ?_
    simp [-W21_k35,-W21_k9,k,hz]
    refine hK _ _ _ _ _ _ _ _ J r hJ hr _ VS' ?_ ?_ ?_ ?_ ?_ ?_ ?_ ?_ ?_
    all_goals simp
  ·generalize atT f.t st.2.1 = x at *
   generalize evE f.vars x.e = ev at *
   simp only [encR] at hev
   rcases hk with k | k
   ·refine W21_S (by simp) ?_
    intro vs
    simp
    refine sScope_out (doI r) (fun J hJ=>?_) (fun J s h=>do_g51 _ J s h)
    simp
    refine scall_pure henb (by simp) (by simp) ?_
    simp [h0,h1,h2]
    refine scall_heap [] [(60,8)] ho (by simp) (by simp) (by simp) ?_
    intro r' l' VS' hrl
    obtain ⟨v,rfl,rfl⟩:=hrl
    refine ⟨by simp [encFL_okk],?_⟩
    simp [encFL_ren,hix,encS]
    refine scall_pure hat (by simp) (by simp) ?_
    simp [-W21_k35,-W21_k9,k]
    refine scall_flat hev (by simp) (by simp) rfl ?_
    simp [-W21_k35,-W21_k9,k,hz]
    refine hJ _ ⟨_,VS',ev.2,c,f,f,f.vars,.zero,[.int .i64 st.1,.sl (encI st.2.1),.int .i64 st.2.2],x,[.int .i64 0,.int .i64 0,.int .i64 0,.str ⟨#[]⟩,.int .i64 0,.int .i64 0,.str ⟨#[]⟩,.nils,.nils],_,_,_,_,_,_,_,_,rfl,?_,?_,?_,?_⟩
    ·simp
    ·simp
    ·simp
    ·rw [hr,hd,if_pos hz]
   ·refine W21_S (by simp) ?_
    intro vs
    simp
    refine sScope_out (doI r) (fun J hJ=>?_) (fun J s h=>do_g51 _ J s h)
    simp
    refine scall_pure henb (by simp) (by simp) ?_
    simp [h0,h1,h2]
    refine scall_heap [] [(60,8)] ho (by simp) (by simp) (by simp) ?_
    intro r' l' VS' hrl
    obtain ⟨v,rfl,rfl⟩:=hrl
    refine ⟨by simp [encFL_okk],?_⟩
    simp [encFL_ren,hix,encS]
    refine scall_pure hat (by simp) (by simp) ?_
    simp [-W21_k35,-W21_k9,k]
    refine scall_flat hev (by simp) (by simp) rfl ?_
    simp [-W21_k35,-W21_k9,k,hz]
    refine hJ _ ⟨_,VS',ev.2,c,f,f,f.vars,.zero,[.int .i64 st.1,.sl (encI st.2.1),.int .i64 st.2.2],x,[.int .i64 0,.int .i64 0,.int .i64 0,.str ⟨#[]⟩,.int .i64 0,.int .i64 0,.str ⟨#[]⟩,.nils,.nils],_,_,_,_,_,_,_,_,rfl,?_,?_,?_,?_⟩
    ·simp
    ·simp
    ·simp
    ·rw [hr,hd,if_pos hz]
 ·have hK:=hK 0 (fun h=>absurd h hk)
  have n2:¬ (atT f.t st.2.1).kind = 2:=fun h=>hk (.inl h)
  have n9:¬ (atT f.t st.2.1).kind = 9:=fun h=>hk (.inr h)
  generalize atT f.t st.2.1 = x at *
  refine W21_S (by simp) ?_
  intro vs
  simp
  refine sScope_out (doI r) (fun J hJ=>?_) (fun J s h=>do_g51 _ J s h)
  simp
  refine scall_pure henb (by simp) (by simp) ?_
  simp [h0,h1,h2]
  refine scall_heap [] [(60,8)] ho (by simp) (by simp) (by simp) ?_
  intro r' l' VS' hrl
  obtain ⟨v,rfl,rfl⟩:=hrl
  refine ⟨by simp [encFL_okk],?_⟩
  simp [encFL_ren,hix,encS]
  refine scall_pure hat (by simp) (by simp) ?_
  simp [-W21_k35,-W21_k9,n2,n9]
  refine hK _ _ _ _ _ _ _ _ J r hJ hr _ VS' ?_ ?_ ?_ ?_ ?_ ?_ ?_ ?_ ?_
  all_goals simp
end Go.Proofs.YtnngddgaobhkiaaGreat
namespace Go.Proofs.YtnngddgaobhkiaaGreat
open Go Go.Am Go.RowKit
attribute [local simp] W11 W11_rs
structure CorOk (c:Cor):Prop where
 chk:chkM c = true
 ex:∀ t ∈ c.procs,allE t = true
 nums:∀ n ∈ c.vars,isI64 n = true
abbrev OkC (c:Cor) (f:Cfg):Prop:=OkF c.vars.length c.stacks c.procs f
def begM (c:Cor):Cfg:=⟨((c.procs[c.main.toNat]?).getD .skip).norm,c.vars,List.replicate c.stacks.toNat [],0,0⟩
structure ChkOk (c:Cor):Prop where
 vars:(c.vars.length:Int) ≤ 20
 st:0 ≤ c.stacks ∧ c.stacks ≤ 10
 procs:1 ≤ (c.procs.length:Int) ∧ (c.procs.length:Int) ≤ 20
 main:0 ≤ c.main ∧ c.main < c.procs.length
 all:∀ t ∈ c.procs,t.size ≤ 2000 ∧ tmAny t = false ∧ tmRight c.vars.length c.stacks c.procs.length t false = true
theorem chk_ok {c:Cor} (h:chkM c = true):ChkOk c:=by
 unfold chkM at h
 simp only [Bool.and_eq_true,decide_eq_true_eq,List.all_eq_true] at h
 obtain ⟨h1,h2,h3,h4,h5,h6,h7,h8⟩:=h
 refine ⟨h1,⟨h2,h3⟩,⟨h4,h5⟩,⟨h6,h7⟩,fun t ht=>?_⟩
 have:=h8 t ht
 unfold chkT at this
 simp only [Bool.and_eq_true,decide_eq_true_eq,Bool.not_eq_true'] at this
 exact this
theorem chk_of {c:Cor} (h:ChkOk c):chkM c = true:=by
 unfold chkM
 simp only [Bool.and_eq_true,decide_eq_true_eq,List.all_eq_true]
 refine ⟨h.vars,h.st.1,h.st.2,h.procs.1,h.procs.2,h.main.1,h.main.2,fun t ht=>?_⟩
 have:=h.all t ht
 unfold chkT
 simp only [Bool.and_eq_true,decide_eq_true_eq,Bool.not_eq_true']
 exact this
theorem CorOk.env {c:Cor} (h:CorOk c):Env8 c.vars.length c.stacks c.procs where
 right:=fun t ht=>by
  have:=(chk_ok h.chk).all t ht
  rw [tmRight_pushed,this.2.2,this.2.1]; rfl
 small:=h.ex
 size:=fun t ht=>((chk_ok h.chk).all t ht).1
theorem main_get {c:Cor} (h:CorOk c):∃ (m:Nat) (hm:m < c.procs.length),c.main = m ∧ (c.procs[c.main.toNat]?).getD .skip = c.procs[m]:=by
 have:=(chk_ok h.chk).main
 refine ⟨c.main.toNat,by omega,by omega,?_⟩
 rw [List.getElem?_eq_getElem (by omega)]; rfl
theorem CorOk.wt {c:Cor} (h:CorOk c):∀ t ∈ c.procs,t.lok ∧ t.wt ≤ 20010000:=fun t ht=>by
 have h1:=allE_wt t (h.ex t ht)
 have h2:=((chk_ok h.chk).all t ht).1
 exact ⟨Tm.lok_of_wt t (by omega),by omega⟩
theorem stSize_rep (n:Nat):stSize (List.replicate n []) = 0:=by
 induction n with
 | zero=>rfl
 | succ n ih=>simp only [stSize,List.replicate_succ,List.map_cons,List.sum_cons,Tm.sizes] at *; omega
theorem beg_ok {c:Cor} (h:CorOk c):OkC c (begM c):=by
 obtain ⟨m,hm,e,eg⟩:=main_get h
 have hk:=chk_ok h.chk
 have hin:=List.getElem_mem hm
 have ha:=hk.all _ hin
 have hx:=h.ex _ hin
 have ho:=right_okN _ _ _ _ _ ha.2.2
 have hn:=norm_size _ ho
 unfold OkC begM
 rw [eg]
 refine ⟨right_norm _ _ _ _ _ ha.2.2,allE_norm _ ho hx,norm_norm _ ho,rfl,h.nums,?_,?_,?_,by simp only; omega,by simp only; omega⟩
 ·have:=hk.st; simp only [List.length_replicate]; omega
 ·intro l hl t ht
  rw [(List.mem_replicate.1 hl).2] at ht
  simp at ht
 ·simp only [stSize_rep]; omega
theorem sp_begC {c:Cor} (h:CorOk c):Am.Spec Tryz.prog 14 [.agg (encC c)] (.agg (encF (begM c))):=by
 obtain ⟨m,hm,e,eg⟩:=main_get h
 have hk:=chk_ok h.chk
 have:=(h.wt _ (List.getElem_mem hm)).2
 have:=sp_beg c m c.stacks.toNat e hm (by have:=hk.st; omega) (by have:=hk.st; omega) (by omega) (by have:=hk.vars; omega)
 unfold begM
 rw [eg]
 exact this
theorem sp_doC {c:Cor} (h:CorOk c) {f:Cfg} (hf:OkC c f) (pick:Int):Am.Spec Tryz.prog 21 [.agg (encC c),.agg (encF f),.int .i64 pick] (didR (doM c.procs f pick)):=
 sp_do c f pick h.env hf (by have:=(chk_ok h.chk).vars; omega) (by have:=(chk_ok h.chk).st; omega)
def toldR (d:Told):AV:=.tup [.agg (encF d.f),.agg (encEv d.ev),.bool d.is]
theorem sp_tellC {c:Cor} (h:CorOk c) {f:Cfg} (hf:OkC c f) (key value:Int):Am.Spec Tryz.prog 19 [.agg (encC c),.agg (encF f),.int .i64 key,.int .i64 value] (toldR (tellM f key value)):=by
 have hk:=chk_ok h.chk
 have hwt:=hf.wt
 have hv:=hf.vlen (by have:=hk.vars; omega)
 have hs:=hf.slen (by have:=hk.st; omega)
 have hn:=hf.norm
 refine sp_tell c f key value (by omega) ?_ ?_ (by omega) (by omega) (fun l hl=>by have:=hf.srow l hl; exact ⟨by omega,this.2⟩) ?_
 ·rw [hn]; omega
 ·rw [hn]; exact Tm.lok_of_wt _ (by omega)
 ·rw [hn]
  intro p hp
  have h1:=tell_put hf hp
  refine ⟨(tell_b hf hp).1,?_⟩
  have:=allE_wt _ h1.2.1
  have:=hf.size
  have:=stSize_nn f.st
  omega
theorem sp_chkC {c:Cor} (h:CorOk c):Am.Spec Tryz.prog 17 [.agg (encC c)] (.bool true):=by
 rw [← h.chk]
 exact sp_chk c fun t ht=>⟨(h.wt t ht).1,by have:=(h.wt t ht).2; omega⟩
@[simp] theorem nrmL_encF (f:Cfg):nrmL (encF f) = encF f:=by rw [encF_eq,encSt_Q]; simp [nrmL,nrm,nrmLL_map,encI]
@[simp] theorem nrmL_encEv (ev:Ev):nrmL (encEv ev) = encEv ev:=rfl
@[simp] theorem nrmL_encC (c:Cor):nrmL (encC c) = encC c:=by simp [encC,nrmL,nrm,nrmLL_map,encI]
def tPay:Tm:=⟨1,-1,0,⟨#[112,97,121]⟩,.zero,[]⟩
def cPay:Cor:=⟨[],0,[tPay],0⟩
theorem pay_ok:CorOk cPay where
 chk:=by decide +kernel
 ex:=by decide +kernel
 nums:=by decide +kernel
theorem encC_pay:encC cPay = [.sl [],.int .i64 0,.sl [encT tPay],.int .i64 0]:=rfl
theorem encT_pay:encT tPay = [.int .i64 1,.int .i64 (-1),.int .i64 0,.str ⟨#[112,97,121]⟩,.int .i64 0,.int .i64 0,.str ⟨#[]⟩,.sl [],.sl []]:=by rw [encT_eq]; rfl
structure KnoT (g:Cfg) (ev:Ev) (is:Bool) (e e1:Int) (h:Told):Prop where
 e:e = 0
 is:is = true
 name:ev.name = ⟨#[112,97,121]⟩
 key:g.key = 1
 e1:e1 = 12
 has:h.is = true
 val:h.ev.value = 7
 kind:h.f.t.kind = 0
theorem kno_t:KnoT (doM [tPay] (begM cPay) 0).f (doM [tPay] (begM cPay) 0).ev (doM [tPay] (begM cPay) 0).is (doM [tPay] (begM cPay) 0).e (doM [tPay] (begM cPay) 1).e (tellM (doM [tPay] (begM cPay) 0).f 0 7):=by
 constructor <;> decide +kernel
theorem sp_kno8:Am.Spec Tryz.prog 11 [] (.bool true):=by
 have ht:=kno_t
 have hb:=beg_ok pay_ok
 have h1:=sp_begC pay_ok
 have h2:=sp_doC pay_ok hb 0
 have h3:=sp_doC pay_ok hb 1
 have h4:=sp_tellC pay_ok (doM_ok pay_ok.env hb 0 ht.e) 0 7
 have h5:=sp_chkC pay_ok
 rw [show cPay.procs = [tPay] from rfl] at h2 h3 h4
 generalize doM [tPay] (begM cPay) 0 = d at *
 generalize doM [tPay] (begM cPay) 1 = d1 at *
 generalize begM cPay = f at *
 generalize tellM d.f 0 7 = t at *
 obtain ⟨a1,a2,a3,a4,a5,a6,a7,a8⟩:=ht
 simp only [didR,toldR,encC_pay,encT_pay] at h1 h2 h3 h4 h5
 refine W11_S (by simp) ?_
 intro vs
 simp
 refine scall_nrm h1 (by simp [nrmL,nrm,nrmLL]) (by simp [closedL,closedLL]) ?_
 simp
 refine scall_nrm h2 (by simp [nrmL,nrm,nrmLL]) (by simp [closedL,closedLL]) ?_
 simp
 refine scall_nrm h3 (by simp [nrmL,nrm,nrmLL]) (by simp [closedL,closedLL]) ?_
 simp
 refine scall_nrm h4 (by simp [nrmL,nrm,nrmLL]) (by simp [closedL,closedLL]) ?_
 simp
 refine scall_nrm h5 (by simp [nrmL,nrm,nrmLL]) (by simp [closedL,closedLL]) ?_
 simp [a1,a2,a3,a4,a5,a6,a7,a8,encEv,retW_eq]
theorem OkF.enbWt {vn sn:Int} {ps:List Tm} {f:Cfg} (hf:OkF vn sn ps f):f.t.wt ≤ 100000000 ∧ okN f.t = true:=⟨by have:=hf.wt; omega,right_okN _ _ _ _ _ hf.t⟩
end Go.Proofs.YtnngddgaobhkiaaGreat
namespace Go.Proofs.YtnngddgaobhkiaaGreat
open Go Go.Am Go.RowKit
attribute [local simp] W62 W62_rs W62_b1 W62_b4 W62_b7 W62_b10 W62_b11 W62_b12 W62_b13 W62_b14 W62_b16 W62_b17 W62_b18 W62_b19 W62_b21 W62_k2 W62_k9 W62_k20 W62_l6 W25 W25_rs
def enS (t:Tm) (p:List Int) (w:Bool):List Stp3:=(t.pls p w).flatMap stepsAt
def enK (t:Tm) (p:List Int) (w:Bool) (n:Nat):List Stp3:=(Tm.plsL t.kind (t.l.take n) p w 0).flatMap stepsAt
theorem plsL_app (k:Int):∀ (l m:List Tm) (p:List Int) (w:Bool) (i:Nat),Tm.plsL k (l ++ m) p w i = Tm.plsL k l p w i ++ Tm.plsL k m p w (i + l.length)
 | [],m,p,w,i=>by simp [Tm.plsL]
 | x :: l,m,p,w,i=>by
  simp only [List.cons_append,Tm.plsL,plsL_app k l m p w (i + 1),List.append_assoc,List.length_cons]
  rw [show i + 1 + l.length = i + (l.length + 1) by omega]
theorem enK_succ (t:Tm) (p:List Int) (w:Bool) (i:Nat) (h:i < t.l.length):enK t p w (i + 1) = enK t p w i ++ enS t.l[i] (p ++ [(i:Int)]) (kidW t.kind t.l[i] w):=by
 unfold enK enS
 rw [List.take_succ_eq_append_getElem h,plsL_app,List.flatMap_append]
 simp only [Tm.plsL,List.append_nil,List.length_take,Nat.min_eq_left (Nat.le_of_lt h),Nat.zero_add]
theorem enS_kids (t:Tm) (p:List Int) (w:Bool) (h:okN t = true):enS t p w = stepsAt (t,p,w) ++ enK t p w (aN t):=by
 unfold enS enK
 rw [Tm.pls_eq,List.flatMap_cons]
 have:t.kidsP = aN t:=by
  unfold Tm.kidsP aN
  by_cases k12:t.kind = 12
  ·obtain ⟨x,y,hl,-⟩:=okN_two h (.inl k12)
   rw [if_pos (.inl k12),if_pos (.inl k12),hl]; rfl
  ·by_cases k7:t.kind = 7
   ·obtain ⟨x,hl,-⟩:=okN_one h k7
    rw [if_pos (.inr k7),if_pos (.inr k7),hl]; rfl
   ·by_cases k11:t.kind = 11
    ·obtain ⟨x,y,hl,-⟩:=okN_two h (.inr k11)
     rw [if_neg (by omega),if_pos k11,if_neg (by omega),if_pos k11,hl]; rfl
    ·rw [if_neg (by omega),if_neg k11,if_neg (by omega),if_neg k11]
 rw [this]
theorem steps_le:∀ l:List (Tm × List Int × Bool),(l.flatMap stepsAt).length ≤ 2 * l.length
 | []=>by simp
 | x :: l=>by
  have:=steps_le l
  have:=stpN_le x
  simp only [List.flatMap_cons,List.length_append,List.length_cons,stepsAt,stp_len] at *
  omega
theorem enS_len (t:Tm) (p:List Int) (w:Bool):(enS t p w).length ≤ 2 * t.wt:=by
 have:=steps_le (t.pls p w)
 have:=t.pls_len p w
 unfold enS; omega
theorem wts_take (l:List Tm) (n:Nat):Tm.wts (l.take n) ≤ Tm.wts l:=by
 induction l generalizing n with
 | nil=>simp
 | cons x l ih=>cases n with
  | zero=>simp [Tm.wts]
  | succ n=>have:=ih n; simp only [List.take_succ_cons,Tm.wts]; omega
theorem enK_len (t:Tm) (p:List Int) (w:Bool) (n:Nat):(enK t p w n).length ≤ 2 * t.wt:=by
 have:=steps_le (Tm.plsL t.kind (t.l.take n) p w 0)
 have:=Tm.plsL_len t.kind (t.l.take n) p w 0
 have:=wts_take t.l n
 have:=t.wt_eq
 unfold enK; omega
theorem encSs_row:∀ l:List Stp3,((l.map encS).all fun r=>r.length == 3 && okCells r) = true
 | []=>rfl
 | x :: l=>by
  have h:((encS x).length == 3 && okCells (encS x)) = true:=rfl
  simp only [List.map_cons,List.all_cons,h,encSs_row l,Bool.and_self]
theorem sp_en7 (t:Tm) (p:List Int) (w:Bool) (h:okN t = true) (hw:p.length + t.wt ≤ 100000000):Am.Spec Tryz.prog 62 [.agg (encT t),.sl (encI p),.bool !w] (.sl ((enS t p w).map encS)):=by
 have ih:∀ (i:Nat) (hi:i < t.l.length) (w':Bool),Am.Spec Tryz.prog 62 [.agg (encT t.l[i]),.sl (encI (p ++ [(i:Int)])),.bool !w'] (.sl ((enS t.l[i] (p ++ [(i:Int)]) w').map encS)):=fun i hi w'=>
  sp_en7 t.l[i] (p ++ [(i:Int)]) w' (okN_mem h _ (List.getElem_mem hi)) (by
   have:=Tm.wts_mem (List.getElem_mem hi)
   have:=t.wt_eq
   simp only [List.length_append,List.length_cons,List.length_nil]; omega)
 rw [enS_kids t p w h]
 by_cases k0:t.kind = 0
 ·have e:stepsAt (t,p,w) ++ enK t p w (aN t) = []:=by
   simp [stepsAt,stpN,k0,stp_zero,aN,enK,Tm.plsL]
  rw [e]
  refine W62_S (by simp) ?_
  intro vs
  simp
  rw [decide_eq_true (by omega)]
  simp [k0,retW_eq]
 by_cases k14:t.kind = 14
 ·have e:stepsAt (t,p,w) ++ enK t p w (aN t) = []:=by
   simp [stepsAt,stpN,k14,stp_zero,aN,enK,Tm.plsL]
  rw [e]
  refine W62_S (by simp) ?_
  intro vs
  simp
  rw [decide_eq_true (by omega)]
  simp [k14,retW_eq]
 by_cases k10:t.kind = 10
 ·have e:stepsAt (t,p,w) ++ enK t p w (aN t) = [(10,p,0),(10,p,1)]:=by
   simp [stepsAt,stpN,k10,aN,enK,Tm.plsL,stp,List.range_succ]
  rw [e]
  refine W62_S (by simp) ?_
  intro vs
  simp
  rw [decide_eq_true (by omega)]
  simp [k10]
  rw [decide_eq_true (by omega)]
  simp [k10,retW_eq]
  exact ⟨rfl,rfl⟩
 by_cases k8:t.kind = 8
 ·cases w with
  | true=>
   have e:stepsAt (t,p,true) ++ enK t p true (aN t) = []:=by
    simp [stepsAt,stpN,k8,stp_zero,aN,enK,Tm.plsL]
   rw [e]
   refine W62_S (by simp) ?_
   intro vs
   simp
   rw [decide_eq_true (by omega)]
   simp [k8,retW_eq]
  | false=>
   have e:stepsAt (t,p,false) ++ enK t p false (aN t) = [(8,p,0)]:=by
    simp [stepsAt,stpN,k8,stp,aN,enK,Tm.plsL,List.range_succ]
   rw [e]
   refine W62_S (by simp) ?_
   intro vs
   simp
   rw [decide_eq_true (by omega)]
   simp [k8,retW_eq]
   rfl
 have hac:=sp_a5 t
 have hale:=aN_le t h
 by_cases ha:aN t = 0
 ·have k7:¬ t.kind = 7:=fun k=>by simp [aN,k] at ha
  have k12:¬ t.kind = 12:=fun k=>by simp [aN,k] at ha
  have k11:¬ t.kind = 11:=fun k=>by simp [aN,k] at ha
  have e:stepsAt (t,p,w) ++ enK t p w (aN t) = [(t.kind,p,0)]:=by
   rw [ha]
   simp [stepsAt,stpN,k0,k14,k10,k8,k7,k12,k11,stp,enK,Tm.plsL,List.range_succ]
  rw [e]
  rw [ha] at hac
  refine W62_S (by simp) ?_
  intro vs
  simp
  rw [decide_eq_true (by omega)]
  simp [k0,k14,k10,k8,k7]
  refine scall_pure hac (by simp) (by simp) ?_
  simp [retW_eq]
  rfl
 have hk3:t.kind = 12 ∨ t.kind = 7 ∨ t.kind = 11:=by
  unfold aN at ha
  split at ha
  ·omega
  ·split at ha
   ·omega
   ·exact absurd rfl ha
 have e0:stepsAt (t,p,w) = []:=by
  rcases hk3 with k | k | k <;> simp [stepsAt,stpN,k,stp_zero]
 rw [e0,List.nil_append]
 have body:∀ (we:Bool) (hwe:∀ i (hi:i < t.l.length),i < aN t → kidW t.kind t.l[i] w = we) (v3:Nat) (L:St → Prop) (i w73:Nat) (vt:Nat → Nat),i ≤ aN t →
   (∀ l' h' vs' (x':Nat × Nat),x'.1 ≤ aN t → aN t - x'.1 < aN t - i → Am.subT l' [(1,.sl (encI p)),(2,.bool !we),(3,.ref 3 v3 (.p 0)),(9,if x'.1 = 0 then .nils else .ref 73 x'.2 .o),(10,.int .i64 (x'.1:Nat))] →
    subA h' ((3,.box v3 35 (encT t)) :: if x'.1 = 0 then [] else [(73,.row x'.2 60 3 ((enK t p w x'.1).map encS))]) → L ⟨Am.look l',hls h' vs',noG⟩) →
   W62_l6 (retK Tryz.prog [.tmp 6] (.sl ((enK t p w (aN t)).map encS))) L ⟨Am.look [(1,.sl (encI p)),(2,.bool !we),(3,.ref 3 v3 (.p 0)),(9,if i = 0 then .nils else .ref 73 w73 .o),(10,.int .i64 (i:Nat))],
    hls ((3,.box v3 35 (encT t)) :: if i = 0 then [] else [(73,.row w73 60 3 ((enK t p w i).map encS))]) vt,noG⟩:=by
  intro we hwe v3 L i w73 vt hi hL
  by_cases hc:i < aN t
  ·have hc':(i:Int) < aN t:=by omega
   have hil:i < t.l.length:=by omega
   have hil':(i:Int) < t.l.length:=by omega
   have hx:=ih i hil we
   have hs:=enK_succ t p w i hil
   rw [hwe i hil hc] at hs
   have hlen:=enK_len t p w i
   have hlen2:=enS_len t.l[i] (p ++ [(i:Int)]) we
   have hmem:=Tm.wts_mem (List.getElem_mem hil)
   have hwt:=t.wt_eq
   have epi:encI p ++ [[.int .i64 (i:Int)]] = encI (p ++ [(i:Int)]):=by simp [encI]
   by_cases h0:i = 0
   ·subst h0
    rw [show ((0:Nat):Int) = 0 from rfl] at hx hs epi hlen2
    simp
    refine scall_pure hac (by simp) (by simp) ?_
    simp [hc,hil]
    rw [decide_eq_true (by omega)]
    simp
    rw [decide_eq_true (by omega)]
    simp [epi]
    refine scall0_pure hx (by simp) (by simp) ?_
    simp
    rw [encSs_row]
    simp
    rw [decide_eq_true (by omega)]
    simp
    rw [wrap64 (by omega) (by omega)]
    refine hL _ _ _ (1,vt 73 + 1) (by simp only; omega) (by simp only; omega) (by simp) ?_
    have e1:enK t p w 1 = enS t.l[0] (p ++ [0]) we:=by rw [hs]; simp [enK,Tm.plsL]
    simp [e1]
   ·simp [h0]
    refine scall_pure hac (by simp) (by simp) ?_
    simp [hc,hil,hil']
    rw [decide_eq_true (by omega)]
    simp
    rw [decide_eq_true (by omega)]
    simp [epi]
    refine scall0_pure hx (by simp) (by simp) ?_
    simp
    rw [encSs_row]
    simp
    rw [decide_eq_true (by omega)]
    simp
    rw [wrap64 (by omega) (by omega)]
    refine hL _ _ _ (i + 1,w73 + 1) (by simp only; omega) (by simp only; omega) (by simp) ?_
    simp [hs]
  ·obtain rfl:i = aN t:=by omega
   simp [ha]
   refine scall_pure hac (by simp) (by simp) ?_
   simp [ha,retW_eq]
 have hane:¬ ((aN t:Nat):Int) = 0:=by omega
 by_cases k7:t.kind = 7
 ·obtain ⟨y,hl,hy⟩:=okN_one h k7
  have hw5:=sp_w5 y hy (by have:=t.wt_eq; rw [hl] at this; simp only [Tm.wts] at this; omega)
  have hwe:∀ i (hi:i < t.l.length),i < aN t → kidW t.kind t.l[i] w = decide (0 < y.waits.length):=fun i hi _=>by
   have:t.l[i] = y:=by
    have:i = 0:=by rw [hl] at hi; simpa using hi
    subst this
    simp [hl]
   rw [this,kidW,if_pos k7]
  have ed:decide (y.waits = []) = !decide (0 < y.waits.length):=by
   cases y.waits <;> simp
  refine W62_S (by simp) ?_
  intro vs
  simp
  rw [decide_eq_true (by omega)]
  simp [k0,k14,k10,k8,k7,hl]
  refine scall_pure hw5 (by simp) (by simp) ?_
  simp [-W62_l6]
  refine scall_pure hac (by simp) (by simp) ?_
  simp [-W62_l6,ha]
  refine sLoop_intro (fun x:Nat × Nat=>x.1 ≤ aN t) (fun x=>aN t - x.1) (fun x=>[(1,.sl (encI p)),(2,.bool !decide (0 < y.waits.length)),(3,.ref 3 (vs 3 + 1) (.p 0)),(9,if x.1 = 0 then .nils else .ref 73 x.2 .o),(10,.int .i64 (x.1:Nat))])
   (fun x=>(3,.box (vs 3 + 1) 35 (encT t)) :: if x.1 = 0 then [] else [(73,.row x.2 60 3 ((enK t p w x.1).map encS))]) (0,0) (by simp) (by simp [ed]) (by simp) ?_
  rintro L ⟨i,w73⟩ vt hi hL
  exact body _ hwe _ L i w73 vt hi hL
 ·have hwe:∀ i (hi:i < t.l.length),i < aN t → kidW t.kind t.l[i] w = w:=fun i hi _=>by rw [kidW,if_neg k7]
  refine W62_S (by simp) ?_
  intro vs
  simp
  rw [decide_eq_true (by omega)]
  simp [-W62_l6,k0,k14,k10,k8,k7]
  refine scall_pure hac (by simp) (by simp) ?_
  simp [-W62_l6,ha]
  refine sLoop_intro (fun x:Nat × Nat=>x.1 ≤ aN t) (fun x=>aN t - x.1) (fun x=>[(1,.sl (encI p)),(2,.bool !w),(3,.ref 3 (vs 3 + 1) (.p 0)),(9,if x.1 = 0 then .nils else .ref 73 x.2 .o),(10,.int .i64 (x.1:Nat))])
   (fun x=>(3,.box (vs 3 + 1) 35 (encT t)) :: if x.1 = 0 then [] else [(73,.row x.2 60 3 ((enK t p w x.1).map encS))]) (0,0) (by simp) (by simp) (by simp) ?_
  rintro L ⟨i,w73⟩ vt hi hL
  exact body _ hwe _ L i w73 vt hi hL
termination_by SizeOf.sizeOf t
decreasing_by exact Tm.lt_of_mem (List.getElem_mem hi)
theorem sp_Enb7 (t:Tm) (h:okN t = true) (hw:t.wt ≤ 100000000):Am.Spec Tryz.prog 25 [.agg (encT t)] (.sl (t.enabled.map encS)):=by
 have h1:=sp_n5 t h
 have hok:=okN_norm t h
 have hnw:=t.norm_wt
 have h2:=sp_w5 t.norm hok (by omega)
 have h3:=sp_en7 t.norm [] (decide (0 < t.norm.waits.length)) hok (by simp only [List.length_nil]; omega)
 have ed:decide (t.norm.waits = []) = !decide (0 < t.norm.waits.length):=by
  cases t.norm.waits <;> simp
 have e:enS t.norm [] (decide (0 < t.norm.waits.length)) = t.enabled:=rfl
 rw [e] at h3
 generalize t.enabled = en at *
 generalize t.norm = n at *
 rw [← ed] at h3
 refine W25_S (by simp) ?_
 intro vs
 simp
 refine scall_pure h1 (by simp) (by simp) ?_
 simp
 refine scall0_pure h2 (by simp) (by simp) ?_
 simp
 refine scall0_nrm h3 (by simp [nrmL,nrm,nrmL_encT,nrmLL,encI]) (by simp [closedL,closed]) ?_
 simp [retW_eq]
end Go.Proofs.YtnngddgaobhkiaaGreat
