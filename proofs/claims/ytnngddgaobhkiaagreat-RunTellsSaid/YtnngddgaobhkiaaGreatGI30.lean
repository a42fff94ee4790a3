import Derived.Test.YtnngddgaobhkiaaGreatGH26
import Derived.Test.YtnngddgaobhkiaaGreatGD29
import Derived.Test.YtnngddgaobhkiaaGreatGI21
set_option linter.unusedVariables false
set_option linter.unusedSimpArgs false
namespace Go.Proofs.YtnngddgaobhkiaaGreat
open Go Go.Am Go.RowKit
theorem fewB_of {bs:List Rw3} (h:few3 bs = true):FewB bs:=by
 unfold few3 at h
 rw [Bool.and_eq_true] at h
 have hs:=of_decide_eq_true h.2
 refine ⟨fun x hx=>?_⟩
 have key:∀ l:List Rw3,(∀ y ∈ l,1 ≤ y.sz 0) → x ∈ l → x.sz 0 ≤ (l.map fun y=>y.sz 0).sum:=fun l=>by
  induction l with
  | nil=>intro _ h; simp at h
  | cons y l ih=>
   intro hp hx
   have hy:=hp y (by simp)
   have nn:∀ l:List Rw3,(∀ y ∈ l,1 ≤ y.sz 0) → 0 ≤ (l.map fun y=>y.sz 0).sum:=fun l=>by
    induction l with
    | nil=>intro _; simp
    | cons z l ih=>intro h; have:=ih fun y hy=>h y (by simp [hy]); have:=h z (by simp); simp only [List.map_cons,List.sum_cons]; omega
   have hn:=nn l fun z hz=>hp z (by simp [hz])
   simp only [List.map_cons,List.sum_cons]
   rcases List.mem_cons.1 hx with rfl | hx
   ·omega
   ·have:=ih (fun z hz=>hp z (by simp [hz])) hx; omega
 have:=key bs (fun y _=>(y.sz_le 0).1) hx
 omega
@[simp] theorem setC_0 (c:Cor) (a b d e:AV):setL [a,b,d,e] 0 (encC c) = encC c:=rfl
@[simp] theorem rd_Call (c:Cor):readA (encC c) 0 4 true = some (.agg (encC c)):=rfl
@[simp] theorem encC_cell (c:Cor):∀ a ∈ encC c,a.cell = true:=by simp [encC]
@[simp] theorem encC_okAll (c:Cor):(encC c).all AV.cell = true:=rfl
@[simp] theorem pur0_C (H:Heap) (c:Cor):(encC c).map (pur0 H) = encC c:=rfl
@[simp] theorem frz0_C (H:Heap) (c:Cor):(encC c).foldl frz0 H = H:=rfl
theorem sp_few (x:Shp) (h:x.bs.length ≤ maxLen):Am.Spec Tryz.prog 12 [.agg (encShp x)] (.bool (few3 x.bs)):=sp_fw3 _ _ x.bs h (by simp [closed]) (by simp [closed])
end Go.Proofs.YtnngddgaobhkiaaGreat
namespace Go.Proofs.YtnngddgaobhkiaaGreat
open Go Go.Am Go.RowKit
theorem sp_doC8 {c:Cor} (h:CorOk c) {f:Cfg} (hf:OkC c f) (pick:Int):Am.Spec Tryz.prog 22 [.agg (encC c),.agg (encF f),.int .i64 pick] (didR (doM c.procs f pick)):=
 sp_do8 c f pick h.env hf (by have:=(chk_ok h.chk).vars; omega) (by have:=(chk_ok h.chk).st; omega)
theorem sp_telC8 {c:Cor} (h:CorOk c) {f:Cfg} (hf:OkC c f) (key value:Int):Am.Spec Tryz.prog 20 [.agg (encF f),.int .i64 key,.int .i64 value] (toldR (tellM f key value)):=
 sp_tel8 hf (by have:=(chk_ok h.chk).vars; omega) key value
def plT (ns:List Int) (raw:Int) (v7 v8 v9 i:Nat):List (Nat × AV):=[(1,.sl (encI ns)),(2,.int .i64 raw),(7,.ref 7 v7 (.p 0)),(8,.ref 8 v8 (.p 0)),(9,.ref 9 v9 (.p 0)),(10,.int .i64 (i:Nat))]
def plH (c:Cor) (f:Cfg) (v7 v8 v9:Nat):List (Nat × Blk):=[(7,.box v7 29 (encC c)),(8,.box v8 38 (encF f)),(9,.box v9 38 (encF f))]
theorem wf_i64 {a:Int} (h:(Lit.int .i64 a).wf = true):-9223372036854775808 ≤ a ∧ a < 9223372036854775808:=by
 simp only [Lit.wf,Bool.and_eq_true,decide_eq_true_eq] at h
 have h1:IntKind.min .i64 = -9223372036854775808:=by decide +kernel
 have h2:IntKind.max .i64 = 9223372036854775807:=by decide +kernel
 rw [h1,h2] at h
 omega
end Go.Proofs.YtnngddgaobhkiaaGreat
namespace Go.Proofs.YtnngddgaobhkiaaGreat
open Go Go.Am Go.RowKit
mutual
def cntT (k:Int):Tm → Nat
 | ⟨kd,a,_,_,_,l⟩=>(if kd = 14 ∧ a = k then 1 else 0) + cntTs k l
def cntTs (k:Int):List Tm → Nat
 | []=>0
 | x :: l=>cntT k x + cntTs k l
end
theorem cntT_eq (k:Int) (t:Tm):cntT k t = (if t.kind = 14 ∧ t.a = k then 1 else 0) + cntTs k t.l:=by cases t; simp only [cntT]
theorem cntTs_mem {k:Int}:∀ {l:List Tm} {x:Tm},x ∈ l → cntT k x ≤ cntTs k l
 | y :: l,x,h=>by
  rcases List.mem_cons.1 h with rfl | h
  ·simp only [cntTs]; omega
  ·have:=cntTs_mem (k:=k) h; simp only [cntTs]; omega
theorem cntT_kid {k:Int} {t x:Tm} (h:x ∈ t.l):cntT k x ≤ cntT k t:=by
 have:=cntTs_mem (k:=k) h
 rw [cntT_eq k t]; omega
theorem cntTs_zero {k:Int}:∀ {l:List Tm},(∀ x ∈ l,cntT k x = 0) → cntTs k l = 0
 | [],_=>rfl
 | y :: l,h=>by simp only [cntTs,h y (by simp),cntTs_zero (l:=l) fun x hx=>h x (by simp [hx])]
theorem cntT_key {key k:Int} (hk:key ≤ k) (t:Tm) (h:keyT key t = true):cntT k t = 0:=by
 rw [cntT_eq,cntTs_zero fun x hx=>cntT_key hk x (keyT_kid h x hx),if_neg fun hc=>by have:=keyT_own h hc.1; omega]
termination_by SizeOf.sizeOf t
decreasing_by exact Tm.lt_of_mem hx
theorem cntT_none (k:Int) (t:Tm) (h:tmAny t = false):cntT k t = 0:=by
 rw [tmAny_eq,Bool.or_eq_false_iff] at h
 rw [cntT_eq,cntTs_zero fun x hx=>cntT_none k x (by have:=List.any_eq_false.1 h.2 x hx; simpa using this),if_neg fun hc=>(of_decide_eq_false h.1) hc.1]
termination_by SizeOf.sizeOf t
decreasing_by exact Tm.lt_of_mem hx
theorem cntT_right {v s p:Int} (k:Int) {t:Tm} (h:tmRight v s p t true = true):cntT k t = 0:=by
 rw [tmRight_pushed,Bool.and_eq_true,Bool.not_eq_true'] at h
 exact cntT_none k t h.2
theorem cntT_skip (k:Int):cntT k .skip = 0:=by rw [cntT_eq]; simp [Tm.skip,Tm.of,cntTs]
theorem cntT_of (k kd:Int) (h:kd ≠ 14) (l:List Tm):cntT k (.of kd l) = cntTs k l:=by rw [cntT_eq]; simp [Tm.of,h]
theorem cntT_norm (k:Int) (t:Tm) (ho:okN t = true):cntT k t.norm ≤ cntT k t:=by
 by_cases k12:t.kind = 12
 ·obtain ⟨x,y,hl,hx,hy⟩:=okN_two ho (.inl k12)
  have ix:=cntT_norm k x hx
  have iy:=cntT_norm k y hy
  rw [Tm.norm_two hl,if_pos k12,cntT_eq k t,hl]
  simp only [cntTs]
  split
  ·omega
  ·rw [cntT_of k 12 (by decide)]; simp only [cntTs]; omega
 ·by_cases k11:t.kind = 11
  ·obtain ⟨x,y,hl,hx,hy⟩:=okN_two ho (.inr k11)
   have ix:=cntT_norm k x hx
   have iy:=cntT_norm k y hy
   rw [Tm.norm_two hl,if_neg k12,if_pos k11,cntT_eq k t,hl]
   simp only [cntTs]
   split
   ·rw [cntT_skip]; omega
   ·rw [cntT_of k 11 (by decide)]; simp only [cntTs]; omega
  ·by_cases k7:t.kind = 7
   ·obtain ⟨x,hl,hx⟩:=okN_one ho k7
    have ix:=cntT_norm k x hx
    rw [Tm.norm_one hl,if_pos k7,cntT_eq k t,hl]
    simp only [cntTs]
    split
    ·rw [cntT_skip]; omega
    ·rw [cntT_of k 7 (by decide)]; simp only [cntTs]; omega
   ·rw [norm_leaf ho k12 k11 k7]; omega
termination_by SizeOf.sizeOf t
decreasing_by all_goals (apply Tm.lt_of_mem; simp [hl])
theorem cntT_at {k:Int} {t:Tm} {q:List Int} (h:OnPath t q):cntT k (atT t q) ≤ cntT k t:=by
 induction h with
 | nil t=>exact Nat.le_refl _
 | cons t i h q hp ih=>
  rw [atT_cons t i h]
  have:=cntT_kid (k:=k) (List.getElem_mem h)
  omega
theorem cntTs_set (k:Int):∀ (l:List Tm) (i:Nat) (h:i < l.length) (y:Tm),cntTs k (l.set i y) + cntT k l[i] = cntTs k l + cntT k y
 | [],i,h,y=>by simp at h
 | z :: l,0,h,y=>by simp only [List.set_cons_zero,cntTs,List.getElem_cons_zero]; omega
 | z :: l,i + 1,h,y=>by have:=cntTs_set k l i (by simpa using h) y; simp only [List.set_cons_succ,cntTs,List.getElem_cons_succ]; omega
theorem cntT_put {k:Int} {t:Tm} {q:List Int} (h:OnPath t q) (x:Tm):cntT k (putT t q x) + cntT k (atT t q) = cntT k t + cntT k x:=by
 induction h with
 | nil t=>simp only [putT,atT]; omega
 | cons t i h q hp ih=>
  rw [putT_cons t i h,atT_cons t i h]
  have e1:cntT k (t.withL (t.l.set i (putT t.l[i] q x))) = (if t.kind = 14 ∧ t.a = k then 1 else 0) + cntTs k (t.l.set i (putT t.l[i] q x)):=cntT_eq k (t.withL _)
  have e2:=cntT_eq k t
  have:=cntTs_set k t.l i h (putT t.l[i] q x)
  omega
theorem waitP_cnt {k:Int} {t:Tm} {p:List Int} (h:waitP k t = some p):1 ≤ cntT k t:=by
 obtain ⟨h1,h2,h3⟩:=waitP_on k t p h
 have:=cntT_at (k:=k) h1
 rw [cntT_eq,if_pos ⟨h2,h3⟩] at this
 omega
def UniT (t:Tm):Prop:=∀ k,cntT k t ≤ 1
theorem deed_cnt {vn sn:Int} {ps:List Tm} {f:Cfg} (he:Env8 vn sn ps) (hf:OkF vn sn ps f) (x:Tm) (alt:Int) (k:Int):cntT k (deed ps f x alt).t ≤ cntT k x + (if k = f.key then 1 else 0):=by
 have sk:=cntT_skip k
 have kid:∀ i:Nat,cntT k ((x.l[i]?).getD .skip) ≤ cntT k x:=fun i=>getD_right (P:=fun y=>cntT k y ≤ cntT k x) (by rw [sk]; omega) fun y hy=>cntT_kid hy
 have hst:∀ a:Int,∀ t ∈ stAt f.st a,cntT k t = 0:=fun a t ht=>by
  unfold stAt at ht
  rw [List.getD_eq_getElem?_getD] at ht
  cases e:f.st[a.toNat]? with
  | none=>rw [e] at ht; simp at ht
  | some l=>rw [e] at ht; exact cntT_right _ (hf.strt l (List.mem_of_getElem? e) t ht).1
 have hw:cntT k (⟨14,f.key,x.a,x.name,.zero,[]⟩:Tm) = if k = f.key then 1 else 0:=by
  rw [cntT_eq]
  simp only [cntTs,true_and,Nat.add_zero]
  by_cases h:f.key = k
  ·rw [if_pos h,if_pos h.symm]
  ·rw [if_neg h,if_neg (Ne.symm h)]
 have hp:∀ y ∈ ps,cntT k y = 0:=fun y hy=>cntT_right _ (he.right y hy)
 generalize (if k = f.key then 1 else 0) = g at *
 have k0:=kid 0
 have k1:=kid 1
 have ka:=kid alt.toNat
 unfold deed
 repeat' split
 all_goals first
  | (simp only [hw]; omega)
  | (simp only; omega)
  | (simp only [sk]; omega)
  | (rw [stRev_ind (fun t=>cntT k t = 0) sk (fun x y hx hy=>by rw [cntT_of k 12 (by decide)]; simp only [cntTs,hx,hy]) _ (hst _)]; omega)
  | (have:=kid (if (evE f.vars x.e).1 ≠ 0 then 0 else 1); simp only at this ⊢; omega)
  | (have:=kid alt.toNat; simp only at this ⊢; omega)
  | (have:cntT k ((ps[x.a.toNat]?).getD .skip) = 0:=getD_right (P:=fun y=>cntT k y = 0) sk hp; simp only [this]; omega)
theorem doM_uni {vn sn:Int} {ps:List Tm} {f:Cfg} (he:Env8 vn sn ps) (hf:OkF vn sn ps f) (hk:keyT f.key f.t = true) (hu:UniT f.t) (pick:Int) (h:(doM ps f pick).e = 0):UniT (doM ps f pick).f.t:=by
 rw [doM_eq hf.norm] at h ⊢
 split
 ·rename_i e; rw [e] at h; simp [Did.no] at h
 ·rename_i s e
  simp only [e] at h
  have hs:s ∈ f.t.enabled:=by
   split at e
   ·cases e
   ·exact List.mem_of_getElem? e
  have hs':=step_ok f.t s (by rw [← enabled_eq hf.norm]; exact hs)
  have hp:=put_ok he hf hs
  have hok:=right_okN _ _ _ _ _ hp.t
  by_cases h1:5000 ≤ f.steps
  ·rw [if_pos h1] at h; simp [Did.no] at h
  rw [if_neg h1] at h ⊢
  by_cases h2:(deed ps f (atT f.t s.2.1) s.2.2).e ≠ 0
  ·rw [if_pos h2] at h; exact absurd h h2
  rw [if_neg h2] at h ⊢
  by_cases h3:2000 < (putT f.t (toP f.t s) (deed ps f (atT f.t s.2.1) s.2.2).t).norm.size + stSize (deed ps f (atT f.t s.2.1) s.2.2).st
  ·rw [if_pos h3] at h; simp [Did.no] at h
  rw [if_neg h3]
  intro k
  have g1:=cntT_norm k _ hok
  have g2:=cntT_put (k:=k) (actP_on (toP_act hs'.act)) (deed ps f (atT f.t s.2.1) s.2.2).t
  have g3:=deed_cnt he hf (atT f.t s.2.1) s.2.2 k
  have g4:=hu k
  show cntT k (putT f.t (toP f.t s) (deed ps f (atT f.t s.2.1) s.2.2).t).norm ≤ 1
  by_cases k8:(atT f.t s.2.1).kind = 8
  ·have e8:(deed ps f (atT f.t s.2.1) s.2.2).t = .skip:=by simp [deed,k8]
   rw [e8,cntT_skip] at g2
   rw [e8] at g1 ⊢
   omega
  ·have et:toP f.t s = s.2.1:=by unfold toP; rw [if_neg k8]
   rw [et] at g1 g2 ⊢
   by_cases kk:k = f.key
   ·have:=cntT_key (key:=f.key) (k:=k) (by omega) f.t hk
    rw [if_pos kk] at g3
    omega
   ·rw [if_neg kk] at g3; omega
theorem beg_uni {c:Cor} (h:CorOk c):UniT (begM c).t:=fun k=>by
 obtain ⟨m,hm,e,eg⟩:=main_get h
 have hk:=(chk_ok h.chk).all _ (List.getElem_mem hm)
 have h1:=cntT_norm k c.procs[m] (right_okN _ _ _ _ _ hk.2.2)
 have h2:=cntT_none k c.procs[m] hk.2.1
 show cntT k ((c.procs[c.main.toNat]?).getD .skip).norm ≤ 1
 rw [eg]; omega
structure TldOk (f:Cfg) (w value:Int) (d:Told):Prop where
 is:d.is = true
 ekey:d.ev.key = w
 evalue:d.ev.value = value
 ename:¬ d.ev.name = ⟨#[]⟩
 steps:d.f.steps = f.steps
 key:d.f.key = f.key
 st:d.f.st = f.st
 vars:∃ b:Int,b < f.vars.length ∧ d.f.vars = if 0 ≤ b then f.vars.set b.toNat value else f.vars
 gone:waitP w d.f.t = none
 uni:UniT d.f.t
theorem tell_tld {vn sn:Int} {ps:List Tm} {f:Cfg} (hf:OkF vn sn ps f) (hu:UniT f.t) (w value:Int) (h:(tellM f w value).is = true):TldOk f w value (tellM f w value):=by
 rw [tellM_eq hf.norm] at h ⊢
 split
 ·rename_i e; rw [e] at h; cases h
 ·rename_i p e
  have hp:=tell_put hf e
  obtain ⟨hb1,hb2,hb3⟩:=tell_b hf e
  obtain ⟨ho,ha,hw⟩:=waitP_on _ _ _ e
  have hcnt:=fun k=>cntT_norm k _ (right_okN _ _ _ _ _ hp.1)
  have hput:=fun k=>cntT_put (k:=k) ho .skip
  have hat:1 ≤ cntT w (atT f.t p):=by rw [cntT_eq,if_pos ⟨ha,hw⟩]; omega
  refine ⟨rfl,rfl,rfl,?_,rfl,rfl,rfl,⟨_,hb1,rfl⟩,?_,fun k=>?_⟩
  ·intro hn
   have hn:(atT f.t p).name = ⟨#[]⟩:=hn
   rw [hn] at hb3
   revert hb3; decide
  ·cases e2:waitP w (putT f.t p .skip).norm with
   | none=>rfl
   | some q=>
    have:=waitP_cnt e2
    have:=hcnt w
    have:=hput w
    have:=hu w
    have:=cntT_skip w
    omega
  ·have:=hcnt k
   have:=hput k
   have:=hu k
   have:=cntT_skip k
   show cntT k (putT f.t p .skip).norm ≤ 1
   omega
theorem tell_above {vn sn:Int} {ps:List Tm} {f:Cfg} (hf:OkF vn sn ps f) (hk:keyT f.key f.t = true) (w value:Int) (h:f.key ≤ w):tellM f w value = ⟨.zero,.zero,false⟩:=by
 rw [tellM_eq hf.norm]
 split
 ·rfl
 ·rename_i p e
  obtain ⟨ho,ha,hw⟩:=waitP_on _ _ _ e
  have:=keyT_own (keyT_at ho hk) ha
  omega
theorem tell_gone {vn sn:Int} {ps:List Tm} {f:Cfg} (hf:OkF vn sn ps f) (w value:Int) (h:waitP w f.t = none):tellM f w value = ⟨.zero,.zero,false⟩:=by
 rw [tellM_eq hf.norm,h]
end Go.Proofs.YtnngddgaobhkiaaGreat
namespace Go.Proofs.YtnngddgaobhkiaaGreat
open Go Go.Am Go.RowKit
attribute [local simp] W9 W9_rs W9_b1 W9_b2 W9_b5 W9_b6 W9_b8 W9_b9 W9_b12 W9_b17 W9_b18 W9_b19 W9_b21 W9_b24 W9_b25 W9_b26 W9_b28 W9_b67 W9_b70 W9_b76 W9_b78 W9_k3 W9_k4 W9_k15 W9_k16 W9_k22 W9_k23 W9_l27 W9_l68 W9_l73
theorem sp_s6C {c:Cor} (h:CorOk c) {f:Cfg} (hf:OkC c f):Am.Spec Tryz.prog 28 [.sl (encSt f.st),.sl (encSt f.st)] (.bool true):=by
 have hk:=chk_ok h.chk
 have hs:=hf.slen (by have:=hk.st; omega)
 rw [← (sameS_iff f.st f.st).2 rfl]
 exact sp_s6 f.st f.st (by omega) fun l hl=>by have:=hf.srow l hl; exact ⟨by omega,this.2⟩
def tlT (ns:List Int) (value other:Int) (v9 v10 i:Nat):List (Nat × AV):=[(1,.sl (encI ns)),(2,.int .i64 value),(3,.int .i64 other),(9,.ref 9 v9 (.p 0)),(10,.ref 10 v10 (.p 0)),(11,.int .i64 (i:Nat))]
def tlH (c:Cor) (f:Cfg) (v9 v10:Nat):List (Nat × Blk):=[(9,.box v9 29 (encC c)),(10,.box v10 38 (encF f))]
def difN (b:Int) (vs:List Int) (value:Int) (j:Nat):Int:=if 0 ≤ b ∧ b < j ∧ vs[b.toNat]? ≠ some value then 1 else 0
theorem difN_succ (b:Int) (vs:List Int) (value:Int) (j:Nat) (h:j < vs.length):difN b vs value (j + 1) = if (j:Int) = b ∧ vs[j] ≠ value then difN b vs value j + 1 else difN b vs value j:=by
 unfold difN
 by_cases hb:(j:Int) = b
 ·subst hb
  have e:vs[((j:Nat):Int).toNat]? = some vs[j]:=by rw [Int.toNat_natCast]; exact List.getElem?_eq_getElem h
  rw [e,if_neg (show ¬ (0 ≤ (j:Int) ∧ (j:Int) < j ∧ _) by omega)]
  by_cases hv:vs[j] = value
  ·rw [if_neg (by simp [hv]),if_neg (by simp [hv])]
  ·rw [if_pos ⟨by omega,by omega,by simpa using hv⟩,if_pos ⟨rfl,hv⟩]; rfl
 ·rw [if_neg (show ¬ ((j:Int) = b ∧ _) from fun h=>hb h.1)]
  by_cases h2:0 ≤ b ∧ b < j ∧ vs[b.toNat]? ≠ some value
  ·rw [if_pos h2,if_pos ⟨h2.1,by omega,h2.2.2⟩]
  ·rw [if_neg h2,if_neg fun h3=>h2 ⟨h3.1,by omega,h3.2.2⟩]
theorem difN_le (b:Int) (vs:List Int) (value:Int) (j:Nat):0 ≤ difN b vs value j ∧ difN b vs value j ≤ 1:=by unfold difN; split <;> omega
theorem tld_at {vs:List Int} {b value:Int} {j:Nat} (hb:b < vs.length) (h:j < vs.length):(if 0 ≤ b then vs.set b.toNat value else vs)[j]? = some (if (j:Int) = b then value else vs[j]):=by
 by_cases h0:0 ≤ b
 ·rw [if_pos h0,List.getElem?_set]
  by_cases e:b.toNat = j
  ·rw [if_pos e,if_pos (by omega),if_pos (by omega)]
  ·rw [if_neg e,if_neg (by omega),List.getElem?_eq_getElem h]
 ·rw [if_neg h0,if_neg (by omega),List.getElem?_eq_getElem h]
theorem tls_b28 {c:Cor} (hc:CorOk c) {f:Cfg} (hf:OkC c f) {d:Told} {w value other:Int} (hd:TldOk f w value d) (hdo:OkC c d.f) (ns ws:List Int) (i k:Nat) (hi:i < ns.length) (hk:k < ws.length) (hw:ws[k] = w) (hwl:ws.length ≤ 1000000000) (v9 v10 v14:Nat) (L0 L:St → Prop)
  (hL:∀ l' h' vs',subT l' (tlT ns value other v9 v10 i ++ [(12,.sl (encI ws)),(13,.int .i64 ((k + 1:Nat):Int))]) → subA h' (tlH c f v9 v10) → L ⟨Am.look l',hls h' vs',noG⟩)
  (T:List (Nat × AV)) (H:List (Nat × Blk)) (VS:Nat → Nat) (h1:Am.look T 1 = .sl (encI ns)) (h2:Am.look T 2 = .int .i64 value) (h3:Am.look T 3 = .int .i64 other) (h9:Am.look T 9 = .ref 9 v9 (.p 0)) (h10:Am.look T 10 = .ref 10 v10 (.p 0)) (h11:Am.look T 11 = .int .i64 (i:Nat))
  (h12:Am.look T 12 = .sl (encI ws)) (h13:Am.look T 13 = .int .i64 (k:Nat)) (h14:Am.look T 14 = .ref 14 v14 (.p 0)) (hH:subA H (tlH c f v9 v10 ++ [(14,.box v14 38 (encF d.f))])) :
  W9_b28 (retK Tryz.prog [.tmp 8] (.bool true)) L0 L ⟨Am.look T,hls H VS,noG⟩:=by
 have h12':=h12
 obtain ⟨b,hb,hvs⟩:=hd.vars
 have hvl:=hf.vlen (by have:=(chk_ok hc.chk).vars; omega)
 have hgl:d.f.vars.length = f.vars.length:=by rw [hvs]; split <;> simp
 have hga:∀ j,∀ h:j < f.vars.length,d.f.vars[j]'(by omega) = if (j:Int) = b then value else f.vars[j]:=fun j h=>by
  have:=tld_at (value:=value) hb h
  rw [← hvs] at this
  exact (List.getElem?_eq_some_iff.1 this).2
 have hg:=tell_gone hdo w value hd.gone
 have htl:=sp_tellC hc hdo w value
 rw [hg] at htl
 simp only [toldR] at htl
 simp [-W9_l27]
 refine sLoop_intro (fun j:Nat=>j ≤ f.vars.length) (fun j=>f.vars.length - j) (fun j=>tlT ns value other v9 v10 i ++ [(12,.sl (encI ws)),(13,.int .i64 (k:Nat)),(14,.ref 14 v14 (.p 0)),(17,.int .i64 (difN b f.vars value j)),(18,.int .i64 (j:Nat))])
  (fun _=>tlH c f v9 v10 ++ [(14,.box v14 38 (encF d.f))]) 0 (by simp) (by simp [tlT,h1,h2,h3,h9,h10,h11,h12,h13,h14,difN]; intros; omega) hH ?_
 rintro L2 j vu hj hL2
 simp only [tlT,tlH,List.cons_append,List.nil_append] at hL2 ⊢
 have hdn:=difN_le b f.vars value j
 by_cases g:j < f.vars.length
 ·have g':(j:Int) < f.vars.length:=by omega
  have g2:j < d.f.vars.length:=by omega
  have g2':(j:Int) < d.f.vars.length:=by omega
  have hga:=hga j g
  have hsu:=difN_succ b f.vars value j g
  have hix1:=encI_at f.vars j g _ rfl
  have hix2:=encI_at d.f.vars j g2 _ rfl
  by_cases e:(j:Int) = b ∧ f.vars[j] ≠ value
  ·rw [if_pos e] at hsu
   rw [if_pos e.1] at hga
   have e2:¬ value = f.vars[j]:=fun h=>e.2 h.symm
   rw [hga] at hix2
   simp [g,g',hix1,hix2,e2]
   rw [wrap64 (by omega) (by omega),wrap64 (by omega) (by omega)]
   exact hL2 _ _ _ (j + 1) g (by omega) (by simp [hsu]) (by simp)
  ·rw [if_neg e] at hsu
   have e2:d.f.vars[j] = f.vars[j]:=by
    rw [hga]
    split
    ·rename_i h
     by_cases hv:f.vars[j] = value
     ·exact hv.symm
     ·exact absurd ⟨h,hv⟩ e
    ·rfl
   rw [e2] at hix2
   simp [g,g',hix1,hix2]
   rw [wrap64 (by omega) (by omega)]
   exact hL2 _ _ _ (j + 1) g (by omega) (by simp [hsu]) (by simp)
 ·obtain rfl:j = f.vars.length:=by omega
  have hn:¬ 1 < difN b f.vars value f.vars.length:=by omega
  have hixw:=encI_at ws k hk _ hw
  simp [hn,hixw]
  refine scall0_pure htl (by simp) (by simp) ?_
  simp [take_C,occ_C]
  rw [wrap64 (by omega) (by omega)]
  exact hL _ _ _ (by simp [tlT]) (by simp [tlH])
theorem tls_k15 {c:Cor} (hc:CorOk c) {f:Cfg} (hf:OkC c f) (hkey:keyT f.key f.t = true) (hu:UniT f.t) (ns:List Int) (value other:Int) (hv:isI64 value = true) (i:Nat) (hi:i < ns.length) (v9 v10:Nat) (L0:St → Prop)
  (hL:∀ l' h' vs' (f':Cfg),OkC c f' → keyT f'.key f'.t = true → UniT f'.t → subT l' (tlT ns value other v9 v10 (i + 1)) → subA h' (tlH c f' v9 v10) → L0 ⟨Am.look l',hls h' vs',noG⟩)
  (hi2:i < 25) (T:List (Nat × AV)) (VS:Nat → Nat) (h1:Am.look T 1 = .sl (encI ns)) (h2:Am.look T 2 = .int .i64 value) (h3:Am.look T 3 = .int .i64 other) (h9:Am.look T 9 = .ref 9 v9 (.p 0)) (h10:Am.look T 10 = .ref 10 v10 (.p 0)) (h11:Am.look T 11 = .int .i64 (i:Nat))
  (h12:Am.look T 12 = .sl (encI f.t.waits)) :
  W9_k15 (retK Tryz.prog [.tmp 8] (.bool true)) L0 ⟨Am.look T,hls (tlH c f v9 v10) VS,noG⟩:=by
 have h':(i:Int) < ns.length:=by omega
 have hky:=hf.key
 have hst:=hf.steps
 have w0:=wit_ge other 9 (by omega)
 have w1:=wit_lt other 9 (by omega)
 have hw9:=sp_wit8 other 9 (by omega) (by omega)
 have hab:=tell_above hf hkey (f.key + within other 9) value (by omega)
 have htl:=sp_tellC hc hf (f.key + within other 9) value
 rw [hab] at htl
 simp only [toldR] at htl
 have hwk:IntKind.wrap .i64 (f.key + within other 9) = f.key + within other 9:=wrap64 (by omega) (by omega)
 have hw3:=sp_wit8 ns[i] 3 (by omega) (by omega)
 have hd8:=sp_doC8 hc hf (within ns[i] 3)
 have hdo:=doM_ok hc.env hf (within ns[i] 3)
 have hdk:=doM_key hc.env hf hkey (within ns[i] 3)
 have hdu:=doM_uni hc.env hf hkey hu (within ns[i] 3)
 have htold:=fun w h=>waits_told hf w value h
 have htk:=fun w h=>tellM_key hf hkey w value h
 have hto:=fun w h=>tellM_ok hf w value hv h
 have htu:=fun w h=>(tell_tld hf hu w value h).uni
 have ht8:=fun w=>sp_telC8 hc hf w value
 generalize within other 9 = wo at *
 generalize within ns[i] 3 = pk at *
 generalize doM c.procs f pk = d at *
 simp only [didR] at hd8
 simp only [tlH]
 simp [h1,h2,h3,h9,h10,h11,h12,take_C,occ_C]
 refine scall0_pure hw9 (by simp) (by simp) ?_
 simp [h1,h2,h3,h9,h10,h11,h12,take_C,occ_C,hwk]
 refine scall0_pure htl (by simp) (by simp) ?_
 simp [h1,h2,h3,h9,h10,h11,h12,take_C,occ_C,hi,h']
 refine scall0_pure hw3 (by simp) (by simp) ?_
 simp [h1,h2,h3,h9,h10,h11,h12,take_C,occ_C]
 refine scall0_pure hd8 (by simp) (by simp) ?_
 by_cases he:d.e = 0
 ·simp [h1,h2,h3,h9,h10,h11,h12,take_C,occ_C,he]
  rw [wrap64 (by omega) (by omega)]
  exact hL _ _ _ d.f (hdo he) (hdk he).t (hdu he) (by simp [tlT,h1,h2,h3,h9,h10]) (by simp [tlH])
 ·by_cases hw0:f.t.waits = []
  ·simp [h1,h2,h3,h9,h10,h11,h12,take_C,occ_C,he,hw0]
   rw [wrap64 (by omega) (by omega)]
   exact hL _ _ _ f hf hkey hu (by simp [tlT,h1,h2,h3,h9,h10]) (by simp [tlH])
  ·have hp0:0 < f.t.waits.length:=List.length_pos_iff.2 hw0
   have hp0':(0:Int) < f.t.waits.length:=by omega
   have hti:=htold _ (List.getElem_mem hp0)
   have htk:=htk _ hti
   have hto:=hto _ hti
   have htu:=htu _ hti
   have ht8:=ht8 f.t.waits[0]
   generalize f.t.waits = ws at *
   generalize tellM f ws[0] value = tl at *
   simp only [toldR] at ht8
   simp [h1,h2,h3,h9,h10,h11,h12,take_C,occ_C,he,hw0,hp0,hp0']
   refine scall0_pure ht8 (by simp) (by simp) ?_
   simp [h10,h11]
   rw [wrap64 (by omega) (by omega)]
   exact hL _ _ _ tl.f hto htk.1 htu (by simp [tlT,h1,h2,h3,h9,h10]) (by simp [tlH])
theorem tls_go (x:Shp) (ns:List Int) (value other:Int) (hval:isI64 value = true) (hfew:few3 x.bs = true) (hl:x.bs.length ≤ maxLen) (hn:ns.length ≤ maxLen):Am.Spec Tryz.prog 9 [.agg (encShp x),.sl (encI ns),.int .i64 value,.int .i64 other] (.bool true):=by
 have hml:maxLen = 9223372036854775807:=rfl
 have hf1:=sp_few x hl
 rw [hfew] at hf1
 have hc1:=sp_cor x.v x.s x.bs (fewB_of hfew)
 have hc:=coreM_ok x.v x.bs (fewB_of hfew)
 have hb8:=sp_beg8 hc
 have hok:=beg_ok hc
 have hbk:=beg_key hc
 have hbu:=beg_uni hc
 have hb0:(begM (coreM x.v x.bs)).key = 0:=rfl
 simp only [encShp,encSh] at hf1 hc1 ⊢
 generalize coreM x.v x.bs = c at *
 generalize begM c = f0 at *
 refine W9_S (by simp) ?_
 intro vs
 simp
 refine scall_pure sp_kno8 (by simp) (by simp) ?_
 simp
 refine scall_pure hf1 (by simp) (by simp) ?_
 simp
 refine scall_pure hc1 (by simp) (by simp) ?_
 simp
 refine scall_pure hb8 (by simp) (by simp) ?_
 simp [-W9_l73]
 refine sLoop_intro (α:=Nat × Cfg) (fun y=>y.1 ≤ 25 ∧ OkC c y.2 ∧ keyT y.2.key y.2.t = true ∧ UniT y.2.t) (fun y=>25 - y.1)
  (fun y=>tlT ns value other (vs 9 + 1) (vs 10 + 1) y.1) (fun y=>tlH c y.2 (vs 9 + 1) (vs 10 + 1))
  (0,f0) ⟨by simp,hok,by rw [hb0]; exact hbk,hbu⟩ (by simp [tlT]) (by simp [tlH]) ?_
 rintro L ⟨i,f⟩ vt ⟨hi,hf,hkey,hu⟩ hL
 simp only at hi hf hkey hu hL
 by_cases h1:i < ns.length
 ·have h1':(i:Int) < ns.length:=by omega
  by_cases h2:i < 25
  ·have h2':(i:Int) < 25:=by omega
   have hok:=hf.enbWt
   have hw:=sp_w5 f.t hok.2 hok.1
   have hwl:=f.t.waits_len
   have hk15:=tls_k15 hc hf hkey hu ns value other hval i h1 (vs 9 + 1) (vs 10 + 1) L (fun l' h' vs' f' a b d hT hH=>hL l' h' vs' (i + 1,f') ⟨h2,a,b,d⟩ (by simp only; omega) hT hH) h2
   have htold:=fun w h=>waits_told hf w value h
   have htld:=fun w h=>tell_tld hf hu w value h
   have hto:=fun w h=>tellM_ok hf w value hval h
   have htl:=fun w=>sp_tellC hc hf w value
   have hs6:=sp_s6C hc hf
   have hb28:=fun (d:Told) (w:Int) (hd:TldOk f w value d) (hdo:OkC c d.f)=>tls_b28 (other:=other) hc hf hd hdo ns f.t.waits i
   simp only [tlT,tlH]
   simp [-W9_l68,h1,h1',h2,h2']
   refine scall_pure hw (by simp) (by simp) ?_
   generalize f.t.waits = ws at *
   simp [-W9_l68]
   refine sLoop_intro (fun k:Nat=>k ≤ ws.length) (fun k=>ws.length - k) (fun k=>tlT ns value other (vs 9 + 1) (vs 10 + 1) i ++ [(12,.sl (encI ws)),(13,.int .i64 (k:Nat))]) (fun _=>tlH c f (vs 9 + 1) (vs 10 + 1)) 0 (by simp) (by simp [tlT]) (by simp [tlH]) ?_
   rintro L1 k vu hkk hL1
   by_cases g:k < ws.length
   ·have g':(k:Int) < ws.length:=by omega
    have hti:=htold _ (List.getElem_mem g)
    have htld:=htld _ hti
    have hto:=hto _ hti
    have htl:=htl ws[k]
    have hb28:=hb28 _ _ htld hto k h1 g rfl (by omega) (vs 9 + 1) (vs 10 + 1) (vu 14 + 1) L L1 (fun l' h' vs' hT hH=>hL1 l' h' vs' (k + 1) g (by omega) hT hH)
    generalize tellM f ws[k] value = d at *
    have hlen:d.f.vars.length = f.vars.length:=by obtain ⟨b,-,e⟩:=htld.vars; rw [e]; split <;> simp
    simp only [toldR] at htl
    simp only [tlT,tlH,List.cons_append,List.nil_append]
    simp [-W9_b28,g,g',take_C,occ_C]
    refine scall0_pure htl (by simp) (by simp) ?_
    simp [-W9_b28,g,g',take_C,occ_C,encEv,htld.is,htld.ekey,htld.evalue,htld.ename,htld.steps,htld.key,htld.st]
    refine scall0_pure hs6 (by simp) (by simp) ?_
    simp [-W9_b28,htld.is,hlen]
    refine hb28 _ _ vu ?_ ?_ ?_ ?_ ?_ ?_ ?_ ?_ ?_ ?_
    all_goals simp [tlH]
   ·obtain rfl:k = ws.length:=by omega
    simp only [tlT,List.cons_append,List.nil_append]
    simp [-W9_k15]
    refine hk15 _ vu ?_ ?_ ?_ ?_ ?_ ?_ ?_
    all_goals simp
  ·have h2':¬ (i:Int) < 25:=by omega
   simp only [tlT,tlH]
   simp [-W9_l68,h1,h1',h2,h2',retW_eq]
 ·have h1':¬ (i:Int) < ns.length:=by omega
  simp only [tlT,tlH]
  simp [-W9_l68,h1,h1',retW_eq]
theorem sp_tls (x:Shp) (ns:List Int) (value other:Int) (hl:x.bs.length ≤ maxLen) (hn:ns.length ≤ maxLen ∧ ∀ a ∈ ns,(Lit.int .i64 a).wf = true) (hv:(Lit.int .i64 value).wf = true):Am.Spec Tryz.prog 9 [.agg (encShp x),.sl (encI ns),.int .i64 value,.int .i64 other] (.bool true):=by
 cases hfew:few3 x.bs
 ·have hf1:=sp_few x hl
  rw [hfew] at hf1
  simp only [encShp,encSh] at hf1 ⊢
  refine W9_S (by simp) ?_
  intro vs
  simp
  refine scall_pure sp_kno8 (by simp) (by simp) ?_
  simp
  refine scall_pure hf1 (by simp) (by simp) ?_
  simp [retW_eq]
 ·exact tls_go x ns value other ((isI64_iff value).2 (wf_i64 hv)) hfew hl hn.1
end Go.Proofs.YtnngddgaobhkiaaGreat
