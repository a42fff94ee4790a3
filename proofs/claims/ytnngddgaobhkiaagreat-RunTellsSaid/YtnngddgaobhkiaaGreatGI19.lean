import Derived.Test.YtnngddgaobhkiaaGreatGH16
import Derived.Test.YtnngddgaobhkiaaGreatGH18
import Derived.Test.YtnngddgaobhkiaaGreatGE15
import Derived.Test.YtnngddgaobhkiaaGreatGI17
set_option linter.unusedVariables false
set_option linter.unusedSimpArgs false
namespace Go.Proofs.YtnngddgaobhkiaaGreat
open Go Go.Am Go.RowKit
attribute [local simp] W141 W141_rs W141_k1 W141_k2 W141_b3 W141_b4 W141_l5 W120 W120_rs W122 W122_rs W123 W123_rs W123_b2 W123_b5 W121 W121_rs W121_k2 W121_k3 W121_b4 W121_b5 W121_b6 W121_l7
def cpI (s:List (List Tm)) (a:Int) (row:List Tm):List (List Tm):=if 0 ≤ a then s.set a.toNat row else s
theorem cpI_len (s:List (List Tm)) (a:Int) (row:List Tm):(cpI s a row).length = s.length:=by unfold cpI; split <;> simp
theorem cpI_eq {s:List (List Tm)} {a:Int} {row:List Tm} {i:Nat} (h:i < s.length) (e:(i:Int) = a):(cpI s a row)[i]? = some row:=by
 unfold cpI
 rw [if_pos (by omega),show a.toNat = i by omega]
 simp [h]
theorem cpI_ne {s:List (List Tm)} {a:Int} {row:List Tm} {i:Nat} (h:i < s.length) (e:¬ (i:Int) = a):(cpI s a row)[i]? = some s[i]:=by
 unfold cpI
 split
 ·rw [List.getElem?_set_ne (by omega)]; simp [h]
 ·simp [h]
theorem take_snocQ {q:List (List Tm)} {i:Nat} {x:List Tm} (h:q[i]? = some x):(q.take (i + 1)).map encQ = (q.take i).map encQ ++ [encQ x]:=by
 obtain ⟨hi,e⟩:=List.getElem?_eq_some_iff.1 h
 rw [List.take_succ_eq_append_getElem hi,List.map_append,e]; rfl
theorem sp_cpd (s:List (List Tm)) (a:Int) (row:List Tm) (hl:s.length ≤ 1000000) (hk:∀ l ∈ s,l.length ≤ 1000000) (hr:row.length ≤ 1000000):Am.Spec Tryz.prog 141 [.sl (encSt s),.int .i64 a,.sl (row.map encT)] (.sl (encSt (cpI s a row))):=by
 rw [encSt_Q,encSt_Q]
 have hcl:=cpI_len s a row
 obtain ⟨q,hq⟩:∃ q,cpI s a row = q:=⟨_,rfl⟩
 have h1:∀ i,∀ h:i < s.length,(i:Int) = a → q[i]? = some row:=fun i h e=>hq ▸ cpI_eq h e
 have h2:∀ i,∀ h:i < s.length,¬ (i:Int) = a → q[i]? = some s[i]:=fun i h e=>hq ▸ cpI_ne h e
 rw [hq] at hcl ⊢
 clear hq
 refine W141_S (by simp) ?_
 intro vs
 simp [-W141_l5]
 refine sLoop_intro (α:=Nat × Nat) (fun x=>x.1 ≤ s.length) (fun x=>s.length - x.1)
  (fun x=>[(0,.sl (s.map encQ)),(1,.int .i64 a),(2,.sl (row.map encT)),(7,if x.1 = 0 then .nils else .ref 29 x.2 .o),(8,.int .i64 (x.1:Nat))])
  (fun x=>if x.1 = 0 then [] else [(29,.row x.2 27 1 ((q.take x.1).map encQ))]) (0,0) (by simp) (by simp) (by simp) ?_
 rintro L ⟨i,w⟩ vt hi hL
 simp only at hi hL ⊢
 by_cases h:i < s.length
 ·have h':(i:Int) < s.length:=by omega
  have hix:ixRows (s.map encQ) (i:Int) 1 = some (.elt (encQ s[i]) 0):=by rw [ixRows_nat]; simp [List.getElem?_eq_getElem h]
  have hkl:=hk _ (List.getElem_mem h)
  by_cases ha:(i:Int) = a
  ·have hs:=take_snocQ (h1 i h ha)
   subst ha
   by_cases h0:i = 0
   ·subst h0
    simp only [List.take_zero,List.map_nil,List.nil_append] at hs
    simp [h,h',hix]
    rw [decide_eq_true (by omega)]
    simp
    refine sLit_f _ _ ?_
    simp
    rw [wrap64 (by omega) (by omega)]
    exact hL _ _ _ (1,vt 29 + 1) (by simp only; omega) (by simp only; omega) (by simp) (by simp [hs,encQ])
   ·simp [h,h',hix,h0]
    rw [decide_eq_true (by omega)]
    simp
    refine sLit_f _ _ ?_
    simp [h0]
    rw [decide_eq_true (by omega)]
    simp
    rw [wrap64 (by omega) (by omega)]
    exact hL _ _ _ (i + 1,w + 1) (by simp only; omega) (by simp only; omega) (by simp) (by simp [hs,encQ])
  ·have hs:=take_snocQ (h2 i h ha)
   by_cases h0:i = 0
   ·subst h0
    simp only [List.take_zero,List.map_nil,List.nil_append] at hs
    have ha0:¬ (0:Int) = a:=ha
    simp [h,h',hix,ha0]
    rw [decide_eq_true (by omega)]
    simp
    refine sLit_f _ _ ?_
    simp
    rw [wrap64 (by omega) (by omega)]
    exact hL _ _ _ (1,vt 29 + 1) (by simp only; omega) (by simp only; omega) (by simp) (by simp [hs,encQ])
   ·simp [h,h',hix,h0,ha]
    rw [decide_eq_true (by omega)]
    simp
    refine sLit_f _ _ ?_
    simp [h0]
    rw [decide_eq_true (by omega)]
    simp
    rw [wrap64 (by omega) (by omega)]
    exact hL _ _ _ (i + 1,w + 1) (by simp only; omega) (by simp only; omega) (by simp) (by simp [hs,encQ])
 ·obtain rfl:i = s.length:=by omega
  by_cases h0:s.length = 0
  ·have:q = []:=List.length_eq_zero_iff.1 (by omega)
   subst this
   simp [h0,retW_eq]
  ·have:q.take s.length = q:=List.take_of_length_le (by omega)
   simp [h0,this,retW_eq]
theorem encTs_closed' (l:List Tm):closedLL (l.map encT) = true:=by simp
theorem cpI_nat (s:List (List Tm)) (a:Nat) (row:List Tm):cpI s a row = s.set a row:=by unfold cpI; rw [if_pos (by omega),Int.toNat_natCast]
theorem stAt_nat6 {s:List (List Tm)} {a:Nat} (h:a < s.length):stAt s a = s[a]:=by rw [stAt,List.getD_eq_getElem?_getD,Int.toNat_natCast,List.getElem?_eq_getElem h]; rfl
theorem sp_psh6 (s:List (List Tm)) (a:Nat) (t:Tm) (ha:a < s.length) (hl:s.length ≤ 100000) (hk:∀ l ∈ s,l.length ≤ 100000):Am.Spec Tryz.prog 120 [.sl (encSt s),.int .i64 a,.agg (encT t)] (.sl (encSt (stPush s a t))):=by
 have hm:=hk _ (List.getElem_mem ha)
 have hc:=sp_cpd s a (s[a] ++ [t]) (by omega) (fun l h=>by have:=hk l h; omega) (by simp; omega)
 rw [cpI_nat] at hc
 have hix:ixRows (encSt s) (a:Int) 1 = some (.elt (encQ s[a]) 0):=by rw [encSt_Q,ixRows_nat]; simp [List.getElem?_eq_getElem ha]
 unfold stPush
 rw [stAt_nat6 ha,Int.toNat_natCast]
 have ecl:closedLL (encSt (s.set a (s[a] ++ [t]))) = true:=by simp
 generalize encSt (s.set a (s[a] ++ [t])) = R at *
 have hcl2:closedLL ((s[a] ++ [t]).map encT) = true:=by simp only [encTs_closed']
 simp only [List.map_append,List.map_cons,List.map_nil] at hc hcl2
 refine W120_S (by simp) ?_
 intro vs
 simp [hix]
 rw [decide_eq_true (by omega)]
 simp
 rw [decide_eq_true (by omega)]
 simp
 refine scall0_pure hc (by simp) (by simp [hcl2]) ?_
 simp [retW_eq,ecl]
theorem sp_acc6 (s:List (List Tm)) (a:Nat) (hl:s.length ≤ 100000) (hk:∀ l ∈ s,l.length ≤ 100000):Am.Spec Tryz.prog 122 [.sl (encSt s),.int .i64 a] (.sl (encSt (stAccept s a))):=by
 have hc:=sp_cpd s a [] (by omega) (fun l h=>by have:=hk l h; omega) (by simp)
 rw [cpI_nat] at hc
 unfold stAccept
 rw [Int.toNat_natCast]
 refine W122_S (by simp) ?_
 intro vs
 simp
 refine scall_pure hc (by simp) (by simp) ?_
 simp [retW_eq]
theorem sp_mrg6 (s:List (List Tm)) (a b:Nat) (ha:a < s.length) (hb:b < s.length) (hl:s.length ≤ 100000) (hk:∀ l ∈ s,l.length ≤ 100000):Am.Spec Tryz.prog 123 [.sl (encSt s),.int .i64 a,.int .i64 b] (.sl (encSt (stMerge s a b))):=by
 unfold stMerge
 by_cases hab:a = b
 ·subst hab
  rw [if_pos rfl]
  have hc:=sp_cpd s (-1) [] (by omega) (fun l h=>by have:=hk l h; omega) (by simp)
  rw [show cpI s (-1) [] = s from rfl] at hc
  refine W123_S (by simp) ?_
  intro vs
  simp
  refine scall_pure hc (by simp) (by simp) ?_
  simp [retW_eq]
 ·have hab':¬ (a:Int) = b:=by omega
  rw [if_neg hab']
  have hma:=hk _ (List.getElem_mem ha)
  have hmb:=hk _ (List.getElem_mem hb)
  have hc:=sp_cpd s b (s[b] ++ s[a]) (by omega) (fun l h=>by have:=hk l h; omega) (by simp; omega)
  rw [cpI_nat] at hc
  have hc2:=sp_cpd (s.set b (s[b] ++ s[a])) a [] (by simp; omega) (fun l h=>by
   rcases List.mem_or_eq_of_mem_set h with h | rfl
   ·have:=hk l h; omega
   ·simp; omega) (by simp)
  rw [cpI_nat] at hc2
  have hixa:ixRows (encSt s) (a:Int) 1 = some (.elt (encQ s[a]) 0):=by rw [encSt_Q,ixRows_nat]; simp [List.getElem?_eq_getElem ha]
  have hixb:ixRows (encSt s) (b:Int) 1 = some (.elt (encQ s[b]) 0):=by rw [encSt_Q,ixRows_nat]; simp [List.getElem?_eq_getElem hb]
  rw [stAt_nat6 ha,stAt_nat6 hb,Int.toNat_natCast,Int.toNat_natCast]
  have ecl:closedLL (encSt ((s.set b (s[b] ++ s[a])).set a [])) = true:=by simp
  generalize encSt ((s.set b (s[b] ++ s[a])).set a []) = R at *
  have ecm:closedLL (encSt (s.set b (s[b] ++ s[a]))) = true:=by simp
  generalize encSt (s.set b (s[b] ++ s[a])) = M at *
  have hcl2:closedLL ((s[b] ++ s[a]).map encT) = true:=by simp only [encTs_closed']
  simp only [List.map_append] at hc hcl2
  refine W123_S (by simp) ?_
  intro vs
  simp [hab,hab',hixa,hixb]
  rw [decide_eq_true (by omega)]
  simp [hixa,hixb]
  rw [decide_eq_true (by omega)]
  simp
  refine scall0_pure hc (by simp) (by simp [hcl2]) ?_
  simp
  refine scall0_pure hc2 (by simp) (by simp [ecm]) ?_
  simp [retW_eq,ecl]
theorem sp_rev6 (s:List (List Tm)) (a:Nat) (ha:a < s.length) (hl:s.length ≤ 100000) (hk:∀ l ∈ s,l.length ≤ 100000) :
  Am.Spec Tryz.prog 121 [.sl (encSt s),.int .i64 a] (.tup [.agg (encT (stRev s[a])),.sl (encSt (stAccept s a))]):=by
 have hc:=sp_cpd s a [] (by omega) (fun l h=>by have:=hk l h; omega) (by simp)
 rw [cpI_nat] at hc
 unfold stAccept
 rw [Int.toNat_natCast]
 have hm:=hk _ (List.getElem_mem ha)
 have hix:ixRows (encSt s) (a:Int) 1 = some (.elt (encQ s[a]) 0):=by rw [encSt_Q,ixRows_nat]; simp [List.getElem?_eq_getElem ha]
 have ecl:closedLL (encSt (s.set a [])) = true:=by simp
 generalize encSt (s.set a []) = R at *
 generalize hL:s[a] = l at *
 refine W121_S (by simp) ?_
 intro vs
 simp [-W121_l7]
 refine sLoop_intro (α:=Nat × List AV) (fun x=>x.1 ≤ l.length ∧ TellsT x.2 (stRev (l.take x.1))) (fun x=>l.length - x.1)
  (fun x=>[(0,.sl (encSt s)),(1,.int .i64 a),(4,.ref 4 (vs 4 + 1) (.p 0)),(6,.ref 6 (vs 6 + 1) (.p 0)),(7,.int .i64 (x.1:Nat))])
  (fun x=>[(4,.box (vs 4 + 1) 35 [.int .i64 0,.int .i64 0,.int .i64 0,.str ⟨#[]⟩,.int .i64 0,.int .i64 0,.str ⟨#[]⟩,.nils,.nils]),(6,.box (vs 6 + 1) 35 x.2)])
  (0,[.int .i64 0,.int .i64 0,.int .i64 0,.str ⟨#[]⟩,.int .i64 0,.int .i64 0,.str ⟨#[]⟩,.nils,.nils]) ⟨by simp,tells_zero⟩ (by simp) (by simp) ?_
 rintro L ⟨i,c⟩ vt ⟨hi,hT⟩ hL2
 simp only at hi hT hL2 ⊢
 have hrd:=readA_whole hT.len
 have hpu:=hT.pur
 have hfz:=hT.frz
 have hok:=hT.ok
 have hln:=hT.len
 by_cases h:i < l.length
 ·have h':(i:Int) < l.length:=by omega
  by_cases h0:i = 0
  ·subst h0
   have hset:=setL_whole c (encT l[0]) (by rw [hln]; simp)
   have w1:IntKind.wrap .i64 1 = 1:=wrap64 (by omega) (by omega)
   simp [h,h',hix,hln,hset,w1]
   refine hL2 _ _ _ (1,encT l[0]) ⟨h,?_⟩ (by simp only; omega) (by simp) (by simp)
   have e:stRev (l.take 1) = l[0]:=by
    cases l with
    | nil=>simp at h
    | cons x l=>rfl
   simp only [e]
   exact tells_enc _
  ·have hset:=setL_whole c (rawC l[i] (stRev (l.take i))) (by rw [hln]; rfl)
   simp only [rawC] at hset
   simp [h,h',h0,hix,hrd,hpu,hfz,hln,hset]
   rw [wrap64 (by omega) (by omega)]
   refine hL2 _ _ _ (i + 1,rawC l[i] (stRev (l.take i))) ⟨h,?_⟩ (by simp only; omega) (by simp) (by simp [rawC])
   simp only [stRev_succ l i h (by omega)]
   exact tells_raw _ _
 ·have h':¬ (i:Int) < l.length:=by omega
  obtain rfl:i = l.length:=by omega
  rw [List.take_length] at hT hpu
  have hset:=setL_whole [.int .i64 0,.int .i64 0,.int .i64 0,.str ⟨#[]⟩,.int .i64 0,.int .i64 0,.str ⟨#[]⟩,.nils,.nils] c (by rw [hln]; rfl)
  simp [hix,hrd]
  refine scall0_pure hc (by simp) (by simp) ?_
  simp [hrd,hset,hpu,hfz,hln,hok,ecl,retW_eq]
end Go.Proofs.YtnngddgaobhkiaaGreat
namespace Go.Proofs.YtnngddgaobhkiaaGreat
open Go Go.Am Go.RowKit
attribute [local simp] W53 W53_rs W53_k1 W53_b2 W53_l3 W55 W55_rs W55_k1 W55_k2 W55_b3 W55_b4 W55_l5 W56 W56_rs W56_b1 W56_b3 W45 W45_rs W45_b1 W45_b4 W45_b5 W45_b7 W45_b10 W45_k2 W45_l9 W20 W20_rs W20_b1 W20_b3 W20_b5 W20_k2 W15 W15_rs
theorem path_at (t:Tm) (p:List Int) (hp:OnPath t p) (i:Nat) (h:i < p.length):∃ j:Nat,p[i] = j ∧ ∃ hj:j < (atT t (p.take i)).l.length,OnPath (atT t (p.take i)) (p.drop i) ∧ atT t (p.take (i + 1)) = (atT t (p.take i)).l[j]:=by
 induction hp generalizing i with
 | nil t=>simp at h
 | cons t k hk q hq ih=>
  cases i with
  | zero=>
   refine ⟨k,rfl,hk,.cons t k hk q hq,?_⟩
   simp only [List.take_succ_cons,List.take_zero]
   rw [atT_cons t k hk]
   rfl
  | succ i=>
   obtain ⟨j,e,hj,ho,ha⟩:=ih i (by simpa using h)
   refine ⟨j,by simpa using e,?_⟩
   simp only [List.take_succ_cons,List.drop_succ_cons,atT_cons t k hk]
   exact ⟨hj,ho,ha⟩
theorem sp_at8 (t:Tm) (p:List Int) (hp:OnPath t p) (hl:p.length ≤ 100000000):Am.Spec Tryz.prog 53 [.agg (encT t),.sl (encI p)] (.agg (encT (atT t p))):=by
 refine W53_S (by simp) ?_
 intro vs
 simp [-W53_l3]
 refine sLoop_intro (fun i=>i ≤ p.length) (fun i=>p.length - i) (fun i=>[(1,.sl (encI p)),(2,.ref 2 (vs 2 + 1) (.p 0)),(4,.ref 4 (vs 4 + 1) (.p 0)),(5,.int .i64 (i:Nat))])
  (fun i=>[(2,.box (vs 2 + 1) 35 (encT (atT t (p.take i)))),(4,.box (vs 4 + 1) 35 [.int .i64 0,.int .i64 0,.int .i64 0,.str ⟨#[]⟩,.int .i64 0,.int .i64 0,.str ⟨#[]⟩,.nils,.nils])]) 0 (by simp) (by simp) (by simp [atT]) ?_
 intro L i vt hi hL
 by_cases h:i < p.length
 ·have h':(i:Int) < p.length:=by omega
  obtain ⟨j,e,hj,-,ha⟩:=path_at t p hp i h
  have hix0:=encI_at p i h _ e
  have hix:ixRows ((atT t (p.take i)).l.map encT) (j:Int) 9 = some (.elt (encT (atT t (p.take i)).l[j]) 0):=by rw [ixRows_nat]; simp [List.getElem?_eq_getElem hj]
  simp [h,h',hix0,hix]
  rw [wrap64 (by omega) (by omega)]
  refine hL _ _ _ (i + 1) h (by omega) (by simp) (by simp [ha])
 ·have h':¬ (i:Int) < p.length:=by omega
  rw [List.take_of_length_le (by omega)]
  simp [h,h',retW_eq]
theorem outT_take (t:Tm) (p:List Int) (hp:OnPath t p):∀ (i k n:Nat),i ≤ p.length → outT t p k n = outT (atT t (p.take i)) (p.drop i) (k + i) (outT t (p.take i) k n):=by
 induction hp with
 | nil t=>intro i k n h; simp at h; subst h; rfl
 | cons t j hj q hq ih=>
  intro i k n h
  cases i with
  | zero=>rfl
  | succ i=>
   simp only [List.take_succ_cons,List.drop_succ_cons]
   rw [outT_cons t j hj,outT_cons t j hj,atT_cons t j hj,ih i (k + 1) _ (by simpa using h),show k + 1 + i = k + (i + 1) by omega]
theorem outT_snoc (t:Tm) (p:List Int) (hp:OnPath t p) (i:Nat) (h:i < p.length):outT t (p.take (i + 1)) 0 0 = if (atT t (p.take i)).kind = 7 then i else outT t (p.take i) 0 0:=by
 have hq:OnPath t (p.take (i + 1)):=by
  clear h
  induction hp generalizing i with
  | nil t=>simpa using OnPath.nil t
  | cons t j hj q hq ih=>
   cases i with
   | zero=>exact .cons t j hj _ (by simpa using OnPath.nil _)
   | succ i=>simp only [List.take_succ_cons]; exact .cons t j hj _ (ih i)
 have e:=outT_take t (p.take (i + 1)) hq i 0 0 (by simp; omega)
 rw [List.take_take,Nat.min_eq_left (by omega)] at e
 rw [e]
 have hd:(p.take (i + 1)).drop i = [p[i]]:=by rw [List.drop_take,show i + 1 - i = 1 by omega,List.drop_eq_getElem_cons h]; rfl
 rw [hd,Nat.zero_add]
 rfl
theorem sp_out8 (t:Tm) (p:List Int) (hp:OnPath t p) (hl:p.length ≤ 100000000):Am.Spec Tryz.prog 55 [.agg (encT t),.sl (encI p)] (.int .i64 (outT t p 0 0:Nat)):=by
 refine W55_S (by simp) ?_
 intro vs
 simp [-W55_l5]
 refine sLoop_intro (fun i=>i ≤ p.length) (fun i=>p.length - i) (fun i=>[(1,.sl (encI p)),(2,.ref 2 (vs 2 + 1) (.p 0)),(5,.int .i64 (outT t (p.take i) 0 0:Nat)),(6,.int .i64 (i:Nat))])
  (fun i=>[(2,.box (vs 2 + 1) 35 (encT (atT t (p.take i))))]) 0 (by simp) (by simp [outT]) (by simp [atT]) ?_
 intro L i vt hi hL
 by_cases h:i < p.length
 ·have h':(i:Int) < p.length:=by omega
  obtain ⟨j,e,hj,-,ha⟩:=path_at t p hp i h
  have hix0:=encI_at p i h _ e
  have hix:ixRows ((atT t (p.take i)).l.map encT) (j:Int) 9 = some (.elt (encT (atT t (p.take i)).l[j]) 0):=by rw [ixRows_nat]; simp [List.getElem?_eq_getElem hj]
  have ho:=outT_snoc t p hp i h
  by_cases k7:(atT t (p.take i)).kind = 7
  ·rw [if_pos k7] at ho
   simp [h,h',hix0,hix,k7]
   rw [wrap64 (by omega) (by omega)]
   refine hL _ _ _ (i + 1) h (by omega) (by simp [ho]) (by simp [ha])
  ·rw [if_neg k7] at ho
   simp [h,h',hix0,hix,k7]
   rw [wrap64 (by omega) (by omega)]
   refine hL _ _ _ (i + 1) h (by omega) (by simp [ho]) (by simp [ha])
 ·have h':¬ (i:Int) < p.length:=by omega
  rw [List.take_of_length_le (by omega)]
  simp [h,h',retW_eq]
theorem sp_put8:∀ (p:List Int) (t x:Tm),OnPath t p → p.length ≤ 100000000 → t.lok → Am.Spec Tryz.prog 56 [.agg (encT t),.sl (encI p),.agg (encT x)] (.agg (encT (putT t p x)))
 | [],t,x,hp,hl,hk=>by
  refine W56_S (by simp) ?_
  intro vs
  simp [encI,putT,retW_eq]
 | a :: q,t,x,hp,hl,hk=>by
  obtain ⟨j,rfl,hj,hq⟩:=onPath_cons hp
  have ih:=sp_put8 q t.l[j] x hq (by simp at hl; omega) (Tm.lok_mem hk (List.getElem_mem hj))
  have hlen:=Tm.lok_len hk
  have hn:¬ ((q.length:Int) + 1 = 0):=by omega
  have hj':(j:Int) < t.l.length:=by omega
  have hsl:slcV 1 (encI ((j:Int) :: q)) (some (.i64,1)) none = some (.sl (encI q)):=by
   rw [slcV_from 1 _ .i64 1 1 rfl (by simp) (fun r hr=>(encI_cell _ r hr).1)]
   simp [encI]
  have hset:∀ y:AV,setL (encT t) 8 [y] = [.int .i64 t.kind,.int .i64 t.a,.int .i64 t.b,.str t.name,.int .i64 t.e.kind,.int .i64 t.e.n,.str t.e.name,.sl (t.e.l.map encE),y]:=fun y=>by rw [encT_eq]; rfl
  have hi0:ixRows (encI ((j:Int) :: q)) 0 1 = some (.elt [.int .i64 j] 0):=encI_at _ 0 (by simp) j rfl
  rw [putT_cons t j hj]
  generalize putT t.l[j] q x = y at *
  refine W56_S (by simp) ?_
  intro vs
  simp [hn]
  rw [decide_eq_true (by omega)]
  simp [hset,hi0,hsl,hj,hj']
  refine scall0_pure ih (by simp) (by simp) ?_
  simp [hj,hj',hset,retW_eq]
  rw [← List.map_set]
  exact ⟨closedLL_sl_map encT encT_closed _,by simp only [Tm.withL]; rw [encT_mk,encE_eq]; rfl⟩
theorem waitP_scan (key:Int) (t:Tm) (ho:okN t = true) (hk:t.kind ≠ 14):waitP key t = waitPs key (t.l.take (aN t)) 0:=by
 rw [waitP_eq,if_neg hk]
 by_cases k12:t.kind = 12
 ·rw [if_pos k12,show aN t = 1 from by unfold aN; rw [if_pos (.inl k12)]]
 ·rw [if_neg k12]
  by_cases k11:t.kind = 11
  ·obtain ⟨x,y,hl,-⟩:=okN_two ho (.inr k11)
   rw [if_pos (.inl k11),show aN t = 2 from by unfold aN; rw [if_neg (by omega),if_pos k11],hl]; rfl
  ·by_cases k7:t.kind = 7
   ·obtain ⟨x,hl,-⟩:=okN_one ho k7
    rw [if_pos (.inr k7),show aN t = 1 from by unfold aN; rw [if_pos (.inr k7)],hl]; rfl
   ·rw [if_neg (by omega),show aN t = 0 from by unfold aN; rw [if_neg (by omega),if_neg k11]]; rfl
def toldX (key:Int) (t:Tm):Tm:=match waitP key t with
 | some p=>putT t p .skip
 | none=>if t.kind = 14 then .skip else t
def toldW (key:Int) (t:Tm):Tm:=match waitP key t with
 | some p=>atT t p
 | none=>if t.kind = 14 then t else .skip
theorem sp_told (key:Int) (t:Tm) (ho:okN t = true) (hw:t.wt ≤ 100000000):Am.Spec Tryz.prog 45 [.agg (encT t),.int .i64 key] (.tup [.agg (encT (toldX key t)),.agg (encT (toldW key t)),.bool (waitP key t).isSome]):=by
 have ih:∀ (i:Nat) (hi:i < t.l.length),Am.Spec Tryz.prog 45 [.agg (encT t.l[i]),.int .i64 key] (.tup [.agg (encT (toldX key t.l[i])),.agg (encT (toldW key t.l[i])),.bool (waitP key t.l[i]).isSome]):=fun i hi=>
  sp_told key t.l[i] (okN_mem ho _ (List.getElem_mem hi)) (by have:=Tm.wts_mem (List.getElem_mem hi); have:=t.wt_eq; omega)
 have esk:encT .skip = [.int .i64 0,.int .i64 0,.int .i64 0,.str ⟨#[]⟩,.int .i64 0,.int .i64 0,.str ⟨#[]⟩,.sl [],.sl []]:=by rw [encT_eq]; rfl
 by_cases k14:t.kind = 14
 ·have e:=waitP_eq key t
  rw [if_pos k14] at e
  by_cases ha:t.a = key
  ·rw [if_pos ha] at e
   have e1:toldX key t = .skip:=by unfold toldX; rw [e]; rfl
   have e2:toldW key t = t:=by unfold toldW; rw [e]; rfl
   rw [e1,e2,e,esk]
   refine W45_S (by simp) ?_
   intro vs
   simp [k14,ha,retW_eq]
  ·rw [if_neg ha] at e
   have e1:toldX key t = .skip:=by unfold toldX; rw [e]; simp [k14]
   have e2:toldW key t = t:=by unfold toldW; rw [e]; simp [k14]
   rw [e1,e2,e,esk]
   refine W45_S (by simp) ?_
   intro vs
   simp [k14,ha,retW_eq]
 ·have e:=waitP_scan key t ho k14
  have hac:=sp_a5 t
  have hale:=aN_le t ho
  have hlen:(t.l.take (aN t)).length = aN t:=by rw [List.length_take]; omega
  have hget:∀ i,∀ h:i < aN t,(t.l.take (aN t))[i]'(by omega) = t.l[i]'(by omega):=fun i h=>by simp
  obtain ⟨r,hr⟩:∃ r,(.tup [.agg (encT (toldX key t)),.agg (encT (toldW key t)),.bool (waitP key t).isSome]:AV) = r:=⟨_,rfl⟩
  rw [hr]
  refine W45_S (by simp) ?_
  intro vs
  simp [-W45_l9,k14]
  refine sLoop_intro (fun i:Nat=>i ≤ aN t ∧ waitPs key (t.l.take (aN t)) 0 = waitPs key ((t.l.take (aN t)).drop i) i) (fun i=>aN t - i)
   (fun i=>[(1,.int .i64 key),(2,.ref 2 (vs 2 + 1) (.p 0)),(4,.ref 4 (vs 4 + 1) (.p 0)),(5,.ref 5 (vs 5 + 1) (.p 0)),(7,.int .i64 (i:Nat))])
   (fun _=>[(2,.box (vs 2 + 1) 35 (encT t)),(4,.box (vs 4 + 1) 35 [.int .i64 0,.int .i64 0,.int .i64 0,.str ⟨#[]⟩,.int .i64 0,.int .i64 0,.str ⟨#[]⟩,.nils,.nils]),(5,.box (vs 5 + 1) 35 [.int .i64 0,.int .i64 0,.int .i64 0,.str ⟨#[]⟩,.int .i64 0,.int .i64 0,.str ⟨#[]⟩,.nils,.nils])])
   0 (by simp) (by simp) (by simp) ?_
  rintro L i vt ⟨hi,hsc⟩ hL
  by_cases hc:i < aN t
  ·have hc':(i:Int) < aN t:=by omega
   have hil:i < t.l.length:=by omega
   have hil':(i:Int) < t.l.length:=by omega
   have hd:=waitPs_drop key (t.l.take (aN t)) i (by omega)
   rw [hget i hc] at hd
   have hx:=ih i hil
   cases hwi:waitP key t.l[i] with
   | some q=>
    rw [hwi] at hd hx
    simp only at hd
    have ew:waitP key t = some ((i:Int) :: q):=by rw [e,hsc,hd]
    have e1:toldX key t = putT t [(i:Int)] (toldX key t.l[i]):=by
     unfold toldX
     rw [ew,hwi]
     simp only
     rw [putT_cons t i hil,putT_cons t i hil]
     rfl
    have e2:toldW key t = toldW key t.l[i]:=by
     unfold toldW
     rw [ew,hwi]
     exact atT_cons t i hil q
    have hp:=sp_put8 [(i:Int)] t (toldX key t.l[i]) (.cons t i hil [] (.nil _)) (by simp) (Tm.lok_of_wt t (by omega))
    rw [← e1] at hp
    rw [e2,ew] at hr
    subst hr
    generalize toldX key t.l[i] = X at *
    generalize toldW key t.l[i] = Wt at *
    generalize toldX key t = Y at *
    simp only [Option.isSome_some] at hx
    simp
    refine scall_pure hac (by simp) (by simp) ?_
    simp [hc,hil]
    refine scall_pure hx (by simp) (by simp) ?_
    simp
    refine scall0_pure hp (by simp [encI]) (by simp) ?_
    simp [retW_eq]
   | none=>
    rw [hwi] at hd hx
    simp only at hd
    simp only [Option.isSome_none] at hx
    generalize toldX key t.l[i] = X at *
    generalize toldW key t.l[i] = Wt at *
    simp
    refine scall_pure hac (by simp) (by simp) ?_
    simp [hc,hil]
    refine scall_pure hx (by simp) (by simp) ?_
    simp
    rw [wrap64 (by omega) (by omega)]
    exact hL _ _ _ (i + 1) ⟨hc,by rw [hsc,hd]⟩ (by omega) (by simp) (by simp)
  ·obtain rfl:i = aN t:=by omega
   have ew:waitP key t = none:=by rw [e,hsc,List.drop_of_length_le (by omega)]; rfl
   have e1:toldX key t = t:=by unfold toldX; rw [ew]; simp [k14]
   have e2:toldW key t = .skip:=by unfold toldW; rw [ew]; simp [k14]
   rw [e1,e2,ew,esk] at hr
   subst hr
   simp
   refine scall_pure hac (by simp) (by simp) ?_
   simp [retW_eq]
termination_by SizeOf.sizeOf t
decreasing_by exact Tm.lt_of_mem (List.getElem_mem hi)
theorem sp_tel8 {vn sn:Int} {ps:List Tm} {f:Cfg} (hf:OkF vn sn ps f) (hvn:vn ≤ 1000) (key value:Int):Am.Spec Tryz.prog 20 [.agg (encF f),.int .i64 key,.int .i64 value] (toldR (tellM f key value)):=by
 have hw:=hf.enbWt
 have h1:=sp_told key f.t hw.2 hw.1
 have hvl:=hf.vlen hvn
 rw [tellM_eq hf.norm]
 cases e:waitP key f.t with
 | none=>
  rw [e] at h1
  simp only [Option.isSome_none] at h1
  generalize toldX key f.t = X at *
  generalize toldW key f.t = Wt at *
  simp only [toldR,encF_zero,encEv_zero]
  refine W20_S (by simp) ?_
  intro vs
  simp
  refine scall_pure h1 (by simp) (by simp) ?_
  simp [retW_eq]
 | some p=>
  have ex:toldX key f.t = putT f.t p .skip:=by unfold toldX; rw [e]
  have ew:toldW key f.t = atT f.t p:=by unfold toldW; rw [e]
  rw [e,ex,ew] at h1
  simp only [Option.isSome_some] at h1
  have hp:=tell_put hf e
  have hb:=tell_b hf e
  have hn:=sp_n5 (putT f.t p .skip) (right_okN _ _ _ _ _ hp.1)
  have e9:=setF_9L f 26
  have et:=fun v n=>setFL_t f 26 v n
  simp only [toldR]
  generalize (putT f.t p .skip).norm = n3 at *
  generalize putT f.t p .skip = n2 at *
  generalize atT f.t p = x at *
  by_cases h0:0 ≤ x.b
  ·have hlt:x.b.toNat < f.vars.length:=by omega
   have hb1:=hb.1
   have eset:(encI f.vars).set x.b.toNat [.int .i64 value] = encI (f.vars.set x.b.toNat value):=by simp [encI,List.map_set]
   refine W20_S (by simp) ?_
   intro vs
   simp
   refine scall_pure h1 (by simp) (by simp) ?_
   simp
   rw [decide_eq_true (by omega)]
   simp [e9]
   refine scall_pure hn (by simp) (by simp) ?_
   simp [et,h0,hb1,eset,retW_eq]
   rw [fl_ret _ _ 26 _ 3 (f.vars.set x.b.toNat value) (by simp)]
   exact ⟨by simp,by first | rfl | rw [if_pos h0],rfl⟩
  ·refine W20_S (by simp) ?_
   intro vs
   simp
   refine scall_pure h1 (by simp) (by simp) ?_
   simp
   rw [decide_eq_true (by omega)]
   simp [e9]
   refine scall_pure hn (by simp) (by simp) ?_
   simp [et,h0,retW_eq]
   rw [fl_ret _ _ 26 _ 3 f.vars (by simp)]
   exact ⟨by simp,by first | rfl | rw [if_neg h0],rfl⟩
theorem nrm_rep (n:Nat):nrmLL (List.replicate n [.nils]) = List.replicate n [.sl []]:=by
 rw [nrmLL_map,List.map_replicate]; rfl
theorem closed_rep:∀ n:Nat,closedLL (List.replicate n [.nils]) = true
 | 0=>rfl
 | n + 1=>by rw [List.replicate_succ,closedLL,closed_rep n]; rfl
theorem sp_beg8 {c:Cor} (h:CorOk c):Am.Spec Tryz.prog 15 [.agg (encC c)] (.agg (encF (begM c))):=by
 obtain ⟨m,hm,e,eg⟩:=main_get h
 have hk:=chk_ok h.chk
 have ha:=hk.all _ (List.getElem_mem hm)
 have h1:=sp_n5 c.procs[m] (right_okN _ _ _ _ _ ha.2.2)
 obtain ⟨n,hn⟩:∃ n:Nat,c.stacks = n:=⟨c.stacks.toNat,by have:=hk.st; omega⟩
 have hst:=hk.st
 have hvl:=hk.vars
 have hix:ixRows (c.procs.map encT) (m:Int) 9 = some (.elt (encT c.procs[m]) 0):=by
  rw [ixRows_nat]; simp [List.getElem?_eq_getElem hm]
 have eb:begM c = ⟨c.procs[m].norm,c.vars,List.replicate n [],0,0⟩:=by unfold begM; rw [eg,hn]; rfl
 rw [eb]
 have hr:encF ⟨c.procs[m].norm,c.vars,List.replicate n [],0,0⟩ = encT c.procs[m].norm ++ [.sl (encI c.vars),.sl (List.replicate n [.sl []]),.int .i64 0,.int .i64 0]:=by
  rw [encF,show encSt (List.replicate n []) = List.replicate n [.sl []] from by simp [encSt]]
 rw [hr]
 generalize c.procs[m].norm = x at *
 refine Spec.resN (r:=.agg (encT x ++ [.sl (encI c.vars),.sl (List.replicate n [.nils]),.int .i64 0,.int .i64 0])) ?_ (by simp [nrm,nrmL_append,nrmL,nrm_rep,nrmLL_map,encI])
 refine W15_S (by simp) ?_
 intro vs
 simp [e,hn,hix]
 refine scall0_pure h1 (by simp) (by simp) ?_
 simp [e,hn,hix]
 rw [decide_eq_true (by omega)]
 simp [e,hn,hix]
 rw [show (decide (24 * n ≤ 281474976710656) && decide (n ≤ maxLen)) = true by rw [decide_eq_true (by omega),decide_eq_true (by unfold maxLen; omega)]; rfl]
 simp [setB9,retW_eq]
 exact closed_rep n
end Go.Proofs.YtnngddgaobhkiaaGreat
namespace Go.Proofs.YtnngddgaobhkiaaGreat
open Go Go.Am Go.RowKit
attribute [local simp] W90 W90_rs W90_k1 W90_b3 W90_b5 W90_b7 W90_b9 W90_b10 W90_b11 W90_b12 W54 W54_rs W54_b1 W54_b3 W54_b5 W54_b6 W54_b7 W54_b9 W54_b10 W54_b11 W54_b12 W54_b14 W54_b15 W54_b16 W54_b17 W54_b18 W54_b19 W54_k2
def nilT:List AV:=[.int .i64 0,.int .i64 0,.int .i64 0,.str ⟨#[]⟩,.int .i64 0,.int .i64 0,.str ⟨#[]⟩,.nils,.nils]
def stkT (f:Cfg) (x:Tm):List AV:=if x.kind = 4 then encT (stRev (stAt f.st x.a)) else nilT
theorem hs_stk (ps:List Tm) (f:Cfg) (v1 v2:Nat) (x:Tm) (alt:Int) {vn sn:Int} (hf:OkF vn sn ps f) (hsn:sn ≤ 1000) (hx:tmRight vn sn ps.length x false = true) (hk:x.kind = 3 ∨ x.kind = 4 ∨ x.kind = 5 ∨ x.kind = 6) (vars:List Int) :
  Am.HSpecL Tryz.prog 90 [.ref 1 v1 (.p 0),.agg (encT x)] [(1,.box v1 38 (encFL f 2 v2)),(2,.row v2 3 1 (encI vars))] fun r l'=>
   r = .agg (stkT f x) ∧ l' = [(1,.box v1 38 (encFL { f with st:=(deed ps f x alt).st } 2 v2)),(2,.row v2 3 1 (encI vars))]:=by
 obtain ⟨hok,-,-⟩:=right_ok hx
 have hslen:=hf.slen hsn
 have hrow:=hf.srow
 have hst:=hf.st
 have s10:=fun sts=>setFL_10 f 2 v2 sts
 have ha:=ok_a hok
 rcases hk with k | k | k | k
 ·rw [k] at ha
  have ha:=num3 (v:=vn) (p:=ps.length) ha
  obtain ⟨a,hxa⟩:∃ a:Nat,x.a = a:=⟨x.a.toNat,by omega⟩
  have hl:=ok_l hok; rw [k] at hl
  have hl:(x.l.length:Int) = 1:=hl
  obtain ⟨y,hy⟩:∃ y,x.l = [y]:=List.length_eq_one_iff.1 (by omega)
  have hp:=sp_psh6 f.st a y (by omega) (by omega) (fun l hl=>by have:=hrow l hl; omega)
  have e:(deed ps f x alt).st = stPush f.st a y:=by unfold deed; rw [if_neg (by omega),if_neg (by omega),if_pos k,hxa,hy]; rfl
  have e2:stkT f x = nilT:=by unfold stkT; rw [if_neg (by omega)]
  rw [e,e2]
  refine Am.HSpecL.of_W (W:=W90) Tryz.func90 (by kernel_rfl) (by kernel_rfl) (by kernel_rfl) Tryz.ntmps90 W90_eq (rs:=[.cell 4 35]) (by kernel_rfl) (by simp) ?_
  intro vs
  simp [k,hxa,hy]
  refine scall0_pure hp (by simp) (by simp) ?_
  simp [s10]
  refine retHW_to [(1,.box v1 38 (encFL { f with st:=stPush f.st a y } 2 v2)),(2,.row v2 3 1 (encI vars))] ?_
  simp [nilT]
 ·rw [k] at ha
  have ha:=num3 (v:=vn) (p:=ps.length) ha
  obtain ⟨a,hxa⟩:∃ a:Nat,x.a = a:=⟨x.a.toNat,by omega⟩
  have hp:=sp_rev6 f.st a (by omega) (by omega) (fun l hl=>by have:=hrow l hl; omega)
  rw [← stAt_nat6 (s:=f.st) (a:=a) (by omega)] at hp
  have e:(deed ps f x alt).st = stAccept f.st a:=by unfold deed; rw [if_neg (by omega),if_neg (by omega),if_neg (by omega),if_pos k,hxa]
  have e2:stkT f x = encT (stRev (stAt f.st a)):=by unfold stkT; rw [if_pos k,hxa]
  rw [e,e2]
  generalize stRev (stAt f.st a) = y at *
  refine Am.HSpecL.of_W (W:=W90) Tryz.func90 (by kernel_rfl) (by kernel_rfl) (by kernel_rfl) Tryz.ntmps90 W90_eq (rs:=[.cell 4 35]) (by kernel_rfl) (by simp) ?_
  intro vs
  simp [k,hxa]
  refine scall0_pure hp (by simp) (by simp) ?_
  simp [s10]
  refine retHW_to [(1,.box v1 38 (encFL { f with st:=stAccept f.st a } 2 v2)),(2,.row v2 3 1 (encI vars))] ?_
  simp
 ·rw [k] at ha
  have ha:=num3 (v:=vn) (p:=ps.length) ha
  obtain ⟨a,hxa⟩:∃ a:Nat,x.a = a:=⟨x.a.toNat,by omega⟩
  have hp:=sp_acc6 f.st a (by omega) (fun l hl=>by have:=hrow l hl; omega)
  have e:(deed ps f x alt).st = stAccept f.st a:=by unfold deed; rw [if_neg (by omega),if_neg (by omega),if_neg (by omega),if_neg (by omega),if_pos k,hxa]
  have e2:stkT f x = nilT:=by unfold stkT; rw [if_neg (by omega)]
  rw [e,e2]
  refine Am.HSpecL.of_W (W:=W90) Tryz.func90 (by kernel_rfl) (by kernel_rfl) (by kernel_rfl) Tryz.ntmps90 W90_eq (rs:=[.cell 4 35]) (by kernel_rfl) (by simp) ?_
  intro vs
  simp [k,hxa]
  refine scall0_pure hp (by simp) (by simp) ?_
  simp [s10]
  refine retHW_to [(1,.box v1 38 (encFL { f with st:=stAccept f.st a } 2 v2)),(2,.row v2 3 1 (encI vars))] ?_
  simp [nilT]
 ·have hb:=ok_b hok
  rw [k] at ha hb
  have ha:=num3 (v:=vn) (p:=ps.length) ha
  have hb:=num3 (v:=vn) (p:=ps.length) hb
  obtain ⟨a,hxa⟩:∃ a:Nat,x.a = a:=⟨x.a.toNat,by omega⟩
  obtain ⟨b,hxb⟩:∃ b:Nat,x.b = b:=⟨x.b.toNat,by omega⟩
  have hp:=sp_mrg6 f.st a b (by omega) (by omega) (by omega) (fun l hl=>by have:=hrow l hl; omega)
  have e:(deed ps f x alt).st = stMerge f.st a b:=by unfold deed; rw [if_neg (by omega),if_neg (by omega),if_neg (by omega),if_neg (by omega),if_neg (by omega),if_pos k,hxa,hxb]
  have e2:stkT f x = nilT:=by unfold stkT; rw [if_neg (by omega)]
  rw [e,e2]
  refine Am.HSpecL.of_W (W:=W90) Tryz.func90 (by kernel_rfl) (by kernel_rfl) (by kernel_rfl) Tryz.ntmps90 W90_eq (rs:=[.cell 4 35]) (by kernel_rfl) (by simp) ?_
  intro vs
  simp [k,hxa,hxb]
  refine scall0_pure hp (by simp) (by simp) ?_
  simp [s10]
  refine retHW_to [(1,.box v1 38 (encFL { f with st:=stMerge f.st a b } 2 v2)),(2,.row v2 3 1 (encI vars))] ?_
  simp [nilT]
def oneT (ps:List Tm) (f:Cfg) (x:Tm) (alt:Int):List AV:=
 if x.kind = 1 then [.int .i64 14,.int .i64 f.key,.int .i64 x.a,.str x.name,.int .i64 0,.int .i64 0,.str ⟨#[]⟩,.nils,.nils]
 else if x.kind = 4 ∨ x.kind = 9 ∨ x.kind = 10 ∨ x.kind = 13 then encT (deed ps f x alt).t else nilT
theorem oneT_tells (ps:List Tm) (f:Cfg) (x:Tm) (alt:Int):TellsT (oneT ps f x alt) (deed ps f x alt).t:=by
 unfold oneT
 split
 ·rename_i k
  have e:(deed ps f x alt).t = ⟨14,f.key,x.a,x.name,.zero,[]⟩:=by unfold deed; rw [if_pos k]
  rw [e]
  exact tells_wait _ _ _
 ·rename_i k1
  split
  ·exact tells_enc _
  ·rename_i k
   have e:(deed ps f x alt).t = .skip:=by
    unfold deed
    rw [if_neg k1]
    split
    ·split <;> rfl
    split
    ·rfl
    split
    ·exact absurd ‹x.kind = 4› (fun h=>k (.inl h))
    split
    ·rfl
    split
    ·rfl
    split
    ·exact absurd ‹x.kind = 9› (fun h=>k (.inr (.inl h)))
    split
    ·exact absurd ‹x.kind = 10› (fun h=>k (.inr (.inr (.inl h))))
    split
    ·exact absurd ‹x.kind = 13› (fun h=>k (.inr (.inr (.inr h))))
    ·rfl
   rw [e]
   exact tells_zero
def oneR (ps:List Tm) (f:Cfg) (x:Tm) (alt:Int):List AV:=oneT ps f x alt ++ (encEv (deed ps f x alt).ev ++ [.bool (deed ps f x alt).is,.int .i64 (deed ps f x alt).e])
theorem set13 (t:Tm) (a b c d e0 e:AV):setL (encT t ++ [a,b,c,d,e0]) 13 [e] = encT t ++ [a,b,c,d,e]:=by rw [encT_eq]; rfl
theorem hs_one (c:Cor) (f:Cfg) (v1 v2:Nat) (x:Tm) (alt:Int) {vn sn:Int} (he:Env8 vn sn c.procs) (hf:OkF vn sn c.procs f) (hvn:vn ≤ 1000) (hsn:sn ≤ 1000) (hx:tmRight vn sn c.procs.length x false = true) (hxe:allE x = true)
  (hk:x.kind = 1 ∨ x.kind = 2 ∨ x.kind = 3 ∨ x.kind = 4 ∨ x.kind = 5 ∨ x.kind = 6 ∨ x.kind = 8 ∨ x.kind = 9 ∨ x.kind = 10 ∨ x.kind = 13) (halt:x.kind = 10 → 0 ≤ alt ∧ alt ≤ 1) :
  Am.HSpecL Tryz.prog 54 [.agg (encC c),.ref 1 v1 (.p 0),.agg (encT x),.int .i64 alt] [(1,.box v1 38 (encFL f 2 v2)),(2,.row v2 3 1 (encI f.vars))] fun r l'=>
   r = .agg (oneR c.procs f x alt) ∧ l' = [(1,.box v1 38 (encFL { f with st:=(deed c.procs f x alt).st,key:=(deed c.procs f x alt).key } 2 v2)),(2,.row v2 3 1 (encI (deed c.procs f x alt).vars))]:=by
 obtain ⟨hok,⟨hk0,hk1⟩,-⟩:=right_ok hx
 have hkey:=hf.key
 have hvars:=hf.vars
 have hsteps:=hf.steps
 have ha:=ok_a hok
 have hl:=ok_l hok
 have wkey:IntKind.wrap .i64 (f.key + 1) = f.key + 1:=wrap64 (by omega) (by omega)
 have s12:=fun k=>setFL_12 f 2 v2 k
 have hev:x.kind = 2 ∨ x.kind = 9 → Am.Spec Tryz.prog 89 [.agg (encE x.e),.sl (encI f.vars)] (encR (evE f.vars x.e)):=fun hk=>by
  have h:=ok_e hok
  have ke:kE x.kind = true:=decide_eq_true hk
  rw [if_pos ke,← hf.vars] at h
  refine sp_ev2f f.vars hf.nums (hf.vlen hvn) _ h fun y hy=>?_
  rw [allE_eq,Bool.and_eq_true,exN,Bool.and_eq_true] at hxe
  exact List.all_eq_true.1 hxe.1.2 y hy
 have hstk:=fun h=>hs_stk c.procs f v1 v2 x alt hf hsn hx h f.vars
 have hT3:∀ (hk3:x.kind = 3 ∨ x.kind = 4 ∨ x.kind = 5 ∨ x.kind = 6),oneR c.procs f x alt = stkT f x ++ [.str ⟨#[]⟩,.int .i64 0,.int .i64 0,.bool false,.int .i64 0] ∧ (deed c.procs f x alt).vars = f.vars ∧ (deed c.procs f x alt).key = f.key:=fun hk3=>by
  rcases hk3 with k | k | k | k
  ·simp [oneR,oneT,stkT,deed,k,encEv,Ev.zero]
  ·simp [oneR,oneT,stkT,deed,k,encEv,Ev.zero]
  ·simp [oneR,oneT,stkT,deed,k,encEv,Ev.zero]
  ·simp [oneR,oneT,stkT,deed,k,encEv,Ev.zero]
 have hstkw:∀ (hk3:x.kind = 3 ∨ x.kind = 4 ∨ x.kind = 5 ∨ x.kind = 6),Am.HSpecL Tryz.prog 54 [.agg (encC c),.ref 1 v1 (.p 0),.agg (encT x),.int .i64 alt] [(1,.box v1 38 (encFL f 2 v2)),(2,.row v2 3 1 (encI f.vars))] fun r l'=>
   r = .agg (oneR c.procs f x alt) ∧ l' = [(1,.box v1 38 (encFL { f with st:=(deed c.procs f x alt).st,key:=(deed c.procs f x alt).key } 2 v2)),(2,.row v2 3 1 (encI (deed c.procs f x alt).vars))]:=fun hk3=>by
  have hstk:=hstk hk3
  obtain ⟨e1,e2,e3⟩:=hT3 hk3
  rw [e1,e2,e3]
  have n1:¬ x.kind = 1:=by omega
  have n2:¬ x.kind = 2:=by omega
  have n9:¬ x.kind = 9:=by omega
  have n10:¬ x.kind = 10:=by omega
  have n13:¬ x.kind = 13:=by omega
  have n8:¬ x.kind = 8:=by omega
  have hcs:stkT f x = nilT ∨ ∃ y,stkT f x = encT y:=by
   unfold stkT
   split
   ·exact .inr ⟨_,rfl⟩
   ·exact .inl rfl
  clear hT3
  generalize (deed c.procs f x alt).st = sts at *
  generalize stkT f x = cs at *
  rcases hcs with rfl | ⟨y,rfl⟩
  ·refine Am.HSpecL.of_W (W:=W54) Tryz.func54 (by kernel_rfl) (by kernel_rfl) (by kernel_rfl) Tryz.ntmps54 W54_eq (rs:=[.cell 8 107]) (by kernel_rfl) (by simp) ?_
   intro vs
   simp [n1,n2,n9,n10,n13,n8]
   refine scall_heap [(1,1),(2,2)] [] hstk (by simp) (by simp [encFL_ren]) (by simp [encFL_okk]) ?_
   intro r l' VS' hrl
   obtain ⟨rfl,rfl⟩:=hrl
   refine ⟨by simp [encFL_okk,nilT],?_⟩
   simp [encFL_ren,nilT]
   refine retHW_to [(1,.box v1 38 (encFL { f with st:=sts } 2 v2)),(2,.row v2 3 1 (encI f.vars))] ?_
   simp
  ·refine Am.HSpecL.of_W (W:=W54) Tryz.func54 (by kernel_rfl) (by kernel_rfl) (by kernel_rfl) Tryz.ntmps54 W54_eq (rs:=[.cell 8 107]) (by kernel_rfl) (by simp) ?_
   intro vs
   simp [n1,n2,n9,n10,n13,n8]
   refine scall_heap [(1,1),(2,2)] [] hstk (by simp) (by simp [encFL_ren]) (by simp [encFL_okk]) ?_
   intro r l' VS' hrl
   obtain ⟨rfl,rfl⟩:=hrl
   refine ⟨by simp [encFL_okk],?_⟩
   simp [encFL_ren]
   refine retHW_to [(1,.box v1 38 (encFL { f with st:=sts } 2 v2)),(2,.row v2 3 1 (encI f.vars))] ?_
   simp
 rcases hk with k | k | k | k | k | k | k | k | k | k
 ·have e1:oneR c.procs f x alt = [.int .i64 14,.int .i64 f.key,.int .i64 x.a,.str x.name,.int .i64 0,.int .i64 0,.str ⟨#[]⟩,.nils,.nils,.str x.name,.int .i64 f.key,.int .i64 0,.bool true,.int .i64 0]:=by
   simp [oneR,oneT,deed,k,encEv]
  have e2:(deed c.procs f x alt).vars = f.vars:=by simp [deed,k]
  have e3:(deed c.procs f x alt).st = f.st:=by simp [deed,k]
  have e4:(deed c.procs f x alt).key = f.key + 1:=by simp [deed,k]
  rw [e1,e2,e3,e4]
  refine Am.HSpecL.of_W (W:=W54) Tryz.func54 (by kernel_rfl) (by kernel_rfl) (by kernel_rfl) Tryz.ntmps54 W54_eq (rs:=[.cell 8 107]) (by kernel_rfl) (by simp) ?_
  intro vs
  simp [k,wkey,s12]
  refine retHW_to [(1,.box v1 38 (encFL { f with key:=f.key + 1 } 2 v2)),(2,.row v2 3 1 (encI f.vars))] ?_
  simp
 ·have hev:=hev (.inl k)
  have ha:=ok_a hok; rw [k] at ha
  have ha:=num1 (s:=sn) (p:=c.procs.length) ha
  have ha0:=ha.1
  have ha1:x.a < f.vars.length:=by omega
  have hlt:x.a.toNat < f.vars.length:=by omega
  by_cases hz:(evE f.vars x.e).2 = 0
  ·have e1:oneR c.procs f x alt = nilT ++ [.str ⟨#[]⟩,.int .i64 0,.int .i64 0,.bool false,.int .i64 0]:=by simp [oneR,oneT,deed,k,hz,encEv,Ev.zero]
   have e2:(deed c.procs f x alt).vars = f.vars.set x.a.toNat (evE f.vars x.e).1:=by simp [deed,k,hz]
   have e3:(deed c.procs f x alt).st = f.st:=by simp [deed,k,hz]
   have e4:(deed c.procs f x alt).key = f.key:=by simp [deed,k,hz]
   rw [e1,e2,e3,e4]
   generalize evE f.vars x.e = ev at *
   have eset:(encI f.vars).set x.a.toNat [.int .i64 ev.1] = encI (f.vars.set x.a.toNat ev.1):=by simp [encI,List.map_set]
   simp only [encR] at hev
   refine Am.HSpecL.of_W (W:=W54) Tryz.func54 (by kernel_rfl) (by kernel_rfl) (by kernel_rfl) Tryz.ntmps54 W54_eq (rs:=[.cell 8 107]) (by kernel_rfl) (by simp) ?_
   intro vs
   simp [k]
   refine scall0_flat hev (by simp) (by simp) rfl ?_
   simp [k,hz,ha0,ha1,eset]
   refine retHW_to [(1,.box v1 38 (encFL f 2 v2)),(2,.row v2 3 1 (encI (f.vars.set x.a.toNat ev.1)))] ?_
   simp [nilT]
  ·have e1:oneR c.procs f x alt = nilT ++ [.str ⟨#[]⟩,.int .i64 0,.int .i64 0,.bool false,.int .i64 (evE f.vars x.e).2]:=by simp [oneR,oneT,deed,k,hz,encEv,Ev.zero]
   have e2:(deed c.procs f x alt).vars = f.vars:=by simp [deed,k,hz]
   have e3:(deed c.procs f x alt).st = f.st:=by simp [deed,k,hz]
   have e4:(deed c.procs f x alt).key = f.key:=by simp [deed,k,hz]
   rw [e1,e2,e3,e4]
   generalize evE f.vars x.e = ev at *
   simp only [encR] at hev
   refine Am.HSpecL.of_W (W:=W54) Tryz.func54 (by kernel_rfl) (by kernel_rfl) (by kernel_rfl) Tryz.ntmps54 W54_eq (rs:=[.cell 8 107]) (by kernel_rfl) (by simp) ?_
   intro vs
   simp [k]
   refine scall0_flat hev (by simp) (by simp) rfl ?_
   simp [k,hz]
   refine retHW_to [(1,.box v1 38 (encFL f 2 v2)),(2,.row v2 3 1 (encI f.vars))] ?_
   simp [nilT]
 ·exact hstkw (.inl k)
 ·exact hstkw (.inr (.inl k))
 ·exact hstkw (.inr (.inr (.inl k)))
 ·exact hstkw (.inr (.inr (.inr k)))
 ·have e1:oneR c.procs f x alt = nilT ++ [.str ⟨#[]⟩,.int .i64 0,.int .i64 0,.bool false,.int .i64 0]:=by simp [oneR,oneT,deed,k,encEv,Ev.zero]
  have e2:(deed c.procs f x alt).vars = f.vars:=by simp [deed,k]
  have e3:(deed c.procs f x alt).st = f.st:=by simp [deed,k]
  have e4:(deed c.procs f x alt).key = f.key:=by simp [deed,k]
  rw [e1,e2,e3,e4]
  refine Am.HSpecL.of_W (W:=W54) Tryz.func54 (by kernel_rfl) (by kernel_rfl) (by kernel_rfl) Tryz.ntmps54 W54_eq (rs:=[.cell 8 107]) (by kernel_rfl) (by simp) ?_
  intro vs
  simp [k]
  refine retHW_to [(1,.box v1 38 (encFL f 2 v2)),(2,.row v2 3 1 (encI f.vars))] ?_
  simp [nilT]
 ·have hev:=hev (.inr k)
  rw [k] at hl
  obtain ⟨y,z,hyz⟩:=len_two (l:=x.l) (by have:(x.l.length:Int) = 2:=hl; omega)
  have e2:(deed c.procs f x alt).vars = f.vars:=by simp [deed,k]
  have e3:(deed c.procs f x alt).st = f.st:=by simp [deed,k]
  have e4:(deed c.procs f x alt).key = f.key:=by simp [deed,k]
  by_cases hz:(evE f.vars x.e).1 = 0
  ·have e1:oneR c.procs f x alt = encT z ++ [.str ⟨#[]⟩,.int .i64 0,.int .i64 0,.bool false,.int .i64 (evE f.vars x.e).2]:=by simp [oneR,oneT,deed,k,hz,hyz,encEv,Ev.zero]
   rw [e1,e2,e3,e4]
   generalize evE f.vars x.e = ev at *
   simp only [encR] at hev
   refine Am.HSpecL.of_W (W:=W54) Tryz.func54 (by kernel_rfl) (by kernel_rfl) (by kernel_rfl) Tryz.ntmps54 W54_eq (rs:=[.cell 8 107]) (by kernel_rfl) (by simp) ?_
   intro vs
   simp [k]
   refine scall0_flat hev (by simp) (by simp) rfl ?_
   simp [k,hz,hyz,set13]
   refine retHW_to [(1,.box v1 38 (encFL f 2 v2)),(2,.row v2 3 1 (encI f.vars))] ?_
   simp [nilT]
  ·have e1:oneR c.procs f x alt = encT y ++ [.str ⟨#[]⟩,.int .i64 0,.int .i64 0,.bool false,.int .i64 (evE f.vars x.e).2]:=by simp [oneR,oneT,deed,k,hz,hyz,encEv,Ev.zero]
   rw [e1,e2,e3,e4]
   generalize evE f.vars x.e = ev at *
   simp only [encR] at hev
   refine Am.HSpecL.of_W (W:=W54) Tryz.func54 (by kernel_rfl) (by kernel_rfl) (by kernel_rfl) Tryz.ntmps54 W54_eq (rs:=[.cell 8 107]) (by kernel_rfl) (by simp) ?_
   intro vs
   simp [k]
   refine scall0_flat hev (by simp) (by simp) rfl ?_
   simp [k,hz,hyz,set13]
   refine retHW_to [(1,.box v1 38 (encFL f 2 v2)),(2,.row v2 3 1 (encI f.vars))] ?_
   simp [nilT]
 ·rw [k] at hl
  obtain ⟨y,z,hyz⟩:=len_two (l:=x.l) (by have:(x.l.length:Int) = 2:=hl; omega)
  have ha:=halt k
  obtain ⟨a,rfl⟩:∃ a:Nat,alt = a:=⟨alt.toNat,by omega⟩
  have hal:a < x.l.length:=by rw [hyz]; simp; omega
  have hix:ixRows (x.l.map encT) (a:Int) 9 = some (.elt (encT x.l[a]) 0):=by rw [ixRows_nat]; simp [List.getElem?_eq_getElem hal]
  have e1:oneR c.procs f x a = encT x.l[a] ++ [.str ⟨#[]⟩,.int .i64 0,.int .i64 0,.bool false,.int .i64 0]:=by simp [oneR,oneT,deed,k,encEv,Ev.zero,List.getElem?_eq_getElem hal]
  have e2:(deed c.procs f x a).vars = f.vars:=by simp [deed,k]
  have e3:(deed c.procs f x a).st = f.st:=by simp [deed,k]
  have e4:(deed c.procs f x a).key = f.key:=by simp [deed,k]
  rw [e1,e2,e3,e4]
  refine Am.HSpecL.of_W (W:=W54) Tryz.func54 (by kernel_rfl) (by kernel_rfl) (by kernel_rfl) Tryz.ntmps54 W54_eq (rs:=[.cell 8 107]) (by kernel_rfl) (by simp) ?_
  intro vs
  simp [k,hix]
  refine retHW_to [(1,.box v1 38 (encFL f 2 v2)),(2,.row v2 3 1 (encI f.vars))] ?_
  simp [nilT]
 ·have ha:=ok_a hok; rw [k] at ha
  have ha:=num4 (v:=vn) (s:=sn) ha
  obtain ⟨a,hxa⟩:∃ a:Nat,x.a = a:=⟨x.a.toNat,by omega⟩
  have hal:a < c.procs.length:=by omega
  have hix:ixRows (c.procs.map encT) (a:Int) 9 = some (.elt (encT c.procs[a]) 0):=by rw [ixRows_nat]; simp [List.getElem?_eq_getElem hal]
  have e1:oneR c.procs f x alt = encT c.procs[a] ++ [.str ⟨#[]⟩,.int .i64 0,.int .i64 0,.bool false,.int .i64 0]:=by simp [oneR,oneT,deed,k,hxa,encEv,Ev.zero,List.getElem?_eq_getElem hal]
  have e2:(deed c.procs f x alt).vars = f.vars:=by simp [deed,k]
  have e3:(deed c.procs f x alt).st = f.st:=by simp [deed,k]
  have e4:(deed c.procs f x alt).key = f.key:=by simp [deed,k]
  rw [e1,e2,e3,e4]
  refine Am.HSpecL.of_W (W:=W54) Tryz.func54 (by kernel_rfl) (by kernel_rfl) (by kernel_rfl) Tryz.ntmps54 W54_eq (rs:=[.cell 8 107]) (by kernel_rfl) (by simp) ?_
  intro vs
  simp [k,hxa,hix,encC]
  refine retHW_to [(1,.box v1 38 (encFL f 2 v2)),(2,.row v2 3 1 (encI f.vars))] ?_
  simp [nilT]
end Go.Proofs.YtnngddgaobhkiaaGreat
