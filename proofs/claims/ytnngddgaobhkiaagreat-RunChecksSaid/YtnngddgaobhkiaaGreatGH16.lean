import Derived.Test.YtnngddgaobhkiaaGreatGH14
import Derived.Test.YtnngddgaobhkiaaGreatGJ12
import Derived.Test.YtnngddgaobhkiaaGreatGE15
import Derived.Test.YtnngddgaobhkiaaGreatGC11
import Derived.Test.YtnngddgaobhkiaaGreatGQ7
import Derived.Test.YtnngddgaobhkiaaGreatGF13
import Derived.Test.YtnngddgaobhkiaaGreatGA5
set_option linter.unusedVariables false
set_option linter.unusedSimpArgs false
namespace Go.Proofs.YtnngddgaobhkiaaGreat
open Go Go.Am Go.RowKit
theorem right_okN (v s p:Int) (t:Tm) (d:Bool) (h:tmRight v s p t d = true):okN t = true:=by
 have ih:∀ x ∈ t.l,∀ d,tmRight v s p x d = true → okN x = true:=fun x hx d=>right_okN v s p x d
 rw [tmRight_eq] at h
 simp only [Bool.and_eq_true] at h
 obtain ⟨-,-,-,h,hl⟩:=h
 unfold tmOk at h
 simp only [Bool.and_eq_true] at h
 have hn:=of_decide_eq_true h.2.2.1
 rw [okN_eq]
 simp only [Bool.and_eq_true,Bool.or_eq_true,Bool.not_eq_true']
 refine ⟨?_,?_,?_⟩
 ·by_cases k:t.kind = 12 ∨ t.kind = 11
  ·refine .inr (decide_eq_true ?_)
   rcases k with k | k <;> rw [k] at hn <;> exact Int.ofNat.inj (hn.trans rfl)
  ·refine .inl ?_
   simp; omega
 ·by_cases k:t.kind = 7
  ·refine .inr (decide_eq_true ?_)
   rw [k] at hn; exact Int.ofNat.inj (hn.trans rfl)
  ·refine .inl ?_
   simp [k]
 ·have:∀ l:List Tm,(∀ x ∈ l,okN x = true) → okNs l = true:=fun l=>by
   induction l with
   | nil=>intro _; rfl
   | cons x l ih=>intro h; simp only [okNs,h x (by simp),ih fun y hy=>h y (by simp [hy]),Bool.and_self]
  exact this _ fun x hx=>ih x hx _ (List.all_eq_true.1 hl x hx)
termination_by SizeOf.sizeOf t
decreasing_by exact Tm.lt_of_mem hx
theorem right_weak (v s p:Int) (t:Tm) (d:Bool) (h:tmRight v s p t d = true):tmRight v s p t false = true:=by
 cases d
 ·exact h
 ·rw [tmRight_pushed] at h
  exact (Bool.and_eq_true _ _ ▸ h).1
theorem right_kid (v s p:Int) (t:Tm) (d:Bool) (h:tmRight v s p t d = true):∀ x ∈ t.l,tmRight v s p x (d || decide (t.kind = 3)) = true:=by
 rw [tmRight_eq] at h
 simp only [Bool.and_eq_true] at h
 exact List.all_eq_true.1 h.2.2.2.2
theorem right_of2 (v s p k:Int) (x y:Tm) (d:Bool) (hk:k = 12 ∨ k = 11) (hx:tmRight v s p x d = true) (hy:tmRight v s p y d = true):tmRight v s p (.of k [x,y]) d = true:=by
 have zn:Ex.zero.none = true:=by decide +kernel
 rw [tmRight_eq]
 simp only [Tm.of,List.all_cons,List.all_nil]
 rcases hk with rfl | rfl <;> simp [hx,hy,tmOk,numOk,kA,kB,kN,kE,kL,zn]
theorem right_of1 (v s p:Int) (x:Tm) (d:Bool) (hx:tmRight v s p x d = true):tmRight v s p (.of 7 [x]) d = true:=by
 have zn:Ex.zero.none = true:=by decide +kernel
 rw [tmRight_eq]
 simp only [Tm.of,List.all_cons,List.all_nil]
 simp [hx,tmOk,numOk,kA,kB,kN,kE,kL,zn]
theorem right_skip (v s p:Int) (d:Bool):tmRight v s p .skip d = true:=by
 have zn:Ex.zero.none = true:=by decide +kernel
 rw [tmRight_eq]
 simp [Tm.skip,Tm.of,tmOk,numOk,kA,kB,kN,kE,kL,zn]
theorem right_norm (v s p:Int) (t:Tm) (d:Bool) (h:tmRight v s p t d = true):tmRight v s p t.norm d = true:=by
 have ho:=right_okN v s p t d h
 have hk:∀ k:Int,(k = 12 ∨ k = 11 ∨ k = 7) → t.kind = k → ∀ x ∈ t.l,tmRight v s p x d = true:=fun k hk e x hx=>by
  have:=right_kid v s p t d h x hx
  rwa [decide_eq_false (by omega),Bool.or_false] at this
 by_cases k12:t.kind = 12
 ·obtain ⟨x,y,hl,hx,hy⟩:=okN_two ho (.inl k12)
  have rx:=hk 12 (by omega) k12 x (by simp [hl])
  have ry:=hk 12 (by omega) k12 y (by simp [hl])
  have ix:=right_norm v s p x d rx
  have iy:=right_norm v s p y d ry
  rw [Tm.norm_two hl,if_pos k12]
  split
  ·exact iy
  ·exact right_of2 _ _ _ 12 _ _ _ (.inl rfl) ix ry
 ·by_cases k11:t.kind = 11
  ·obtain ⟨x,y,hl,hx,hy⟩:=okN_two ho (.inr k11)
   have ix:=right_norm v s p x d (hk 11 (by omega) k11 x (by simp [hl]))
   have iy:=right_norm v s p y d (hk 11 (by omega) k11 y (by simp [hl]))
   rw [Tm.norm_two hl,if_neg k12,if_pos k11]
   split
   ·exact right_skip _ _ _ _
   ·exact right_of2 _ _ _ 11 _ _ _ (.inr rfl) ix iy
  ·by_cases k7:t.kind = 7
   ·obtain ⟨x,hl,hx⟩:=okN_one ho k7
    have ix:=right_norm v s p x d (hk 7 (by omega) k7 x (by simp [hl]))
    rw [Tm.norm_one hl,if_pos k7]
    split
    ·exact right_skip _ _ _ _
    ·exact right_of1 _ _ _ _ _ ix
   ·rw [norm_leaf ho k12 k11 k7]; exact h
termination_by SizeOf.sizeOf t
decreasing_by all_goals (apply Tm.lt_of_mem; simp [hl])
inductive ActP:Tm → List Int → Prop
 | nil (t:Tm):ActP t []
 | cons (t:Tm) (i:Nat) (h:i < t.l.length) (hk:t.kind = 12 ∨ t.kind = 11 ∨ t.kind = 7) (p:List Int) (hp:ActP t.l[i] p):ActP t ((i:Int) :: p)
theorem actP_on {t:Tm} {p:List Int} (h:ActP t p):OnPath t p:=by
 induction h with
 | nil t=>exact .nil t
 | cons t i h hk p hp ih=>exact .cons t i h p ih
theorem at_right (v s p:Int) {t:Tm} {q:List Int} (h:ActP t q) (d:Bool) (hr:tmRight v s p t d = true):tmRight v s p (atT t q) d = true:=by
 induction h with
 | nil t=>exact hr
 | cons t i h hk q hp ih=>
  rw [atT_cons t i h]
  have:=right_kid v s p t d hr _ (List.getElem_mem h)
  rw [decide_eq_false (by omega),Bool.or_false] at this
  exact ih this
theorem put_right (v s p:Int) {t:Tm} {q:List Int} (h:ActP t q) (d:Bool) (x:Tm) (hr:tmRight v s p t d = true) (hx:tmRight v s p x d = true):tmRight v s p (putT t q x) d = true:=by
 induction h with
 | nil t=>exact hx
 | cons t i h hk q hp ih=>
  rw [putT_cons t i h]
  have hkid:=right_kid v s p t d hr
  have h3:decide (t.kind = 3) = false:=decide_eq_false (by omega)
  rw [h3,Bool.or_false] at hkid
  have ih:=ih (hkid _ (List.getElem_mem h))
  rw [tmRight_eq] at hr ⊢
  simp only [Bool.and_eq_true,Tm.withL] at hr ⊢
  refine ⟨hr.1,hr.2.1,hr.2.2.1,?_,?_⟩
  ·have:=hr.2.2.2.1
   unfold tmOk at this ⊢
   simpa using this
  ·rw [List.all_eq_true]
   intro y hy
   show tmRight v s p y (d || decide (t.kind = 3)) = true
   rw [h3,Bool.or_false]
   rcases List.mem_or_eq_of_mem_set hy with hy | rfl
   ·exact hkid y hy
   ·exact ih
theorem actP_take {t:Tm} {p:List Int} (h:ActP t p) (n:Nat):ActP t (p.take n):=by
 induction h generalizing n with
 | nil t=>simpa using ActP.nil t
 | cons t i h hk p hp ih=>
  cases n with
  | zero=>exact .nil t
  | succ n=>exact .cons t i h hk _ (ih n)
theorem size_put {t:Tm} {q:List Int} (h:OnPath t q) (x:Tm):(putT t q x).size ≤ t.size + x.size:=by
 induction h with
 | nil t=>have:=t.size_pos; simp only [putT]; omega
 | cons t i h q hp ih=>
  rw [putT_cons t i h,Tm.size_eq,Tm.size_eq t]
  have e:∀ (l:List Tm) (i:Nat) (h:i < l.length) (y:Tm),Tm.sizes (l.set i y) + l[i].size = Tm.sizes l + y.size:=fun l=>by
   induction l with
   | nil=>intro i h; simp at h
   | cons z l ih=>
    intro i h y
    cases i with
    | zero=>simp only [List.set_cons_zero,Tm.sizes,List.getElem_cons_zero]; omega
    | succ i=>have:=ih i (by simpa using h) y; simp only [List.set_cons_succ,Tm.sizes,List.getElem_cons_succ]; omega
  have:=e t.l i h (putT t.l[i] q x)
  simp only [Tm.withL]
  omega
theorem plsL_mem (k:Int):∀ (l:List Tm) (q:List Int) (w:Bool) (i:Nat) (y:Tm × List Int × Bool),y ∈ Tm.plsL k l q w i → ∃ (j:Nat) (h:j < l.length),y ∈ l[j].pls (q ++ [((i + j:Nat):Int)]) (kidW k l[j] w)
 | [],q,w,i,y,h=>by simp [Tm.plsL] at h
 | x :: l,q,w,i,y,h=>by
  simp only [Tm.plsL,List.mem_append] at h
  rcases h with h | h
  ·exact ⟨0,by simp,by simpa using h⟩
  ·obtain ⟨j,hj,hy⟩:=plsL_mem k l q w (i + 1) y h
   refine ⟨j + 1,by simpa using hj,?_⟩
   rw [show i + (j + 1) = i + 1 + j by omega]
   simpa using hy
theorem pls_at (t:Tm):∀ (q:List Int) (w:Bool) (y:Tm × List Int × Bool),y ∈ t.pls q w → ∃ p,y.2.1 = q ++ p ∧ ActP t p ∧ y.1 = atT t p:=by
 have ih:∀ x ∈ t.l,∀ (q:List Int) (w:Bool) (y:Tm × List Int × Bool),y ∈ x.pls q w → ∃ p,y.2.1 = q ++ p ∧ ActP x p ∧ y.1 = atT x p:=fun x hx=>pls_at x
 intro q w y hy
 rw [Tm.pls_eq,List.mem_cons] at hy
 rcases hy with rfl | hy
 ·exact ⟨[],by simp,.nil t,rfl⟩
 ·obtain ⟨j,hj,hy⟩:=plsL_mem _ _ _ _ _ _ hy
  have hk:=t.kidsP_le
  simp only [List.length_take] at hj
  have hj':j < t.l.length:=by omega
  rw [List.getElem_take] at hy
  obtain ⟨p,h1,h2,h3⟩:=ih _ (List.getElem_mem hj') _ _ _ hy
  refine ⟨(j:Int) :: p,?_,.cons t j hj' ?_ p h2,?_⟩
  ·rw [h1,List.append_assoc,Nat.zero_add]; rfl
  ·unfold Tm.kidsP at hj
   by_cases k:t.kind = 12 ∨ t.kind = 7
   ·omega
   ·rw [if_neg k] at hj
    by_cases k11:t.kind = 11
    ·omega
    ·rw [if_neg k11] at hj; omega
  ·rw [h3,atT_cons t j hj']
termination_by SizeOf.sizeOf t
decreasing_by exact Tm.lt_of_mem hx
structure StepOk (t:Tm) (s:Stp3):Prop where
 act:ActP t s.2.1
 kind:s.1 = (atT t s.2.1).kind
 some:0 < s.1 ∧ s.1 ≠ 14 ∧ s.1 ≠ 12 ∧ s.1 ≠ 11 ∧ s.1 ≠ 7 ∨ s.1 < 0
 alt:0 ≤ s.2.2 ∧ s.2.2 < (if s.1 = 10 then 2 else 1)
theorem step_ok (t:Tm) (s:Stp3) (h:s ∈ t.enabledN):StepOk t s:=by
 unfold Tm.enabledN at h
 obtain ⟨y,hy,hs⟩:=List.mem_flatMap.1 h
 obtain ⟨p,h1,h2,h3⟩:=pls_at t [] _ y hy
 simp only [List.nil_append] at h1
 unfold stepsAt stp at hs
 obtain ⟨a,ha,rfl⟩:=List.mem_map.1 hs
 have ha:=List.mem_range.1 ha
 refine ⟨by rw [h1]; exact h2,by simp only; rw [h1,← h3],?_,?_⟩
 ·simp only
  unfold stpN at ha
  repeat' split at ha
  all_goals omega
 ·simp only
  unfold stpN at ha
  repeat' split at ha
  all_goals first
   | omega
   | (split <;> omega)
def exN (e:Ex):Bool:=decide (e.wt ≤ 10000) && (Ex.pre e).all fun y=>isI64 y.n
mutual
def allE:Tm → Bool
 | ⟨_,_,_,_,e,l⟩=>exN e && allEs l
def allEs:List Tm → Bool
 | []=>true
 | x :: l=>allE x && allEs l
end
theorem allEs_eq:∀ l,allEs l = l.all allE
 | []=>rfl
 | x :: l=>by simp only [allEs,List.all_cons,allEs_eq l]
theorem allE_eq (t:Tm):allE t = (exN t.e && t.l.all allE):=by cases t; simp only [allE,allEs_eq]
theorem exN_zero:exN .zero = true:=by decide +kernel
theorem allE_kid {t:Tm} (h:allE t = true):∀ x ∈ t.l,allE x = true:=by
 rw [allE_eq,Bool.and_eq_true] at h
 exact List.all_eq_true.1 h.2
theorem allE_of (k:Int) (l:List Tm) (h:∀ x ∈ l,allE x = true):allE (.of k l) = true:=by
 rw [allE_eq]
 simp only [Tm.of,exN_zero,Bool.true_and]
 exact List.all_eq_true.2 h
theorem allE_skip:allE .skip = true:=allE_of 0 [] (by simp)
theorem allE_norm (t:Tm) (ho:okN t = true) (h:allE t = true):allE t.norm = true:=by
 have hk:=allE_kid h
 by_cases k12:t.kind = 12
 ·obtain ⟨x,y,hl,hx,hy⟩:=okN_two ho (.inl k12)
  have ix:=allE_norm x hx (hk x (by simp [hl]))
  have iy:=allE_norm y hy (hk y (by simp [hl]))
  rw [Tm.norm_two hl,if_pos k12]
  split
  ·exact iy
  ·exact allE_of _ _ (by simp [ix,hk y (by simp [hl])])
 ·by_cases k11:t.kind = 11
  ·obtain ⟨x,y,hl,hx,hy⟩:=okN_two ho (.inr k11)
   have ix:=allE_norm x hx (hk x (by simp [hl]))
   have iy:=allE_norm y hy (hk y (by simp [hl]))
   rw [Tm.norm_two hl,if_neg k12,if_pos k11]
   split
   ·exact allE_skip
   ·exact allE_of _ _ (by simp [ix,iy])
  ·by_cases k7:t.kind = 7
   ·obtain ⟨x,hl,hx⟩:=okN_one ho k7
    have ix:=allE_norm x hx (hk x (by simp [hl]))
    rw [Tm.norm_one hl,if_pos k7]
    split
    ·exact allE_skip
    ·exact allE_of _ _ (by simp [ix])
   ·rw [norm_leaf ho k12 k11 k7]; exact h
termination_by SizeOf.sizeOf t
decreasing_by all_goals (apply Tm.lt_of_mem; simp [hl])
theorem allE_at {t:Tm} {q:List Int} (h:OnPath t q) (hr:allE t = true):allE (atT t q) = true:=by
 induction h with
 | nil t=>exact hr
 | cons t i h q hp ih=>
  rw [atT_cons t i h]
  exact ih (allE_kid hr _ (List.getElem_mem h))
theorem allE_put {t:Tm} {q:List Int} (h:OnPath t q) (x:Tm) (hr:allE t = true) (hx:allE x = true):allE (putT t q x) = true:=by
 induction h with
 | nil t=>exact hx
 | cons t i h q hp ih=>
  rw [putT_cons t i h]
  have hk:=allE_kid hr
  have ih:=ih (hk _ (List.getElem_mem h))
  rw [allE_eq,Bool.and_eq_true] at hr ⊢
  refine ⟨hr.1,List.all_eq_true.2 fun y hy=>?_⟩
  rcases List.mem_or_eq_of_mem_set hy with hy | rfl
  ·exact hk y hy
  ·exact ih
mutual
theorem allE_wt:∀ t:Tm,allE t = true → (t.wt:Int) ≤ 10001 * t.size
 | ⟨k,a,b,n,e,l⟩,h=>by
  simp only [allE,Bool.and_eq_true,exN] at h
  have h1:=of_decide_eq_true h.1.1
  have:=allEs_wt l h.2
  simp only [Tm.wt,Tm.size]
  omega
theorem allEs_wt:∀ l:List Tm,allEs l = true → (Tm.wts l:Int) ≤ 10001 * Tm.sizes l
 | [],_=>by simp [Tm.wts,Tm.sizes]
 | x :: l,h=>by
  simp only [allEs,Bool.and_eq_true] at h
  have:=allE_wt x h.1
  have:=allEs_wt l h.2
  simp only [Tm.wts,Tm.sizes]
  omega
end
structure Env8 (vn sn:Int) (ps:List Tm):Prop where
 right:∀ t ∈ ps,tmRight vn sn ps.length t true = true
 small:∀ t ∈ ps,allE t = true
 size:∀ t ∈ ps,t.size ≤ 2000
structure OkF (vn sn:Int) (ps:List Tm) (f:Cfg):Prop where
 t:tmRight vn sn ps.length f.t false = true
 ex:allE f.t = true
 norm:f.t.norm = f.t
 vars:(f.vars.length:Int) = vn
 nums:∀ n ∈ f.vars,isI64 n = true
 st:(f.st.length:Int) = sn
 strt:∀ l ∈ f.st,∀ t ∈ l,tmRight vn sn ps.length t true = true ∧ allE t = true
 size:f.t.size + stSize f.st ≤ 2000
 steps:0 ≤ f.steps ∧ f.steps ≤ 5000
 key:0 ≤ f.key ∧ f.key ≤ f.steps
end Go.Proofs.YtnngddgaobhkiaaGreat
namespace Go.Proofs.YtnngddgaobhkiaaGreat
open Go Go.Am Go.RowKit
attribute [local simp] W82 W82_rs W82_b1 W82_b2 W43 W43_rs W43_k1 W43_b2 W43_l3 W44 W44_rs W44_b1 W44_b4 W51 W51_rs W51_k1 W51_k2 W51_b3 W51_b4 W51_l5
theorem rw_clt (l:List Tm) (hl:l.length ≤ 137438953472):Am.RowSpec Tryz.prog 82 [.sl (l.map encT)] 35 9 (l.map encT):=by
 refine Am.RowSpec.of_W (W:=W82) Tryz.func82 (by kernel_rfl) (by kernel_rfl) (by kernel_rfl) Tryz.ntmps82 W82_eq (rs:=[.tmp 2]) (by kernel_rfl) (by simp) (by simp) ?_
 intro vs
 simp
 refine sNil_sl _ _ _ _ _ _ ?_ fun e=>?_
 ·simp
  rw [decide_eq_true (by omega)]
  simp
  refine retRW_of _ _ _ _ _ _ 5 (vs 5 + 1 + 1) (by simp [resV,resOne]) (by simp)
 ·have e:l = []:=by simpa using e
  subst e
  simp
  exact retRW_nil _ _ _ _ _ (by simp [resV,resOne]) (by omega)
theorem onPath_cons {x:Tm} {a:Int} {q:List Int} (h:OnPath x (a :: q)):∃ j:Nat,a = j ∧ ∃ hj:j < x.l.length,OnPath x.l[j] q:=by
 cases h with
 | cons _ i hi _ hp=>exact ⟨i,rfl,hi,hp⟩
theorem encI_at (p:List Int) (i:Nat) (h:i < p.length) (a:Int) (e:p[i] = a):ixRows (encI p) (i:Int) 1 = some (.elt [.int .i64 a] 0):=by
 rw [ixRows_nat]
 simp [encI,List.getElem?_map,List.getElem?_eq_getElem h,e]
theorem sp_rat (t:Tm) (p:List Int) (hp:OnPath t p) (hl:p.length ≤ 137438953472):Am.Spec Tryz.prog 43 [.agg (encT t),.sl (encI p)] (.agg (encT (atT t p))):=by
 refine W43_S (by simp) ?_
 intro vs
 simp [-W43_l3]
 refine sLoop_intro (α:=Nat × Tm) (fun x=>x.1 ≤ p.length ∧ OnPath x.2 (p.drop x.1) ∧ atT x.2 (p.drop x.1) = atT t p) (fun x=>p.length - x.1)
  (fun x=>[(2,.ref 2 (vs 2 + 1) (.p 0)),(4,.ref 4 (vs 4 + 1) (.p 0)),(7,.sl (encI p)),(8,.int .i64 p.length),(9,.int .i64 (x.1:Nat))])
  (fun x=>[(2,.box (vs 2 + 1) 35 (encT x.2)),(4,.box (vs 4 + 1) 35 [.int .i64 0,.int .i64 0,.int .i64 0,.str ⟨#[]⟩,.int .i64 0,.int .i64 0,.str ⟨#[]⟩,.nils,.nils])]) (0,t) ⟨by simp,by simpa using hp,by simp⟩ (by simp) (by simp) ?_
 rintro L ⟨i,x⟩ vt ⟨hi,ho,he⟩ hL
 simp only at hi ho he hL
 by_cases h:i < p.length
 ·have h':(i:Int) < p.length:=by omega
  rw [List.drop_eq_getElem_cons h] at ho he
  obtain ⟨j,hj,hjl,ho⟩:=onPath_cons ho
  rw [hj,atT_cons x j hjl] at he
  have hix:=encI_at p i h j hj
  simp [h,h',hix,hj,hjl]
  rw [wrap64 (by omega) (by omega)]
  exact hL _ _ _ (i + 1,x.l[j]) ⟨h,ho,he⟩ (by simp only; omega) (by simp) (by simp)
 ·have h':¬ (i:Int) < p.length:=by omega
  rw [List.drop_of_length_le (by omega)] at he
  rw [← he]
  simp [h,h',retW_eq,atT]
theorem sp_put:∀ (p:List Int) (t x:Tm),OnPath t p → p.length ≤ 137438953472 → t.lok → Am.Spec Tryz.prog 44 [.agg (encT t),.sl (encI p),.agg (encT x)] (.agg (encT (putT t p x)))
 | [],t,x,hp,hl,hk=>by
  refine W44_S (by simp) ?_
  intro vs
  simp [encI,putT,retW_eq]
 | a :: q,t,x,hp,hl,hk=>by
  obtain ⟨j,rfl,hj,hq⟩:=onPath_cons hp
  have ih:=sp_put q t.l[j] x hq (by simp at hl; omega) (Tm.lok_mem hk (List.getElem_mem hj))
  have hlen:=Tm.lok_len hk
  have hc:=rw_clt t.l hlen
  have hn:¬ ((q.length:Int) + 1 = 0):=by omega
  have hj':(j:Int) < t.l.length:=by omega
  have hsl:slcV 1 (encI ((j:Int) :: q)) (some (.i64,1)) none = some (.sl (encI q)):=by
   rw [slcV_from 1 _ .i64 1 1 rfl (by simp) (fun r hr=>(encI_cell _ r hr).1)]
   simp [encI]
  have hset:∀ y:AV,setL (encT t) 8 [y] = [.int .i64 t.kind,.int .i64 t.a,.int .i64 t.b,.str t.name,.int .i64 t.e.kind,.int .i64 t.e.n,.str t.e.name,.sl (t.e.l.map encE),y]:=fun y=>by rw [encT_eq]; rfl
  have hi0:ixRows (encI ((j:Int) :: q)) 0 1 = some (.elt [.int .i64 j] 0):=encI_at _ 0 (by simp) j rfl
  rw [putT_cons t j hj]
  generalize putT t.l[j] q x = y at *
  refine W44_S (by simp) ?_
  intro vs
  simp [hn]
  refine scall_row hc (by simp) (by simp) ?_
  simp [hi0,hsl,hj,hj']
  refine scall0_pure ih (by simp) (by simp) ?_
  simp [hj,hj',hset,retW_eq]
  rw [← List.map_set]
  exact ⟨closedLL_sl_map encT encT_closed _,by simp only [Tm.withL]; rw [encT_mk,encE_eq]; rfl⟩
theorem sp_blk (t:Tm) (p:List Int) (hp:OnPath t p) (hl:p.length ≤ 137438953472):Am.Spec Tryz.prog 51 [.agg (encT t),.sl (encI p)] (.sl (encI (p.take (outT t p 0 0)))):=by
 refine W51_S (by simp) ?_
 intro vs
 simp [-W51_l5]
 refine sLoop_intro (α:=Nat × Tm × Nat × Bool) (fun x=>x.1 ≤ p.length ∧ OnPath x.2.1 (p.drop x.1) ∧ outT x.2.1 (p.drop x.1) x.1 x.2.2.1 = outT t p 0 0 ∧ x.2.2.1 ≤ x.1 ∧ (x.2.2.2 = false → x.2.2.1 = 0)) (fun x=>p.length - x.1)
  (fun x=>[(1,.sl (encI p)),(2,.ref 2 (vs 2 + 1) (.p 0)),(5,if x.2.2.2 then .sl (encI (p.take x.2.2.1)) else .nils),(8,.sl (encI p)),(9,.int .i64 p.length),(10,.int .i64 (x.1:Nat))])
  (fun x=>[(2,.box (vs 2 + 1) 35 (encT x.2.1))]) (0,t,0,false) ⟨by simp,by simpa using hp,by simp,by simp,by simp⟩ (by simp) (by simp) ?_
 rintro L ⟨i,x,n,b⟩ vt ⟨hi,ho,he,hn,hb⟩ hL
 simp only at hi ho he hn hb hL ⊢
 by_cases h:i < p.length
 ·have h':(i:Int) < p.length:=by omega
  rw [List.drop_eq_getElem_cons h] at ho he
  obtain ⟨j,hj,hjl,ho⟩:=onPath_cons ho
  rw [hj,outT_cons x j hjl] at he
  have hix:=encI_at p i h j hj
  by_cases k:x.kind = 7
  ·rw [if_pos k] at he
   have hsl:slcV 1 (encI p) none (some (.i64,(i:Int))) = some (.sl (encI (p.take i))):=by
    rw [slcV_to 1 _ .i64 i i rfl (by simp; omega) (fun r hr=>(encI_cell _ r hr).1)]
    simp [encI]
   simp [h,h',hix,hj,hjl,k,hsl]
   rw [wrap64 (by omega) (by omega)]
   exact hL _ _ _ (i + 1,x.l[j],i,true) ⟨h,ho,he,by simp,by simp⟩ (by simp only; omega) (by simp) (by simp)
  ·rw [if_neg k] at he
   simp [h,h',hix,hj,hjl,k]
   rw [wrap64 (by omega) (by omega)]
   exact hL _ _ _ (i + 1,x.l[j],n,b) ⟨h,ho,he,by simp only; omega,hb⟩ (by simp only; omega) (by simp) (by simp)
 ·have h':¬ (i:Int) < p.length:=by omega
  rw [List.drop_of_length_le (by omega)] at he
  have he:n = outT t p 0 0:=he
  rw [← he]
  cases b
  ·rw [hb rfl]
   simp [h,h',retW_eq,encI]
  ·simp [h,h',retW_eq]
end Go.Proofs.YtnngddgaobhkiaaGreat
namespace Go.Proofs.YtnngddgaobhkiaaGreat
open Go Go.Am Go.RowKit
attribute [local simp] W139 W139_rs W139_k2 W139_b4 W139_l5 W104 W104_rs W104_k2 W104_b4 W104_l5 W116 W116_rs W88 W88_rs W103 W103_rs
theorem sp_mpE (f:FuncId) (l:List Ex) (hd:∀ x ∈ l,Am.Spec Tryz.prog f [.agg (encE x)] (.agg (encE x))) (hl:l.length ≤ 137438953472):Am.Spec Tryz.prog 139 [.sl (l.map encE),.func f []] (.sl (l.map encE)):=by
 have hc:=sp_cle (l.map encE) (fun x hx=>by obtain ⟨y,-,rfl⟩:=List.mem_map.1 hx; exact ⟨by simp,encE_cell y⟩) (by simp) (by simpa using hl)
 have hal:(l.all ((fun r=>r.length == 4) ∘ encE)) = true:=List.all_eq_true.2 fun x _=>by simp
 have w1:IntKind.wrap .i64 1 = 1:=wrap64 (by omega) (by omega)
 refine W139_S (by simp) ?_
 intro vs
 simp [-W139_l5]
 refine sLoop_intro (α:=Nat × Nat) (fun x=>x.1 ≤ l.length) (fun x=>l.length - x.1)
  (fun x=>[(1,.func f []),(5,if x.1 = 0 then .nils else .ref 20 x.2 .o),(9,.sl (l.map encE)),(10,.int .i64 l.length),(11,.int .i64 (x.1:Nat))])
  (fun x=>if x.1 = 0 then [] else [(20,.row x.2 33 4 ((l.take x.1).map encE))]) (0,0) (by simp) (by simp) (by simp) ?_
 rintro L ⟨i,w⟩ vt hi hL
 simp only at hi hL ⊢
 by_cases h:i < l.length
 ·have h':(i:Int) < l.length:=by omega
  have hx:=hd l[i] (List.getElem_mem h)
  by_cases h0:i = 0
  ·subst h0
   simp [h,h']
   refine scall_pure hx (by simp) (by simp) ?_
   simp [h,h']
   refine hL _ _ _ (1,vt 20 + 1) (by simp only; omega) (by simp only; omega) (by simp [w1]) ?_
   simp
   rw [take_map_succ encE l 0 h]
   rfl
  ·simp [h,h',h0]
   refine scall_pure hx (by simp) (by simp) ?_
   simp [h,h',h0]
   rw [decide_eq_true (by first | omega | (simp; omega))]
   simp
   rw [wrap64 (by omega) (by omega)]
   refine hL _ _ _ (i + 1,w + 1) (by simp only; omega) (by simp only; omega) (by simp) ?_
   simp
   rw [take_map_succ encE l i h]
 ·have h':¬ (i:Int) < l.length:=by omega
  have e:i = l.length:=by omega
  subst e
  by_cases h0:l.length = 0
  ·have e:l = []:=List.eq_nil_of_length_eq_zero h0
   subst e
   simp
   refine scall_pure hc (by simp) (by simp) ?_
   simp [retW_eq]
  ·simp [h0,hal]
   refine scall_pure hc (by simp) (by simp) ?_
   simp [retW_eq]
theorem sp_mpT (f:FuncId) (l:List Tm) (hd:∀ x ∈ l,Am.Spec Tryz.prog f [.agg (encT x)] (.agg (encT x))) (hl:l.length ≤ 137438953472):Am.Spec Tryz.prog 104 [.sl (l.map encT),.func f []] (.sl (l.map encT)):=by
 have hc:=sp_clt (l.map encT) (fun x hx=>by obtain ⟨y,-,rfl⟩:=List.mem_map.1 hx; exact ⟨by simp,encT_cell y⟩) (by simp) (by simpa using hl)
 have hal:(l.all ((fun r=>r.length == 9) ∘ encT)) = true:=List.all_eq_true.2 fun x _=>by simp
 have w1:IntKind.wrap .i64 1 = 1:=wrap64 (by omega) (by omega)
 refine W104_S (by simp) ?_
 intro vs
 simp [-W104_l5]
 refine sLoop_intro (α:=Nat × Nat) (fun x=>x.1 ≤ l.length) (fun x=>l.length - x.1)
  (fun x=>[(1,.func f []),(5,if x.1 = 0 then .nils else .ref 20 x.2 .o),(9,.sl (l.map encT)),(10,.int .i64 l.length),(11,.int .i64 (x.1:Nat))])
  (fun x=>if x.1 = 0 then [] else [(20,.row x.2 35 9 ((l.take x.1).map encT))]) (0,0) (by simp) (by simp) (by simp) ?_
 rintro L ⟨i,w⟩ vt hi hL
 simp only at hi hL ⊢
 by_cases h:i < l.length
 ·have h':(i:Int) < l.length:=by omega
  have hx:=hd l[i] (List.getElem_mem h)
  by_cases h0:i = 0
  ·subst h0
   simp [h,h']
   refine scall_pure hx (by simp) (by simp) ?_
   simp [h,h']
   refine hL _ _ _ (1,vt 20 + 1) (by simp only; omega) (by simp only; omega) (by simp [w1]) ?_
   simp
   rw [take_map_succ encT l 0 h]
   rfl
  ·simp [h,h',h0]
   refine scall_pure hx (by simp) (by simp) ?_
   simp [h,h',h0]
   rw [decide_eq_true (by first | omega | (simp; omega))]
   simp
   rw [wrap64 (by omega) (by omega)]
   refine hL _ _ _ (i + 1,w + 1) (by simp only; omega) (by simp only; omega) (by simp) ?_
   simp
   rw [take_map_succ encT l i h]
 ·have h':¬ (i:Int) < l.length:=by omega
  have e:i = l.length:=by omega
  subst e
  by_cases h0:l.length = 0
  ·have e:l = []:=List.eq_nil_of_length_eq_zero h0
   subst e
   simp
   refine scall_pure hc (by simp) (by simp) ?_
   simp [retW_eq]
  ·simp [h0,hal]
   refine scall_pure hc (by simp) (by simp) ?_
   simp [retW_eq]
theorem sp_oxE (x:Ex) (hw:x.lok):Am.Spec Tryz.prog 116 [.agg (encE x)] (.agg (encE x)):=by
 have ih:∀ y ∈ x.l,Am.Spec Tryz.prog 116 [.agg (encE y)] (.agg (encE y)):=fun y hy=>sp_oxE y (Ex.lok_mem hw hy)
 have hm:=sp_mpE 116 x.l ih (Ex.lok_len hw)
 refine W116_S (by simp) ?_
 intro vs
 simp
 first
  | refine scall_pure hm (by simp) (by simp) ?_
  | refine scall0_pure hm (by simp) (by simp) ?_
 simp [retW_eq]
termination_by SizeOf.sizeOf x
decreasing_by exact Ex.lt_of_mem hy
theorem sp_oxT (x:Tm) (hw:x.lok):Am.Spec Tryz.prog 88 [.agg (encT x)] (.agg (encT x)):=by
 have ih:∀ y ∈ x.l,Am.Spec Tryz.prog 88 [.agg (encT y)] (.agg (encT y)):=fun y hy=>sp_oxT y (Tm.lok_mem hw hy)
 have hm:=sp_mpT 88 x.l ih (Tm.lok_len hw)
 have he:=sp_oxE x.e (Tm.lok_e hw)
 have h4:setL (encT x) 4 (encE x.e) = encT x:=by rw [encT_eq,encE_eq]; rfl
 have h8:setL (encT x) 8 [.sl (x.l.map encT)] = encT x:=by rw [encT_eq]; rfl
 refine W88_S (by simp) ?_
 intro vs
 simp
 refine scall0_pure he (by simp) (by simp) ?_
 simp
 refine scall0_pure hm (by simp) (by simp) ?_
 simp [h4,h8,retW_eq]
termination_by SizeOf.sizeOf x
decreasing_by exact Tm.lt_of_mem hy
theorem sp_ow1 (l:List Tm) (hl:l.length ≤ 137438953472) (hk:∀ x ∈ l,x.lok):Am.Spec Tryz.prog 103 [.sl (l.map encT)] (.sl (l.map encT)):=by
 have hm:=sp_mpT 88 l (fun x hx=>sp_oxT x (hk x hx)) hl
 refine W103_S (by simp) ?_
 intro vs
 simp
 refine scall_pure hm (by simp) (by simp) ?_
 simp [retW_eq]
end Go.Proofs.YtnngddgaobhkiaaGreat
namespace Go.Proofs.YtnngddgaobhkiaaGreat
open Go Go.Am Go.RowKit
attribute [local simp] W131 W131_rs W131_b1 W131_b2 W102 W102_rs W102_k2 W102_b4 W102_l5 W77 W77_rs W78 W78_rs W34 W34_rs W34_k1 W34_b2 W50 W50_rs W50_k1 W50_b2 W52 W52_rs W52_k1 W52_k2 W52_b4 W52_b6 W52_l5 W52_l7
def encQ (l:List Tm):List AV:=[.sl (l.map encT)]
@[simp] theorem encQ_closed (l:List Tm):closedL (encQ l) = true:=by simp [encQ,closedL]
@[simp] theorem encQ_len (l:List Tm):(encQ l).length = 1:=rfl
@[simp] theorem encQ_cell (l:List Tm):∀ c ∈ encQ l,c.cell = true:=by simp [encQ]
@[simp] theorem rd_Q (l:List Tm):readA (encQ l) 0 1 false = some (.sl (l.map encT)):=rfl
theorem encSt_Q (s:List (List Tm)):encSt s = s.map encQ:=rfl
theorem rw_clS (s:List (List Tm)) (hl:s.length ≤ 137438953472):Am.RowSpec Tryz.prog 131 [.sl (s.map encQ)] 27 1 (s.map encQ):=by
 refine Am.RowSpec.of_W (W:=W131) Tryz.func131 (by kernel_rfl) (by kernel_rfl) (by kernel_rfl) Tryz.ntmps131 W131_eq (rs:=[.tmp 2]) (by kernel_rfl) (by simp) (by simp) ?_
 intro vs
 simp
 refine sNil_sl _ _ _ _ _ _ ?_ fun e=>?_
 ·simp
  refine sLit_f _ _ ?_
  simp
  rw [if_pos (fun x _=>encQ_cell x)]
  simp
  rw [decide_eq_true (by omega)]
  simp
  refine retRW_of _ _ _ _ _ _ 5 (vs 5 + 1 + 1) (by simp [resV,resOne]) (by simp)
 ·have e:s = []:=by simpa using e
  subst e
  simp
  exact retRW_nil _ _ _ _ _ (by simp [resV,resOne]) (by omega)
theorem rw_mpS (s:List (List Tm)) (hd:∀ x ∈ s,Am.Spec Tryz.prog 103 [.sl (x.map encT)] (.sl (x.map encT))) (hl:s.length ≤ 137438953472):Am.RowSpec Tryz.prog 102 [.sl (s.map encQ),.func 103 []] 27 1 (s.map encQ):=by
 have hc:=rw_clS s hl
 have hal:(s.all ((fun r=>r.length == 1) ∘ encQ)) = true:=List.all_eq_true.2 fun x _=>by simp
 have w1:IntKind.wrap .i64 1 = 1:=wrap64 (by omega) (by omega)
 refine Am.RowSpec.of_W (W:=W102) Tryz.func102 (by kernel_rfl) (by kernel_rfl) (by kernel_rfl) Tryz.ntmps102 W102_eq (rs:=[.tmp 4]) (by kernel_rfl) (by simp) (by simp) ?_
 intro vs
 simp [-W102_l5]
 refine sLoop_intro (α:=Nat × Nat) (fun x=>x.1 ≤ s.length) (fun x=>s.length - x.1)
  (fun x=>[(1,.func 103 []),(5,if x.1 = 0 then .nils else .ref 20 x.2 .o),(9,.sl (s.map encQ)),(10,.int .i64 s.length),(11,.int .i64 (x.1:Nat))])
  (fun x=>if x.1 = 0 then [] else [(20,.row x.2 27 1 ((s.take x.1).map encQ))]) (0,0) (by simp) (by simp) (by simp) ?_
 rintro L ⟨i,w⟩ vt hi hL
 simp only at hi hL ⊢
 by_cases h:i < s.length
 ·have h':(i:Int) < s.length:=by omega
  have hx:=hd s[i] (List.getElem_mem h)
  by_cases h0:i = 0
  ·subst h0
   simp [h,h']
   refine scall_pure hx (by simp) (by simp) ?_
   simp [h,h']
   refine sLit_f _ _ ?_
   simp [h,h']
   refine hL _ _ _ (1,vt 20 + 1) (by simp only; omega) (by simp only; omega) (by simp [w1]) ?_
   simp
   rw [take_map_succ encQ s 0 h]
   rfl
  ·simp [h,h',h0]
   refine scall_pure hx (by simp) (by simp) ?_
   simp [h,h',h0]
   refine sLit_f _ _ ?_
   simp [h,h',h0]
   rw [decide_eq_true (by first | omega | (simp; omega))]
   simp
   rw [wrap64 (by omega) (by omega)]
   refine hL _ _ _ (i + 1,w + 1) (by simp only; omega) (by simp only; omega) (by simp) ?_
   simp
   rw [take_map_succ encQ s i h]
   rfl
 ·have h':¬ (i:Int) < s.length:=by omega
  have e:i = s.length:=by omega
  subst e
  by_cases h0:s.length = 0
  ·have e:s = []:=List.eq_nil_of_length_eq_zero h0
   subst e
   simp
   refine scall_row hc (by simp) (by simp) ?_
   simp
   refine retRW_of _ _ _ _ _ _ 28 _ (by simp [resV,resOne]; rfl) (by simp)
  ·simp [h0,hal]
   refine scall_row hc (by simp) (by simp) ?_
   simp
   refine retRW_of _ _ _ _ _ _ 28 _ (by simp [resV,resOne]; rfl) (by simp)
theorem rw_own (s:List (List Tm)) (hl:s.length ≤ 137438953472) (hk:∀ l ∈ s,l.length ≤ 137438953472 ∧ ∀ x ∈ l,x.lok):Am.RowSpec Tryz.prog 77 [.sl (encSt s)] 27 1 (encSt s):=by
 have hm:=rw_mpS s (fun l hl=>sp_ow1 l (hk l hl).1 (hk l hl).2) hl
 rw [encSt_Q]
 refine Am.RowSpec.of_W (W:=W77) Tryz.func77 (by kernel_rfl) (by kernel_rfl) (by kernel_rfl) Tryz.ntmps77 W77_eq (rs:=[.tmp 2]) (by kernel_rfl) (by simp) (by simp) ?_
 intro vs
 simp
 refine scall_row hm (by simp) (by simp) ?_
 simp
 refine retRW_of _ _ _ _ _ _ 4 _ (by simp [resV,resOne]; rfl) (by simp)
theorem sp_sis (s:List (List Tm)) (a:Int):Am.Spec Tryz.prog 78 [.sl (s.map encQ),.int .i64 a] (.bool (decide (0 ≤ a) && decide (a < s.length))):=by
 refine W78_S (by simp) ?_
 intro vs
 by_cases h:0 ≤ a
 ·simp [h,retW_eq]
 ·simp [h,retW_eq]
theorem sp_mrg0 (s:List (List Tm)) (a:Int) (hl:s.length ≤ 137438953472) (hk:∀ l ∈ s,l.length ≤ 137438953472 ∧ ∀ x ∈ l,x.lok):Am.Spec Tryz.prog 34 [.sl (encSt s),.int .i64 a,.int .i64 a] (.sl (encSt s)):=by
 have ho:=rw_own s hl hk
 rw [encSt_Q] at ho ⊢
 refine W34_S (by simp) ?_
 intro vs
 simp
 refine scall_row ho (by simp) (by simp) ?_
 simp [retW_eq]
@[simp] theorem nrmL_encQ (l:List Tm):nrmL (encQ l) = encQ l:=by simp [encQ,nrmL,nrm,nrmLL_map]
theorem nrm_set (s:List (List Tm)) (a:Nat) (x:List AV) (y:List Tm) (e:nrmL x = encQ y):nrm (.sl ((s.map encQ).set a x)) = .sl ((s.set a y).map encQ):=by
 simp only [nrm,nrmLL_map,List.map_set,List.map_map,e]
 congr 2
 exact List.map_congr_left fun l _=>by simp
theorem closedLL_set:∀ {l:List (List AV)},closedLL l = true → ∀ (i:Nat) (x:List AV),closedL x = true → closedLL (l.set i x) = true
 | [],_,_,_,_=>rfl
 | y :: l,h,i,x,hx=>by
  simp only [closedLL,Bool.and_eq_true] at h
  cases i with
  | zero=>simp only [List.set_cons_zero,closedLL,hx,h.2,Bool.and_self]
  | succ i=>simp only [List.set_cons_succ,closedLL,h.1,closedLL_set h.2 i x hx,Bool.and_self]
theorem sp_acc (s:List (List Tm)) (a:Int) (ha:0 ≤ a ∧ a < s.length) (hl:s.length ≤ 137438953472) (hk:∀ l ∈ s,l.length ≤ 137438953472 ∧ ∀ x ∈ l,x.lok):Am.Spec Tryz.prog 50 [.sl (encSt s),.int .i64 a] (.sl (encSt (stAccept s a))):=by
 have ho:=rw_own s hl hk
 rw [encSt_Q] at ho ⊢
 rw [encSt_Q]
 have hs:=sp_sis s a
 rw [decide_eq_true ha.1,decide_eq_true ha.2] at hs
 have ha':a.toNat < s.length:=by omega
 have hq:setL (encQ s[a.toNat]) 0 [.nils] = [.nils]:=rfl
 refine Am.Spec.resN (r:=.sl ((s.map encQ).set a.toNat [.nils])) ?_ (nrm_set s a.toNat [.nils] [] rfl)
 refine W50_S (by simp) ?_
 intro vs
 simp
 refine scall_row ho (by simp) (by simp) ?_
 simp
 refine scall_flat hs (by simp) (by simp) rfl ?_
 simp [ha.1,ha.2,ha',hq,retW_eq]
 exact closedLL_set (by simp) _ _ rfl
theorem stSize_nn (s:List (List Tm)):0 ≤ stSize s:=by
 induction s with
 | nil=>simp [stSize]
 | cons l s ih=>have:=Tm.sizes_nonneg l; simp only [stSize,List.map_cons,List.sum_cons] at *; omega
theorem stSize_split (s:List (List Tm)) (i:Nat):stSize s = stSize (s.take i) + stSize (s.drop i):=by
 simp only [stSize]
 rw [← List.sum_append_int,← List.map_append,List.take_append_drop]
theorem stSize_take (s:List (List Tm)) (i:Nat) (h:i < s.length):stSize (s.take (i + 1)) = stSize (s.take i) + Tm.sizes s[i]:=by
 rw [List.take_succ_eq_append_getElem h]
 simp only [stSize,List.map_append,List.sum_append_int,List.map_cons,List.map_nil,List.sum_cons,List.sum_nil]
 omega
theorem sp_ssz (s:List (List Tm)) (hs:stSize s ≤ 1000000) (hl:s.length ≤ 137438953472) (hk:∀ l ∈ s,l.length ≤ 137438953472):Am.Spec Tryz.prog 52 [.sl (encSt s)] (.int .i64 (stSize s)):=by
 rw [encSt_Q]
 refine W52_S (by simp) ?_
 intro vs
 simp [-W52_l7]
 refine sLoop_intro (fun i=>i ≤ s.length) (fun i=>s.length - i) (fun i=>[(3,.int .i64 (stSize (s.take i))),(8,.sl (s.map encQ)),(9,.int .i64 s.length),(10,.int .i64 (i:Nat))]) (fun _=>[]) 0 (by simp) (by simp [stSize]) (by simp) ?_
 rintro L i vt hi hL
 by_cases h:i < s.length
 ·have h':(i:Int) < s.length:=by omega
  have e1:=stSize_split s (i + 1)
  have e2:=stSize_take s i h
  have e3:=stSize_nn (s.drop (i + 1))
  have e4:=stSize_nn (s.take i)
  simp [-W52_l5,h,h']
  refine sLoop_intro (fun j=>j ≤ s[i].length) (fun j=>s[i].length - j) (fun j=>[(3,.int .i64 (stSize (s.take i) + Tm.sizes (s[i].take j))),(8,.sl (s.map encQ)),(9,.int .i64 s.length),(10,.int .i64 (i:Nat)),(14,.sl (s[i].map encT)),(15,.int .i64 s[i].length),(16,.int .i64 (j:Nat))]) (fun _=>[]) 0 (by simp) (by simp [Tm.sizes]) (by simp) ?_
  rintro L2 j vt2 hj hL2
  have hkl:=hk s[i] (List.getElem_mem h)
  by_cases g:j < s[i].length
  ·have g':(j:Int) < s[i].length:=by omega
   have q1:=Tm.sizes_split s[i] (j + 1)
   have q2:=Tm.sizes_take s[i] j g
   have q3:=Tm.sizes_nonneg (s[i].drop (j + 1))
   have q4:=Tm.sizes_nonneg (s[i].take j)
   have q5:=s[i][j].size_pos
   have hz:=sp_sz s[i][j] (by omega)
   simp [g,g']
   refine scall_pure hz (by simp) (by simp) ?_
   simp
   rw [wrap64 (by omega) (by omega),wrap64 (by omega) (by omega)]
   refine hL2 _ _ _ (j + 1) g (by omega) ?_ (by simp)
   simp [q2]
   omega
  ·have g':¬ (j:Int) < s[i].length:=by omega
   have e:s[i].take j = s[i]:=List.take_of_length_le (by omega)
   rw [e]
   simp [g,g']
   rw [wrap64 (by omega) (by omega)]
   refine hL _ _ _ (i + 1) h (by omega) ?_ (by simp)
   simp [e2]
 ·have h':¬ (i:Int) < s.length:=by omega
  have e:s.take i = s:=List.take_of_length_le (by omega)
  rw [e]
  simp [h,h',retW_eq]
end Go.Proofs.YtnngddgaobhkiaaGreat
namespace Go.Proofs.YtnngddgaobhkiaaGreat
open Go Go.Am Go.RowKit
attribute [local simp] W41 W41_rs W14 W14_rs
section
variable {P : Program} {f : FuncId} {args caps args' : List AV} {d : Option Nat} {s : St} {K : Kt (St → Prop)} {r : AV}
theorem scall0_nrm (h:Am.Spec P f args' r) (e:nrmL ((args ++ caps).map (pur (frzs s.H args))) = args') (hc:closedL ((args ++ caps).map (pur (frzs s.H args))) = true) (k:K.v (s.put d r (frzs s.H args))):@sCall0 P (.func f caps) args d s K:=
 scall0_pure (Am.Spec.nrm (by rw [e]; exact h)) rfl hc k
end
theorem setF_t (f:Cfg) (n:Tm):setL (encF f) 0 (encT n) = encF { f with t:=n }:=by rw [encF_eq,encF_eq,encT_eq]; rfl
@[simp] theorem rd_C0 (c:Cor):readA (encC c) 0 1 false = some (.sl (encI c.vars)):=rfl
@[simp] theorem rd_C1 (c:Cor):readA (encC c) 1 1 false = some (.int .i64 c.stacks):=rfl
@[simp] theorem rd_C2 (c:Cor):readA (encC c) 2 1 false = some (.sl (c.procs.map encT)):=rfl
@[simp] theorem rd_C3 (c:Cor):readA (encC c) 3 1 false = some (.int .i64 c.main):=rfl
theorem closedLL_rep (n:Nat) (x:List AV) (h:closedL x = true):closedLL (List.replicate n x) = true:=by
 induction n with
 | zero=>rfl
 | succ n ih=>simp only [List.replicate_succ,closedLL,h,ih,Bool.and_self]
theorem setB9 (x:Tm) (a b c d:AV):setL [.int .i64 0,.int .i64 0,.int .i64 0,.str ⟨#[]⟩,.int .i64 0,.int .i64 0,.str ⟨#[]⟩,.nils,.nils,a,b,c,d] 0 (encT x) = encT x ++ [a,b,c,d]:=by rw [encT_eq]; rfl
theorem sp_beg (c:Cor) (m n:Nat) (hm:c.main = m) (hml:m < c.procs.length) (hn:c.stacks = n) (hn2:n ≤ 1000) (hw:c.procs[m].wt ≤ 137438953472) (hv:c.vars.length ≤ 137438953472) :
  Am.Spec Tryz.prog 14 [.agg (encC c)] (.agg (encF ⟨c.procs[m].norm,c.vars,List.replicate n [],0,0⟩)):=by
 have h1:=sp_nrm c.procs[m] hw
 have h2:=sp_cli (encI c.vars) (encI_cell _) (by simp) (by simpa using hv)
 have h3:=sp_mrg0 (List.replicate n []) 0 (by simp; omega) (fun l hl=>by rw [(List.mem_replicate.1 hl).2]; simp)
 have hix:ixRows (c.procs.map encT) (m:Int) 9 = some (.elt (encT c.procs[m]) 0):=by
  rw [ixRows_nat]; simp [List.getElem?_eq_getElem hml]
 have hst:encSt (List.replicate n []) = List.replicate n [.sl []]:=by simp [encSt]
 rw [hst] at h3
 have hr:encF ⟨c.procs[m].norm,c.vars,List.replicate n [],0,0⟩ = encT c.procs[m].norm ++ [.sl (encI c.vars),.sl (List.replicate n [.sl []]),.int .i64 0,.int .i64 0]:=by rw [encF,hst]
 rw [hr]
 generalize c.procs[m].norm = x at *
 refine W14_S (by simp) ?_
 intro vs
 simp [hm,hn,hix]
 refine scall0_pure h1 (by simp) (by simp) ?_
 simp [hm,hn,hix]
 refine scall0_pure h2 (by simp) (by simp) ?_
 simp [hm,hn,hix]
 rw [show (decide (24 * n ≤ 281474976710656) && decide (n ≤ maxLen)) = true by rw [decide_eq_true (by omega),decide_eq_true (by unfold maxLen; omega)]; rfl]
 simp [hm,hn,hix]
 refine scall0_nrm h3 ?_ ?_ ?_
 ·simp [nrmL,nrm,nrmLL_map]
 ·simp [closedLL_rep,closedL,closed]
 ·simp [hm,hn,hix,setB9,retW_eq]
  exact closedLL_rep n _ rfl
end Go.Proofs.YtnngddgaobhkiaaGreat
namespace Go.Proofs.YtnngddgaobhkiaaGreat
open Go Go.Am Go.RowKit
attribute [local simp] W42 W42_rs W42_b1 W42_b2 W42_b4 W42_b5 W42_b7 W42_b11 W42_b13 W42_b20 W42_k3 W42_l12
mutual
def waitP (key:Int):Tm → Option (List Int)
 | ⟨k,a,_,_,_,l⟩=>if k = 14 then (if a = key then some [] else none) else if k = 12 then waitP1 key l else if k = 11 ∨ k = 7 then waitPs key l 0 else none
def waitP1 (key:Int):List Tm → Option (List Int)
 | []=>none
 | x :: _=>(waitP key x).map fun p=>0 :: p
def waitPs (key:Int):List Tm → Nat → Option (List Int)
 | [],_=>none
 | x :: l,i=>match waitP key x with
  | some p=>some ((i:Int) :: p)
  | none=>waitPs key l (i + 1)
end
theorem waitP_eq (key:Int) (t:Tm):waitP key t = if t.kind = 14 then (if t.a = key then some [] else none) else if t.kind = 12 then waitPs key (t.l.take 1) 0 else if t.kind = 11 ∨ t.kind = 7 then waitPs key t.l 0 else none:=by
 obtain ⟨k,a,b,n,e,l⟩:=t
 simp only [waitP]
 split
 ·rfl
 ·split
  ·cases l with
   | nil=>rfl
   | cons x l=>
    simp only [waitP1,List.take_succ_cons,List.take_zero,waitPs]
    cases waitP key x <;> rfl
  ·rfl
theorem waitPs_drop (key:Int) (l:List Tm) (i:Nat) (h:i < l.length):waitPs key (l.drop i) i = match waitP key l[i] with
  | some p=>some ((i:Int) :: p)
  | none=>waitPs key (l.drop (i + 1)) (i + 1):=by
 rw [List.drop_eq_getElem_cons h]; rfl
def wres (o:Option (List Int)):AV:=.tup [.sl (encI (o.getD [])),.bool o.isSome]
theorem waitPs_len (key:Int):∀ (l:List Tm) (i:Nat) (p:List Int),(∀ x ∈ l,∀ p,waitP key x = some p → p.length ≤ x.wt) → waitPs key l i = some p → p.length ≤ Tm.wts l + 1
 | [],_,_,_,h=>by simp [waitPs] at h
 | x :: l,i,p,ih,h=>by
  simp only [waitPs] at h
  cases hx:waitP key x with
  | some q=>
   rw [hx] at h
   cases h
   have:=ih x (by simp) q hx
   simp only [List.length_cons,Tm.wts]; omega
  | none=>
   rw [hx] at h
   have:=waitPs_len key l (i + 1) p (fun y hy=>ih y (by simp [hy])) h
   simp only [Tm.wts]; omega
theorem waitP_len (key:Int) (t:Tm) (p:List Int) (h:waitP key t = some p):p.length ≤ t.wt:=by
 have ih:∀ x ∈ t.l,∀ p,waitP key x = some p → p.length ≤ x.wt:=fun x hx p hp=>waitP_len key x p hp
 have hw:=t.wt_eq
 have he:=Ex.wt_pos t.e
 rw [waitP_eq] at h
 repeat' split at h
 ·cases h; simp
 ·cases h
 ·have:=waitPs_len key (t.l.take 1) 0 p (fun x hx=>ih x (List.mem_of_mem_take hx)) h
  have h2:Tm.wts (t.l.take 1) ≤ Tm.wts t.l:=by cases t.l with
   | nil=>simp
   | cons x l=>simp [Tm.wts]
  omega
 ·have:=waitPs_len key t.l 0 p ih h; omega
 ·cases h
termination_by SizeOf.sizeOf t
decreasing_by exact Tm.lt_of_mem hx
theorem rtn_loop (key:Int) (t:Tm) (l:List Tm) (hsub:(t.kind = 12 ∧ l = t.l.take 1) ∨ (t.kind ≠ 12 ∧ l = t.l)) (hw:t.wt ≤ 100000000) (ih:∀ y ∈ t.l,Am.Spec Tryz.prog 42 [.agg (encT y),.int .i64 key] (wres (waitP key y)))
  (v2:Nat) (T:List (Nat × AV)) (H:List (Nat × Blk)) (vs:Nat → Nat) (hT:Am.subT T [(1,.int .i64 key),(2,.ref 2 v2 (.p 0)),(33,.sl (t.l.map encT)),(34,.int .i64 t.l.length),(35,.int .i64 0)]) (hH:subA H [(2,.box v2 35 (encT t))]) :
  @sLoop ⟨Am.look T,hls H vs,noG⟩ ⟨fun L0 s=>W42_l12 (retK Tryz.prog [.tmp 4,.tmp 5] (wres (waitPs key l 0))) L0 s⟩:=by
 have hlen:=Tm.wts_len t.l
 have hwt:=t.wt_eq
 have hll:l.length ≤ t.l.length:=by rcases hsub with ⟨_,rfl⟩ | ⟨_,rfl⟩ <;> simp <;> omega
 refine sLoop_intro (fun i=>i ≤ l.length ∧ waitPs key l 0 = waitPs key (l.drop i) i) (fun i=>t.l.length + 1 - i) (fun i=>[(1,.int .i64 key),(2,.ref 2 v2 (.p 0)),(33,.sl (t.l.map encT)),(34,.int .i64 t.l.length),(35,.int .i64 (i:Nat))])
  (fun _=>[(2,.box v2 35 (encT t))]) 0 (by simp) (by simpa using hT) (by simpa using hH) ?_
 rintro L i vt ⟨hi,hj⟩ hL
 by_cases h:i < l.length
 ·have ht:i < t.l.length:=by omega
  have h':(i:Int) < t.l.length:=by omega
  have hg:l[i] = t.l[i]:=by
   rcases hsub with ⟨_,rfl⟩ | ⟨_,rfl⟩
   ·rw [List.getElem_take]
   ·rfl
  have hx:=ih _ (List.getElem_mem ht)
  have hwm:=Tm.wts_mem (List.getElem_mem ht)
  have hk:0 < i → ¬ t.kind = 12:=fun h0 hk=>by
   rcases hsub with ⟨_,rfl⟩ | ⟨h2,_⟩
   ·simp at h; omega
   ·exact h2 hk
  rw [waitPs_drop key l i h,hg] at hj
  have hpl:=waitP_len key t.l[i]
  have walk:∀ (o:Option (List Int)),waitP key t.l[i] = o → W42_l12 (retK Tryz.prog [.tmp 4,.tmp 5] (wres (waitPs key l 0))) L ⟨Am.look [(1,.int .i64 key),(2,.ref 2 v2 (.p 0)),(33,.sl (t.l.map encT)),(34,.int .i64 t.l.length),(35,.int .i64 (i:Nat))],hls [(2,.box v2 35 (encT t))] vt,noG⟩:=fun o hp=>by
   rw [hp] at hx hj
   cases o with
   | some p=>
    have hpl:=hpl p hp
    simp only [wres,Option.getD_some,Option.isSome_some] at hx
    rw [hj]
    by_cases h0:0 < i
    ·simp [ht,h',h0,hk h0]
     refine scall_pure hx (by simp) (by simp) ?_
     simp
     rw [decide_eq_true (by first | omega | (simp; omega))]
     simp [retW_eq,wres,encI]
    ·have e0:i = 0:=by omega
     subst e0
     simp [ht,h']
     refine scall_pure hx (by simp) (by simp) ?_
     simp
     rw [decide_eq_true (by first | omega | (simp; omega))]
     simp [retW_eq,wres,encI]
   | none=>
    simp only [wres,Option.getD_none,Option.isSome_none] at hx
    have hx:Am.Spec Tryz.prog 42 [.agg (encT t.l[i]),.int .i64 key] (.tup [.sl [],.bool false]):=hx
    have w1:IntKind.wrap .i64 ((i:Int) + 1) = (i:Int) + 1:=wrap64 (by omega) (by omega)
    by_cases h0:0 < i
    ·simp [ht,h',h0,hk h0]
     refine scall_pure hx (by simp) (by simp) ?_
     simp [w1]
     exact hL _ _ _ (i + 1) ⟨h,hj⟩ (by omega) (by simp) (by simp)
    ·have e0:i = 0:=by omega
     subst e0
     simp [ht,h']
     refine scall_pure hx (by simp) (by simp) ?_
     have w1':IntKind.wrap .i64 1 = 1:=wrap64 (by omega) (by omega)
     simp [w1']
     exact hL _ _ _ 1 ⟨h,hj⟩ (by omega) (by simp) (by simp)
  exact walk _ rfl
 ·have e:waitPs key (l.drop i) i = none:=by rw [List.drop_of_length_le (by omega)]; rfl
  rw [hj,e]
  by_cases ht:i < t.l.length
  ·have hk:t.kind = 12 ∧ 0 < i:=by
    rcases hsub with ⟨h1,rfl⟩ | ⟨h2,rfl⟩
    ·simp at h; exact ⟨h1,by omega⟩
    ·omega
   have h':(i:Int) < t.l.length:=by omega
   simp [ht,h',hk.1,hk.2,retW_eq,wres,encI]
  ·have h':¬ (i:Int) < t.l.length:=by omega
   simp [ht,h',retW_eq,wres,encI]
theorem sp_rtn (key:Int) (t:Tm) (hw:t.wt ≤ 100000000):Am.Spec Tryz.prog 42 [.agg (encT t),.int .i64 key] (wres (waitP key t)):=by
 have hwt:=t.wt_eq
 have ih:∀ y ∈ t.l,Am.Spec Tryz.prog 42 [.agg (encT y),.int .i64 key] (wres (waitP key y)):=fun y hy=>sp_rtn key y (by have:=Tm.wts_mem hy; omega)
 rw [waitP_eq]
 by_cases k14:t.kind = 14
 ·rw [if_pos k14]
  by_cases ha:t.a = key
  ·rw [if_pos ha]
   refine W42_S (by simp) ?_
   intro vs
   simp [k14,ha,retW_eq,wres,encI]
  ·rw [if_neg ha]
   refine W42_S (by simp) ?_
   intro vs
   simp [k14,ha,retW_eq,wres,encI]
 ·rw [if_neg k14]
  by_cases k12:t.kind = 12
  ·rw [if_pos k12]
   have hl:=rtn_loop key t (t.l.take 1) (.inl ⟨k12,rfl⟩) hw ih
   generalize waitPs key (t.l.take 1) 0 = o at *
   refine W42_S (by simp) ?_
   intro vs
   simp [-W42_l12,k12]
   exact hl (vs 2 + 1) _ _ _ (by simp) (by simp)
  ·rw [if_neg k12]
   by_cases k11:t.kind = 11
   ·rw [if_pos (.inl k11)]
    have hl:=rtn_loop key t t.l (.inr ⟨k12,rfl⟩) hw ih
    generalize waitPs key t.l 0 = o at *
    refine W42_S (by simp) ?_
    intro vs
    simp [-W42_l12,k11]
    exact hl (vs 2 + 1) _ _ _ (by simp) (by simp)
   ·by_cases k7:t.kind = 7
    ·rw [if_pos (.inr k7)]
     have hl:=rtn_loop key t t.l (.inr ⟨k12,rfl⟩) hw ih
     generalize waitPs key t.l 0 = o at *
     refine W42_S (by simp) ?_
     intro vs
     simp [-W42_l12,k7]
     exact hl (vs 2 + 1) _ _ _ (by simp) (by simp)
    ·rw [if_neg (by simp [k11,k7])]
     refine W42_S (by simp) ?_
     intro vs
     simp [k14,k12,k11,k7,retW_eq,wres,encI]
termination_by SizeOf.sizeOf t
decreasing_by exact Tm.lt_of_mem hy
end Go.Proofs.YtnngddgaobhkiaaGreat
namespace Go.Proofs.YtnngddgaobhkiaaGreat
open Go Go.Am Go.RowKit
attribute [local simp] W131 W131_rs W131_b1 W131_b2 W102 W102_rs W102_k2 W102_b4 W102_l5 W104 W104_rs W104_k2 W104_b4 W104_l5 W103 W103_rs W77 W77_rs W78 W78_rs W48 W48_rs W48_k1 W48_b3 W34 W34_rs W34_k1 W34_b2
def liveQ (s:List (List Tm)) (a j v:Nat):List (List AV):=(s.map encQ).set a [.ref j v .o]
theorem liveQ_cell (s:List (List Tm)) (a j v:Nat):∀ r ∈ liveQ s a j v,∀ c ∈ r,c.cell = true:=by
 intro r hr
 rcases List.mem_or_eq_of_mem_set hr with h | rfl
 ·obtain ⟨q,_,rfl⟩:=List.mem_map.1 h
  exact encQ_cell q
 ·simp
theorem liveQ_len (s:List (List Tm)) (a j v:Nat):∀ r ∈ liveQ s a j v,r.length = 1:=by
 intro r hr
 rcases List.mem_or_eq_of_mem_set hr with h | rfl
 ·obtain ⟨q,_,rfl⟩:=List.mem_map.1 h
  rfl
 ·rfl
@[simp] theorem liveQ_length (s:List (List Tm)) (a j v:Nat):(liveQ s a j v).length = s.length:=by simp [liveQ]
theorem liveQ_ren (σ:Nat → Nat) (s:List (List Tm)) (a j v:Nat):renLL σ (liveQ s a j v) = liveQ s a (σ j) v:=by
 unfold liveQ
 induction s generalizing a with
 | nil=>rfl
 | cons x s ih=>
  cases a with
  | zero=>
   have h:renLL σ (s.map encQ) = s.map encQ:=renLL_off σ (by simp)
   simp [h]
  | succ a=>simp [ih]
theorem liveQ_okk (K:Nat → Bool) (s:List (List Tm)) (a j v:Nat) (h:K j = true):okkLL K (liveQ s a j v) = true:=by
 unfold liveQ
 induction s generalizing a with
 | nil=>rfl
 | cons x s ih=>
  cases a with
  | zero=>
   have h2:okkLL K (s.map encQ) = true:=okkLL_off K (by simp)
   simp [h,h2]
  | succ a=>simp [ih]
@[simp] theorem liveQ_get (s:List (List Tm)) (a j v:Nat) (h:a < (liveQ s a j v).length):(liveQ s a j v)[a] = [.ref j v .o]:=by
 simp [liveQ]
@[simp] theorem liveQ_set (s:List (List Tm)) (a j v u:Nat):(liveQ s a j v).set a [.ref j u .o] = liveQ s a j u:=by simp [liveQ,List.set_set]
theorem hs_clS (s:List (List Tm)) (a v:Nat) (x:List (List AV)) (hs:s ≠ []) (hl:s.length ≤ 137438953472) :
  Am.HSpecL Tryz.prog 131 [.sl (liveQ s a 30 v)] [(30,.row v 35 9 x)] fun r l'=>∃ w,r = .ref 5 w .o ∧ l' = [(5,.row w 27 1 (liveQ s a 30 v)),(30,.row v 35 9 x)]:=by
 have hc:=liveQ_cell s a 30 v
 have hln:=liveQ_len s a 30 v
 have hn:=liveQ_length s a 30 v
 have hne:liveQ s a 30 v ≠ []:=fun e=>hs (List.eq_nil_of_length_eq_zero (by rw [← hn,e]; rfl))
 generalize liveQ s a 30 v = q at *
 refine Am.HSpecL.of_W (W:=W131) Tryz.func131 (by kernel_rfl) (by kernel_rfl) (by kernel_rfl) Tryz.ntmps131 W131_eq (rs:=[.tmp 2]) (by kernel_rfl) (by simp) ?_
 intro vs
 simp
 refine sNil_sl _ _ _ _ _ _ ?_ fun e=>?_
 ·simp
  refine sLit_f _ _ ?_
  simp
  rw [if_pos (fun r hr=>⟨hln r hr,hc r hr⟩)]
  simp
  rw [decide_eq_true (by omega)]
  simp
  refine retHW_to [(5,.row (vs 5 + 1 + 1) 27 1 q),(30,.row v 35 9 x)] ?_
  simp [resV,resOne]
 ·exact absurd e hne
theorem liveQ_take (s:List (List Tm)) (a j v:Nat) (h:a < s.length):(liveQ s a j v).take (a + 1) = (s.take a).map encQ ++ [[.ref j v .o]]:=by
 unfold liveQ
 rw [List.take_succ_eq_append_getElem (by simpa using h),List.getElem_set_self,List.take_set_of_le (Nat.le_refl a),List.map_take]
theorem liveQ_succ (s:List (List Tm)) (a j v i:Nat) (h:i < s.length) (hi:a < i):(liveQ s a j v).take (i + 1) = (liveQ s a j v).take i ++ [encQ s[i]]:=by
 rw [List.take_succ_eq_append_getElem (by simpa using h)]
 congr 2
 unfold liveQ
 rw [List.getElem_set_ne (by omega),List.getElem_map]
theorem hs_mpS (s:List (List Tm)) (a:Nat) (ha:a < s.length) (hd:∀ x ∈ s,Am.Spec Tryz.prog 103 [.sl (x.map encT)] (.sl (x.map encT)))
  (hr:Am.RowSpec Tryz.prog 103 [.sl (s[a].map encT)] 35 9 (s[a].map encT)) (hl:s.length ≤ 137438953472) :
  Am.HSpecL Tryz.prog 102 [.sl (s.map encQ),.func 103 []] [] fun r l'=>∃ v w,r = .ref 28 w .o ∧ l' = [(28,.row w 27 1 (liveQ s a 18 v)),(18,.row v 35 9 (s[a].map encT))]:=by
 have w1:IntKind.wrap .i64 1 = 1:=wrap64 (by omega) (by omega)
 refine Am.HSpecL.of_W (W:=W102) Tryz.func102 (by kernel_rfl) (by kernel_rfl) (by kernel_rfl) Tryz.ntmps102 W102_eq (rs:=[.tmp 4]) (by kernel_rfl) (by simp) ?_
 intro vs
 simp [-W102_l5]
 refine sLoop_intro (α:=Nat × Nat × Nat) (fun x=>x.1 ≤ s.length) (fun x=>s.length - x.1)
  (fun x=>[(1,.func 103 []),(5,if x.1 = 0 then .nils else .ref 20 x.2.1 .o),(9,.sl (s.map encQ)),(10,.int .i64 s.length),(11,.int .i64 (x.1:Nat))])
  (fun x=>if x.1 = 0 then [] else if x.1 ≤ a then [(20,.row x.2.1 27 1 ((s.take x.1).map encQ))] else [(20,.row x.2.1 27 1 ((liveQ s a 18 x.2.2).take x.1)),(18,.row x.2.2 35 9 (s[a].map encT))]) (0,0,0) (by simp) (by simp) (by simp) ?_
 rintro L ⟨i,w,v⟩ vt hi hL
 simp only at hi hL ⊢
 by_cases h:i < s.length
 ·have h':(i:Int) < s.length:=by omega
  have hx:=hd s[i] (List.getElem_mem h)
  by_cases hia:i = a
  ·subst hia
   by_cases h0:i = 0
   ·subst h0
    simp [h,h']
    refine scall_row hr (by simp) (by simp) ?_
    simp [h,h']
    refine sLit_r _ _ ?_
    simp [h,h']
    refine hL _ _ _ (1,vt 20 + 1,vt 18 + 1) (by simp only; omega) (by simp only; omega) (by simp [w1]) ?_
    have e:=liveQ_take s 0 18 (vt 18 + 1) ha
    simp only [Nat.zero_add] at e
    simp [e]
   ·simp [h,h',h0]
    refine scall_row hr (by simp) (by simp) ?_
    simp [h,h',h0]
    refine sLit_r _ _ ?_
    simp [h,h',h0]
    rw [decide_eq_true (by first | omega | (simp; omega))]
    simp
    rw [wrap64 (by omega) (by omega)]
    refine hL _ _ _ (i + 1,w + 1,vt 18 + 1) (by simp only; omega) (by simp only; omega) (by simp) ?_
    have e:=liveQ_take s i 18 (vt 18 + 1) ha
    simp [e,show ¬ i + 1 ≤ i by omega]
  ·by_cases hlt:i < a
   ·have hle:i ≤ a:=by omega
    by_cases h0:i = 0
    ·subst h0
     simp [h,h']
     refine scall_pure hx (by simp) (by simp) ?_
     simp [h,h']
     refine sLit_f _ _ ?_
     simp [h,h']
     refine hL _ _ _ (1,vt 20 + 1,0) (by simp only; omega) (by simp only; omega) (by simp [w1]) ?_
     simp [show 1 ≤ a by omega]
     rw [take_map_succ encQ s 0 h]
     rfl
    ·simp [h,h',h0,hle]
     refine scall_pure hx (by simp) (by simp) ?_
     simp [h,h',h0]
     refine sLit_f _ _ ?_
     simp [h,h',h0]
     rw [decide_eq_true (by first | omega | (simp; omega))]
     simp
     rw [wrap64 (by omega) (by omega)]
     refine hL _ _ _ (i + 1,w + 1,0) (by simp only; omega) (by simp only; omega) (by simp) ?_
     simp [show i + 1 ≤ a by omega]
     rw [take_map_succ encQ s i h]
     rfl
   ·have hgt:¬ i ≤ a:=by omega
    have h0:i ≠ 0:=by omega
    have e:=liveQ_succ s a 18 v i h (by omega)
    have hcc:=liveQ_cell s a 18 v
    simp [h,h',h0,hgt]
    refine scall_pure hx (by simp) (by simp) ?_
    simp [h,h',h0]
    refine sLit_f _ _ ?_
    simp [h,h',h0]
    rw [decide_eq_true (by first | omega | (simp; omega))]
    simp
    rw [wrap64 (by omega) (by omega)]
    refine hL _ _ _ (i + 1,w + 1,v) (by simp only; omega) (by simp only; omega) (by simp) ?_
    simp [show ¬ i + 1 ≤ a by omega,e]
    rfl
 ·have h':¬ (i:Int) < s.length:=by omega
  have e:i = s.length:=by omega
  subst e
  have h0:s.length ≠ 0:=by omega
  have hgt:¬ s.length ≤ a:=by omega
  have hal:((liveQ s a 18 v).all fun r=>r.length == 1) = true:=List.all_eq_true.2 fun x hx=>by simp [liveQ_len s a 18 v x hx]
  have et:(liveQ s a 18 v).take s.length = liveQ s a 18 v:=by rw [← liveQ_length s a 18 v,List.take_length]
  simp [h0,hgt,et,hal]
  have hne:s ≠ []:=fun e=>h0 (by rw [e]; rfl)
  refine scall_heap [(18,30)] [(28,5)] (hs_clS s a v (s[a].map encT) hne hl) (by simp [liveQ_ren]) (by simp) (by simp [liveQ_okk]) ?_
  intro r l' VS' hrl
  obtain ⟨w',rfl,rfl⟩:=hrl
  refine ⟨by simp [liveQ_okk],?_⟩
  simp [liveQ_ren]
  refine retHW_to [(28,.row w' 27 1 (liveQ s a 18 v)),(18,.row v 35 9 (s[a].map encT))] ?_
  simp [resV,resOne]
theorem rw_mpT (f:FuncId) (l:List Tm) (hd:∀ x ∈ l,Am.Spec Tryz.prog f [.agg (encT x)] (.agg (encT x))) (hl:l.length ≤ 137438953472):Am.RowSpec Tryz.prog 104 [.sl (l.map encT),.func f []] 35 9 (l.map encT):=by
 have hc:=rw_clt l hl
 have hal:(l.all ((fun r=>r.length == 9) ∘ encT)) = true:=List.all_eq_true.2 fun x _=>by simp
 have w1:IntKind.wrap .i64 1 = 1:=wrap64 (by omega) (by omega)
 refine Am.RowSpec.of_W (W:=W104) Tryz.func104 (by kernel_rfl) (by kernel_rfl) (by kernel_rfl) Tryz.ntmps104 W104_eq (rs:=[.tmp 4]) (by kernel_rfl) (by simp) (by simp) ?_
 intro vs
 simp [-W104_l5]
 refine sLoop_intro (α:=Nat × Nat) (fun x=>x.1 ≤ l.length) (fun x=>l.length - x.1)
  (fun x=>[(1,.func f []),(5,if x.1 = 0 then .nils else .ref 20 x.2 .o),(9,.sl (l.map encT)),(10,.int .i64 l.length),(11,.int .i64 (x.1:Nat))])
  (fun x=>if x.1 = 0 then [] else [(20,.row x.2 35 9 ((l.take x.1).map encT))]) (0,0) (by simp) (by simp) (by simp) ?_
 rintro L ⟨i,w⟩ vt hi hL
 simp only at hi hL ⊢
 by_cases h:i < l.length
 ·have h':(i:Int) < l.length:=by omega
  have hx:=hd l[i] (List.getElem_mem h)
  by_cases h0:i = 0
  ·subst h0
   simp [h,h']
   refine scall_pure hx (by simp) (by simp) ?_
   simp [h,h']
   refine hL _ _ _ (1,vt 20 + 1) (by simp only; omega) (by simp only; omega) (by simp [w1]) ?_
   simp
   rw [take_map_succ encT l 0 h]
   rfl
  ·simp [h,h',h0]
   refine scall_pure hx (by simp) (by simp) ?_
   simp [h,h',h0]
   rw [decide_eq_true (by first | omega | (simp; omega))]
   simp
   rw [wrap64 (by omega) (by omega)]
   refine hL _ _ _ (i + 1,w + 1) (by simp only; omega) (by simp only; omega) (by simp) ?_
   simp
   rw [take_map_succ encT l i h]
 ·have h':¬ (i:Int) < l.length:=by omega
  have e:i = l.length:=by omega
  subst e
  by_cases h0:l.length = 0
  ·have e:l = []:=List.eq_nil_of_length_eq_zero h0
   subst e
   simp
   refine scall_row hc (by simp) (by simp) ?_
   simp
   refine retRW_of _ _ _ _ _ _ 28 _ (by simp [resV,resOne]; rfl) (by simp)
  ·simp [h0,hal]
   refine scall_row hc (by simp) (by simp) ?_
   simp
   refine retRW_of _ _ _ _ _ _ 28 _ (by simp [resV,resOne]; rfl) (by simp)
theorem rw_ow1 (l:List Tm) (hl:l.length ≤ 137438953472) (hk:∀ x ∈ l,x.lok):Am.RowSpec Tryz.prog 103 [.sl (l.map encT)] 35 9 (l.map encT):=by
 have hm:=rw_mpT 88 l (fun x hx=>sp_oxT x (hk x hx)) hl
 refine Am.RowSpec.of_W (W:=W103) Tryz.func103 (by kernel_rfl) (by kernel_rfl) (by kernel_rfl) Tryz.ntmps103 W103_eq (rs:=[.tmp 2]) (by kernel_rfl) (by simp) (by simp) ?_
 intro vs
 simp
 refine scall_row hm (by simp) (by simp) ?_
 simp
 refine retRW_of _ _ _ _ _ _ 4 _ (by simp [resV,resOne]; rfl) (by simp)
theorem hs_own (s:List (List Tm)) (a:Nat) (ha:a < s.length) (hl:s.length ≤ 137438953472) (hk:∀ l ∈ s,l.length ≤ 137438953472 ∧ ∀ x ∈ l,x.lok)
  (hr:Am.RowSpec Tryz.prog 103 [.sl (s[a].map encT)] 35 9 (s[a].map encT)) :
  Am.HSpecL Tryz.prog 77 [.sl (s.map encQ)] [] fun r l'=>∃ v w,r = .ref 4 w .o ∧ l' = [(4,.row w 27 1 (liveQ s a 30 v)),(30,.row v 35 9 (s[a].map encT))]:=by
 have hm:=hs_mpS s a ha (fun l hl=>sp_ow1 l (hk l hl).1 (hk l hl).2) hr hl
 refine Am.HSpecL.of_W (W:=W77) Tryz.func77 (by kernel_rfl) (by kernel_rfl) (by kernel_rfl) Tryz.ntmps77 W77_eq (rs:=[.tmp 2]) (by kernel_rfl) (by simp) ?_
 intro vs
 simp
 refine scall_heap [] [(4,28),(30,18)] hm (by simp) (by simp) (by simp) ?_
 intro r l' VS' hrl
 obtain ⟨v,w,rfl,rfl⟩:=hrl
 refine ⟨by simp [liveQ_okk],?_⟩
 simp [liveQ_ren]
 refine retHW_to [(4,.row w 27 1 (liveQ s a 30 v)),(30,.row v 35 9 (s[a].map encT))] ?_
 simp [resV,resOne]
theorem hs_sis (w v:Nat) (x y:List (List AV)) (a:Int):Am.HSpecL Tryz.prog 78 [.ref 10 w .o,.int .i64 a] [(10,.row w 27 1 x),(30,.row v 35 9 y)] fun r l'=>
  r = .bool (decide (0 ≤ a) && decide (a < x.length)) ∧ l' = [(10,.row w 27 1 x),(30,.row v 35 9 y)]:=by
 refine Am.HSpecL.of_W (W:=W78) Tryz.func78 (by kernel_rfl) (by kernel_rfl) (by kernel_rfl) Tryz.ntmps78 W78_eq (rs:=[.tmp 4]) (by kernel_rfl) (by simp) ?_
 intro vs
 by_cases h:0 ≤ a
 ·simp [h]
  refine retHW_to [(10,.row w 27 1 x),(30,.row v 35 9 y)] ?_
  simp [resV,resOne]
 ·simp [h]
  refine retHW_to [(10,.row w 27 1 x),(30,.row v 35 9 y)] ?_
  simp [resV,resOne]
theorem frz_sl (H:Heap) (r:List (List AV)):frz H (.sl r) = H:=rfl
theorem frzs_enc (H:Heap) (s:List (List Tm)):frzs H (s.map encQ).flatten = H:=by
 induction s with
 | nil=>rfl
 | cons x s ih=>exact ih
theorem frzs_live (H:Heap) (s:List (List Tm)) (a j v:Nat) (ha:a < s.length):frzs H (liveQ s a j v).flatten = frz H (.ref j v .o):=by
 unfold liveQ
 induction s generalizing a with
 | nil=>simp at ha
 | cons x s ih=>
  cases a with
  | zero=>exact frzs_enc (frz H (.ref j v .o)) s
  | succ a=>exact ih a (by simpa using ha)
theorem frz_row (H:Heap) (k v:Nat) (t:TypeId) (sz:Nat) (rows:List (List AV)) (h:H k = some (.row v t sz rows)):frz H (.ref k v .o) = upd H k (some (.froz v rows)):=by
 simp [frz,frz1,frz0,h]
theorem pur_froz (H:Heap) (k v:Nat) (rows:List (List AV)) (h:H k = some (.froz v rows)):pur H (.ref k v .o) = .sl rows:=by
 simp [pur,pur1,pur0,h]
theorem purs_live (H:Heap) (s:List (List Tm)) (a j v:Nat) (l:List Tm) (h:pur H (.ref j v .o) = .sl (l.map encT)):(liveQ s a j v).map (fun r=>r.map (pur H)) = (s.set a l).map encQ:=by
 have he:∀ x:List Tm,(encQ x).map (pur H) = encQ x:=fun x=>rfl
 unfold liveQ
 induction s generalizing a with
 | nil=>rfl
 | cons x s ih=>
  cases a with
  | zero=>
   simp [h,he]
   rfl
  | succ a=>simpa [he] using ih a
theorem live_ret {P:Program} {rs:List ResultVar} {τ:Nat → AV} {H:Heap} {g:G} (rows:List (List AV)) (q:List (List Tm)) (j v k w:Nat) (t1 t2:TypeId) (l:List Tm) (he:resV P τ H rs = some (.ref k w .o)) (hk:H k = some (.row w t1 1 rows))
  (hj:H j = some (.row v t2 9 (l.map encT))) (hne:k ≠ j) (hfr:frzs H rows.flatten = frz H (.ref j v .o)) (hpu:∀ H,pur H (.ref j v .o) = .sl (l.map encT) → rows.map (fun r=>r.map (pur H)) = q.map encQ):retDW P rs (.sl (q.map encQ)) ⟨τ,H,g⟩:=by
 unfold retDW
 show bindO (resV P τ H rs) _
 rw [he]
 have e1:innD H (.ref k w .o) = rows.flatten:=by simp [innD,hk]
 have e2:frzs H (innD H (.ref k w .o)) = upd H j (some (.froz v (l.map encT))):=by rw [e1,hfr,frz_row H j v t2 9 _ hj]
 have e3:frz (frzs H (innD H (.ref k w .o))) (.ref k w .o) = upd (upd H j (some (.froz v (l.map encT)))) k (some (.froz w rows)):=by
  rw [e2]
  exact frz_row _ k w t1 1 _ (by rw [upd_other _ _ _ _ hne]; exact hk)
 show closed (purD (frz (frzs H (innD H (.ref k w .o))) (.ref k w .o)) (pur (frz (frzs H (innD H (.ref k w .o))) (.ref k w .o)) (.ref k w .o))) = true ∧ purD (frz (frzs H (innD H (.ref k w .o))) (.ref k w .o)) (pur (frz (frzs H (innD H (.ref k w .o))) (.ref k w .o)) (.ref k w .o)) = _
 rw [e3,pur_froz _ k w rows (by simp)]
 have e4:=hpu (upd (upd H j (some (.froz v (l.map encT)))) k (some (.froz w rows))) (pur_froz _ j v _ (by rw [upd_other _ _ _ _ (Ne.symm hne)]; simp))
 show closed (.sl _) = true ∧ AV.sl _ = _
 rw [e4]
 refine ⟨?_,rfl⟩
 have:closedLL (q.map encQ) = true:=by simp
 exact this
theorem frzs_encN (H:Heap) (s:List (List Tm)) (a:Nat):frzs H ((s.map encQ).set a [.nils]).flatten = H:=by
 induction s generalizing a with
 | nil=>rfl
 | cons x s ih=>cases a with
  | zero=>exact frzs_enc H s
  | succ a=>exact ih a
theorem frzs_liveN (H:Heap) (s:List (List Tm)) (b j v a:Nat) (hb:b < s.length) (hab:a ≠ b):frzs H ((liveQ s b j v).set a [.nils]).flatten = frz H (.ref j v .o):=by
 induction s generalizing a b with
 | nil=>simp at hb
 | cons x s ih=>cases b with
  | zero=>cases a with
   | zero=>exact absurd rfl hab
   | succ a=>exact frzs_encN (frz H (.ref j v .o)) s a
  | succ b=>cases a with
   | zero=>exact frzs_live H s b j v (by simpa using hb)
   | succ a=>exact ih b a (by simpa using hb) (by omega)
theorem purs_liveN (H:Heap) (s:List (List Tm)) (b j v a:Nat) (l:List Tm) (h:pur H (.ref j v .o) = .sl (l.map encT)):((liveQ s b j v).set a [.nils]).map (fun r=>r.map (pur H)) = ((s.set b l).set a []).map encQ:=by
 rw [List.map_set,purs_live H s b j v l h,List.map_set (l:=s.set b l)]
 rfl
theorem sp_psh (s:List (List Tm)) (a:Nat) (t:Tm) (ha:a < s.length) (hl:s.length ≤ 137438953472) (hk:∀ l ∈ s,l.length ≤ 1000000 ∧ ∀ x ∈ l,x.lok) (ht:t.lok) :
  Am.Spec Tryz.prog 48 [.sl (encSt s),.int .i64 a,.agg (encT t)] (.sl (encSt (stPush s a t))):=by
 have hk':∀ l ∈ s,l.length ≤ 137438953472 ∧ ∀ x ∈ l,x.lok:=fun l hl=>⟨by have:=(hk l hl).1; omega,(hk l hl).2⟩
 have hm:=List.getElem_mem ha
 have ho:=hs_own s a ha hl hk' (rw_ow1 _ (hk' _ hm).1 (hk' _ hm).2)
 have hx:=sp_oxT t ht
 have hlen:=(hk _ hm).1
 have hd1:(decide (0 ≤ (a:Int)) && decide ((a:Int) < s.length)) = true:=by simp [ha]
 rw [encSt_Q,encSt_Q]
 refine .of_WD (W:=W48) (rs:=[.tmp 6]) Tryz.func48 (by kernel_rfl) (by kernel_rfl) (by kernel_rfl) Tryz.ntmps48 W48_eq (by kernel_rfl) (by simp) ?_
 intro vs
 simp
 refine scall_heap [] [(9,4),(60,30)] ho (by simp) (by simp) (by simp) ?_
 intro r l' VS' hrl
 obtain ⟨v,w,rfl,rfl⟩:=hrl
 refine ⟨by simp [liveQ_okk],?_⟩
 simp [liveQ_ren]
 refine scall_heap [(9,10),(60,30)] [] (hs_sis w v (liveQ s a 30 v) (s[a].map encT) a) (by simp) (by simp [liveQ_ren]) (by simp [liveQ_okk]) ?_
 intro r l' VS' hrl
 obtain ⟨rfl,rfl⟩:=hrl
 refine ⟨by simp [liveQ_okk],?_⟩
 simp [liveQ_ren,ha]
 refine scall0_pure hx (by simp) (by simp) ?_
 simp [ha]
 rw [decide_eq_true (by omega)]
 have hlt:(s[a].length:Int) < (s[a].length:Int) + 1:=by omega
 have e2:(s[a].map encT ++ [[AV.int .i64 0,.int .i64 0,.int .i64 0,.str ⟨#[]⟩,.int .i64 0,.int .i64 0,.str ⟨#[]⟩,.sl [],.sl []]]).set s[a].length (encT t) = (s[a] ++ [t]).map encT:=by simp [List.set_append_right]
 simp [ha,hlt]
 show retDW _ _ _ _
 rw [stPush,show ((a:Int).toNat) = a from rfl,show stAt s a ++ [t] = s[a] ++ [t] by simp [stAt,List.getD_eq_getElem?_getD,ha]]
 refine live_ret (liveQ s a 60 (v + 1)) _ 60 (v + 1) 9 w 27 35 (s[a] ++ [t]) (by simp [resV,resOne]) ?_ ?_ (by omega) (frzs_live _ s a 60 (v + 1) ha) (fun H h=>purs_live H s a 60 (v + 1) _ h)
 ·simp
 ·simp
@[simp] theorem encQ_get0 (l:List Tm):(encQ l)[0]? = some (.sl (l.map encT)):=rfl
theorem liveQ_at (s:List (List Tm)) (a j v b:Nat) (hb:b ≠ a) (h:b < (liveQ s a j v).length):(liveQ s a j v)[b] = encQ (s[b]'(by simpa using h)):=by
 simp [liveQ,List.getElem_set_ne (Ne.symm hb)]
theorem sp_mrg (s:List (List Tm)) (a b:Nat) (hab:a ≠ b) (ha:a < s.length) (hb:b < s.length) (hl:s.length ≤ 137438953472) (hk:∀ l ∈ s,l.length ≤ 1000000 ∧ ∀ x ∈ l,x.lok) :
  Am.Spec Tryz.prog 34 [.sl (encSt s),.int .i64 a,.int .i64 b] (.sl (encSt (stMerge s a b))):=by
 have hk':∀ l ∈ s,l.length ≤ 137438953472 ∧ ∀ x ∈ l,x.lok:=fun l hl=>⟨by have:=(hk l hl).1; omega,(hk l hl).2⟩
 have hm:=List.getElem_mem hb
 have hma:=List.getElem_mem ha
 have ho:=hs_own s b hb hl hk' (rw_ow1 _ (hk' _ hm).1 (hk' _ hm).2)
 have hlen:=(hk _ hm).1
 have hlena:=(hk _ hma).1
 have hat:=fun v=>liveQ_at s b 60 v a hab (by simpa using ha)
 rw [encSt_Q,encSt_Q]
 refine .of_WD (W:=W34) (rs:=[.tmp 6]) Tryz.func34 (by kernel_rfl) (by kernel_rfl) (by kernel_rfl) Tryz.ntmps34 W34_eq (by kernel_rfl) (by simp) ?_
 intro vs
 simp
 refine scall_heap [] [(9,4),(60,30)] ho (by simp) (by simp) (by simp) ?_
 intro r l' VS' hrl
 obtain ⟨v,w,rfl,rfl⟩:=hrl
 refine ⟨by simp [liveQ_okk],?_⟩
 have hab':¬ (a:Int) = (b:Int):=by omega
 simp [liveQ_ren,hab']
 refine scall_heap [(9,10),(60,30)] [] (hs_sis w v (liveQ s b 30 v) (s[b].map encT) a) (by simp) (by simp [liveQ_ren]) (by simp [liveQ_okk]) ?_
 intro r l' VS' hrl
 obtain ⟨rfl,rfl⟩:=hrl
 refine ⟨by simp [liveQ_okk],?_⟩
 simp [liveQ_ren,ha]
 refine scall_heap [(9,10),(60,30)] [] (hs_sis w v (liveQ s b 30 v) (s[b].map encT) b) (by simp) (by simp [liveQ_ren]) (by simp [liveQ_okk]) ?_
 intro r l' VS' hrl
 obtain ⟨rfl,rfl⟩:=hrl
 refine ⟨by simp [liveQ_okk],?_⟩
 simp [liveQ_ren,ha,hb,hat]
 rw [decide_eq_true (by omega)]
 simp [ha,hb,hat]
 show retDW _ _ _ _
 rw [stMerge,if_neg hab',show ((a:Int).toNat) = a from rfl,show ((b:Int).toNat) = b from rfl,show stAt s b ++ stAt s a = s[b] ++ s[a] by simp [stAt,List.getD_eq_getElem?_getD,ha,hb]]
 refine live_ret ((liveQ s b 60 (v + 1)).set a [.nils]) _ 60 (v + 1) 9 w 27 35 (s[b] ++ s[a]) (by simp [resV,resOne]) ?_ ?_ (by omega) (frzs_liveN _ s b 60 (v + 1) a hb hab) (fun H h=>purs_liveN H s b 60 (v + 1) a _ h)
 ·simp
  rfl
 ·simp
end Go.Proofs.YtnngddgaobhkiaaGreat
namespace Go.Proofs.YtnngddgaobhkiaaGreat
open Go Go.Am Go.RowKit
attribute [local simp] W41 W41_rs W19 W19_rs W19_b1 W19_b5 W19_b13 W19_k4
def encFL (f:Cfg) (j v:Nat):List AV:=encT f.t ++ [.ref j v .o,.sl (encSt f.st),.int .i64 f.steps,.int .i64 f.key]
theorem encFL_eq (f:Cfg) (j v:Nat):encFL f j v = [.int .i64 f.t.kind,.int .i64 f.t.a,.int .i64 f.t.b,.str f.t.name,.int .i64 f.t.e.kind,.int .i64 f.t.e.n,.str f.t.e.name,.sl (f.t.e.l.map encE),.sl (f.t.l.map encT),.ref j v .o,.sl (encSt f.st),.int .i64 f.steps,.int .i64 f.key]:=by
 rw [encFL,encT_eq]; rfl
theorem setF_9L (f:Cfg) (j v:Nat):setL (encF f) 9 [.ref j v .o] = encFL f j v:=by rw [encF_eq,encFL_eq]; rfl
theorem setFL_10 (f:Cfg) (j v:Nat) (s:List (List Tm)):setL (encFL f j v) 10 [.sl (encSt s)] = encFL { f with st:=s } j v:=by rw [encFL_eq,encFL_eq]; rfl
theorem setFL_t (f:Cfg) (j v:Nat) (n:Tm):setL (encFL f j v) 0 (encT n) = encFL { f with t:=n } j v:=by rw [encFL_eq,encFL_eq,encT_eq]; rfl
@[simp] theorem encFL_len (f:Cfg) (j v:Nat):(encFL f j v).length = 13:=by rw [encFL_eq]; rfl
@[simp] theorem encFL_ok (f:Cfg) (j v:Nat):(encFL f j v).all AV.cell = true:=by rw [encFL_eq]; rfl
@[simp] theorem encFL_cell (f:Cfg) (j v:Nat):∀ c ∈ encFL f j v,c.cell = true:=fun c h=>List.all_eq_true.1 (encFL_ok f j v) c h
@[simp] theorem rd_FLt (f:Cfg) (j v:Nat):readA (encFL f j v) 0 9 true = some (.agg (encT f.t)):=by simp [readA]; rw [encFL_eq,encT_eq]; rfl
@[simp] theorem rd_FL0 (f:Cfg) (j v:Nat):readA (encFL f j v) 0 1 false = some (.int .i64 f.t.kind):=by rw [encFL_eq]; rfl
@[simp] theorem rd_FL9 (f:Cfg) (j v:Nat):readA (encFL f j v) 9 1 false = some (.ref j v .o):=by rw [encFL_eq]; rfl
@[simp] theorem rd_FL10 (f:Cfg) (j v:Nat):readA (encFL f j v) 10 1 false = some (.sl (encSt f.st)):=by rw [encFL_eq]; rfl
@[simp] theorem rd_FL11 (f:Cfg) (j v:Nat):readA (encFL f j v) 11 1 false = some (.int .i64 f.steps):=by rw [encFL_eq]; rfl
@[simp] theorem rd_FL12 (f:Cfg) (j v:Nat):readA (encFL f j v) 12 1 false = some (.int .i64 f.key):=by rw [encFL_eq]; rfl
@[simp] theorem rd_FLall (f:Cfg) (j v:Nat):readA (encFL f j v) 0 13 true = some (.agg (encFL f j v)):=by simp [readA]; rw [encFL_eq]; rfl
theorem encFL_ren (σ:Nat → Nat) (f:Cfg) (j v:Nat):renL σ (encFL f j v) = encFL f (σ j) v:=by
 have h:renL σ (encT f.t) = encT f.t:=renL_off σ (by simp)
 simp [encFL,h]
theorem encFL_okk (K:Nat → Bool) (f:Cfg) (j v:Nat) (h:K j = true):okkL K (encFL f j v) = true:=by
 have h2:okkL K (encT f.t) = true:=okkL_off K (by simp)
 simp [encFL,h,h2]
theorem hs_rown (f:Cfg) (hw:f.t.wt ≤ 137438953472) (hv:f.vars.length ≤ 137438953472) (hl:f.st.length ≤ 137438953472) (hk:∀ l ∈ f.st,l.length ≤ 137438953472 ∧ ∀ x ∈ l,x.lok) :
  Am.HSpecL Tryz.prog 41 [.agg (encF f)] [] fun r l'=>∃ v,r = .agg (encFL { f with t:=f.t.norm } 8 v) ∧ l' = [(8,.row v 3 1 (encI f.vars))]:=by
 have h1:=sp_nrm f.t hw
 have h2:=rw_cli f.vars hv
 have h3:=sp_mrg0 f.st 0 hl hk
 have e0:=setF_t f f.t.norm
 have e9:=setF_9L { f with t:=f.t.norm }
 have e10:=setFL_10 { f with t:=f.t.norm }
 generalize f.t.norm = n at *
 refine Am.HSpecL.of_W (W:=W41) Tryz.func41 (by kernel_rfl) (by kernel_rfl) (by kernel_rfl) Tryz.ntmps41 W41_eq (rs:=[.cell 2 38]) (by kernel_rfl) (by simp) ?_
 intro vs
 simp
 refine scall0_pure h1 (by simp) (by simp) ?_
 simp
 refine scall0_row h2 (by simp) (by simp) ?_
 simp
 refine scall0_pure h3 (by simp) (by simp) ?_
 simp [e0,e9,e10]
 refine retHW_to [(8,.row (vs 8 + 1) 3 1 (encI f.vars))] ?_
 simp
theorem fl_ret (H:Heap) (f:Cfg) (j v:Nat) (t:TypeId) (vs:List Int) (h:H j = some (.row v t 1 (encI vs))):(encFL f j v).map (pur0 ((encFL f j v).foldl frz0 H)) = encF { f with vars:=vs }:=by
 have e1:(encFL f j v).foldl frz0 H = upd H j (some (.froz v (encI vs))):=by
  have e0:(encFL f j v).foldl frz0 H = frz0 H (.ref j v .o):=by rw [encFL_eq]; rfl
  rw [e0]; simp [frz0,h]
 rw [e1]
 have e2:pur0 (upd H j (some (.froz v (encI vs)))) (.ref j v .o) = .sl (encI vs):=by simp [pur0]
 generalize upd H j (some (.froz v (encI vs))) = H2 at *
 rw [encFL_eq,encF_eq]
 simp only [List.map_cons,List.map_nil,e2]
 rfl
structure Told where
 mk ::
 f:Cfg
 ev:Ev
 is:Bool
def tellM (f:Cfg) (key value:Int):Told:=match waitP key f.t.norm with
 | none=>⟨.zero,.zero,false⟩
 | some p=>
  let x:=atT f.t.norm p
  ⟨{ f with t:=(putT f.t.norm p .skip).norm,vars:=if 0 ≤ x.b then f.vars.set x.b.toNat value else f.vars },⟨x.name,key,value⟩,true⟩
theorem waitPs_some (key:Int):∀ (l:List Tm) (i:Nat) (q:List Int),waitPs key l i = some q → ∃ (k:Nat) (p:List Int) (h:k < l.length),q = ((i + k:Nat):Int) :: p ∧ waitP key l[k] = some p
 | [],i,q,h=>by simp [waitPs] at h
 | x :: l,i,q,h=>by
  rw [waitPs] at h
  cases hx:waitP key x with
  | some p=>rw [hx] at h; cases h; exact ⟨0,p,by simp,by simp,hx⟩
  | none=>
   rw [hx] at h
   obtain ⟨k,p,hk,e,hp⟩:=waitPs_some key l (i + 1) q h
   exact ⟨k + 1,p,by simp; omega,by rw [e,show i + 1 + k = i + (k + 1) by omega],hp⟩
theorem waitP_on (key:Int) (t:Tm) (p:List Int) (h:waitP key t = some p):OnPath t p ∧ (atT t p).kind = 14 ∧ (atT t p).a = key:=by
 rw [waitP_eq] at h
 by_cases k14:t.kind = 14
 ·rw [if_pos k14] at h
  by_cases ha:t.a = key
  ·rw [if_pos ha] at h; cases h; exact ⟨.nil t,k14,ha⟩
  ·rw [if_neg ha] at h; cases h
 ·rw [if_neg k14] at h
  have sub:∃ (k:Nat) (q:List Int) (hk:k < t.l.length),p = (k:Int) :: q ∧ waitP key t.l[k] = some q:=by
   by_cases k12:t.kind = 12
   ·rw [if_pos k12] at h
    obtain ⟨k,q,hk,e,hq⟩:=waitPs_some key _ 0 p h
    have hk2:k < t.l.length:=by simp at hk; omega
    exact ⟨k,q,hk2,by simpa using e,by simpa using hq⟩
   ·rw [if_neg k12] at h
    by_cases k11:t.kind = 11 ∨ t.kind = 7
    ·rw [if_pos k11] at h
     obtain ⟨k,q,hk,e,hq⟩:=waitPs_some key _ 0 p h
     exact ⟨k,q,hk,by simpa using e,hq⟩
    ·rw [if_neg k11] at h; cases h
  obtain ⟨k,q,hk,rfl,hq⟩:=sub
  have ih:=waitP_on key t.l[k] q hq
  exact ⟨.cons t k hk q ih.1,by rw [atT_cons t k hk]; exact ih.2⟩
termination_by SizeOf.sizeOf t
decreasing_by exact Tm.lt_of_mem (List.getElem_mem hk)
theorem sp_tell (c:Cor) (f:Cfg) (key value:Int) (hw:f.t.wt ≤ 137438953472) (hn:f.t.norm.wt ≤ 100000000) (hkl:f.t.norm.lok) (hv:f.vars.length ≤ 137438953472) (hl:f.st.length ≤ 137438953472) (hk:∀ l ∈ f.st,l.length ≤ 137438953472 ∧ ∀ x ∈ l,x.lok)
  (hb:∀ p,waitP key f.t.norm = some p → (atT f.t.norm p).b < f.vars.length ∧ (putT f.t.norm p .skip).wt ≤ 137438953472) :
  Am.Spec Tryz.prog 19 [.agg (encC c),.agg (encF f),.int .i64 key,.int .i64 value] (.tup [.agg (encF (tellM f key value).f),.agg (encEv (tellM f key value).ev),.bool (tellM f key value).is]):=by
 have ho:=hs_rown f hw hv hl hk
 have hr:=sp_rtn key f.t.norm hn
 cases hp:waitP key f.t.norm with
 | none=>
  have e:tellM f key value = ⟨.zero,.zero,false⟩:=by simp only [tellM,hp]
  rw [e]
  rw [hp] at hr
  simp only [wres,Option.getD_none,Option.isSome_none] at hr
  have hr:Am.Spec Tryz.prog 42 [.agg (encT f.t.norm),.int .i64 key] (.tup [.sl [],.bool false]):=hr
  generalize f.t.norm = n at *
  refine W19_S (by simp) ?_
  intro vs
  simp
  refine scall_heap [] [(60,8)] ho (by simp) (by simp) (by simp) ?_
  intro r l' VS' hrl
  obtain ⟨v,rfl,rfl⟩:=hrl
  refine ⟨by simp [encFL_okk],?_⟩
  simp [encFL_ren]
  refine scall_pure hr (by simp) (by simp) ?_
  simp [retW_eq]
  exact ⟨by rw [encF_eq]; rfl,rfl⟩
 | some p=>
  obtain ⟨hon,hk14,hka⟩:=waitP_on key f.t.norm p hp
  obtain ⟨hb1,hb2⟩:=hb p hp
  have hpl:=waitP_len key f.t.norm p hp
  have h1:=sp_rat f.t.norm p hon (by omega)
  have h2:=sp_put p f.t.norm .skip hon (by omega) hkl
  have h3:=sp_nrm (putT f.t.norm p .skip) hb2
  have e:tellM f key value = ⟨{ f with t:=(putT f.t.norm p .skip).norm,vars:=if 0 ≤ (atT f.t.norm p).b then f.vars.set (atT f.t.norm p).b.toNat value else f.vars },⟨(atT f.t.norm p).name,key,value⟩,true⟩:=by simp only [tellM,hp]
  rw [e]
  rw [hp] at hr
  simp only [wres,Option.getD_some,Option.isSome_some] at hr
  have et:=fun j v n'=>setFL_t { f with t:=f.t.norm } j v n'
  generalize (putT f.t.norm p .skip).norm = n3 at *
  generalize putT f.t.norm p .skip = n2 at *
  generalize atT f.t.norm p = x at *
  generalize f.t.norm = n at *
  have esk:encT .skip = [.int .i64 0,.int .i64 0,.int .i64 0,.str ⟨#[]⟩,.int .i64 0,.int .i64 0,.str ⟨#[]⟩,.sl [],.sl []]:=by rw [encT_eq]; rfl
  rw [esk] at h2
  by_cases h0:0 ≤ x.b
  ·have hlt:x.b.toNat < f.vars.length:=by omega
   have eset:(encI f.vars).set x.b.toNat [.int .i64 value] = encI (f.vars.set x.b.toNat value):=by simp [encI,List.map_set]
   refine W19_S (by simp) ?_
   intro vs
   simp
   refine scall_heap [] [(60,8)] ho (by simp) (by simp) (by simp) ?_
   intro r l' VS' hrl
   obtain ⟨v,rfl,rfl⟩:=hrl
   refine ⟨by simp [encFL_okk],?_⟩
   simp [encFL_ren]
   refine scall_pure hr (by simp) (by simp) ?_
   simp
   refine scall_pure h1 (by simp) (by simp) ?_
   simp [h0,hb1]
   refine scall_pure h2 (by simp) (by simp) ?_
   simp
   refine scall_pure h3 (by simp) (by simp) ?_
   simp [retW_eq,et]
   rw [fl_ret _ _ 60 v 3 (f.vars.set x.b.toNat value) (by simp; exact eset),if_pos h0]
   exact ⟨by simp,rfl,rfl⟩
  ·refine W19_S (by simp) ?_
   intro vs
   simp
   refine scall_heap [] [(60,8)] ho (by simp) (by simp) (by simp) ?_
   intro r l' VS' hrl
   obtain ⟨v,rfl,rfl⟩:=hrl
   refine ⟨by simp [encFL_okk],?_⟩
   simp [encFL_ren]
   refine scall_pure hr (by simp) (by simp) ?_
   simp
   refine scall_pure h1 (by simp) (by simp) ?_
   simp [h0]
   refine scall_pure h2 (by simp) (by simp) ?_
   simp
   refine scall_pure h3 (by simp) (by simp) ?_
   simp [retW_eq,et]
   rw [fl_ret _ _ 60 v 3 f.vars (by simp),if_neg h0]
   exact ⟨by simp,rfl,rfl⟩
end Go.Proofs.YtnngddgaobhkiaaGreat
namespace Go.Proofs.YtnngddgaobhkiaaGreat
open Go Go.Am Go.RowKit
attribute [local simp] W17 W17_rs W17_b1 W17_b3 W17_b4 W17_b19 W17_b21 W17_k2 W17_l20
mutual
theorem tsz_wt:∀ t:Tm,t.size ≤ t.wt
 | ⟨k,a,b,s,e,l⟩=>by have:=tszs_wt l; simp only [Tm.size,Tm.wt]; omega
theorem tszs_wt:∀ l:List Tm,Tm.sizes l ≤ Tm.wts l
 | []=>by simp [Tm.sizes,Tm.wts]
 | x :: l=>by have:=tsz_wt x; have:=tszs_wt l; simp only [Tm.sizes,Tm.wts]; omega
end
def chkT (v s p:Int) (t:Tm):Bool:=decide (t.size ≤ 2000) && (!tmAny t && tmRight v s p t false)
def chkM (c:Cor):Bool:=decide ((c.vars.length:Int) ≤ 20) && (decide (0 ≤ c.stacks) && (decide (c.stacks ≤ 10) && (decide (1 ≤ (c.procs.length:Int)) && (decide ((c.procs.length:Int) ≤ 20) && (decide (0 ≤ c.main) && (decide (c.main < c.procs.length) && c.procs.all (chkT c.vars.length c.stacks c.procs.length)))))))
theorem sp_chk (c:Cor) (hk:∀ t ∈ c.procs,t.lok ∧ t.wt ≤ 100000000):Am.Spec Tryz.prog 17 [.agg (encC c)] (.bool (chkM c)):=by
 by_cases c1:(20:Int) < c.vars.length
 ·have e:chkM c = false:=by simp only [chkM,decide_eq_false (show ¬ (c.vars.length:Int) ≤ 20 by omega),Bool.false_and]
  rw [e]
  refine W17_S (by simp) ?_
  intro vs
  simp [c1,retW_eq]
 by_cases c2:c.stacks < 0
 ·have e:chkM c = false:=by simp only [chkM,decide_eq_false (show ¬ 0 ≤ c.stacks by omega),Bool.false_and,Bool.and_false]
  rw [e]
  refine W17_S (by simp) ?_
  intro vs
  simp [c1,c2,retW_eq]
 by_cases c3:10 < c.stacks
 ·have e:chkM c = false:=by simp only [chkM,decide_eq_false (show ¬ c.stacks ≤ 10 by omega),Bool.false_and,Bool.and_false]
  rw [e]
  refine W17_S (by simp) ?_
  intro vs
  simp [c1,c2,c3,retW_eq]
 by_cases c4:(c.procs.length:Int) < 1
 ·have e:chkM c = false:=by simp only [chkM,decide_eq_false (show ¬ 1 ≤ (c.procs.length:Int) by omega),Bool.false_and,Bool.and_false]
  rw [e]
  refine W17_S (by simp) ?_
  intro vs
  simp [c1,c2,c3,c4,retW_eq]
 by_cases c5:20 < (c.procs.length:Int)
 ·have e:chkM c = false:=by simp only [chkM,decide_eq_false (show ¬ (c.procs.length:Int) ≤ 20 by omega),Bool.false_and,Bool.and_false]
  rw [e]
  refine W17_S (by simp) ?_
  intro vs
  simp [c1,c2,c3,c4,c5,retW_eq]
 by_cases c6:c.main < 0
 ·have e:chkM c = false:=by simp only [chkM,decide_eq_false (show ¬ 0 ≤ c.main by omega),Bool.false_and,Bool.and_false]
  rw [e]
  refine W17_S (by simp) ?_
  intro vs
  simp [c1,c2,c3,c4,c5,c6,retW_eq]
 by_cases c7:(c.procs.length:Int) ≤ c.main
 ·have e:chkM c = false:=by simp only [chkM,decide_eq_false (show ¬ c.main < (c.procs.length:Int) by omega),Bool.false_and,Bool.and_false]
  rw [e]
  refine W17_S (by simp) ?_
  intro vs
  simp [c1,c2,c3,c4,c5,c6,c7,retW_eq]
 have e:chkM c = c.procs.all (chkT c.vars.length c.stacks c.procs.length):=by
  simp only [chkM,decide_eq_true (show (c.vars.length:Int) ≤ 20 by omega),decide_eq_true (show 0 ≤ c.stacks by omega),decide_eq_true (show c.stacks ≤ 10 by omega),decide_eq_true (show 1 ≤ (c.procs.length:Int) by omega),decide_eq_true (show (c.procs.length:Int) ≤ 20 by omega),decide_eq_true (show 0 ≤ c.main by omega),decide_eq_true (show c.main < (c.procs.length:Int) by omega),Bool.true_and]
 rw [e]
 refine W17_S (by simp) ?_
 intro vs
 simp [-W17_l20,c1,c2,c3,c4,c5,c6,c7]
 refine sLoop_intro (fun i=>i ≤ c.procs.length ∧ c.procs.all (chkT c.vars.length c.stacks c.procs.length) = (c.procs.drop i).all (chkT c.vars.length c.stacks c.procs.length)) (fun i=>c.procs.length - i)
  (fun i=>[(1,.ref 1 (vs 1 + 1) (.p 0)),(45,.sl (c.procs.map encT)),(46,.int .i64 c.procs.length),(47,.int .i64 (i:Nat))]) (fun _=>[(1,.box (vs 1 + 1) 29 (encC c))]) 0 (by simp) (by simp) (by simp) ?_
 rintro L i vt ⟨hi,hj⟩ hL
 by_cases h:i < c.procs.length
 ·have h':(i:Int) < c.procs.length:=by omega
  obtain ⟨hlok,hwt⟩:=hk _ (List.getElem_mem h)
  have hsz:=tsz_wt c.procs[i]
  have h1:=sp_sz c.procs[i] (by omega)
  have h2:=sp_rwt c.procs[i] hlok
  have h3:=sp_tr c.procs[i] c.vars.length c.stacks c.procs.length hlok
  rw [all_drop _ _ i h] at hj
  have hT:chkT c.vars.length c.stacks c.procs.length c.procs[i] = (decide (c.procs[i].size ≤ 2000) && (!tmAny c.procs[i] && tmRight c.vars.length c.stacks c.procs.length c.procs[i] false)):=rfl
  rw [hT] at hj
  generalize tmAny c.procs[i] = b2 at *
  generalize tmRight c.vars.length c.stacks c.procs.length c.procs[i] false = b3 at *
  by_cases k1:2000 < c.procs[i].size
  ·rw [decide_eq_false (show ¬ c.procs[i].size ≤ 2000 by omega)] at hj
   rw [hj]
   simp [h,h']
   refine scall_pure h1 (by simp) (by simp) ?_
   simp [k1,retW_eq]
  ·rw [decide_eq_true (show c.procs[i].size ≤ 2000 by omega)] at hj
   cases b2
   ·cases b3
    ·rw [hj]
     simp [h,h']
     refine scall_pure h1 (by simp) (by simp) ?_
     simp [k1]
     refine scall_pure h2 (by simp) (by simp) ?_
     simp
     refine scall_pure h3 (by simp) (by simp) ?_
     simp [retW_eq]
    ·simp [h,h']
     refine scall_pure h1 (by simp) (by simp) ?_
     simp [k1]
     refine scall_pure h2 (by simp) (by simp) ?_
     simp
     refine scall_pure h3 (by simp) (by simp) ?_
     simp
     rw [wrap64 (by omega) (by omega)]
     refine hL _ _ _ (i + 1) ⟨h,by rw [hj]; rfl⟩ (by omega) (by simp) (by simp)
   ·rw [hj]
    simp [h,h']
    refine scall_pure h1 (by simp) (by simp) ?_
    simp [k1]
    refine scall_pure h2 (by simp) (by simp) ?_
    simp [retW_eq]
 ·have h':¬ (i:Int) < c.procs.length:=by omega
  rw [hj,all_end _ _ i (by omega)]
  simp [h,h',retW_eq]
end Go.Proofs.YtnngddgaobhkiaaGreat
namespace Go.Proofs.YtnngddgaobhkiaaGreat
open Go Go.Am Go.RowKit
attribute [local simp] W49 W49_rs W49_k2 W49_k3 W49_b5 W49_b7 W49_b8 W49_b10 W49_l9
structure TellsT (c:List AV) (t:Tm):Prop where
 len:c.length = 9
 ok:c.all AV.cell = true
 pur:∀ H,c.map (pur0 H) = encT t
 frz:∀ H,c.foldl frz0 H = H
theorem tells_enc (t:Tm):TellsT (encT t) t where
 len:=by simp
 ok:=by simp
 pur:=fun H=>by simp
 frz:=fun H=>by simp
def rawC (x y:Tm):List AV:=[.int .i64 12,.int .i64 0,.int .i64 0,.str ⟨#[]⟩,.int .i64 0,.int .i64 0,.str ⟨#[]⟩,.nils,.slt [encT x,encT y]]
theorem tells_raw (x y:Tm):TellsT (rawC x y) (.of 12 [x,y]) where
 len:=rfl
 ok:=rfl
 pur:=fun H=>by rw [encT_eq]; rfl
 frz:=fun H=>rfl
theorem setL_whole (c x:List AV) (h:c.length = x.length):setL c 0 x = x:=by
 simp [setL,h]
theorem readA_whole {c:List AV} (h:c.length = 9):readA c 0 9 true = some (.agg c):=by
 simp [readA,h,List.take_of_length_le (Nat.le_of_eq h)]
theorem stRev_succ (l:List Tm) (i:Nat) (h:i < l.length) (h0:0 < i):stRev (l.take (i + 1)) = .of 12 [l[i],stRev (l.take i)]:=by
 cases l with
 | nil=>simp at h
 | cons x l=>
  obtain ⟨k,rfl⟩:∃ k,i = k + 1:=⟨i - 1,by omega⟩
  have hk:k < l.length:=by simpa using h
  simp only [List.take_succ_cons,stRev,List.getElem_cons_succ]
  rw [List.take_succ_eq_append_getElem hk,List.foldl_append]
  rfl
theorem tells_zero:TellsT [.int .i64 0,.int .i64 0,.int .i64 0,.str ⟨#[]⟩,.int .i64 0,.int .i64 0,.str ⟨#[]⟩,.nils,.nils] .skip where
 len:=rfl
 ok:=rfl
 pur:=fun H=>by rw [encT_eq]; rfl
 frz:=fun H=>rfl
theorem sp_rev (s:List (List Tm)) (a:Nat) (ha:a < s.length) (hl:s.length ≤ 137438953472) (hk:∀ l ∈ s,l.length ≤ 137438953472 ∧ ∀ x ∈ l,x.lok) :
  Am.Spec Tryz.prog 49 [.sl (encSt s),.int .i64 a] (.tup [.agg (encT (stRev s[a])),.sl (encSt (stAccept s a))]):=by
 have hc:=sp_acc s a ⟨by omega,by omega⟩ hl hk
 have hs:=sp_sis s a
 rw [decide_eq_true (show 0 ≤ (a:Int) by omega),decide_eq_true (show (a:Int) < s.length by omega)] at hs
 rw [encSt_Q] at hc ⊢
 have hm:=hk _ (List.getElem_mem ha)
 have hix:ixRows (s.map encQ) (a:Int) 1 = some (.elt (encQ s[a]) 0):=by
  rw [ixRows_nat]; simp [List.getElem?_eq_getElem ha]
 generalize hL:s[a] = l at *
 have hq:closedLL (encSt (stAccept s a)) = true:=by simp
 generalize encSt (stAccept s a) = q at *
 have w1:IntKind.wrap .i64 1 = 1:=wrap64 (by omega) (by omega)
 refine W49_S (by simp) ?_
 intro vs
 simp [-W49_l9]
 refine scall_pure hs (by simp) (by simp) ?_
 simp [-W49_l9,hix]
 refine sLoop_intro (α:=Nat × List AV) (fun x=>x.1 ≤ l.length ∧ TellsT x.2 (stRev (l.take x.1))) (fun x=>l.length - x.1)
  (fun x=>[(0,.sl (s.map encQ)),(1,.int .i64 a),(4,.ref 4 (vs 4 + 1) (.p 0)),(6,.ref 6 (vs 6 + 1) (.p 0)),(15,.sl (l.map encT)),(16,.int .i64 l.length),(17,.int .i64 (x.1:Nat))])
  (fun x=>[(4,.box (vs 4 + 1) 35 [.int .i64 0,.int .i64 0,.int .i64 0,.str ⟨#[]⟩,.int .i64 0,.int .i64 0,.str ⟨#[]⟩,.nils,.nils]),(6,.box (vs 6 + 1) 35 x.2)])
  (0,[.int .i64 0,.int .i64 0,.int .i64 0,.str ⟨#[]⟩,.int .i64 0,.int .i64 0,.str ⟨#[]⟩,.nils,.nils]) ⟨by simp,tells_zero⟩ (by simp) (by simp) ?_
 rintro L ⟨i,c⟩ vt ⟨hi,hT⟩ hL2
 simp only at hi hT hL2 ⊢
 have hrd:=readA_whole hT.len
 have hpu:=hT.pur
 have hfz:=hT.frz
 have hok:=hT.ok
 have hln:=hT.len
 by_cases h:i < l.length
 ·have h':(i:Int) < l.length:=by omega
  have hx:=sp_oxT l[i] (hm.2 _ (List.getElem_mem h))
  by_cases h0:i = 0
  ·subst h0
   have hset:=setL_whole c (encT l[0]) (by rw [hln]; simp)
   simp [h,h']
   refine scall_pure hx (by simp) (by simp) ?_
   simp [hln,hset,w1]
   refine hL2 _ _ _ (1,encT l[0]) ⟨h,?_⟩ (by simp only; omega) (by simp) (by simp)
   have e:stRev (l.take 1) = l[0]:=by
    cases l with
    | nil=>simp at h
    | cons x l=>rfl
   simp only [e]
   exact tells_enc _
  ·have hset:=setL_whole c (rawC l[i] (stRev (l.take i))) (by rw [hln]; rfl)
   simp [h,h',h0]
   refine scall0_pure hx (by simp) (by simp) ?_
   simp only [rawC] at hset
   simp [hrd,hpu,hfz,hln,hset]
   rw [wrap64 (by omega) (by omega)]
   refine hL2 _ _ _ (i + 1,rawC l[i] (stRev (l.take i))) ⟨h,?_⟩ (by simp only; omega) (by simp) (by simp [rawC])
   simp only [stRev_succ l i h (by omega)]
   exact tells_raw _ _
 ·have h':¬ (i:Int) < l.length:=by omega
  have e:i = l.length:=by omega
  subst e
  rw [List.take_length] at hT hpu
  have hset:=setL_whole [.int .i64 0,.int .i64 0,.int .i64 0,.str ⟨#[]⟩,.int .i64 0,.int .i64 0,.str ⟨#[]⟩,.nils,.nils] c (by rw [hln]; rfl)
  simp [hrd]
  refine scall0_pure hc (by simp) (by simp) ?_
  simp [hrd,hset,hpu,hfz,hln,hok,retW_eq]
  exact hq
end Go.Proofs.YtnngddgaobhkiaaGreat
namespace Go.Proofs.YtnngddgaobhkiaaGreat
open Go Go.Am Go.RowKit
theorem stRev_ind (P:Tm → Prop) (h0:P .skip) (h2:∀ x y,P x → P y → P (.of 12 [x,y])) (l:List Tm) (h:∀ t ∈ l,P t):P (stRev l):=by
 have key:∀ (l:List Tm) (x:Tm),P x → (∀ t ∈ l,P t) → P (l.foldl (fun o t=>.of 12 [t,o]) x):=fun l=>by
  induction l with
  | nil=>intro x hx _; exact hx
  | cons y l ih=>intro x hx h; exact ih _ (h2 _ _ (h y (by simp)) hx) fun t ht=>h t (by simp [ht])
 cases l with
 | nil=>exact h0
 | cons x l=>exact key l x (h x (by simp)) fun t ht=>h t (by simp [ht])
theorem stRev_size (l:List Tm):(stRev l).size ≤ 2 * Tm.sizes l + 1:=by
 have key:∀ (l:List Tm) (x:Tm),(l.foldl (fun o t=>Tm.of 12 [t,o]) x).size ≤ x.size + 2 * Tm.sizes l:=fun l=>by
  induction l with
  | nil=>intro x; simp [Tm.sizes]
  | cons y l ih=>
   intro x
   have h1:=ih (.of 12 [y,x])
   have h2:=y.size_pos
   rw [Tm.size_eq (Tm.of 12 [y,x])] at h1
   simp only [List.foldl_cons,Tm.sizes,Tm.of] at *
   omega
 cases l with
 | nil=>decide +kernel
 | cons x l=>have:=key l x; have:=x.size_pos; simp only [stRev,Tm.sizes] at *; omega
theorem sizes_nn:∀ l:List Tm,0 ≤ Tm.sizes l
 | []=>by simp [Tm.sizes]
 | x :: l=>by have:=sizes_nn l; have:=x.size_pos; simp only [Tm.sizes]; omega
theorem sizes_app:∀ l m:List Tm,Tm.sizes (l ++ m) = Tm.sizes l + Tm.sizes m
 | [],m=>by simp [Tm.sizes]
 | x :: l,m=>by simp only [List.cons_append,Tm.sizes,sizes_app l m]; omega
theorem sizes_mem:∀ {l:List Tm} {x:Tm},x ∈ l → x.size ≤ Tm.sizes l
 | y :: l,x,h=>by
  have:=sizes_nn l; have:=y.size_pos
  rcases List.mem_cons.1 h with rfl | h
  ·simp only [Tm.sizes]; omega
  ·have:=sizes_mem h; simp only [Tm.sizes]; omega
theorem size_kid {t x:Tm} (h:x ∈ t.l):x.size ≤ t.size - 1:=by
 have:=sizes_mem h
 rw [Tm.size_eq t]; omega
theorem size_at {t:Tm} {q:List Int} (h:OnPath t q):(atT t q).size ≤ t.size:=by
 induction h with
 | nil t=>exact Int.le_refl _
 | cons t i h q hp ih=>
  rw [atT_cons t i h]
  have:=size_kid (List.getElem_mem h)
  omega
theorem stSize_set:∀ (s:List (List Tm)) (i:Nat) (h:i < s.length) (l:List Tm),stSize (s.set i l) + Tm.sizes s[i] = stSize s + Tm.sizes l
 | [],i,h,l=>by simp at h
 | x :: s,0,h,l=>by simp only [stSize,List.set_cons_zero,List.map_cons,List.sum_cons,List.getElem_cons_zero]; omega
 | x :: s,i + 1,h,l=>by
  have:=stSize_set s i (by simpa using h) l
  simp only [stSize,List.set_cons_succ,List.map_cons,List.sum_cons,List.getElem_cons_succ] at *; omega
theorem stSize_mem {s:List (List Tm)} {l:List Tm} (h:l ∈ s):Tm.sizes l ≤ stSize s:=by
 induction s with
 | nil=>simp at h
 | cons x s ih=>
  have h1:=sizes_nn x
  have h2:=stSize_nn s
  rcases List.mem_cons.1 h with rfl | h
  ·simp only [stSize,List.map_cons,List.sum_cons] at *; omega
  ·have:=ih h; simp only [stSize,List.map_cons,List.sum_cons] at *; omega
theorem stAt_get {s:List (List Tm)} {a:Int} (h0:0 ≤ a) (h:a < s.length):∃ i:Nat,a = i ∧ ∃ hi:i < s.length,stAt s a = s[i]:=by
 refine ⟨a.toNat,by omega,by omega,?_⟩
 rw [stAt,List.getD_eq_getElem?_getD,List.getElem?_eq_getElem (by omega)]; rfl
structure DeedOk (vn sn:Int) (ps:List Tm) (f:Cfg) (d:Deed):Prop where
 t:tmRight vn sn ps.length d.t false = true
 ex:allE d.t = true
 vars:(d.vars.length:Int) = vn
 nums:∀ n ∈ d.vars,isI64 n = true
 st:(d.st.length:Int) = sn
 strt:∀ l ∈ d.st,∀ t ∈ l,tmRight vn sn ps.length t true = true ∧ allE t = true
 size:d.t.size ≤ 4001
 stsz:stSize d.st ≤ 4000
 key:f.key ≤ d.key ∧ d.key ≤ f.key + 1
theorem right_ok {v s p:Int} {t:Tm} {d:Bool} (h:tmRight v s p t d = true):tmOk v s p t = true ∧ (0 ≤ t.kind ∧ t.kind ≤ 14) ∧ (d = true → t.kind ≠ 14):=by
 rw [tmRight_eq] at h
 simp only [Bool.and_eq_true] at h
 refine ⟨h.2.2.2.1,⟨of_decide_eq_true h.1,of_decide_eq_true h.2.1⟩,fun hd=>?_⟩
 have:=h.2.2.1
 subst hd
 simpa using this
theorem ok_a {v s p:Int} {t:Tm} (h:tmOk v s p t = true):numOk v s p (kA t.kind) t.a = true:=by
 unfold tmOk at h; rw [Bool.and_eq_true] at h; exact h.1
theorem ok_b {v s p:Int} {t:Tm} (h:tmOk v s p t = true):numOk v s p (kB t.kind) t.b = true:=by
 unfold tmOk at h; rw [Bool.and_eq_true,Bool.and_eq_true] at h; exact h.2.1
theorem ok_l {v s p:Int} {t:Tm} (h:tmOk v s p t = true):(t.l.length:Int) = kL t.kind:=by
 unfold tmOk at h; rw [Bool.and_eq_true,Bool.and_eq_true,Bool.and_eq_true] at h; exact of_decide_eq_true h.2.2.1
theorem ok_n {v s p:Int} {t:Tm} (h:tmOk v s p t = true):(if kN t.kind then nameOk t.name else decide (t.name = ⟨#[]⟩)) = true:=by
 unfold tmOk at h; rw [Bool.and_eq_true,Bool.and_eq_true,Bool.and_eq_true,Bool.and_eq_true] at h; exact h.2.2.2.1
theorem ok_e {v s p:Int} {t:Tm} (h:tmOk v s p t = true):(if kE t.kind then exRight v t.e else t.e.none) = true:=by
 unfold tmOk at h; rw [Bool.and_eq_true,Bool.and_eq_true,Bool.and_eq_true,Bool.and_eq_true] at h; exact h.2.2.2.2
theorem num2 {v s p n:Int} (h:numOk v s p 2 n = true):-1 ≤ n ∧ n < v:=by simpa [numOk] using h
theorem num1 {v s p n:Int} (h:numOk v s p 1 n = true):0 ≤ n ∧ n < v:=by simpa [numOk] using h
theorem num3 {v s p n:Int} (h:numOk v s p 3 n = true):0 ≤ n ∧ n < s:=by simpa [numOk] using h
theorem num4 {v s p n:Int} (h:numOk v s p 4 n = true):0 ≤ n ∧ n < p:=by simpa [numOk] using h
theorem getD_right {l:List Tm} {i:Nat} {P:Tm → Prop} (h0:P .skip) (h:∀ x ∈ l,P x):P ((l[i]?).getD .skip):=by
 cases e:l[i]? with
 | none=>exact h0
 | some x=>exact h x (List.mem_of_getElem? e)
theorem set_st {vn sn:Int} {n:Int} {s:List (List Tm)} (h:∀ l ∈ s,∀ t ∈ l,tmRight vn sn n t true = true ∧ allE t = true) (i:Nat) (m:List Tm) (hm:∀ t ∈ m,tmRight vn sn n t true = true ∧ allE t = true) :
  ∀ l ∈ s.set i m,∀ t ∈ l,tmRight vn sn n t true = true ∧ allE t = true:=fun l hl=>by
 rcases List.mem_or_eq_of_mem_set hl with hl | rfl
 ·exact h l hl
 ·exact hm
theorem wait_right (v s p:Int) (x:Tm) (k:Int) (hx:tmRight v s p x false = true) (hk:x.kind = 1) (h0:0 ≤ k):tmRight v s p ⟨14,k,x.a,x.name,.zero,[]⟩ false = true:=by
 have ho:=(right_ok hx).1
 have ha:=ok_a ho
 have hn:=ok_n ho
 rw [hk] at ha hn
 have zn:Ex.zero.none = true:=by decide +kernel
 have ha:=num2 (s:=s) (p:=p) ha
 rw [tmRight_eq]
 simp [tmOk,numOk,kA,kB,kN,kE,kL,zn,ha,h0] at hn ⊢
 exact hn
theorem deed_ok {vn sn:Int} {ps:List Tm} {f:Cfg} (he:Env8 vn sn ps) (hf:OkF vn sn ps f) (x:Tm) (alt:Int) (hx:tmRight vn sn ps.length x false = true) (hxe:allE x = true) (hxs:x.size ≤ f.t.size) (h14:x.kind ≠ 14) :
  DeedOk vn sn ps f (deed ps f x alt):=by
 obtain ⟨ho,⟨hk0,hk1⟩,-⟩:=right_ok hx
 have hskip:tmRight vn sn ps.length .skip false = true:=right_skip _ _ _ _
 have hsz:=hf.size
 have hssz:=stSize_nn f.st
 have htsz:=f.t.size_pos
 have zs:Tm.skip.size = 1:=by decide +kernel
 have b0:stSize f.st ≤ 4000:=by omega
 have hkey:f.key ≤ f.key ∧ f.key ≤ f.key + 1:=by omega
 unfold deed
 split
 ·rename_i k
  have hsz2:(⟨14,f.key,x.a,x.name,.zero,[]⟩:Tm).size = 1:=by rw [Tm.size_eq]; simp [Tm.sizes]
  refine ⟨wait_right _ _ _ x _ hx k hf.key.1,?_,hf.vars,hf.nums,hf.st,hf.strt,by simp only; omega,b0,by simp only; omega⟩
  rw [allE_eq]; simp [exN_zero]
 split
 ·rename_i k1 k
  have hb:DeedOk vn sn ps f ⟨.skip,f.vars,f.st,f.key,.zero,false,(evE f.vars x.e).2⟩:=⟨hskip,allE_skip,hf.vars,hf.nums,hf.st,hf.strt,by simp only; omega,b0,hkey⟩
  split
  ·refine ⟨hskip,allE_skip,by simp only [List.length_set]; exact hf.vars,?_,hf.st,hf.strt,by simp only; omega,b0,hkey⟩
   intro n hn
   rcases List.mem_or_eq_of_mem_set hn with hn | rfl
   ·exact hf.nums n hn
   ·refine evE_le _ hf.nums _ fun y hy=>?_
    rw [allE_eq,Bool.and_eq_true,exN,Bool.and_eq_true] at hxe
    exact List.all_eq_true.1 hxe.1.2 y hy
  ·exact hb
 split
 ·rename_i k1 k2 k
  have ha:=ok_a ho; rw [k] at ha
  have ha:=num3 (v:=vn) (p:=ps.length) ha
  obtain ⟨i,hi,hil,e⟩:=stAt_get (s:=f.st) ha.1 (by rw [hf.st]; exact ha.2)
  have hl:=ok_l ho; rw [k] at hl
  have hl:(x.l.length:Int) = 1:=hl
  obtain ⟨y,hy⟩:∃ y,x.l = [y]:=List.length_eq_one_iff.1 (by omega)
  have hy2:y ∈ x.l:=by rw [hy]; simp
  have hry:=right_kid _ _ _ _ _ hx y hy2
  rw [decide_eq_true k,Bool.or_true] at hry
  have hey:=allE_kid hxe y hy2
  have hys:=size_kid hy2
  have hset:=stSize_set f.st i hil (f.st[i] ++ [y])
  rw [sizes_app] at hset
  simp only [hy,List.getElem?_cons_zero,Option.getD_some,stPush,e]
  rw [show x.a.toNat = i by omega]
  refine ⟨hskip,allE_skip,hf.vars,hf.nums,by simp only [List.length_set]; exact hf.st,?_,by simp only; omega,by simp only [Tm.sizes] at *; omega,hkey⟩
  refine set_st hf.strt _ _ fun t ht=>?_
  rcases List.mem_append.1 ht with ht | ht
  ·exact hf.strt _ (List.getElem_mem hil) t ht
  ·rw [List.mem_singleton.1 ht]; exact ⟨hry,hey⟩
 split
 ·rename_i k1 k2 k3 k
  have ha:=ok_a ho; rw [k] at ha
  have ha:=num3 (v:=vn) (p:=ps.length) ha
  obtain ⟨i,hi,hil,e⟩:=stAt_get (s:=f.st) ha.1 (by rw [hf.st]; exact ha.2)
  have hm:=hf.strt _ (List.getElem_mem hil)
  have hset:=stSize_set f.st i hil []
  have hms:=stSize_mem (List.getElem_mem hil)
  have hrs:=stRev_size f.st[i]
  have hnn:=sizes_nn f.st[i]
  simp only [stAccept,e]
  rw [show x.a.toNat = i by omega]
  refine ⟨?_,?_,hf.vars,hf.nums,by simp only [List.length_set]; exact hf.st,?_,by simp only; omega,by simp only [Tm.sizes] at *; omega,hkey⟩
  ·exact stRev_ind (fun t=>tmRight vn sn ps.length t false = true) hskip (fun x y hx hy=>right_of2 _ _ _ _ _ _ _ (.inl rfl) hx hy) _ fun t ht=>right_weak _ _ _ _ _ (hm t ht).1
  ·exact stRev_ind (fun t=>allE t = true) allE_skip (fun x y hx hy=>allE_of _ _ (by simp [hx,hy])) _ fun t ht=>(hm t ht).2
  ·exact set_st hf.strt _ _ (by simp)
 split
 ·rename_i k1 k2 k3 k4 k
  have ha:=ok_a ho; rw [k] at ha
  have ha:=num3 (v:=vn) (p:=ps.length) ha
  obtain ⟨i,hi,hil,e⟩:=stAt_get (s:=f.st) ha.1 (by rw [hf.st]; exact ha.2)
  have hset:=stSize_set f.st i hil []
  have hnn:=sizes_nn f.st[i]
  simp only [stAccept]
  rw [show x.a.toNat = i by omega]
  refine ⟨hskip,allE_skip,hf.vars,hf.nums,by simp only [List.length_set]; exact hf.st,?_,by simp only; omega,by simp only [Tm.sizes] at *; omega,hkey⟩
  exact set_st hf.strt _ _ (by simp)
 split
 ·rename_i k1 k2 k3 k4 k5 k
  have ha:=ok_a ho; rw [k] at ha
  have ha:=num3 (v:=vn) (p:=ps.length) ha
  obtain ⟨i,hi,hil,e⟩:=stAt_get (s:=f.st) ha.1 (by rw [hf.st]; exact ha.2)
  have hb:=ok_b ho; rw [k] at hb
  have hb:=num3 (v:=vn) (p:=ps.length) hb
  obtain ⟨j,hj,hjl,ej⟩:=stAt_get (s:=f.st) hb.1 (by rw [hf.st]; exact hb.2)
  simp only [stMerge]
  split
  ·exact ⟨hskip,allE_skip,hf.vars,hf.nums,hf.st,hf.strt,by simp only; omega,b0,hkey⟩
  ·rename_i hne
   have hij:i ≠ j:=by intro h; subst h; omega
   rw [show x.a.toNat = i by omega,show x.b.toNat = j by omega,e,ej]
   have hm:=hf.strt _ (List.getElem_mem hil)
   have hmj:=hf.strt _ (List.getElem_mem hjl)
   have h1:=stSize_set f.st j hjl (f.st[j] ++ f.st[i])
   have h2:=stSize_set (f.st.set j (f.st[j] ++ f.st[i])) i (by simpa using hil) []
   rw [List.getElem_set_ne (fun h=>hij h.symm)] at h2
   rw [sizes_app] at h1
   refine ⟨hskip,allE_skip,hf.vars,hf.nums,by simp only [List.length_set]; exact hf.st,?_,by simp only; omega,by simp only [Tm.sizes] at *; omega,hkey⟩
   refine set_st (set_st hf.strt _ _ fun t ht=>?_) _ _ (by simp)
   rcases List.mem_append.1 ht with ht | ht
   ·exact hmj t ht
   ·exact hm t ht
 have kid:∀ i:Nat,x.kind ≠ 3 → tmRight vn sn ps.length ((x.l[i]?).getD .skip) false = true ∧ allE ((x.l[i]?).getD .skip) = true ∧ ((x.l[i]?).getD .skip).size ≤ 4001:=fun i h3=>by
  refine getD_right (P:=fun y=>tmRight vn sn ps.length y false = true ∧ allE y = true ∧ y.size ≤ 4001) ⟨hskip,allE_skip,by omega⟩ fun y hy=>⟨?_,allE_kid hxe y hy,by have:=size_kid hy; omega⟩
  have:=right_kid _ _ _ _ _ hx y hy
  rwa [decide_eq_false h3,Bool.or_false] at this
 split
 ·rename_i k
  obtain ⟨h1,h2,h3⟩:=kid (if (evE f.vars x.e).1 ≠ 0 then 0 else 1) (by omega)
  exact ⟨h1,h2,hf.vars,hf.nums,hf.st,hf.strt,h3,b0,hkey⟩
 split
 ·rename_i k
  obtain ⟨h1,h2,h3⟩:=kid alt.toNat (by omega)
  exact ⟨h1,h2,hf.vars,hf.nums,hf.st,hf.strt,h3,b0,hkey⟩
 split
 ·have:=getD_right (l:=ps) (i:=x.a.toNat) (P:=fun y=>tmRight vn sn ps.length y false = true ∧ allE y = true ∧ y.size ≤ 4001) ⟨hskip,allE_skip,by omega⟩ fun y hy=>⟨right_weak _ _ _ _ _ (he.right y hy),he.small y hy,by have:=he.size y hy; omega⟩
  exact ⟨this.1,this.2.1,hf.vars,hf.nums,hf.st,hf.strt,this.2.2,b0,hkey⟩
 ·exact ⟨hskip,allE_skip,hf.vars,hf.nums,hf.st,hf.strt,by simp only; omega,b0,hkey⟩
def toP (t:Tm) (s:Stp3):List Int:=if (atT t s.2.1).kind = 8 then s.2.1.take (outT t s.2.1 0 0) else s.2.1
theorem enabled_eq {t:Tm} (h:t.norm = t):t.enabled = t.enabledN:=by rw [Tm.enabled,h]
theorem step_deed {vn sn:Int} {ps:List Tm} {f:Cfg} (he:Env8 vn sn ps) (hf:OkF vn sn ps f) {s:Stp3} (hs:s ∈ f.t.enabled):DeedOk vn sn ps f (deed ps f (atT f.t s.2.1) s.2.2):=by
 rw [enabled_eq hf.norm] at hs
 have hk:=step_ok f.t s hs
 refine deed_ok he hf _ _ (at_right _ _ _ hk.act _ hf.t) (allE_at (actP_on hk.act) hf.ex) (size_at (actP_on hk.act)) ?_
 rw [← hk.kind]
 have:=hk.some
 omega
theorem toP_act {t:Tm} {s:Stp3} (h:ActP t s.2.1):ActP t (toP t s):=by
 unfold toP; split
 ·exact actP_take h _
 ·exact h
structure PutOk (vn sn:Int) (ps:List Tm) (x:Tm):Prop where
 t:tmRight vn sn ps.length x false = true
 ex:allE x = true
 size:x.size ≤ 6001
theorem put_ok {vn sn:Int} {ps:List Tm} {f:Cfg} (he:Env8 vn sn ps) (hf:OkF vn sn ps f) {s:Stp3} (hs:s ∈ f.t.enabled):PutOk vn sn ps (putT f.t (toP f.t s) (deed ps f (atT f.t s.2.1) s.2.2).t):=by
 have hd:=step_deed he hf hs
 rw [enabled_eq hf.norm] at hs
 have ha:=toP_act (step_ok f.t s hs).act
 have:=hf.size
 have:=stSize_nn f.st
 have:=hd.size
 have:=size_put (actP_on ha) (deed ps f (atT f.t s.2.1) s.2.2).t
 exact ⟨put_right _ _ _ ha _ _ hf.t hd.t,allE_put (actP_on ha) _ hf.ex hd.ex,by omega⟩
theorem PutOk.wt {vn sn:Int} {ps:List Tm} {t:Tm} (h:PutOk vn sn ps t):t.wt ≤ 137438953472:=by
 have:=allE_wt t h.ex
 have:=h.size
 omega
theorem doM_eq {ps:List Tm} {f:Cfg} (hn:f.t.norm = f.t) (pick:Int):doM ps f pick = match if pick < 0 then none else f.t.enabled[pick.toNat]? with
  | none=>.no 12
  | some s=>if 5000 ≤ f.steps then .no 10 else if (deed ps f (atT f.t s.2.1) s.2.2).e ≠ 0 then .no (deed ps f (atT f.t s.2.1) s.2.2).e
   else if 2000 < (putT f.t (toP f.t s) (deed ps f (atT f.t s.2.1) s.2.2).t).norm.size + stSize (deed ps f (atT f.t s.2.1) s.2.2).st then .no 11
   else ⟨⟨(putT f.t (toP f.t s) (deed ps f (atT f.t s.2.1) s.2.2).t).norm,(deed ps f (atT f.t s.2.1) s.2.2).vars,(deed ps f (atT f.t s.2.1) s.2.2).st,f.steps + 1,(deed ps f (atT f.t s.2.1) s.2.2).key⟩,(deed ps f (atT f.t s.2.1) s.2.2).ev,(deed ps f (atT f.t s.2.1) s.2.2).is,0⟩:=by
 rw [doM]
 simp only [hn] <;> rfl
theorem doM_ok {vn sn:Int} {ps:List Tm} {f:Cfg} (he:Env8 vn sn ps) (hf:OkF vn sn ps f) (pick:Int) (h:(doM ps f pick).e = 0):OkF vn sn ps (doM ps f pick).f:=by
 rw [doM_eq hf.norm] at h ⊢
 split
 ·rename_i e; rw [e] at h; simp [Did.no] at h
 ·rename_i s e
  simp only [e] at h
  have hs:s ∈ f.t.enabled:=by
   split at e
   ·cases e
   ·exact List.mem_of_getElem? e
  have hd:=step_deed he hf hs
  have hp:=put_ok he hf hs
  have hok:=right_okN _ _ _ _ _ hp.t
  by_cases h1:5000 ≤ f.steps
  ·rw [if_pos h1] at h; simp [Did.no] at h
  rw [if_neg h1] at h ⊢
  by_cases h2:(deed ps f (atT f.t s.2.1) s.2.2).e ≠ 0
  ·rw [if_pos h2] at h; exact absurd h h2
  rw [if_neg h2] at h ⊢
  by_cases h3:2000 < (putT f.t (toP f.t s) (deed ps f (atT f.t s.2.1) s.2.2).t).norm.size + stSize (deed ps f (atT f.t s.2.1) s.2.2).st
  ·rw [if_pos h3] at h; simp [Did.no] at h
  rw [if_neg h3]
  have h5:=hf.steps
  have h6:=hd.key
  have h7:=hf.key
  exact ⟨right_norm _ _ _ _ _ hp.t,allE_norm _ hok hp.ex,norm_norm _ hok,hd.vars,hd.nums,hd.st,hd.strt,by simp only; omega,by simp only; omega,by simp only; omega⟩
end Go.Proofs.YtnngddgaobhkiaaGreat
namespace Go.Proofs.YtnngddgaobhkiaaGreat
open Go Go.Am Go.RowKit
theorem size_set:∀ (l:List Tm) (i:Nat) (h:i < l.length) (y:Tm),Tm.sizes (l.set i y) + l[i].size = Tm.sizes l + y.size
 | [],i,h,y=>by simp at h
 | z :: l,0,h,y=>by simp only [List.set_cons_zero,Tm.sizes,List.getElem_cons_zero]; omega
 | z :: l,i + 1,h,y=>by have:=size_set l i (by simpa using h) y; simp only [List.set_cons_succ,Tm.sizes,List.getElem_cons_succ]; omega
theorem size_put_eq {t:Tm} {q:List Int} (h:OnPath t q) (x:Tm):(putT t q x).size + (atT t q).size = t.size + x.size:=by
 induction h with
 | nil t=>simp only [putT,atT]; omega
 | cons t i h q hp ih=>
  rw [putT_cons t i h,atT_cons t i h,Tm.size_eq,Tm.size_eq t]
  have:=size_set t.l i h (putT t.l[i] q x)
  simp only [Tm.withL]
  omega
theorem waitP_act (key:Int) (t:Tm) (p:List Int) (h:waitP key t = some p):ActP t p:=by
 rw [waitP_eq] at h
 by_cases k14:t.kind = 14
 ·rw [if_pos k14] at h
  by_cases ha:t.a = key
  ·rw [if_pos ha] at h; cases h; exact .nil t
  ·rw [if_neg ha] at h; cases h
 ·rw [if_neg k14] at h
  have sub:∃ (k:Nat) (q:List Int) (hk:k < t.l.length),(t.kind = 12 ∨ t.kind = 11 ∨ t.kind = 7) ∧ p = (k:Int) :: q ∧ waitP key t.l[k] = some q:=by
   by_cases k12:t.kind = 12
   ·rw [if_pos k12] at h
    obtain ⟨k,q,hk,e,hq⟩:=waitPs_some key _ 0 p h
    have hk2:k < t.l.length:=by simp at hk; omega
    exact ⟨k,q,hk2,.inl k12,by simpa using e,by simpa using hq⟩
   ·rw [if_neg k12] at h
    by_cases k11:t.kind = 11 ∨ t.kind = 7
    ·rw [if_pos k11] at h
     obtain ⟨k,q,hk,e,hq⟩:=waitPs_some key _ 0 p h
     exact ⟨k,q,hk,.inr k11,by simpa using e,hq⟩
    ·rw [if_neg k11] at h; cases h
  obtain ⟨k,q,hk,hkind,rfl,hq⟩:=sub
  exact .cons t k hk hkind q (waitP_act key t.l[k] q hq)
termination_by SizeOf.sizeOf t
decreasing_by exact Tm.lt_of_mem (List.getElem_mem hk)
theorem tell_b {vn sn:Int} {ps:List Tm} {f:Cfg} (hf:OkF vn sn ps f) {key:Int} {p:List Int} (h:waitP key f.t = some p):(atT f.t p).b < f.vars.length ∧ -1 ≤ (atT f.t p).b ∧ nameOk (atT f.t p).name = true:=by
 have hr:=at_right _ _ _ (waitP_act _ _ _ h) _ hf.t
 have hk:=(waitP_on _ _ _ h).2.1
 have ho:=(right_ok hr).1
 have hb:=ok_b ho; rw [hk] at hb
 have hb:=num2 (s:=sn) (p:=ps.length) hb
 have hn:=ok_n ho; rw [hk] at hn
 rw [hf.vars]
 exact ⟨hb.2,hb.1,hn⟩
theorem tell_put {vn sn:Int} {ps:List Tm} {f:Cfg} (hf:OkF vn sn ps f) {key:Int} {p:List Int} (h:waitP key f.t = some p):tmRight vn sn ps.length (putT f.t p .skip) false = true ∧ allE (putT f.t p .skip) = true ∧ (putT f.t p .skip).size ≤ f.t.size:=by
 have ha:=waitP_act _ _ _ h
 have:=size_put_eq (actP_on ha) .skip
 have:=(atT f.t p).size_pos
 have zs:Tm.skip.size = 1:=by decide +kernel
 exact ⟨put_right _ _ _ ha _ _ hf.t (right_skip _ _ _ _),allE_put (actP_on ha) _ hf.ex allE_skip,by omega⟩
theorem OkF.wt {vn sn:Int} {ps:List Tm} {f:Cfg} (hf:OkF vn sn ps f):f.t.wt ≤ 20002000:=by
 have:=allE_wt _ hf.ex
 have:=hf.size
 have:=stSize_nn f.st
 omega
theorem OkF.vlen {vn sn:Int} {ps:List Tm} {f:Cfg} (hf:OkF vn sn ps f) (hv:vn ≤ 1000):f.vars.length ≤ 1000:=by have:=hf.vars; omega
theorem OkF.slen {vn sn:Int} {ps:List Tm} {f:Cfg} (hf:OkF vn sn ps f) (hv:sn ≤ 1000):f.st.length ≤ 1000:=by have:=hf.st; omega
theorem sizes_len (l:List Tm):(l.length:Int) ≤ Tm.sizes l:=Tm.sizes_length l
theorem OkF.srow {vn sn:Int} {ps:List Tm} {f:Cfg} (hf:OkF vn sn ps f):∀ l ∈ f.st,l.length ≤ 2000 ∧ ∀ x ∈ l,x.lok:=fun l hl=>by
 have h1:=stSize_mem hl
 have h2:=hf.size
 have h3:=f.t.size_pos
 have h4:=sizes_len l
 refine ⟨by omega,fun x hx=>Tm.lok_of_wt x ?_⟩
 have:=allE_wt x (hf.strt l hl x hx).2
 have:=sizes_mem hx
 omega
end Go.Proofs.YtnngddgaobhkiaaGreat
