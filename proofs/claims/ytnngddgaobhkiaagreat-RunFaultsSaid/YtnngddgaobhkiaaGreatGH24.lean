import Derived.Test.YtnngddgaobhkiaaGreatGJ23
import Derived.Test.YtnngddgaobhkiaaGreatGD22
import Derived.Test.YtnngddgaobhkiaaGreatGH18
import Derived.Test.YtnngddgaobhkiaaGreatGE15
import Derived.Test.YtnngddgaobhkiaaGreatGJ14
import Derived.Test.YtnngddgaobhkiaaGreatGH16
set_option linter.unusedVariables false
set_option linter.unusedSimpArgs false
namespace Go.Proofs.YtnngddgaobhkiaaGreat
open Go Go.Am Go.RowKit
/-! ### What is lowered is a program that may be (no program here) -/
def exI (x:Ex):Bool:=(Ex.pre x).all fun y=>isI64 y.n
mutual
def allN:Tm → Bool
 | ⟨_,_,_,_,e,l⟩=>exI e && allNs l
def allNs:List Tm → Bool
 | []=>true
 | x :: l=>allN x && allNs l
end
mutual
theorem allE_of_wt:∀ t:Tm,t.wt ≤ 10000 → allN t = true → allE t = true
 | ⟨k,a,b,n,e,l⟩,hw,h=>by
  simp only [allN,Bool.and_eq_true] at h
  simp only [Tm.wt] at hw
  simp only [allE,exN,Bool.and_eq_true,decide_eq_true_eq]
  exact ⟨⟨by omega,h.1⟩,allEs_of_wt l (by omega) h.2⟩
theorem allEs_of_wt:∀ l:List Tm,Tm.wts l ≤ 10000 → allNs l = true → allEs l = true
 | [],_,_=>rfl
 | x :: l,hw,h=>by
  simp only [allNs,Bool.and_eq_true] at h
  simp only [Tm.wts] at hw
  simp only [allEs,Bool.and_eq_true]
  exact ⟨allE_of_wt x (by omega) h.1,allEs_of_wt l (by omega) h.2⟩
end
def bnd:Nat → Int
 | 0=>3
 | k + 1=>1 + 2 * bnd k
end Go.Proofs.YtnngddgaobhkiaaGreat
set_option linter.unusedVariables false
set_option linter.unusedSimpArgs false
namespace Go.Proofs.YtnngddgaobhkiaaGreat
open Go Go.Am Go.RowKit
/-! ### A program to be run -/
def payX:Pr:=.of 1 ⟨#[112,97,121]⟩ ⟨#[120]⟩ []
def grdP (b:Pr):Pr:=.of 12 ⟨#[]⟩ ⟨#[]⟩ [payX,b]
def grdD (d:Dfn):Dfn:=⟨d.name,grdP d.body⟩
def grdProg (v:Int) (bs:List Rw3):Prog:=⟨(shProg v bs).vars,ssL,(shProg v bs).procs.map grdD⟩
def dfltC:Cor:=⟨[0,0,0],2,[⟨1,0,0,⟨#[112,97,121]⟩,.zero,[]⟩],0⟩
def coreM (v:Int) (bs:List Rw3):Cor:=if (shProg v bs).round then (if (grdProg v bs).round then dfltC else (grdProg v bs).core) else (shProg v bs).core
structure FewB (bs:List Rw3):Prop where
 each:∀ x ∈ bs,x.sz 0 ≤ 40
/-- A body that is right. -/
structure BodyOk (b:Pr):Prop where
 right:rgt3 (lowP vsL ssL dsL b) true
 ex:allE (lowP vsL ssL dsL b) = true
 size:(lowP vsL ssL dsL b).size ≤ 300
 bad:badP vsL ssL dsL b = false
 okS:b.okS = true
 wt:b.wt ≤ 6000
def gCells (d:Dfn):List AV:=[.str d.name,.int .i64 12,.str ⟨#[]⟩,.str ⟨#[]⟩,.int .i64 0,.int .i64 0,.str ⟨#[]⟩,.nils,.slt [encPr payX,encPr d.body]]
def gRows (l:List Dfn) (i:Nat):List (List AV):=(l.take i).map gCells ++ (l.drop i).map encDf
mutual
theorem nrxL_encPr:∀ x:Pr,nrxL (encPr x) = encPr x
 | ⟨k,s,t,e,l⟩=>by simp [encPr,nrxL,nrx,nrxL_append,nrxL_encE e,nrxLL_encPrs l]
theorem nrxLL_encPrs:∀ l:List Pr,nrxLL (encPrs l) = encPrs l
 | []=>rfl
 | x :: l=>by simp [encPrs,nrxLL,nrxL_encPr x,nrxLL_encPrs l]
end
end Go.Proofs.YtnngddgaobhkiaaGreat
set_option linter.unusedVariables false
set_option linter.unusedSimpArgs false
namespace Go.Proofs.YtnngddgaobhkiaaGreat
open Go Go.Am Go.RowKit
/-! ### Keys (no program here) -/
mutual
def keyT (key:Int):Tm → Bool
 | ⟨k,a,_,_,_,l⟩=>decide (k = 14 → a < key) && keyTs key l
def keyTs (key:Int):List Tm → Bool
 | []=>true
 | x :: l=>keyT key x && keyTs key l
end
/-- Of a step: what it asks has the next key; what stands then has keys below. -/
structure DeedKey (f:Cfg) (d:Deed):Prop where
 t:keyT d.key d.t = true
 yes:d.is = true → d.ev.key = f.key ∧ d.key = f.key + 1
 no:d.is = false → d.key = f.key
structure DidKey (f:Cfg) (d:Did):Prop where
 t:keyT d.f.key d.f.t = true
 yes:d.is = true → d.ev.key = f.key ∧ d.f.key = f.key + 1
 no:d.is = false → d.f.key = f.key
end Go.Proofs.YtnngddgaobhkiaaGreat
set_option linter.unusedVariables false
set_option linter.unusedSimpArgs false
namespace Go.Proofs.YtnngddgaobhkiaaGreat
open Go Go.Am Go.RowKit
attribute [local simp] W27 W27_rs W27_b1 W27_b3 W27_b4 W27_b6 W27_b8 W27_k2 W27_l7 W28 W28_rs W28_b1 W28_b3 W28_b4 W28_b6 W28_b8 W28_k2 W28_l7 W16 W16_rs
/-! ### Rows of processes, stacks, configs that are the same -/
theorem sp_rw5 (x y:List Tm) (hw:x.length ≤ 137438953472) (hk:∀ z ∈ x,z.lok):Am.Spec Tryz.prog 27 [.sl (x.map encT),.sl (y.map encT)] (.bool (eqL Tm.same x y)):=by
 by_cases c:x.length = y.length
 ·have c':(x.length:Int) = y.length:=by omega
  refine W27_S (by simp) ?_
  intro vs
  simp [-W27_l7,c]
  refine sLoop_intro (fun i=>i ≤ y.length ∧ eqL Tm.same x y = eqL Tm.same (x.drop i) (y.drop i)) (fun i=>y.length - i) (fun i=>[(0,.sl (x.map encT)),(1,.sl (y.map encT)),(5,.int .i64 (i:Nat))])
   (fun _=>[]) 0 (by simp) (by simp) (by simp) ?_
  rintro L i vt ⟨hi,hj⟩ hL
  by_cases h:i < y.length
  ·have hl2:i < x.length:=by omega
   have h':(i:Int) < x.length:=by omega
   have hd:=eqL_drop Tm.same x y i hl2 h
   have hx:=sp_s5 x[i] y[i] (hk _ (List.getElem_mem hl2))
   generalize hb:Tm.same x[i] y[i] = b at *
   cases b
   ·rw [hj,hd]
    simp [h,h',hl2]
    refine scall0_pure hx (by simp) (by simp) ?_
    simp [retW_eq]
   ·simp [h,h',hl2]
    refine scall0_pure hx (by simp) (by simp) ?_
    simp
    rw [wrap64 (by omega) (by omega)]
    exact hL _ _ _ (i + 1) ⟨h,by rw [hj,hd]; simp⟩ (by omega) (by simp) (by simp)
  ·have e:=eqL_end Tm.same x y i (by omega) c
   have h2:¬ i < x.length:=by omega
   have h':¬ (i:Int) < x.length:=by omega
   rw [hj,e]
   simp [h,h',h2,retW_eq]
 ·have c':¬ (x.length:Int) = y.length:=by omega
  rw [eqL_len _ _ _ c]
  refine W27_S (by simp) ?_
  intro vs
  simp [c,c',retW_eq]
def sameS (x y:List (List Tm)):Bool:=eqL (eqL Tm.same) x y
theorem sp_s6 (x y:List (List Tm)) (hw:x.length ≤ 137438953472) (hk:∀ l ∈ x,l.length ≤ 137438953472 ∧ ∀ z ∈ l,z.lok):Am.Spec Tryz.prog 28 [.sl (encSt x),.sl (encSt y)] (.bool (sameS x y)):=by
 rw [encSt_Q,encSt_Q]
 unfold sameS
 by_cases c:x.length = y.length
 ·have c':(x.length:Int) = y.length:=by omega
  refine W28_S (by simp) ?_
  intro vs
  simp [-W28_l7,c]
  refine sLoop_intro (fun i=>i ≤ y.length ∧ eqL (eqL Tm.same) x y = eqL (eqL Tm.same) (x.drop i) (y.drop i)) (fun i=>y.length - i) (fun i=>[(0,.sl (x.map encQ)),(1,.sl (y.map encQ)),(5,.int .i64 (i:Nat))])
   (fun _=>[]) 0 (by simp) (by simp) (by simp) ?_
  rintro L i vt ⟨hi,hj⟩ hL
  by_cases h:i < y.length
  ·have hl2:i < x.length:=by omega
   have h':(i:Int) < x.length:=by omega
   have hd:=eqL_drop (eqL Tm.same) x y i hl2 h
   have hm:=hk _ (List.getElem_mem hl2)
   have hx:=sp_rw5 x[i] y[i] hm.1 hm.2
   generalize hb:eqL Tm.same x[i] y[i] = b at *
   cases b
   ·rw [hj,hd]
    simp [h,h',hl2]
    refine scall0_pure hx (by simp) (by simp) ?_
    simp [retW_eq]
   ·simp [h,h',hl2]
    refine scall0_pure hx (by simp) (by simp) ?_
    simp
    rw [wrap64 (by omega) (by omega)]
    exact hL _ _ _ (i + 1) ⟨h,by rw [hj,hd]; simp⟩ (by omega) (by simp) (by simp)
  ·have e:=eqL_end (eqL Tm.same) x y i (by omega) c
   have h2:¬ i < x.length:=by omega
   have h':¬ (i:Int) < x.length:=by omega
   rw [hj,e]
   simp [h,h',h2,retW_eq]
 ·have c':¬ (x.length:Int) = y.length:=by omega
  rw [eqL_len _ _ _ c]
  refine W28_S (by simp) ?_
  intro vs
  simp [c,c',retW_eq]
theorem sameS_iff (x y:List (List Tm)):sameS x y = true ↔ x = y:=
 eqL_iff _ _ _ fun l _ m=>eqL_iff _ _ _ fun t _ u=>Tm.same_iff t u
def sameF (f g:Cfg):Bool:=Tm.same f.t g.t && (decide (f.vars = g.vars) && (sameS f.st g.st && (decide (f.steps = g.steps) && decide (f.key = g.key))))
theorem sameF_iff (f g:Cfg):sameF f g = true ↔ f = g:=by
 unfold sameF
 simp only [Bool.and_eq_true,Tm.same_iff,sameS_iff,decide_eq_true_eq]
 cases f; cases g
 simp only [Cfg.mk.injEq]
theorem sp_s8 (f g:Cfg) (ht:f.t.lok) (hv:f.vars.length ≤ 137438953472) (hw:f.st.length ≤ 137438953472) (hk:∀ l ∈ f.st,l.length ≤ 137438953472 ∧ ∀ z ∈ l,z.lok):Am.Spec Tryz.prog 16 [.agg (encF f),.agg (encF g)] (.bool (sameF f g)):=by
 have h1:=sp_s5 f.t g.t ht
 have h2:=sp_its f.vars g.vars hv
 have h3:=sp_s6 f.st g.st hw hk
 unfold sameF
 generalize Tm.same f.t g.t = b1 at *
 generalize decide (f.vars = g.vars) = b2 at *
 generalize sameS f.st g.st = b3 at *
 cases b1
 ·refine W16_S (by simp) ?_
  intro vs
  simp
  refine scall_pure h1 (by simp) (by simp) ?_
  simp [retW_eq]
 cases b2
 ·refine W16_S (by simp) ?_
  intro vs
  simp
  refine scall_pure h1 (by simp) (by simp) ?_
  simp
  refine scall_pure h2 (by simp) (by simp) ?_
  simp [retW_eq]
 cases b3
 ·refine W16_S (by simp) ?_
  intro vs
  simp
  refine scall_pure h1 (by simp) (by simp) ?_
  simp
  refine scall_pure h2 (by simp) (by simp) ?_
  simp
  refine scall_pure h3 (by simp) (by simp) ?_
  simp [retW_eq]
 by_cases c4:f.steps = g.steps
 ·refine W16_S (by simp) ?_
  intro vs
  simp
  refine scall_pure h1 (by simp) (by simp) ?_
  simp
  refine scall_pure h2 (by simp) (by simp) ?_
  simp
  refine scall_pure h3 (by simp) (by simp) ?_
  simp [c4,retW_eq]
 ·refine W16_S (by simp) ?_
  intro vs
  simp
  refine scall_pure h1 (by simp) (by simp) ?_
  simp
  refine scall_pure h2 (by simp) (by simp) ?_
  simp
  refine scall_pure h3 (by simp) (by simp) ?_
  simp [c4,retW_eq]
end Go.Proofs.YtnngddgaobhkiaaGreat
set_option linter.unusedVariables false
set_option linter.unusedSimpArgs false
namespace Go.Proofs.YtnngddgaobhkiaaGreat
open Go Go.Am Go.RowKit
attribute [local simp] W18 W18_rs W18_k1 W18_b2
/-! ### An exit -/
theorem sp_wit8 (a n:Int) (hn:0 < n) (h2:n < 1000):Am.Spec Tryz.prog 18 [.int .i64 a,.int .i64 n] (.int .i64 (within a n)):=by
 refine W18_S (by simp) ?_
 intro vs
 simp
 rw [if_neg (by omega)]
 simp
 have h1:=Int.tmod_lt_of_pos a hn
 have h3:-n < a.tmod n:=by have:=Int.lt_tmod_of_pos a hn; omega
 refine sIf_dec (fun h=>?_) (fun h=>?_)
 ·simp
  rw [wrap64 (by omega) (by omega)]
  simp [retW_eq,within,h]
 ·simp [retW_eq,within,h]
def rawK (k:Int) (l:AV):List AV:=[.int .i64 k,.int .i64 0,.int .i64 0,.str ⟨#[]⟩,.int .i64 0,.int .i64 0,.str ⟨#[]⟩,.nils,l]
def rawPay:List AV:=[.int .i64 1,.int .i64 (-1),.int .i64 0,.str ⟨#[112,97,121]⟩,.int .i64 0,.int .i64 0,.str ⟨#[]⟩,.nils,.nils]
def exT:Nat → Tm
 | 0=>.of 8 []
 | i + 1=>if i % 2 = 1 then .of 11 [.of 12 [exT i,tPay],tPay] else .of 12 [exT i,tPay]
def exR:Nat → List AV
 | 0=>rawK 8 .nils
 | i + 1=>if i % 2 = 1 then rawK 11 (.slt [encT (.of 12 [exT i,tPay]),encT tPay]) else rawK 12 (.slt [encT (exT i),encT tPay])
def exF (block behind:Bool) (d:Nat):Tm:=
 let t:=if block then .of 7 [exT d] else exT d
 if behind then .of 12 [t,tPay] else t
def cOne (t:Tm):Cor:=⟨[],0,[t],0⟩
structure ExitOk (t w:Tm):Prop where
 some:∃ i,∃ h:i < (begM (cOne t)).t.enabled.length,((begM (cOne t)).t.enabled[i]).1 = 8
 all:∀ i,∀ h:i < (begM (cOne t)).t.enabled.length,((begM (cOne t)).t.enabled[i]).1 = 8 → (doM [t] (begM (cOne t)) i).e = 0 ∧ (doM [t] (begM (cOne t)) i).is = false ∧ (doM [t] (begM (cOne t)) i).f.t = w
def exitB (t w:Tm):Bool:=chkM (cOne t) && (allE t && ((begM (cOne t)).t.enabled.any (fun s=>decide (s.1 = 8)) &&
 (List.range (begM (cOne t)).t.enabled.length).all fun i=>!(match (begM (cOne t)).t.enabled[i]? with | some s=>decide (s.1 = 8) | none=>false) || (decide ((doM [t] (begM (cOne t)) i).e = 0) && (!(doM [t] (begM (cOne t)) i).is && Tm.same (doM [t] (begM (cOne t)) i).f.t w))))
theorem wit_ge (a n:Int) (hn:0 < n):0 ≤ within a n:=by
 unfold within
 have h1:=Int.lt_tmod_of_pos a hn
 split <;> omega
theorem wit_lt (a n:Int) (hn:0 < n):within a n < n:=by
 unfold within
 have h1:=Int.tmod_lt_of_pos a hn
 split <;> omega
end Go.Proofs.YtnngddgaobhkiaaGreat
