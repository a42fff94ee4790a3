import Derived.Test.YtnngddgaobhkiaaGreatGH24
import Derived.Test.YtnngddgaobhkiaaGreatGD27
import Derived.Test.YtnngddgaobhkiaaGreatGI21
import Derived.Test.YtnngddgaobhkiaaGreatGJ23
set_option linter.unusedVariables false
set_option linter.unusedSimpArgs false
namespace Go.Proofs.YtnngddgaobhkiaaGreat
open Go Go.Am Go.RowKit
/-! ### Keys that are asked -/
@[simp] theorem setC_0 (c:Cor) (a b d e:AV):setL [a,b,d,e] 0 (encC c) = encC c:=rfl
@[simp] theorem rd_Call (c:Cor):readA (encC c) 0 4 true = some (.agg (encC c)):=rfl
@[simp] theorem encC_cell (c:Cor):∀ a ∈ encC c,a.cell = true:=by simp [encC]
@[simp] theorem encC_okAll (c:Cor):(encC c).all AV.cell = true:=rfl
@[simp] theorem pur0_C (H:Heap) (c:Cor):(encC c).map (pur0 H) = encC c:=rfl
@[simp] theorem frz0_C (H:Heap) (c:Cor):(encC c).foldl frz0 H = H:=rfl
end Go.Proofs.YtnngddgaobhkiaaGreat
set_option linter.unusedVariables false
set_option linter.unusedSimpArgs false
namespace Go.Proofs.YtnngddgaobhkiaaGreat
open Go Go.Am Go.RowKit
/-! ### What is played -/
theorem doM_no {ps:List Tm} {f:Cfg} {k:Int} (h:¬ (doM ps f k).e = 0):doM ps f k = .no (doM ps f k).e:=by
 generalize hd:doM ps f k = d at *
 unfold doM at hd
 split at hd
 ·subst hd; rfl
 split at hd
 ·subst hd; rfl
 simp only at hd
 split at hd
 ·subst hd; rfl
 split at hd
 all_goals (split at hd)
 all_goals (subst hd; first | rfl | exact absurd rfl h)
theorem sp_doC8 {c:Cor} (h:CorOk c) {f:Cfg} (hf:OkC c f) (pick:Int):Am.Spec Tryz.prog 22 [.agg (encC c),.agg (encF f),.int .i64 pick] (didR (doM c.procs f pick)):=
 sp_do8 c f pick h.env hf (by have:=(chk_ok h.chk).vars; omega) (by have:=(chk_ok h.chk).st; omega)
theorem sameF_self (f:Cfg):sameF f f = true:=(sameF_iff f f).2 rfl
theorem sp_s8C {c:Cor} (h:CorOk c) {f:Cfg} (hf:OkC c f):Am.Spec Tryz.prog 16 [.agg (encF f),.agg (encF f)] (.bool true):=by
 have hk:=chk_ok h.chk
 have hwt:=hf.wt
 have hv:=hf.vlen (by have:=hk.vars; omega)
 have hs:=hf.slen (by have:=hk.st; omega)
 rw [← sameF_self f]
 exact sp_s8 f f (Tm.lok_of_wt _ (by omega)) (by omega) (by omega) fun l hl=>by have:=hf.srow l hl; exact ⟨by omega,this.2⟩
theorem sp_s8Z:Am.Spec Tryz.prog 16 [.agg (encF .zero),.agg (encF .zero)] (.bool true):=by
 rw [← sameF_self .zero]
 exact sp_s8 .zero .zero (Tm.lok_of_wt _ (by decide +kernel)) (by simp [Cfg.zero]) (by simp [Cfg.zero]) fun l hl=>by simp [Cfg.zero] at hl
/-- What Do tells is the same as itself, whether it is refused or not. -/
theorem sp_s8D {c:Cor} (h:CorOk c) {f:Cfg} (hf:OkC c f) (k:Int):Am.Spec Tryz.prog 16 [.agg (encF (doM c.procs f k).f),.agg (encF (doM c.procs f k).f)] (.bool true):=by
 by_cases he:(doM c.procs f k).e = 0
 ·exact sp_s8C h (doM_ok h.env hf k he)
 ·rw [show (doM c.procs f k).f = .zero from by rw [doM_no he]; rfl]
  exact sp_s8Z
def plT (ns:List Int) (raw:Int) (v7 v8 v9 i:Nat):List (Nat × AV):=[(1,.sl (encI ns)),(2,.int .i64 raw),(7,.ref 7 v7 (.p 0)),(8,.ref 8 v8 (.p 0)),(9,.ref 9 v9 (.p 0)),(10,.int .i64 (i:Nat))]
def plH (c:Cor) (f:Cfg) (v7 v8 v9:Nat):List (Nat × Blk):=[(7,.box v7 29 (encC c)),(8,.box v8 38 (encF f)),(9,.box v9 38 (encF f))]
theorem wf_i64 {a:Int} (h:(Lit.int .i64 a).wf = true):-9223372036854775808 ≤ a ∧ a < 9223372036854775808:=by
 simp only [Lit.wf,Bool.and_eq_true,decide_eq_true_eq] at h
 have h1:IntKind.min .i64 = -9223372036854775808:=by decide +kernel
 have h2:IntKind.max .i64 = 9223372036854775807:=by decide +kernel
 rw [h1,h2] at h
 omega
end Go.Proofs.YtnngddgaobhkiaaGreat
set_option linter.unusedVariables false
set_option linter.unusedSimpArgs false
namespace Go.Proofs.YtnngddgaobhkiaaGreat
open Go Go.Am Go.RowKit
attribute [local simp] W6 W6_rs W6_b1 W6_b2 W6_b16 W6_b27
/-! ### What cannot be reckoned -/
def xOne:Ex:=⟨1,1,⟨#[]⟩,[]⟩
def xNil:Ex:=⟨1,0,⟨#[]⟩,[]⟩
def xVar:Ex:=⟨2,0,⟨#[]⟩,[]⟩
def fxE:Nat → Ex
 | 0=>⟨6,0,⟨#[]⟩,[xOne,xNil]⟩
 | 1=>⟨7,0,⟨#[]⟩,[xOne,xNil]⟩
 | 2=>⟨8,0,⟨#[]⟩,[xVar,xOne]⟩
 | 3=>⟨5,0,⟨#[]⟩,[xVar,xVar]⟩
 | _=>⟨4,0,⟨#[]⟩,[xVar]⟩
def psF (k:Nat):List Tm:=[⟨9,0,0,⟨#[]⟩,fxE k,[.skip,.skip]⟩,⟨2,0,0,⟨#[]⟩,fxE k,[]⟩]
def cF (k:Nat) (m v:Int):Cor:=⟨[v],0,psF k,m⟩
theorem cF_all (k:Nat) (h:k < 5):((psF k).all fun t=>chkT 1 0 2 t && allE t) = true:=by
 rcases (by omega:k = 0 ∨ k = 1 ∨ k = 2 ∨ k = 3 ∨ k = 4) with rfl | rfl | rfl | rfl | rfl <;> decide +kernel
theorem cF_ok (k:Nat) (h:k < 5) (m v:Int) (hm:0 ≤ m ∧ m < 2) (hv:isI64 v = true):CorOk (cF k m v):=by
 have ha:=List.all_eq_true.1 (cF_all k h)
 refine ⟨?_,fun t ht=>?_,fun n hn=>?_⟩
 ·unfold chkM
  simp only [Bool.and_eq_true,decide_eq_true_eq,List.all_eq_true]
  have e:(cF k m v).procs.length = 2:=rfl
  have e2:(cF k m v).stacks = 0:=rfl
  have e3:(cF k m v).main = m:=rfl
  refine ⟨by show (1:Int) ≤ 20; decide,by rw [e2]; decide,by rw [e2]; decide,by rw [e]; decide,by rw [e]; decide,by rw [e3]; omega,by rw [e,e3]; omega,fun t ht=>?_⟩
  have:=ha t ht
  rw [Bool.and_eq_true] at this
  exact this.1
 ·have:=ha t ht
  rw [Bool.and_eq_true] at this
  exact this.2
 ·rw [show n = v by simpa [cF] using hn]; exact hv
theorem cF_zero (k:Nat) (h:k < 2) (m v:Int) (hm:0 ≤ m ∧ m < 2):(doM (psF k) (begM (cF k m v)) 0).e = 9:=by
 rcases (by omega:k = 0 ∨ k = 1) with rfl | rfl <;> rcases (by omega:m = 0 ∨ m = 1) with rfl | rfl <;> kernel_rfl
theorem scall0_nrx {P:Program} {f:FuncId} {args caps args':List AV} {d:Option Nat} {s:St} {K:Kt (St → Prop)} {r:AV} (h:Am.Spec P f args' r) (e:nrxL ((args ++ caps).map (pur (frzs s.H args))) = args')
  (hc:closedL ((args ++ caps).map (pur (frzs s.H args))) = true) (k:K.v (s.put d r (frzs s.H args))):@sCall0 P (.func f caps) args d s K:=
 scall0_pure (Spec_nrx (by rw [e]; exact h)) rfl hc k
theorem tdiv5 {a:Int} (h:(Lit.int .i64 a).wf = true):IntKind.wrap .i64 (a.tdiv 5) = a.tdiv 5:=by
 have h:=wf_i64 h
 have h1:=Int.mul_tdiv_add_tmod a 5
 have h2:=Int.tmod_lt_of_pos a (b:=5) (by omega)
 have h3:=Int.lt_tmod_of_pos a (b:=5) (by omega)
 exact wrap64 (by omega) (by omega)
theorem sp_flt (w v:Int) (hw:(Lit.int .i64 w).wf = true) (hv:(Lit.int .i64 v).wf = true):Am.Spec Tryz.prog 6 [.int .i64 w,.int .i64 v] (.bool true):=by
 have w5:=sp_wit8 w 5 (by omega) (by omega)
 have w50:=wit_ge w 5 (by omega)
 have w51:=wit_lt w 5 (by omega)
 have w2:=sp_wit8 (w.tdiv 5) 2 (by omega) (by omega)
 have w20:=wit_ge (w.tdiv 5) 2 (by omega)
 have w21:=wit_lt (w.tdiv 5) 2 (by omega)
 have wq:=tdiv5 hw
 have hv:=(isI64_iff v).2 (wf_i64 hv)
 obtain ⟨k,hk⟩:∃ k:Nat,within w 5 = k:=⟨(within w 5).toNat,by omega⟩
 rw [hk] at w5 w51
 generalize within (w.tdiv 5) 2 = m at *
 have hk5:k < 5:=by omega
 have hc:=cF_ok k hk5 m v ⟨w20,w21⟩ hv
 have hb:=sp_begC hc
 have hb8:=sp_beg8 hc
 have hok:=beg_ok hc
 have hd:=sp_doC hc hok 0
 have hd8:=sp_doC8 hc hok 0
 have hs1:=sp_s8D hc hok 0
 have hs2:=sp_s8C hc hok
 have hdo:=doM_ok hc.env hok 0
 have hdn:=@doM_no (cF k m v).procs (begM (cF k m v)) 0
 have hz:=fun h=>cF_zero k h m v ⟨w20,w21⟩
 have eC:encC (cF k m v) = [.sl [[.int .i64 v]],.int .i64 0,.sl ((psF k).map encT),.int .i64 m]:=rfl
 have eP:(cF k m v).procs = psF k:=rfl
 rw [eP] at hd hd8 hs1 hdo hdn
 rw [eC] at hb hb8 hd hd8
 generalize begM (cF k m v) = f at *
 generalize doM (psF k) f 0 = d at *
 have hvl:(d.f.vars.length:Int) = if d.e = 0 then 1 else 0:=by
  split
  ·rename_i h
   exact (hdo h).vars
  ·rename_i h
   rw [hdn h]; rfl
 simp only [didR] at hd hd8
 rcases (by omega:k = 0 ∨ k = 1 ∨ k = 2 ∨ k = 3 ∨ k = 4) with rfl | rfl | rfl | rfl | rfl
 ·have he:=hz (by omega)
  rw [if_neg (by omega)] at hvl
  refine W6_S (by simp) ?_
  intro vs
  simp
  refine scall_pure sp_kno8 (by simp) (by simp) ?_
  simp
  refine scall_pure w5 (by simp) (by simp) ?_
  simp [wq]
  refine scall_pure w2 (by simp) (by simp) ?_
  simp
  refine scall_nrx hb (by simp [nrxL,nrx,nrxLL,nrxL_append,nrxL_encT,nrxL_encF,psF,fxE,xOne,xNil,xVar,encT,encE,encTs,encEs,Tm.skip,Tm.of,Ex.zero]) (by simp [closedL,closedLL]) ?_
  simp
  refine scall_nrx hd (by simp [nrxL,nrx,nrxLL,nrxL_append,nrxL_encT,nrxL_encF,psF,fxE,xOne,xNil,xVar,encT,encE,encTs,encEs,Tm.skip,Tm.of,Ex.zero]) (by simp [closedL,closedLL]) ?_
  simp
  refine scall0_nrx hb8 (by simp [nrxL,nrx,nrxLL,nrxL_append,nrxL_encT,nrxL_encF,psF,fxE,xOne,xNil,xVar,encT,encE,encTs,encEs,Tm.skip,Tm.of,Ex.zero]) (by simp [closedL,closedLL]) ?_
  simp
  refine scall0_nrx hd8 (by simp [nrxL,nrx,nrxLL,nrxL_append,nrxL_encT,nrxL_encF,psF,fxE,xOne,xNil,xVar,encT,encE,encTs,encEs,Tm.skip,Tm.of,Ex.zero]) (by simp [closedL,closedLL]) ?_
  simp
  refine scall_pure hs1 (by simp) (by simp) ?_
  simp [hvl,he]
  refine scall0_nrx hb8 (by simp [nrxL,nrx,nrxLL,nrxL_append,nrxL_encT,nrxL_encF,psF,fxE,xOne,xNil,xVar,encT,encE,encTs,encEs,Tm.skip,Tm.of,Ex.zero]) (by simp [closedL,closedLL]) ?_
  simp [hvl,he]
  refine scall0_pure hs2 (by simp) (by simp) ?_
  simp [retW_eq]
 ·have he:=hz (by omega)
  rw [if_neg (by omega)] at hvl
  refine W6_S (by simp) ?_
  intro vs
  simp
  refine scall_pure sp_kno8 (by simp) (by simp) ?_
  simp
  refine scall_pure w5 (by simp) (by simp) ?_
  simp [wq]
  refine scall_pure w2 (by simp) (by simp) ?_
  simp
  refine scall_nrx hb (by simp [nrxL,nrx,nrxLL,nrxL_append,nrxL_encT,nrxL_encF,psF,fxE,xOne,xNil,xVar,encT,encE,encTs,encEs,Tm.skip,Tm.of,Ex.zero]) (by simp [closedL,closedLL]) ?_
  simp
  refine scall_nrx hd (by simp [nrxL,nrx,nrxLL,nrxL_append,nrxL_encT,nrxL_encF,psF,fxE,xOne,xNil,xVar,encT,encE,encTs,encEs,Tm.skip,Tm.of,Ex.zero]) (by simp [closedL,closedLL]) ?_
  simp
  refine scall0_nrx hb8 (by simp [nrxL,nrx,nrxLL,nrxL_append,nrxL_encT,nrxL_encF,psF,fxE,xOne,xNil,xVar,encT,encE,encTs,encEs,Tm.skip,Tm.of,Ex.zero]) (by simp [closedL,closedLL]) ?_
  simp
  refine scall0_nrx hd8 (by simp [nrxL,nrx,nrxLL,nrxL_append,nrxL_encT,nrxL_encF,psF,fxE,xOne,xNil,xVar,encT,encE,encTs,encEs,Tm.skip,Tm.of,Ex.zero]) (by simp [closedL,closedLL]) ?_
  simp
  refine scall_pure hs1 (by simp) (by simp) ?_
  simp [hvl,he]
  refine scall0_nrx hb8 (by simp [nrxL,nrx,nrxLL,nrxL_append,nrxL_encT,nrxL_encF,psF,fxE,xOne,xNil,xVar,encT,encE,encTs,encEs,Tm.skip,Tm.of,Ex.zero]) (by simp [closedL,closedLL]) ?_
  simp [hvl,he]
  refine scall0_pure hs2 (by simp) (by simp) ?_
  simp [retW_eq]
 ·refine W6_S (by simp) ?_
  intro vs
  simp
  refine scall_pure sp_kno8 (by simp) (by simp) ?_
  simp
  refine scall_pure w5 (by simp) (by simp) ?_
  simp [wq]
  refine scall_pure w2 (by simp) (by simp) ?_
  simp
  refine scall_nrx hb (by simp [nrxL,nrx,nrxLL,nrxL_append,nrxL_encT,nrxL_encF,psF,fxE,xOne,xNil,xVar,encT,encE,encTs,encEs,Tm.skip,Tm.of,Ex.zero]) (by simp [closedL,closedLL]) ?_
  simp
  refine scall_nrx hd (by simp [nrxL,nrx,nrxLL,nrxL_append,nrxL_encT,nrxL_encF,psF,fxE,xOne,xNil,xVar,encT,encE,encTs,encEs,Tm.skip,Tm.of,Ex.zero]) (by simp [closedL,closedLL]) ?_
  simp
  refine scall0_nrx hb8 (by simp [nrxL,nrx,nrxLL,nrxL_append,nrxL_encT,nrxL_encF,psF,fxE,xOne,xNil,xVar,encT,encE,encTs,encEs,Tm.skip,Tm.of,Ex.zero]) (by simp [closedL,closedLL]) ?_
  simp
  refine scall0_nrx hd8 (by simp [nrxL,nrx,nrxLL,nrxL_append,nrxL_encT,nrxL_encF,psF,fxE,xOne,xNil,xVar,encT,encE,encTs,encEs,Tm.skip,Tm.of,Ex.zero]) (by simp [closedL,closedLL]) ?_
  simp
  refine scall_pure hs1 (by simp) (by simp) ?_
  by_cases he:d.e = 0
  ·rw [if_pos he] at hvl
   simp [hvl,he]
   refine scall0_nrx hb8 (by simp [nrxL,nrx,nrxLL,nrxL_append,nrxL_encT,nrxL_encF,psF,fxE,xOne,xNil,xVar,encT,encE,encTs,encEs,Tm.skip,Tm.of,Ex.zero]) (by simp [closedL,closedLL]) ?_
   simp [hvl,he]
   refine scall0_pure hs2 (by simp) (by simp) ?_
   simp [retW_eq]
  ·rw [if_neg he] at hvl
   simp [hvl,he]
   refine scall0_nrx hb8 (by simp [nrxL,nrx,nrxLL,nrxL_append,nrxL_encT,nrxL_encF,psF,fxE,xOne,xNil,xVar,encT,encE,encTs,encEs,Tm.skip,Tm.of,Ex.zero]) (by simp [closedL,closedLL]) ?_
   simp [hvl,he]
   refine scall0_pure hs2 (by simp) (by simp) ?_
   simp [retW_eq]
 ·refine W6_S (by simp) ?_
  intro vs
  simp
  refine scall_pure sp_kno8 (by simp) (by simp) ?_
  simp
  refine scall_pure w5 (by simp) (by simp) ?_
  simp [wq]
  refine scall_pure w2 (by simp) (by simp) ?_
  simp
  refine scall_nrx hb (by simp [nrxL,nrx,nrxLL,nrxL_append,nrxL_encT,nrxL_encF,psF,fxE,xOne,xNil,xVar,encT,encE,encTs,encEs,Tm.skip,Tm.of,Ex.zero]) (by simp [closedL,closedLL]) ?_
  simp
  refine scall_nrx hd (by simp [nrxL,nrx,nrxLL,nrxL_append,nrxL_encT,nrxL_encF,psF,fxE,xOne,xNil,xVar,encT,encE,encTs,encEs,Tm.skip,Tm.of,Ex.zero]) (by simp [closedL,closedLL]) ?_
  simp
  refine scall0_nrx hb8 (by simp [nrxL,nrx,nrxLL,nrxL_append,nrxL_encT,nrxL_encF,psF,fxE,xOne,xNil,xVar,encT,encE,encTs,encEs,Tm.skip,Tm.of,Ex.zero]) (by simp [closedL,closedLL]) ?_
  simp
  refine scall0_nrx hd8 (by simp [nrxL,nrx,nrxLL,nrxL_append,nrxL_encT,nrxL_encF,psF,fxE,xOne,xNil,xVar,encT,encE,encTs,encEs,Tm.skip,Tm.of,Ex.zero]) (by simp [closedL,closedLL]) ?_
  simp
  refine scall_pure hs1 (by simp) (by simp) ?_
  by_cases he:d.e = 0
  ·rw [if_pos he] at hvl
   simp [hvl,he]
   refine scall0_nrx hb8 (by simp [nrxL,nrx,nrxLL,nrxL_append,nrxL_encT,nrxL_encF,psF,fxE,xOne,xNil,xVar,encT,encE,encTs,encEs,Tm.skip,Tm.of,Ex.zero]) (by simp [closedL,closedLL]) ?_
   simp [hvl,he]
   refine scall0_pure hs2 (by simp) (by simp) ?_
   simp [retW_eq]
  ·rw [if_neg he] at hvl
   simp [hvl,he]
   refine scall0_nrx hb8 (by simp [nrxL,nrx,nrxLL,nrxL_append,nrxL_encT,nrxL_encF,psF,fxE,xOne,xNil,xVar,encT,encE,encTs,encEs,Tm.skip,Tm.of,Ex.zero]) (by simp [closedL,closedLL]) ?_
   simp [hvl,he]
   refine scall0_pure hs2 (by simp) (by simp) ?_
   simp [retW_eq]
 ·refine W6_S (by simp) ?_
  intro vs
  simp
  refine scall_pure sp_kno8 (by simp) (by simp) ?_
  simp
  refine scall_pure w5 (by simp) (by simp) ?_
  simp [wq]
  refine scall_pure w2 (by simp) (by simp) ?_
  simp
  refine scall_nrx hb (by simp [nrxL,nrx,nrxLL,nrxL_append,nrxL_encT,nrxL_encF,psF,fxE,xOne,xNil,xVar,encT,encE,encTs,encEs,Tm.skip,Tm.of,Ex.zero]) (by simp [closedL,closedLL]) ?_
  simp
  refine scall_nrx hd (by simp [nrxL,nrx,nrxLL,nrxL_append,nrxL_encT,nrxL_encF,psF,fxE,xOne,xNil,xVar,encT,encE,encTs,encEs,Tm.skip,Tm.of,Ex.zero]) (by simp [closedL,closedLL]) ?_
  simp
  refine scall0_nrx hb8 (by simp [nrxL,nrx,nrxLL,nrxL_append,nrxL_encT,nrxL_encF,psF,fxE,xOne,xNil,xVar,encT,encE,encTs,encEs,Tm.skip,Tm.of,Ex.zero]) (by simp [closedL,closedLL]) ?_
  simp
  refine scall0_nrx hd8 (by simp [nrxL,nrx,nrxLL,nrxL_append,nrxL_encT,nrxL_encF,psF,fxE,xOne,xNil,xVar,encT,encE,encTs,encEs,Tm.skip,Tm.of,Ex.zero]) (by simp [closedL,closedLL]) ?_
  simp
  refine scall_pure hs1 (by simp) (by simp) ?_
  by_cases he:d.e = 0
  ·rw [if_pos he] at hvl
   simp [hvl,he]
   refine scall0_nrx hb8 (by simp [nrxL,nrx,nrxLL,nrxL_append,nrxL_encT,nrxL_encF,psF,fxE,xOne,xNil,xVar,encT,encE,encTs,encEs,Tm.skip,Tm.of,Ex.zero]) (by simp [closedL,closedLL]) ?_
   simp [hvl,he]
   refine scall0_pure hs2 (by simp) (by simp) ?_
   simp [retW_eq]
  ·rw [if_neg he] at hvl
   simp [hvl,he]
   refine scall0_nrx hb8 (by simp [nrxL,nrx,nrxLL,nrxL_append,nrxL_encT,nrxL_encF,psF,fxE,xOne,xNil,xVar,encT,encE,encTs,encEs,Tm.skip,Tm.of,Ex.zero]) (by simp [closedL,closedLL]) ?_
   simp [hvl,he]
   refine scall0_pure hs2 (by simp) (by simp) ?_
   simp [retW_eq]
end Go.Proofs.YtnngddgaobhkiaaGreat
