import Derived.Test.YtnngddgaobhkiaaGreatGH17
import Derived.Test.YtnngddgaobhkiaaGreatGJ18
import Derived.Test.YtnngddgaobhkiaaGreatGD19
import Derived.Test.YtnngddgaobhkiaaGreatGE15
import Derived.Test.YtnngddgaobhkiaaGreatGJ12
import Derived.Test.YtnngddgaobhkiaaGreatGH16
set_option linter.unusedVariables false
set_option linter.unusedSimpArgs false
namespace Go.Proofs.YtnngddgaobhkiaaGreat
open Go Go.Am Go.RowKit
attribute [local simp] W13 W13_rs W13_b1 W13_b2 W13_b6 W13_b9 W13_k3 W13_k5 W13_l7
def payX:Pr:=.of 1 ⟨#[112,97,121]⟩ ⟨#[120]⟩ []
def grdP (b:Pr):Pr:=.of 12 ⟨#[]⟩ ⟨#[]⟩ [payX,b]
def grdD (d:Dfn):Dfn:=⟨d.name,grdP d.body⟩
def grdProg (v:Int) (bs:List Rw3):Prog:=⟨(shProg v bs).vars,ssL,(shProg v bs).procs.map grdD⟩
def dfltC:Cor:=⟨[0,0,0],2,[⟨1,0,0,⟨#[112,97,121]⟩,.zero,[]⟩],0⟩
def coreM (v:Int) (bs:List Rw3):Cor:=if (shProg v bs).round then (if (grdProg v bs).round then dfltC else (grdProg v bs).core) else (shProg v bs).core
structure FewB (bs:List Rw3):Prop where
 each:∀ x ∈ bs,x.sz 0 ≤ 40
theorem shV_names (v:Int) (bs:List Rw3):(shProg v bs).V = vsL:=by simp [Prog.V,shProg,List.range_succ,shV,nthB,vsL]
theorem shD_names (v:Int) (bs:List Rw3):(shProg v bs).D = dsL:=by simp [Prog.D,shProg,List.range_succ,shP,nthB,dsL]
theorem grV_names (v:Int) (bs:List Rw3):(grdProg v bs).V = vsL:=shV_names v bs
theorem grD_names (v:Int) (bs:List Rw3):(grdProg v bs).D = dsL:=by simp [Prog.D,grdProg,grdD,shProg,List.range_succ,shP,nthB,dsL]
structure BodyOk (b:Pr):Prop where
 right:rgt3 (lowP vsL ssL dsL b) true
 ex:allE (lowP vsL ssL dsL b) = true
 size:(lowP vsL ssL dsL b).size ≤ 300
 bad:badP vsL ssL dsL b = false
 okS:b.okS = true
 wt:b.wt ≤ 6000
theorem sh_body {v:Int} {bs:List Rw3} (h:FewB bs):∀ d ∈ (shProg v bs).procs,BodyOk d.body ∧ d.body.wt ≤ 5040 ∧ (lowP vsL ssL dsL d.body).size ≤ 255:=by
 intro d hd
 obtain ⟨i,hi,rfl⟩:=List.mem_map.1 hd
 simp only [shP]
 cases hb:bs[i]? with
 | none=>
  have h2:=skip_ok
  simp only [Option.map_none,Option.getD_none]
  have hw:Pr.skip.wt ≤ 5040:=by decide +kernel
  have hz:(lowP vsL ssL dsL .skip).size ≤ 255:=by decide +kernel
  exact ⟨⟨by decide +kernel,by decide +kernel,by omega,h2.1,h2.2,by omega⟩,hw,hz⟩
 | some x=>
  have hx:=h.each x (List.mem_of_getElem? hb)
  have h1:=pr_ok x 0
  have h2:=x.pr_wt 0
  have h3:=bulk_of x hx
  have h4:=pr_sz0 x
  simp only [Option.map_some,Option.getD_some]
  exact ⟨⟨pr_right x 0,pr_all x hx,by omega,h1.1,h1.2,by omega⟩,by omega,h4⟩
theorem grd_body {v:Int} {bs:List Rw3} (h:FewB bs):∀ d ∈ (grdProg v bs).procs,BodyOk d.body:=by
 intro d hd
 obtain ⟨e,he,rfl⟩:=List.mem_map.1 hd
 obtain ⟨hb,hw,hz⟩:=sh_body h e he
 have eL:lowP vsL ssL dsL (grdP e.body) = .of 12 [lowP vsL ssL dsL payX,lowP vsL ssL dsL e.body]:=by rw [lowP_eq]; rfl
 have p1:rgt3 (lowP vsL ssL dsL payX) true:=by decide +kernel
 have p2:allE (lowP vsL ssL dsL payX) = true:=by decide +kernel
 have p3:(lowP vsL ssL dsL payX).size = 1:=by decide +kernel
 have p4:badP vsL ssL dsL payX = false:=by decide +kernel
 have p5:payX.okS = true:=by decide +kernel
 have p6:payX.wt ≤ 10:=by decide +kernel
 simp only [grdD]
 refine ⟨?_,?_,?_,?_,?_,?_⟩
 ·rw [eL]; exact right_of2 _ _ _ _ _ _ _ (.inl rfl) p1 hb.right
 ·rw [eL]; exact allE_of _ _ (by simp [p2,hb.ex])
 ·rw [eL,Tm.size_eq]; simp only [Tm.of,Tm.sizes]; omega
 ·simp [grdP,Pr.of,badP,badP0,badPs,p4,hb.bad]
 ·simp [grdP,Pr.of,Pr.okS,Pr.okSs,p5,hb.okS]
 ·simp only [grdP,Pr.of_wt,Pr.wts]; omega
theorem core_ok (p:Prog) (hv:p.V = vsL) (hs:p.stacks = ssL) (hd:p.D = dsL) (hb:∀ d ∈ p.procs,BodyOk d.body) (hn:∀ n ∈ p.core.vars,isI64 n = true):CorOk p.core:=by
 have lv:p.core.vars.length = 3:=by
  have:p.V.length = 3:=by rw [hv]; rfl
  simpa [Prog.core,Prog.V] using this
 have lp:p.core.procs.length = 5:=by
  have:p.D.length = 5:=by rw [hd]; rfl
  simpa [Prog.core,Prog.D] using this
 have ep:p.core.procs = p.procs.map fun d=>lowP vsL ssL dsL d.body:=by simp only [Prog.core,hv,hs,hd]
 have es:p.core.stacks = 2:=by simp only [Prog.core,hs]; rfl
 have em:p.core.main = 0:=by simp only [Prog.core,hd]; rfl
 refine ⟨chk_of ⟨by rw [lv]; decide,by rw [es]; decide,by rw [lp]; decide,by rw [em,lp]; decide,?_⟩,?_,hn⟩
 ·rw [lv,lp,es,ep]
  intro t ht
  obtain ⟨d,hd,rfl⟩:=List.mem_map.1 ht
  have h:=hb d hd
  have hr:=h.right
  unfold rgt3 at hr
  rw [tmRight_pushed,Bool.and_eq_true,Bool.not_eq_true'] at hr
  exact ⟨by have:=h.size; omega,hr.2,hr.1⟩
 ·rw [ep]
  intro t ht
  obtain ⟨d,hd,rfl⟩:=List.mem_map.1 ht
  exact (hb d hd).ex
theorem sh_nums (v:Int):∀ n ∈ ((List.range 3).map (shV v)).map (·.2),isI64 n = true:=by
 intro n hn
 simp only [List.map_map,List.mem_map,Function.comp] at hn
 obtain ⟨i,hi,rfl⟩:=hn
 simp only [shV]
 have h1:=within_ge (IntKind.wrap .i64 (v.tdiv (i + 1:Nat))) 9 (by omega)
 have h2:=within_lt (IntKind.wrap .i64 (v.tdiv (i + 1:Nat))) 9 (by omega)
 exact i64_of (by omega) (by omega)
theorem dflt_ok:CorOk dfltC:=⟨by decide +kernel,by simp only [dfltC,List.mem_singleton]; rintro t rfl; decide +kernel,by decide +kernel⟩
theorem coreM_ok (v:Int) (bs:List Rw3) (h:FewB bs):CorOk (coreM v bs):=by
 unfold coreM
 split
 ·split
  ·exact dflt_ok
  ·exact core_ok _ (grV_names v bs) rfl (grD_names v bs) (grd_body h) (sh_nums v)
 ·exact core_ok _ (shV_names v bs) rfl (shD_names v bs) (fun d hd=>(sh_body h d hd).1) (sh_nums v)
theorem low_of (p:Prog) (hv:p.V = vsL) (hs:p.stacks = ssL) (hd:p.D = dsL) (hb:∀ d ∈ p.procs,BodyOk d.body):Am.Spec Tryz.prog 30 [.agg (encProg p)] (.tup [.agg (encC (if p.round then .zero else p.core)),.int .i64 (if p.round then 7 else 0)]):=by
 have lv:p.vars.length = 3:=by
  have:p.V.length = 3:=by rw [hv]; rfl
  simpa [Prog.V] using this
 have lp:p.procs.length = 5:=by
  have:p.D.length = 5:=by rw [hd]; rfl
  simpa [Prog.D] using this
 refine sp_low p (by omega) (by intro e; rw [e] at lv; simp at lv) (by rw [hs]; decide) lp (fun d h=>⟨(hb d h).okS,by have:=(hb d h).wt; omega⟩) (by rw [hv]; decide) (by rw [hs]; decide) (by rw [hd]; decide) ?_ (by rw [hd]; rfl)
 intro d h
 rw [hv,hs,hd]
 exact (hb d h).bad
def gCells (d:Dfn):List AV:=[.str d.name,.int .i64 12,.str ⟨#[]⟩,.str ⟨#[]⟩,.int .i64 0,.int .i64 0,.str ⟨#[]⟩,.nils,.slt [encPr payX,encPr d.body]]
def gRows (l:List Dfn) (i:Nat):List (List AV):=(l.take i).map gCells ++ (l.drop i).map encDf
theorem gRows_len (l:List Dfn) (i:Nat):(gRows l i).length = l.length:=by simp [gRows]; omega
theorem gRows_get (l:List Dfn) (i:Nat) (h:i < l.length):(gRows l i)[i]? = some (encDf l[i]):=by
 unfold gRows
 have hl:((l.take i).map gCells).length = i:=by rw [List.length_map,List.length_take,Nat.min_eq_left (Nat.le_of_lt h)]
 rw [List.getElem?_append_right (by rw [hl]; exact Nat.le_refl _),hl,Nat.sub_self,List.drop_eq_getElem_cons h]
 rfl
theorem gRows_set (l:List Dfn) (i:Nat) (h:i < l.length):(gRows l i).set i (gCells l[i]) = gRows l (i + 1):=by
 unfold gRows
 have hl:((l.take i).map gCells).length = i:=by rw [List.length_map,List.length_take,Nat.min_eq_left (Nat.le_of_lt h)]
 rw [List.set_append_right _ _ (by rw [hl]; exact Nat.le_refl _),hl,Nat.sub_self,List.drop_eq_getElem_cons h,List.take_succ_eq_append_getElem h]
 simp only [List.map_cons,List.set_cons_zero,List.map_append,List.map_nil,List.append_assoc,List.cons_append,List.nil_append]
theorem encPr_payX:encPr payX = [.int .i64 1,.str ⟨#[112,97,121]⟩,.str ⟨#[120]⟩,.int .i64 0,.int .i64 0,.str ⟨#[]⟩,.sl [],.sl []]:=by rw [encPr_eq]; rfl
mutual
theorem nrxL_encPr:∀ x:Pr,nrxL (encPr x) = encPr x
 | ⟨k,s,t,e,l⟩=>by simp [encPr,nrxL,nrx,nrxL_append,nrxL_encE e,nrxLL_encPrs l]
theorem nrxLL_encPrs:∀ l:List Pr,nrxLL (encPrs l) = encPrs l
 | []=>rfl
 | x :: l=>by simp [encPrs,nrxLL,nrxL_encPr x,nrxLL_encPrs l]
end
theorem nrx_g (d:Dfn):nrxL (gCells d) = encDf (grdD d):=by
 rw [encDf_eq]
 simp [gCells,nrxL,nrx,nrxLL,nrxL_encPr,grdD,grdP,Pr.of,Ex.zero]
theorem nrx_gs (ps:List Dfn):nrxLL (ps.map gCells) = ps.map (encDf ∘ grdD):=by
 rw [nrxLL_map,List.map_map]
 exact List.map_congr_left fun d _=>nrx_g d
theorem nrx_vr (pv:List (ByteArray × Int)):nrxLL (pv.map encVr) = pv.map encVr:=by
 rw [nrxLL_map,List.map_map]
 exact List.map_congr_left fun d _=>rfl
theorem nrx_B (l:List ByteArray):nrxLL (encB l) = encB l:=by
 unfold encB
 rw [nrxLL_map,List.map_map]
 exact List.map_congr_left fun d _=>rfl
theorem gs_closed (ps:List Dfn):closedLL (ps.map gCells) = true:=by
 induction ps with
 | nil=>rfl
 | cons d l ih=>simp only [List.map_cons,closedLL,ih,Bool.and_true]; simp [gCells,closedL,closed,closedLL]
theorem sp_cor (v s:Int) (bs:List Rw3) (h:FewB bs):Am.Spec Tryz.prog 13 [.agg (encSh v s bs)] (.agg (encC (coreM v bs))):=by
 have h1:=sp_shm v s bs
 have h2:=low_of (shProg v bs) (shV_names v bs) rfl (shD_names v bs) fun d hd=>(sh_body h d hd).1
 have h3:=hs_shm v s bs
 simp only [encSh] at h1 h3 ⊢
 unfold coreM
 by_cases hr:(shProg v bs).round = true
 ·simp only [if_pos hr] at h2 ⊢
  have h4:=low_of (grdProg v bs) (grV_names v bs) rfl (grD_names v bs) (grd_body h)
  have ez:encC .zero = [.sl [],.int .i64 0,.sl [],.int .i64 0]:=rfl
  have hlen:(shProg v bs).procs.length = 5:=by simp [shProg]
  have evars:(grdProg v bs).vars = (shProg v bs).vars:=rfl
  have eprocs:(grdProg v bs).procs = (shProg v bs).procs.map grdD:=rfl
  have est:(grdProg v bs).stacks = ssL:=rfl
  generalize (grdProg v bs).round = b at *
  have hp:encProg (grdProg v bs) = [.sl ((shProg v bs).vars.map encVr),.sl (encB ssL),.sl (((shProg v bs).procs.map grdD).map encDf)]:=by rw [encProg,evars,eprocs,est]
  rw [hp] at h4
  generalize (grdProg v bs).core = cc at *
  generalize (shProg v bs).procs = ps at *
  generalize (shProg v bs).vars = pv at *
  refine W13_S (by simp) ?_
  intro vs
  simp
  refine scall_pure h1 (by simp) (by simp) ?_
  simp
  refine scall_pure h2 (by simp) (by simp) ?_
  simp [-W13_l7]
  refine scall_heap [] [(70,28),(71,55)] h3 (by simp) (by simp) (by simp) ?_
  intro r l' VS' hrl
  obtain ⟨w,w2,rfl,rfl⟩:=hrl
  refine ⟨by simp,?_⟩
  simp [-W13_l7,encC,Cor.zero]
  refine sLoop_intro (fun i:Nat=>i ≤ 5) (fun i=>5 - i)
   (fun i=>[(2,.ref 2 (vs 2 + 1) (.p 0)),(3,.ref 3 (vs 3 + 1) (.p 0)),(5,.ref 5 (VS' 5 + 1) (.p 0)),(6,.int .i64 (i:Nat))])
   (fun i=>[(2,.box (vs 2 + 1) 29 [.nils,.int .i64 0,.nils,.int .i64 0]),(3,.box (vs 3 + 1) 29 [.sl [],.int .i64 0,.sl [],.int .i64 0]),(70,.row w 121 2 (pv.map encVr)),(71,.row w2 82 9 (gRows ps i)),(5,.box (VS' 5 + 1) 76 [.ref 70 w .o,.sl (encB ssL),.ref 71 w2 .o])])
   0 (by simp) (by simp) (by simp [gRows,encI]) ?_
  rintro L i vt hi hL
  have hgl:=gRows_len ps i
  by_cases hc:i < 5
  ·have hc':(i:Int) < 5:=by omega
   have hget:=gRows_get ps i (by omega)
   have hset:=gRows_set ps i (by omega)
   have hgi:i < (gRows ps i).length:=by omega
   have hget2:(gRows ps i)[i] = encDf (ps[i]'(by omega)):=by
    rw [List.getElem?_eq_getElem hgi] at hget
    exact Option.some.inj hget
   generalize ps[i]'(by omega) = D at *
   have htd:List.take 8 (encDf D).tail = encPr D.body:=by rw [encDf_eq,encPr_eq]; rfl
   have hsd:setL (encDf D) 1 [.int .i64 12,.str ⟨#[]⟩,.str ⟨#[]⟩,.int .i64 0,.int .i64 0,.str ⟨#[]⟩,.nils,.slt [[.int .i64 1,.str ⟨#[112,97,121]⟩,.str ⟨#[120]⟩,.int .i64 0,.int .i64 0,.str ⟨#[]⟩,.sl [],.sl []],encPr D.body]] = gCells D:=by
    rw [gCells,encPr_payX,encDf_eq]; rfl
   simp [hgl,hlen,hc,hc',hget,hget2,htd,hsd,hset]
   rw [wrap64 (by omega) (by omega)]
   exact hL _ _ _ (i + 1) hc (by omega) (by simp) (by simp)
  ·obtain rfl:i = 5:=by omega
   have hge:gRows ps 5 = ps.map gCells:=by
    unfold gRows
    rw [List.take_of_length_le (by omega),List.drop_of_length_le (by omega)]
    simp
   have hgc:=gs_closed ps
   have epay:[.int .i64 1,.int .i64 0,.int .i64 0,.str ⟨#[112,97,121]⟩,.int .i64 0,.int .i64 0,.str ⟨#[]⟩,.sl [],.sl []] = encT ⟨1,0,0,⟨#[112,97,121]⟩,.zero,[]⟩:=by rw [encT_eq]; rfl
   rw [hge]
   simp [hlen]
   cases b
   ·simp only [Bool.false_eq_true,if_false] at h4 ⊢
    refine scall_nrx h4 ?_ ?_ ?_
    ·simp [nrxL,nrx,nrx_gs,nrx_vr,nrx_B]
    ·simp [closedL,closed,hgc]
    ·simp [encC,retW_eq]
   ·simp only [if_true] at h4 ⊢
    refine scall_nrx h4 ?_ ?_ ?_
    ·simp [nrxL,nrx,nrx_gs,nrx_vr,nrx_B]
    ·simp [closedL,closed,hgc]
    ·simp [encC,Cor.zero,dfltC,encI,retW_eq]
     exact epay
 ·have hr:(shProg v bs).round = false:=by simpa using hr
  rw [hr] at h2 ⊢
  simp only [Bool.false_eq_true,if_false] at h2 ⊢
  refine W13_S (by simp) ?_
  intro vs
  simp
  refine scall_pure h1 (by simp) (by simp) ?_
  simp
  refine scall_pure h2 (by simp) (by simp) ?_
  simp [encC,retW_eq]
end Go.Proofs.YtnngddgaobhkiaaGreat
namespace Go.Proofs.YtnngddgaobhkiaaGreat
open Go Go.Am Go.RowKit
mutual
def keyT (key:Int):Tm → Bool
 | ⟨k,a,_,_,_,l⟩=>decide (k = 14 → a < key) && keyTs key l
def keyTs (key:Int):List Tm → Bool
 | []=>true
 | x :: l=>keyT key x && keyTs key l
end
structure DeedKey (f:Cfg) (d:Deed):Prop where
 t:keyT d.key d.t = true
 yes:d.is = true → d.ev.key = f.key ∧ d.key = f.key + 1
 no:d.is = false → d.key = f.key
structure DidKey (f:Cfg) (d:Did):Prop where
 t:keyT d.f.key d.f.t = true
 yes:d.is = true → d.ev.key = f.key ∧ d.f.key = f.key + 1
 no:d.is = false → d.f.key = f.key
end Go.Proofs.YtnngddgaobhkiaaGreat
namespace Go.Proofs.YtnngddgaobhkiaaGreat
open Go Go.Am Go.RowKit
def enS (t:Tm) (p:List Int) (w:Bool):List Stp3:=(t.pls p w).flatMap stepsAt
def enK (t:Tm) (p:List Int) (w:Bool) (n:Nat):List Stp3:=(Tm.plsL t.kind (t.l.take n) p w 0).flatMap stepsAt
end Go.Proofs.YtnngddgaobhkiaaGreat
namespace Go.Proofs.YtnngddgaobhkiaaGreat
open Go Go.Am Go.RowKit
def sameS (x y:List (List Tm)):Bool:=eqL (eqL Tm.same) x y
def sameF (f g:Cfg):Bool:=Tm.same f.t g.t && (decide (f.vars = g.vars) && (sameS f.st g.st && (decide (f.steps = g.steps) && decide (f.key = g.key))))
end Go.Proofs.YtnngddgaobhkiaaGreat
namespace Go.Proofs.YtnngddgaobhkiaaGreat
open Go Go.Am Go.RowKit
attribute [local simp] W18 W18_rs W18_k1 W18_b2
theorem sp_wit8 (a n:Int) (hn:0 < n) (h2:n < 1000):Am.Spec Tryz.prog 18 [.int .i64 a,.int .i64 n] (.int .i64 (within a n)):=by
 refine W18_S (by simp) ?_
 intro vs
 simp
 rw [if_neg (by omega)]
 simp
 have h1:=Int.tmod_lt_of_pos a hn
 have h3:-n < a.tmod n:=by have:=Int.lt_tmod_of_pos a hn; omega
 refine sIf_dec (fun h=>?_) (fun h=>?_)
 ·simp
  rw [wrap64 (by omega) (by omega)]
  simp [retW_eq,within,h]
 ·simp [retW_eq,within,h]
def rawK (k:Int) (l:AV):List AV:=[.int .i64 k,.int .i64 0,.int .i64 0,.str ⟨#[]⟩,.int .i64 0,.int .i64 0,.str ⟨#[]⟩,.nils,l]
def rawPay:List AV:=[.int .i64 1,.int .i64 (-1),.int .i64 0,.str ⟨#[112,97,121]⟩,.int .i64 0,.int .i64 0,.str ⟨#[]⟩,.nils,.nils]
def exTm:Nat → Tm
 | 0=>.of 8 []
 | i + 1=>if i % 2 = 1 then .of 11 [.of 12 [exTm i,tPay],tPay] else .of 12 [exTm i,tPay]
def exR:Nat → List AV
 | 0=>rawK 8 .nils
 | i + 1=>if i % 2 = 1 then rawK 11 (.slt [encT (.of 12 [exTm i,tPay]),encT tPay]) else rawK 12 (.slt [encT (exTm i),encT tPay])
def exF (block behind:Bool) (d:Nat):Tm:=
 let t:=if block then .of 7 [exTm d] else exTm d
 if behind then .of 12 [t,tPay] else t
def cOne (t:Tm):Cor:=⟨[],0,[t],0⟩
structure ExitOk (t w:Tm):Prop where
 some:∃ i,∃ h:i < (begM (cOne t)).t.enabled.length,((begM (cOne t)).t.enabled[i]).1 = 8
 all:∀ i,∀ h:i < (begM (cOne t)).t.enabled.length,((begM (cOne t)).t.enabled[i]).1 = 8 → (doM [t] (begM (cOne t)) i).e = 0 ∧ (doM [t] (begM (cOne t)) i).is = false ∧ (doM [t] (begM (cOne t)) i).f.t = w
def exitB (t w:Tm):Bool:=chkM (cOne t) && (allE t && ((begM (cOne t)).t.enabled.any (fun s=>decide (s.1 = 8)) &&
 (List.range (begM (cOne t)).t.enabled.length).all fun i=>!(match (begM (cOne t)).t.enabled[i]? with | some s=>decide (s.1 = 8) | none=>false) || (decide ((doM [t] (begM (cOne t)) i).e = 0) && (!(doM [t] (begM (cOne t)) i).is && Tm.same (doM [t] (begM (cOne t)) i).f.t w))))
end Go.Proofs.YtnngddgaobhkiaaGreat
