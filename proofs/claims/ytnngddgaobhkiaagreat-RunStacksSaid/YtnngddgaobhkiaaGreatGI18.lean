import Derived.Test.YtnngddgaobhkiaaGreatGH15
import Derived.Test.YtnngddgaobhkiaaGreatGH17
import Derived.Test.YtnngddgaobhkiaaGreatGE14
import Derived.Test.YtnngddgaobhkiaaGreatGI16
set_option linter.unusedVariables false
set_option linter.unusedSimpArgs false
namespace Go.Proofs.YtnngddgaobhkiaaGreat
open Go Go.Am Go.RowKit
/-! ### Stacks, as the document says -/
def cpI (s:List (List Tm)) (a:Int) (row:List Tm):List (List Tm):=if 0 ≤ a then s.set a.toNat row else s
end Go.Proofs.YtnngddgaobhkiaaGreat
set_option linter.unusedVariables false
set_option linter.unusedSimpArgs false
namespace Go.Proofs.YtnngddgaobhkiaaGreat
open Go Go.Am Go.RowKit
attribute [local simp] W56 W56_rs W56_b1 W56_b3 W45 W45_rs W45_b1 W45_b4 W45_b5 W45_b7 W45_b10 W45_k2 W45_l9 W20 W20_rs W20_b1 W20_b3 W20_b5 W20_k2 W15 W15_rs
/-! ### Chapter 8 by the document: places -/
theorem path_at (t:Tm) (p:List Int) (hp:OnPath t p) (i:Nat) (h:i < p.length):∃ j:Nat,p[i] = j ∧ ∃ hj:j < (atT t (p.take i)).l.length,OnPath (atT t (p.take i)) (p.drop i) ∧ atT t (p.take (i + 1)) = (atT t (p.take i)).l[j]:=by
 induction hp generalizing i with
 | nil t=>simp at h
 | cons t k hk q hq ih=>
  cases i with
  | zero=>
   refine ⟨k,rfl,hk,.cons t k hk q hq,?_⟩
   simp only [List.take_succ_cons,List.take_zero]
   rw [atT_cons t k hk]
   rfl
  | succ i=>
   obtain ⟨j,e,hj,ho,ha⟩:=ih i (by simpa using h)
   refine ⟨j,by simpa using e,?_⟩
   simp only [List.take_succ_cons,List.drop_succ_cons,atT_cons t k hk]
   exact ⟨hj,ho,ha⟩
theorem sp_put8:∀ (p:List Int) (t x:Tm),OnPath t p → p.length ≤ 100000000 → t.lok → Am.Spec Tryz.prog 56 [.agg (encT t),.sl (encI p),.agg (encT x)] (.agg (encT (putT t p x)))
 | [],t,x,hp,hl,hk=>by
  refine W56_S (by simp) ?_
  intro vs
  simp [encI,putT,retW_eq]
 | a :: q,t,x,hp,hl,hk=>by
  obtain ⟨j,rfl,hj,hq⟩:=onPath_cons hp
  have ih:=sp_put8 q t.l[j] x hq (by simp at hl; omega) (Tm.lok_mem hk (List.getElem_mem hj))
  have hlen:=Tm.lok_len hk
  have hn:¬ ((q.length:Int) + 1 = 0):=by omega
  have hj':(j:Int) < t.l.length:=by omega
  have hsl:slcV 1 (encI ((j:Int) :: q)) (some (.i64,1)) none = some (.sl (encI q)):=by
   rw [slcV_from 1 _ .i64 1 1 rfl (by simp) (fun r hr=>(encI_cell _ r hr).1)]
   simp [encI]
  have hset:∀ y:AV,setL (encT t) 8 [y] = [.int .i64 t.kind,.int .i64 t.a,.int .i64 t.b,.str t.name,.int .i64 t.e.kind,.int .i64 t.e.n,.str t.e.name,.sl (t.e.l.map encE),y]:=fun y=>by rw [encT_eq]; rfl
  have hi0:ixRows (encI ((j:Int) :: q)) 0 1 = some (.elt [.int .i64 j] 0):=encI_at _ 0 (by simp) j rfl
  rw [putT_cons t j hj]
  generalize putT t.l[j] q x = y at *
  refine W56_S (by simp) ?_
  intro vs
  simp [hn]
  rw [decide_eq_true (by omega)]
  simp [hset,hi0,hsl,hj,hj']
  refine scall0_pure ih (by simp) (by simp) ?_
  simp [hj,hj',hset,retW_eq]
  rw [← List.map_set]
  exact ⟨closedLL_sl_map encT encT_closed _,by simp only [Tm.withL]; rw [encT_mk,encE_eq]; rfl⟩
/-! ### .. what is told -/
theorem waitP_scan (key:Int) (t:Tm) (ho:okN t = true) (hk:t.kind ≠ 14):waitP key t = waitPs key (t.l.take (aN t)) 0:=by
 rw [waitP_eq,if_neg hk]
 by_cases k12:t.kind = 12
 ·rw [if_pos k12,show aN t = 1 from by unfold aN; rw [if_pos (.inl k12)]]
 ·rw [if_neg k12]
  by_cases k11:t.kind = 11
  ·obtain ⟨x,y,hl,-⟩:=okN_two ho (.inr k11)
   rw [if_pos (.inl k11),show aN t = 2 from by unfold aN; rw [if_neg (by omega),if_pos k11],hl]; rfl
  ·by_cases k7:t.kind = 7
   ·obtain ⟨x,hl,-⟩:=okN_one ho k7
    rw [if_pos (.inr k7),show aN t = 1 from by unfold aN; rw [if_pos (.inr k7)],hl]; rfl
   ·rw [if_neg (by omega),show aN t = 0 from by unfold aN; rw [if_neg (by omega),if_neg k11]]; rfl
def toldX (key:Int) (t:Tm):Tm:=match waitP key t with
 | some p=>putT t p .skip
 | none=>if t.kind = 14 then .skip else t
def toldW (key:Int) (t:Tm):Tm:=match waitP key t with
 | some p=>atT t p
 | none=>if t.kind = 14 then t else .skip
theorem sp_told (key:Int) (t:Tm) (ho:okN t = true) (hw:t.wt ≤ 100000000):Am.Spec Tryz.prog 45 [.agg (encT t),.int .i64 key] (.tup [.agg (encT (toldX key t)),.agg (encT (toldW key t)),.bool (waitP key t).isSome]):=by
 have ih:∀ (i:Nat) (hi:i < t.l.length),Am.Spec Tryz.prog 45 [.agg (encT t.l[i]),.int .i64 key] (.tup [.agg (encT (toldX key t.l[i])),.agg (encT (toldW key t.l[i])),.bool (waitP key t.l[i]).isSome]):=fun i hi=>
  sp_told key t.l[i] (okN_mem ho _ (List.getElem_mem hi)) (by have:=Tm.wts_mem (List.getElem_mem hi); have:=t.wt_eq; omega)
 have esk:encT .skip = [.int .i64 0,.int .i64 0,.int .i64 0,.str ⟨#[]⟩,.int .i64 0,.int .i64 0,.str ⟨#[]⟩,.sl [],.sl []]:=by rw [encT_eq]; rfl
 by_cases k14:t.kind = 14
 ·have e:=waitP_eq key t
  rw [if_pos k14] at e
  by_cases ha:t.a = key
  ·rw [if_pos ha] at e
   have e1:toldX key t = .skip:=by unfold toldX; rw [e]; rfl
   have e2:toldW key t = t:=by unfold toldW; rw [e]; rfl
   rw [e1,e2,e,esk]
   refine W45_S (by simp) ?_
   intro vs
   simp [k14,ha,retW_eq]
  ·rw [if_neg ha] at e
   have e1:toldX key t = .skip:=by unfold toldX; rw [e]; simp [k14]
   have e2:toldW key t = t:=by unfold toldW; rw [e]; simp [k14]
   rw [e1,e2,e,esk]
   refine W45_S (by simp) ?_
   intro vs
   simp [k14,ha,retW_eq]
 ·have e:=waitP_scan key t ho k14
  have hac:=sp_a5 t
  have hale:=aN_le t ho
  have hlen:(t.l.take (aN t)).length = aN t:=by rw [List.length_take]; omega
  have hget:∀ i,∀ h:i < aN t,(t.l.take (aN t))[i]'(by omega) = t.l[i]'(by omega):=fun i h=>by simp
  obtain ⟨r,hr⟩:∃ r,(.tup [.agg (encT (toldX key t)),.agg (encT (toldW key t)),.bool (waitP key t).isSome]:AV) = r:=⟨_,rfl⟩
  rw [hr]
  refine W45_S (by simp) ?_
  intro vs
  simp [-W45_l9,k14]
  refine sLoop_intro (fun i:Nat=>i ≤ aN t ∧ waitPs key (t.l.take (aN t)) 0 = waitPs key ((t.l.take (aN t)).drop i) i) (fun i=>aN t - i)
   (fun i=>[(1,.int .i64 key),(2,.ref 2 (vs 2 + 1) (.p 0)),(4,.ref 4 (vs 4 + 1) (.p 0)),(5,.ref 5 (vs 5 + 1) (.p 0)),(7,.int .i64 (i:Nat))])
   (fun _=>[(2,.box (vs 2 + 1) 35 (encT t)),(4,.box (vs 4 + 1) 35 [.int .i64 0,.int .i64 0,.int .i64 0,.str ⟨#[]⟩,.int .i64 0,.int .i64 0,.str ⟨#[]⟩,.nils,.nils]),(5,.box (vs 5 + 1) 35 [.int .i64 0,.int .i64 0,.int .i64 0,.str ⟨#[]⟩,.int .i64 0,.int .i64 0,.str ⟨#[]⟩,.nils,.nils])])
   0 (by simp) (by simp) (by simp) ?_
  rintro L i vt ⟨hi,hsc⟩ hL
  by_cases hc:i < aN t
  ·have hc':(i:Int) < aN t:=by omega
   have hil:i < t.l.length:=by omega
   have hil':(i:Int) < t.l.length:=by omega
   have hd:=waitPs_drop key (t.l.take (aN t)) i (by omega)
   rw [hget i hc] at hd
   have hx:=ih i hil
   cases hwi:waitP key t.l[i] with
   | some q=>
    rw [hwi] at hd hx
    simp only at hd
    have ew:waitP key t = some ((i:Int) :: q):=by rw [e,hsc,hd]
    have e1:toldX key t = putT t [(i:Int)] (toldX key t.l[i]):=by
     unfold toldX
     rw [ew,hwi]
     simp only
     rw [putT_cons t i hil,putT_cons t i hil]
     rfl
    have e2:toldW key t = toldW key t.l[i]:=by
     unfold toldW
     rw [ew,hwi]
     exact atT_cons t i hil q
    have hp:=sp_put8 [(i:Int)] t (toldX key t.l[i]) (.cons t i hil [] (.nil _)) (by simp) (Tm.lok_of_wt t (by omega))
    rw [← e1] at hp
    rw [e2,ew] at hr
    subst hr
    generalize toldX key t.l[i] = X at *
    generalize toldW key t.l[i] = Wt at *
    generalize toldX key t = Y at *
    simp only [Option.isSome_some] at hx
    simp
    refine scall_pure hac (by simp) (by simp) ?_
    simp [hc,hil]
    refine scall_pure hx (by simp) (by simp) ?_
    simp
    refine scall0_pure hp (by simp [encI]) (by simp) ?_
    simp [retW_eq]
   | none=>
    rw [hwi] at hd hx
    simp only at hd
    simp only [Option.isSome_none] at hx
    generalize toldX key t.l[i] = X at *
    generalize toldW key t.l[i] = Wt at *
    simp
    refine scall_pure hac (by simp) (by simp) ?_
    simp [hc,hil]
    refine scall_pure hx (by simp) (by simp) ?_
    simp
    rw [wrap64 (by omega) (by omega)]
    exact hL _ _ _ (i + 1) ⟨hc,by rw [hsc,hd]⟩ (by omega) (by simp) (by simp)
  ·obtain rfl:i = aN t:=by omega
   have ew:waitP key t = none:=by rw [e,hsc,List.drop_of_length_le (by omega)]; rfl
   have e1:toldX key t = t:=by unfold toldX; rw [ew]; simp [k14]
   have e2:toldW key t = .skip:=by unfold toldW; rw [ew]; simp [k14]
   rw [e1,e2,ew,esk] at hr
   subst hr
   simp
   refine scall_pure hac (by simp) (by simp) ?_
   simp [retW_eq]
termination_by SizeOf.sizeOf t
decreasing_by exact Tm.lt_of_mem (List.getElem_mem hi)
theorem sp_tel8 {vn sn:Int} {ps:List Tm} {f:Cfg} (hf:OkF vn sn ps f) (hvn:vn ≤ 1000) (key value:Int):Am.Spec Tryz.prog 20 [.agg (encF f),.int .i64 key,.int .i64 value] (toldR (tellM f key value)):=by
 have hw:=hf.enbWt
 have h1:=sp_told key f.t hw.2 hw.1
 have hvl:=hf.vlen hvn
 rw [tellM_eq hf.norm]
 cases e:waitP key f.t with
 | none=>
  rw [e] at h1
  simp only [Option.isSome_none] at h1
  generalize toldX key f.t = X at *
  generalize toldW key f.t = Wt at *
  simp only [toldR,encF_zero,encEv_zero]
  refine W20_S (by simp) ?_
  intro vs
  simp
  refine scall_pure h1 (by simp) (by simp) ?_
  simp [retW_eq]
 | some p=>
  have ex:toldX key f.t = putT f.t p .skip:=by unfold toldX; rw [e]
  have ew:toldW key f.t = atT f.t p:=by unfold toldW; rw [e]
  rw [e,ex,ew] at h1
  simp only [Option.isSome_some] at h1
  have hp:=tell_put hf e
  have hb:=tell_b hf e
  have hn:=sp_n5 (putT f.t p .skip) (right_okN _ _ _ _ _ hp.1)
  have e9:=setF_9L f 26
  have et:=fun v n=>setFL_t f 26 v n
  simp only [toldR]
  generalize (putT f.t p .skip).norm = n3 at *
  generalize putT f.t p .skip = n2 at *
  generalize atT f.t p = x at *
  by_cases h0:0 ≤ x.b
  ·have hlt:x.b.toNat < f.vars.length:=by omega
   have hb1:=hb.1
   have eset:(encI f.vars).set x.b.toNat [.int .i64 value] = encI (f.vars.set x.b.toNat value):=by simp [encI,List.map_set]
   refine W20_S (by simp) ?_
   intro vs
   simp
   refine scall_pure h1 (by simp) (by simp) ?_
   simp
   rw [decide_eq_true (by omega)]
   simp [e9]
   refine scall_pure hn (by simp) (by simp) ?_
   simp [et,h0,hb1,eset,retW_eq]
   rw [fl_ret _ _ 26 _ 3 (f.vars.set x.b.toNat value) (by simp)]
   exact ⟨by simp,by first | rfl | rw [if_pos h0],rfl⟩
  ·refine W20_S (by simp) ?_
   intro vs
   simp
   refine scall_pure h1 (by simp) (by simp) ?_
   simp
   rw [decide_eq_true (by omega)]
   simp [e9]
   refine scall_pure hn (by simp) (by simp) ?_
   simp [et,h0,retW_eq]
   rw [fl_ret _ _ 26 _ 3 f.vars (by simp)]
   exact ⟨by simp,by first | rfl | rw [if_neg h0],rfl⟩
theorem nrm_rep (n:Nat):nrmLL (List.replicate n [.nils]) = List.replicate n [.sl []]:=by
 rw [nrmLL_map,List.map_replicate]; rfl
theorem closed_rep:∀ n:Nat,closedLL (List.replicate n [.nils]) = true
 | 0=>rfl
 | n + 1=>by rw [List.replicate_succ,closedLL,closed_rep n]; rfl
theorem sp_beg8 {c:Cor} (h:CorOk c):Am.Spec Tryz.prog 15 [.agg (encC c)] (.agg (encF (begM c))):=by
 obtain ⟨m,hm,e,eg⟩:=main_get h
 have hk:=chk_ok h.chk
 have ha:=hk.all _ (List.getElem_mem hm)
 have h1:=sp_n5 c.procs[m] (right_okN _ _ _ _ _ ha.2.2)
 obtain ⟨n,hn⟩:∃ n:Nat,c.stacks = n:=⟨c.stacks.toNat,by have:=hk.st; omega⟩
 have hst:=hk.st
 have hvl:=hk.vars
 have hix:ixRows (c.procs.map encT) (m:Int) 9 = some (.elt (encT c.procs[m]) 0):=by
  rw [ixRows_nat]; simp [List.getElem?_eq_getElem hm]
 have eb:begM c = ⟨c.procs[m].norm,c.vars,List.replicate n [],0,0⟩:=by unfold begM; rw [eg,hn]; rfl
 rw [eb]
 have hr:encF ⟨c.procs[m].norm,c.vars,List.replicate n [],0,0⟩ = encT c.procs[m].norm ++ [.sl (encI c.vars),.sl (List.replicate n [.sl []]),.int .i64 0,.int .i64 0]:=by
  rw [encF,show encSt (List.replicate n []) = List.replicate n [.sl []] from by simp [encSt]]
 rw [hr]
 generalize c.procs[m].norm = x at *
 refine Spec.resN (r:=.agg (encT x ++ [.sl (encI c.vars),.sl (List.replicate n [.nils]),.int .i64 0,.int .i64 0])) ?_ (by simp [nrm,nrmL_append,nrmL,nrm_rep,nrmLL_map,encI])
 refine W15_S (by simp) ?_
 intro vs
 simp [e,hn,hix]
 refine scall0_pure h1 (by simp) (by simp) ?_
 simp [e,hn,hix]
 rw [decide_eq_true (by omega)]
 simp [e,hn,hix]
 rw [show (decide (24 * n ≤ 281474976710656) && decide (n ≤ maxLen)) = true by rw [decide_eq_true (by omega),decide_eq_true (by unfold maxLen; omega)]; rfl]
 simp [setB9,retW_eq]
 exact closed_rep n
end Go.Proofs.YtnngddgaobhkiaaGreat
set_option linter.unusedVariables false
set_option linter.unusedSimpArgs false
namespace Go.Proofs.YtnngddgaobhkiaaGreat
open Go Go.Am Go.RowKit
/-! ### A step, as the document says -/
def nilT:List AV:=[.int .i64 0,.int .i64 0,.int .i64 0,.str ⟨#[]⟩,.int .i64 0,.int .i64 0,.str ⟨#[]⟩,.nils,.nils]
/-- What stands in the place of a step over stacks, as it is told. -/
def stkT (f:Cfg) (x:Tm):List AV:=if x.kind = 4 then encT (stRev (stAt f.st x.a)) else nilT
/-- What stands in a step's place, as it is told. -/
def oneT (ps:List Tm) (f:Cfg) (x:Tm) (alt:Int):List AV:=
 if x.kind = 1 then [.int .i64 14,.int .i64 f.key,.int .i64 x.a,.str x.name,.int .i64 0,.int .i64 0,.str ⟨#[]⟩,.nils,.nils]
 else if x.kind = 4 ∨ x.kind = 9 ∨ x.kind = 10 ∨ x.kind = 13 then encT (deed ps f x alt).t else nilT
def oneR (ps:List Tm) (f:Cfg) (x:Tm) (alt:Int):List AV:=oneT ps f x alt ++ (encEv (deed ps f x alt).ev ++ [.bool (deed ps f x alt).is,.int .i64 (deed ps f x alt).e])
end Go.Proofs.YtnngddgaobhkiaaGreat
