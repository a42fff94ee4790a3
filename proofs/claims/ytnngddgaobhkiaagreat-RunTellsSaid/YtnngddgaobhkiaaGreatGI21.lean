import Derived.Test.YtnngddgaobhkiaaGreatGI19
import Derived.Test.YtnngddgaobhkiaaGreatGH18
import Derived.Test.YtnngddgaobhkiaaGreatGJ20
set_option linter.unusedVariables false
set_option linter.unusedSimpArgs false
namespace Go.Proofs.YtnngddgaobhkiaaGreat
open Go Go.Am Go.RowKit
attribute [local simp] W22 W22_rs W22_b1 W22_b2 W22_b3 W22_b4 W22_b5 W22_b12 W22_b13 W22_b16 W22_b17 W22_k10
theorem take_C (c:Cor):(encC c).take 4 = encC c:=rfl
theorem closed_C (c:Cor):closedL (encC c) = true:=by simp [encC,closed]
theorem occ_C (c:Cor):occL (encC c) = []:=occL_closed (closed_C c)
theorem oneT_len (ps:List Tm) (f:Cfg) (x:Tm) (alt:Int):(oneT ps f x alt).length = 9:=(oneT_tells ps f x alt).len
theorem oneT_closed (ps:List Tm) (f:Cfg) (x:Tm) (alt:Int):closedL (oneT ps f x alt) = true:=by
 unfold oneT
 split
 ·rfl
 ·split
  ·simp
  ·rfl
theorem oneR_closed (ps:List Tm) (f:Cfg) (x:Tm) (alt:Int):closedL (oneR ps f x alt) = true:=by
 have h:=oneT_closed ps f x alt
 unfold oneR
 generalize oneT ps f x alt = l at *
 generalize deed ps f x alt = d at *
 induction l with
 | nil=>rfl
 | cons c l ih=>
  simp only [List.cons_append,closedL,Bool.and_eq_true] at *
  exact ⟨h.1,ih h.2⟩
theorem oneR_len (ps:List Tm) (f:Cfg) (x:Tm) (alt:Int):(oneR ps f x alt).length = 14:=by
 simp [oneR,oneT_len]
theorem oneR_ok (ps:List Tm) (f:Cfg) (x:Tm) (alt:Int):(oneR ps f x alt).all AV.cell = true:=by
 rw [oneR,List.all_append,(oneT_tells ps f x alt).ok]; rfl
def dR (cs:List AV) (ev:Ev) (is:Bool) (e:Int):List AV:=cs ++ (encEv ev ++ [.bool is,.int .i64 e])
theorem rd_dR (cs:List AV) (ev:Ev) (is:Bool) (e:Int) (h:cs.length = 9):readA (dR cs ev is e) 0 9 true = some (.agg cs) ∧ readA (dR cs ev is e) 9 3 true = some (.agg (encEv ev)) ∧ readA (dR cs ev is e) 12 1 false = some (.bool is) ∧ readA (dR cs ev is e) 13 1 false = some (.int .i64 e):=by
 obtain ⟨c0,c1,c2,c3,c4,c5,c6,c7,c8,rfl⟩:∃ c0 c1 c2 c3 c4 c5 c6 c7 c8,cs = [c0,c1,c2,c3,c4,c5,c6,c7,c8]:=by
  rcases cs with _ | ⟨c0,_ | ⟨c1,_ | ⟨c2,_ | ⟨c3,_ | ⟨c4,_ | ⟨c5,_ | ⟨c6,_ | ⟨c7,_ | ⟨c8,_ | ⟨c9,l⟩⟩⟩⟩⟩⟩⟩⟩⟩⟩ <;> first | exact ⟨_,_,_,_,_,_,_,_,_,rfl⟩ | simp at h
 exact ⟨rfl,rfl,rfl,rfl⟩
def d8H (c:Cor) (f g:Cfg) (vars:List Int) (B:List AV) (x:Tm) (t:Tm) (v3 v4 v6 v7 v10 v12 v14 v15 v37:Nat):List (Nat × Blk):=
 [(3,.box v3 29 (encC c)),(4,.box v4 38 (encF f)),(6,.box v6 38 [.int .i64 0,.int .i64 0,.int .i64 0,.str ⟨#[]⟩,.int .i64 0,.int .i64 0,.str ⟨#[]⟩,.nils,.nils,.nils,.nils,.int .i64 0,.int .i64 0]),
  (7,.box v7 44 [.str ⟨#[]⟩,.int .i64 0,.int .i64 0]),(10,.box v10 35 (encT t)),(12,.box v12 38 (encFL g 37 v37)),(37,.row v37 3 1 (encI vars)),
  (14,.box v14 35 (encT x)),(15,.box v15 107 B)]
theorem do8_k10 (c:Cor) (f g:Cfg) (vars:List Int) (ev:Ev) (is:Bool) (x y:Tm) (cs:List AV) (p:List Int) (v3 v4 v6 v7 v10 v12 v14 v15 v37:Nat) (hT:TellsT cs y)
  (hon:OnPath f.t p) (hpl:p.length ≤ 100000000) (hlok:f.t.lok) (hokn:okN (putT f.t p y) = true) (hsn:(putT f.t p y).norm.size ≤ 1000000) (hss:stSize g.st ≤ 1000000)
  (hsl:g.st.length ≤ 137438953472) (hsk:∀ l ∈ g.st,l.length ≤ 137438953472) (hst:0 ≤ f.steps ∧ f.steps ≤ 5000) (r:AV)
  (hr:r = didR (if 2000 < (putT f.t p y).norm.size + stSize g.st then .no 11 else ⟨⟨(putT f.t p y).norm,vars,g.st,f.steps + 1,g.key⟩,ev,is,0⟩))
  (T:List (Nat × AV)) (VS:Nat → Nat) (h4:Am.look T 4 = .ref 4 v4 (.p 0)) (h6:Am.look T 6 = .ref 6 v6 (.p 0)) (h7:Am.look T 7 = .ref 7 v7 (.p 0)) (h10:Am.look T 10 = .ref 10 v10 (.p 0)) (h12:Am.look T 12 = .ref 12 v12 (.p 0)) (h13:Am.look T 13 = .sl (encI p)) (h15:Am.look T 15 = .ref 15 v15 (.p 0)) :
  W22_k10 (retK Tryz.prog [.cell 6 38,.cell 7 44,.tmp 8,.tmp 9] r) ⟨Am.look T,hls (d8H c f g vars (dR cs ev is 0) x f.t v3 v4 v6 v7 v10 v12 v14 v15 v37) VS,noG⟩:=by
 have h1:=sp_put8 p f.t y hon hpl hlok
 have h2:=sp_n5 (putT f.t p y) hokn
 have h3:=sp_r5z (putT f.t p y).norm (by omega)
 have h5:=sp_sz6 g.st hss hsl hsk
 obtain ⟨r0,r9,r12,-⟩:=rd_dR cs ev is 0 hT.len
 have hpu:=hT.pur
 have hfz:=hT.frz
 have hnn:=stSize_nn g.st
 have hpos:=(putT f.t p y).norm.size_pos
 have e1:=setFL_t g 37 v37 (putT f.t p y).norm
 generalize (putT f.t p y).norm = n at *
 generalize putT f.t p y = m at *
 have e2:setL (encFL { g with t:=n } 37 v37) 11 [.int .i64 (f.steps + 1)] = encFL { g with t:=n,steps:=f.steps + 1 } 37 v37:=by rw [encFL_eq,encFL_eq]; rfl
 have w1:IntKind.wrap .i64 (f.steps + 1) = f.steps + 1:=wrap64 (by omega) (by omega)
 have w2:IntKind.wrap .i64 (n.size + stSize g.st) = n.size + stSize g.st:=wrap64 (by omega) (by omega)
 have hrdE:=rd_Ev ev
 by_cases h:2000 < n.size + stSize g.st
 ·rw [if_pos h] at hr
  subst hr
  simp only [d8H,didR,no_f,no_ev,no_is,no_e,encF_zero,encEv_zero]
  simp [h4,h6,h7,h10,h12,h13,h15,r0,r9,r12,hpu,hfz]
  refine scall_pure h1 (by simp [hpu,hfz]) (by simp [hpu,hfz]) ?_
  simp [hfz]
  refine scall_pure h2 (by simp) (by simp) ?_
  simp [h4,h6,h12,e1,e2,w1]
  refine scall0_pure h3 (by simp) (by simp) ?_
  simp [h6,h12]
  refine scall0_pure h5 (by simp) (by simp) ?_
  simp [h6,h7,h12,h15,w2,h,retW_eq]
 ·rw [if_neg h] at hr
  subst hr
  have h':¬ 2000 < n.size + stSize g.st:=h
  simp only [d8H]
  simp [h4,h6,h7,h10,h12,h13,h15,r0,r9,r12,hpu,hfz]
  refine scall_pure h1 (by simp [hpu,hfz]) (by simp [hpu,hfz]) ?_
  simp [hfz]
  refine scall_pure h2 (by simp) (by simp) ?_
  simp [h4,h6,h12,e1,e2,w1]
  refine scall0_pure h3 (by simp) (by simp) ?_
  simp [h6,h12]
  refine scall0_pure h5 (by simp) (by simp) ?_
  simp [h6,h7,h12,h15,w2,h',r9,r12,encEv,retW_eq]
  rw [fl_ret _ _ 37 v37 3 vars (by simp)]
  exact ⟨by simp,rfl⟩
theorem oneR_dR (ps:List Tm) (f:Cfg) (x:Tm) (alt:Int):oneR ps f x alt = dR (oneT ps f x alt) (deed ps f x alt).ev (deed ps f x alt).is (deed ps f x alt).e:=rfl
theorem do8_fin (c:Cor) (f:Cfg) {vn sn:Int} (he:Env8 vn sn c.procs) (hf:OkF vn sn c.procs f) (hvn:vn ≤ 1000) (hsn:sn ≤ 1000) (st:Stp3) (hs:st ∈ f.t.enabled) (he0:(deed c.procs f (atT f.t st.2.1) st.2.2).e = 0)
  (v3 v4 v6 v7 v10 v12 v14 v15 v37:Nat) (r:AV)
  (hr:r = didR (if 2000 < (putT f.t (toP f.t st) (deed c.procs f (atT f.t st.2.1) st.2.2).t).norm.size + stSize (deed c.procs f (atT f.t st.2.1) st.2.2).st then .no 11
   else ⟨⟨(putT f.t (toP f.t st) (deed c.procs f (atT f.t st.2.1) st.2.2).t).norm,(deed c.procs f (atT f.t st.2.1) st.2.2).vars,(deed c.procs f (atT f.t st.2.1) st.2.2).st,f.steps + 1,(deed c.procs f (atT f.t st.2.1) st.2.2).key⟩,(deed c.procs f (atT f.t st.2.1) st.2.2).ev,(deed c.procs f (atT f.t st.2.1) st.2.2).is,0⟩))
  (T:List (Nat × AV)) (VS:Nat → Nat) (h4:Am.look T 4 = .ref 4 v4 (.p 0)) (h6:Am.look T 6 = .ref 6 v6 (.p 0)) (h7:Am.look T 7 = .ref 7 v7 (.p 0)) (h10:Am.look T 10 = .ref 10 v10 (.p 0)) (h12:Am.look T 12 = .ref 12 v12 (.p 0)) (h13:Am.look T 13 = .sl (encI (toP f.t st))) (h15:Am.look T 15 = .ref 15 v15 (.p 0)) :
  W22_k10 (retK Tryz.prog [.cell 6 38,.cell 7 44,.tmp 8,.tmp 9] r) ⟨Am.look T,hls (d8H c f { f with st:=(deed c.procs f (atT f.t st.2.1) st.2.2).st,key:=(deed c.procs f (atT f.t st.2.1) st.2.2).key } (deed c.procs f (atT f.t st.2.1) st.2.2).vars (oneR c.procs f (atT f.t st.2.1) st.2.2) (atT f.t st.2.1) f.t v3 v4 v6 v7 v10 v12 v14 v15 v37) VS,noG⟩:=by
 have hdo:=step_deed he hf hs
 have hpo:=put_ok he hf hs
 have hso:=step_ok f.t st (by rw [← enabled_eq hf.norm]; exact hs)
 have hact:=toP_act hso.act
 have hon:=actP_on hact
 have hwt:=hf.wt
 have hok:=right_okN _ _ _ _ _ hpo.t
 have hns:=norm_size _ hok
 have hps:=hpo.size
 have hlen:=onP_len hon
 have h1:=hdo.stsz
 have h2:=hdo.st
 have hT:=oneT_tells c.procs f (atT f.t st.2.1) st.2.2
 rw [oneR_dR]
 generalize oneT c.procs f (atT f.t st.2.1) st.2.2 = cs at *
 generalize deed c.procs f (atT f.t st.2.1) st.2.2 = d at *
 generalize toP f.t st = p at *
 generalize atT f.t st.2.1 = x at *
 rw [he0]
 have key:=do8_k10 c f { f with st:=d.st,key:=d.key } d.vars d.ev d.is x d.t cs p v3 v4 v6 v7 v10 v12 v14 v15 v37 hT hon (by omega) (Tm.lok_of_wt _ (by omega)) hok (by omega) (by simp only; omega) (by simp only; omega)
  (fun l hl=>by
   have:=stSize_mem hl
   have:=sizes_len l
   simp only at *
   omega) hf.steps r hr T VS h4 h6 h7 h10 h12 h13 h15
 exact key
theorem outT_le (t:Tm) (p:List Int) (hp:OnPath t p):outT t p 0 0 ≤ p.length:=by
 have key:∀ i:Nat,i ≤ p.length → outT t (p.take i) 0 0 ≤ i:=fun i=>by
  induction i with
  | zero=>intro _; simp [outT]
  | succ i ih=>
   intro h
   have:=ih (by omega)
   rw [outT_snoc t p hp i (by omega)]
   split <;> omega
 have:=key p.length (Nat.le_refl _)
 rwa [List.take_length] at this
theorem sp_do8 (c:Cor) (f:Cfg) (pick:Int) {vn sn:Int} (he:Env8 vn sn c.procs) (hf:OkF vn sn c.procs f) (hvn:vn ≤ 1000) (hsn:sn ≤ 1000) :
  Am.Spec Tryz.prog 22 [.agg (encC c),.agg (encF f),.int .i64 pick] (didR (doM c.procs f pick)):=by
 have hwt:=hf.wt
 have hokf:=right_okN _ _ _ _ _ hf.t
 have hn5:=sp_n5 f.t hokf
 rw [hf.norm] at hn5
 have henb:=sp_Enb7 f.t hokf (by omega)
 rw [doM_eq hf.norm]
 have hvl:=hf.vlen hvn
 by_cases h0:pick < 0
 ·rw [if_pos h0]
  simp only [didR,no_f,no_ev,no_is,no_e,encF_zero,encEv_zero]
  refine W22_S (by simp) ?_
  intro vs
  simp
  refine scall_pure hn5 (by simp) (by simp) ?_
  simp
  refine scall_pure henb (by simp) (by simp) ?_
  simp [h0,retW_eq]
 rw [if_neg h0]
 by_cases h1:(f.t.enabled.length:Int) ≤ pick
 ·rw [List.getElem?_eq_none (by omega)]
  simp only [didR,no_f,no_ev,no_is,no_e,encF_zero,encEv_zero]
  refine W22_S (by simp) ?_
  intro vs
  simp
  refine scall_pure hn5 (by simp) (by simp) ?_
  simp
  refine scall_pure henb (by simp) (by simp) ?_
  simp [h0,h1,retW_eq]
 have hlt:pick.toNat < f.t.enabled.length:=by omega
 rw [List.getElem?_eq_getElem hlt]
 simp only
 by_cases h2:5000 ≤ f.steps
 ·rw [if_pos h2]
  simp only [didR,no_f,no_ev,no_is,no_e,encF_zero,encEv_zero]
  refine W22_S (by simp) ?_
  intro vs
  simp
  refine scall_pure hn5 (by simp) (by simp) ?_
  simp
  refine scall_pure henb (by simp) (by simp) ?_
  simp [h0,h1,h2,retW_eq]
 rw [if_neg h2]
 have hs:=List.getElem_mem hlt
 obtain ⟨i,hi⟩:∃ i:Nat,pick = i:=⟨pick.toNat,by omega⟩
 subst hi
 have hlt':i < f.t.enabled.length:=hlt
 generalize hst:f.t.enabled[(i:Int).toNat] = st at *
 have hix:ixRows (f.t.enabled.map encS) (i:Int) 3 = some (.elt (encS st) 0):=by
  rw [ixRows_nat]; simp [List.getElem?_eq_getElem hlt',← hst]
 have hso:=step_ok f.t st (by rw [← enabled_eq hf.norm]; exact hs)
 have hon:=actP_on hso.act
 have hpl:=onP_len hon
 have hat:=sp_at8 f.t st.2.1 hon (by omega)
 have hout:=sp_out8 f.t st.2.1 hon (by omega)
 have hxr:=at_right _ _ _ hso.act _ hf.t
 have hxe:=allE_at hon hf.ex
 obtain ⟨hok,⟨hk0,hk1⟩,-⟩:=right_ok hxr
 have hks:=hso.some
 rw [hso.kind] at hks
 have halt:=hso.alt
 rw [hso.kind] at halt
 have hkc:(atT f.t st.2.1).kind = 1 ∨ (atT f.t st.2.1).kind = 2 ∨ (atT f.t st.2.1).kind = 3 ∨ (atT f.t st.2.1).kind = 4 ∨ (atT f.t st.2.1).kind = 5 ∨ (atT f.t st.2.1).kind = 6 ∨ (atT f.t st.2.1).kind = 8 ∨ (atT f.t st.2.1).kind = 9 ∨ (atT f.t st.2.1).kind = 10 ∨ (atT f.t st.2.1).kind = 13:=by omega
 have hone:=fun v1 v2=>hs_one c f v1 v2 (atT f.t st.2.1) st.2.2 he hf hvn hsn hxr hxe hkc (fun k=>by rw [if_pos k] at halt; omega)
 have hfin:=fun he0=>do8_fin c f he hf hvn hsn st hs he0
 have hto:toP f.t st = if (atT f.t st.2.1).kind = 8 then st.2.1.take (outT f.t st.2.1 0 0) else st.2.1:=rfl
 have hol:=outT_le f.t st.2.1 hon
 have e9:=setF_9L f 37
 have hRc:=oneR_closed c.procs f (atT f.t st.2.1) st.2.2
 have hRl:=oneR_len c.procs f (atT f.t st.2.1) st.2.2
 have hRo:=oneR_ok c.procs f (atT f.t st.2.1) st.2.2
 have hRd:=(rd_dR (oneT c.procs f (atT f.t st.2.1) st.2.2) (deed c.procs f (atT f.t st.2.1) st.2.2).ev (deed c.procs f (atT f.t st.2.1) st.2.2).is (deed c.procs f (atT f.t st.2.1) st.2.2).e (oneT_len _ _ _ _)).2.2.2
 rw [← oneR_dR] at hRd
 obtain ⟨r,hr⟩:∃ r,r = didR (if (deed c.procs f (atT f.t st.2.1) st.2.2).e ≠ 0 then .no (deed c.procs f (atT f.t st.2.1) st.2.2).e
   else if 2000 < (putT f.t (toP f.t st) (deed c.procs f (atT f.t st.2.1) st.2.2).t).norm.size + stSize (deed c.procs f (atT f.t st.2.1) st.2.2).st then .no 11
   else ⟨⟨(putT f.t (toP f.t st) (deed c.procs f (atT f.t st.2.1) st.2.2).t).norm,(deed c.procs f (atT f.t st.2.1) st.2.2).vars,(deed c.procs f (atT f.t st.2.1) st.2.2).st,f.steps + 1,(deed c.procs f (atT f.t st.2.1) st.2.2).key⟩,(deed c.procs f (atT f.t st.2.1) st.2.2).ev,(deed c.procs f (atT f.t st.2.1) st.2.2).is,0⟩):=⟨_,rfl⟩
 rw [← hr]
 have hset:=setL_whole [.int .i64 0,.int .i64 0,.int .i64 0,.str ⟨#[]⟩,.int .i64 0,.int .i64 0,.str ⟨#[]⟩,.nils,.nils,.str ⟨#[]⟩,.int .i64 0,.int .i64 0,.bool false,.int .i64 0] (oneR c.procs f (atT f.t st.2.1) st.2.2) (by rw [hRl]; rfl)
 generalize oneR c.procs f (atT f.t st.2.1) st.2.2 = R at *
 by_cases hz:(deed c.procs f (atT f.t st.2.1) st.2.2).e = 0
 ·have hfin:=hfin hz
  rw [if_neg (by omega)] at hr
  simp only [hz] at hRd
  generalize deed c.procs f (atT f.t st.2.1) st.2.2 = d at *
  by_cases k8:(atT f.t st.2.1).kind = 8
  ·rw [if_pos k8] at hto
   have hslc:slcV 1 (encI st.2.1) none (some (.i64,(outT f.t st.2.1 0 0:Nat))) = some (.sl (encI (toP f.t st))):=by
    rw [slcV_to 1 _ .i64 _ _ rfl (by simp; omega) (fun r hr=>(encI_cell _ r hr).1),hto]
    simp [encI]
   generalize atT f.t st.2.1 = x at *
   refine W22_S (by simp) ?_
   intro vs
   simp
   refine scall_pure hn5 (by simp) (by simp) ?_
   simp
   refine scall_pure henb (by simp) (by simp) ?_
   simp [h0,h1,h2]
   rw [decide_eq_true (by omega)]
   simp [e9,hix,encS]
   refine scall_pure hat (by simp) (by simp) ?_
   simp [hix,encS]
   refine scall0_heap [(12,1),(37,2)] (hone (vs 12 + 1) (vs 37 + 1 + 1)) (by simp [take_C,closed_C]) (by simp [encFL_ren]) (by simp [encFL_okk,take_C,closed_C]) (by simp [encFL_okk,hRc]) (by simp) (by simp) ?_
   simp [-W22_k10,take_C,occ_C,encFL_ren,hRc,hRl,hRo,hset,hRd,k8]
   refine scall_pure hout (by simp) (by simp) ?_
   simp [-W22_k10,hslc]
   refine hfin (vs 3 + 1) (vs 4 + 1) (vs 6 + 1) (vs 7 + 1) (vs 10 + 1) (vs 12 + 1) (vs 14 + 1) (vs 15 + 1) (vs 37 + 1 + 1) r hr _ vs ?_ ?_ ?_ ?_ ?_ ?_ ?_
   all_goals simp [hto]
  ·rw [if_neg k8] at hto
   generalize atT f.t st.2.1 = x at *
   refine W22_S (by simp) ?_
   intro vs
   simp
   refine scall_pure hn5 (by simp) (by simp) ?_
   simp
   refine scall_pure henb (by simp) (by simp) ?_
   simp [h0,h1,h2]
   rw [decide_eq_true (by omega)]
   simp [e9,hix,encS]
   refine scall_pure hat (by simp) (by simp) ?_
   simp [hix,encS]
   refine scall0_heap [(12,1),(37,2)] (hone (vs 12 + 1) (vs 37 + 1 + 1)) (by simp [take_C,closed_C]) (by simp [encFL_ren]) (by simp [encFL_okk,take_C,closed_C]) (by simp [encFL_okk,hRc]) (by simp) (by simp) ?_
   simp [-W22_k10,take_C,occ_C,encFL_ren,hRc,hRl,hRo,hset,hRd,k8]
   refine hfin (vs 3 + 1) (vs 4 + 1) (vs 6 + 1) (vs 7 + 1) (vs 10 + 1) (vs 12 + 1) (vs 14 + 1) (vs 15 + 1) (vs 37 + 1 + 1) r hr _ vs ?_ ?_ ?_ ?_ ?_ ?_ ?_
   all_goals simp [hto]
 ·rw [if_pos hz] at hr
  generalize deed c.procs f (atT f.t st.2.1) st.2.2 = d at *
  generalize atT f.t st.2.1 = x at *
  subst hr
  simp only [didR,no_f,no_ev,no_is,no_e,encF_zero,encEv_zero]
  refine W22_S (by simp) ?_
  intro vs
  simp
  refine scall_pure hn5 (by simp) (by simp) ?_
  simp
  refine scall_pure henb (by simp) (by simp) ?_
  simp [h0,h1,h2]
  rw [decide_eq_true (by omega)]
  simp [e9,hix,encS]
  refine scall_pure hat (by simp) (by simp) ?_
  simp [hix,encS]
  refine scall0_heap [(12,1),(37,2)] (hone (vs 12 + 1) (vs 37 + 1 + 1)) (by simp [take_C,closed_C]) (by simp [encFL_ren]) (by simp [encFL_okk,take_C,closed_C]) (by simp [encFL_okk,hRc]) (by simp) (by simp) ?_
  simp [-W22_k10,take_C,occ_C,encFL_ren,hRc,hRl,hRo,hset,hRd,hz,retW_eq]
end Go.Proofs.YtnngddgaobhkiaaGreat
