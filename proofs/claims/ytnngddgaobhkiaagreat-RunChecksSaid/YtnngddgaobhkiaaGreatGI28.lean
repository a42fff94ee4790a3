import Derived.Test.YtnngddgaobhkiaaGreatGI24
import Derived.Test.YtnngddgaobhkiaaGreatGI26
import Derived.Test.YtnngddgaobhkiaaGreatGE27
import Derived.Test.YtnngddgaobhkiaaGreatGR22
import Derived.Test.YtnngddgaobhkiaaGreatGD23
set_option linter.unusedVariables false
set_option linter.unusedSimpArgs false
namespace Go.Proofs.YtnngddgaobhkiaaGreat
open Go Go.Am Go.RowKit
attribute [local simp] W4 W4_rs W4_b1 W4_b2 W4_b3 W4_b8 W4_b10 W4_b12 W4_b16 W4_b17 W4_b18 W4_b21 W4_b22 W4_b23 W4_b24 W4_b25 W4_b26 W4_b27 W4_b29 W4_b38 W4_b39 W4_b49 W4_b51 W4_b61 W4_k6 W4_k37 W4_l20 W4_l50
def WtC (c:Cor):Prop:=∀ t ∈ c.procs,t.lok ∧ t.wt ≤ 100000000
def encCL (c:Cor) (j v:Nat):List AV:=[.sl (encI c.vars),.int .i64 c.stacks,.ref j v .o,.int .i64 c.main]
def cksH (b5 b6:Blk) (c:Cor) (v12 v68:Nat):List (Nat × Blk):=[(5,b5),(6,b6),(12,.box v12 29 (encCL c 68 v68)),(68,.row v68 35 9 (c.procs.map encT))]
theorem cks_k6 {c:Cor} (hw:WtC c) (b5 b6:Blk) (v12 v68:Nat) (T:List (Nat × AV)) (VS:Nat → Nat) (h12:Am.look T 12 = .ref 12 v12 (.p 0)) :
  W4_k6 (retK Tryz.prog [.tmp 10] (.bool true)) ⟨Am.look T,hls (cksH b5 b6 c v12 v68) VS,noG⟩:=by
 have hc:=sp_chk c hw
 have h8:=sp_ck8 c hw
 generalize chkM c = b at *
 simp [cksH,encCL,h12]
 refine scall0_pure hc (by simp; rfl) (by simp) ?_
 simp [h12]
 refine scall0_pure h8 (by simp; rfl) (by simp) ?_
 simp [retW_eq]
theorem cks_k6n {c:Cor} (hw:WtC c) (R:List (List AV)) (hR:R.map nrmL = c.procs.map encT) (hcl:closedLL R = true) (b5 b6:Blk) (v12 v68:Nat) (T:List (Nat × AV)) (VS:Nat → Nat) (h12:Am.look T 12 = .ref 12 v12 (.p 0)) :
  W4_k6 (retK Tryz.prog [.tmp 10] (.bool true)) ⟨Am.look T,hls [(5,b5),(6,b6),(12,.box v12 29 (encCL c 68 v68)),(68,.row v68 35 9 R)] VS,noG⟩:=by
 have hc:=sp_chk c hw
 have h8:=sp_ck8 c hw
 generalize chkM c = b at *
 have nv:nrmLL (encI c.vars) = encI c.vars:=by simp [nrmLL_map,encI,nrmL,nrm]
 have hn:nrmLL R = c.procs.map encT:=by rw [← hR,nrmLL_map]
 simp [encCL,h12]
 refine scall0_nrm hc (by simp [nrmL,nrm,hn,nv]; rfl) (by simp [hcl]) ?_
 simp [h12]
 refine scall0_nrm h8 (by simp [nrmL,nrm,hn,nv]; rfl) (by simp [hcl]) ?_
 simp [retW_eq]
theorem WtC_of {c:Cor} (hc:CorOk c) (n:List Int) (s m:Int):WtC ⟨n,s,c.procs,m⟩:=fun t ht=>⟨(hc.wt t ht).1,by have:=(hc.wt t ht).2; omega⟩
theorem cks_b8 {c:Cor} (hc:CorOk c) (v:Int) (b5 b6:Blk) (v12 v68:Nat) (T:List (Nat × AV)) (VS:Nat → Nat) (h4:Am.look T 4 = .int .i64 v) (h12:Am.look T 12 = .ref 12 v12 (.p 0)) :
  W4_b8 (retK Tryz.prog [.tmp 10] (.bool true)) ⟨Am.look T,hls (cksH b5 b6 c v12 v68) VS,noG⟩:=by
 have w:=sp_wit8 v 4 (by omega) (by omega)
 have g0:=within_ge v 4 (by omega)
 have g1:=within_lt v 4 (by omega)
 have h6:=fun m=>cks_k6 (WtC_of hc c.vars c.stacks m) b5 b6 v12 v68
 simp only [cksH,encCL] at h6
 generalize within v 4 = k at *
 have cs:k = 0 ∨ k = 1 ∨ k = 2 ∨ k = 3:=by omega
 simp [-W4_k6,cksH,encCL,h4,h12]
 refine scall0_pure w (by simp) (by simp) ?_
 rcases cs with rfl | rfl | rfl | rfl
 ·simp [-W4_k6,h12]
  exact h6 _ _ VS (by simp [h12])
 ·simp [-W4_k6,h12]
  exact h6 _ _ VS (by simp [h12])
 ·simp [-W4_k6,h12]
  exact h6 _ _ VS (by simp [h12])
 ·simp [-W4_k6,h12]
  exact h6 _ _ VS (by simp [h12])
theorem cks_b10 {c:Cor} (hc:CorOk c) (v:Int) (b5 b6:Blk) (v12 v68:Nat) (T:List (Nat × AV)) (VS:Nat → Nat) (h4:Am.look T 4 = .int .i64 v) (h12:Am.look T 12 = .ref 12 v12 (.p 0)) :
  W4_b10 (retK Tryz.prog [.tmp 10] (.bool true)) ⟨Am.look T,hls (cksH b5 b6 c v12 v68) VS,noG⟩:=by
 have w:=sp_wit8 v 6 (by omega) (by omega)
 have g0:=within_ge v 6 (by omega)
 have g1:=within_lt v 6 (by omega)
 have h6:=fun m=>cks_k6 (WtC_of hc c.vars m c.main) b5 b6 v12 v68
 simp only [cksH,encCL] at h6
 generalize within v 6 = k at *
 have cs:k = 0 ∨ k = 1 ∨ k = 2 ∨ k = 3 ∨ k = 4 ∨ k = 5:=by omega
 simp [-W4_k6,cksH,encCL,h4,h12]
 refine scall_pure w (by simp) (by simp) ?_
 rcases cs with rfl | rfl | rfl | rfl | rfl | rfl
 ·simp [-W4_k6,h12]
  exact h6 _ _ VS (by simp [h12])
 ·simp [-W4_k6,h12]
  exact h6 _ _ VS (by simp [h12])
 ·simp [-W4_k6,h12]
  exact h6 _ _ VS (by simp [h12])
 ·simp [-W4_k6,h12]
  exact h6 _ _ VS (by simp [h12])
 ·simp [-W4_k6,h12]
  exact h6 _ _ VS (by simp [h12])
 ·simp [-W4_k6,h12]
  exact h6 _ _ VS (by simp [h12])
theorem cks_b12 {c:Cor} (hc:CorOk c) (v:Int) (b5 b6:Blk) (v12 v68:Nat) (T:List (Nat × AV)) (VS:Nat → Nat) (h4:Am.look T 4 = .int .i64 v) (h12:Am.look T 12 = .ref 12 v12 (.p 0)) :
  W4_b12 (retK Tryz.prog [.tmp 10] (.bool true)) ⟨Am.look T,hls (cksH b5 b6 c v12 v68) VS,noG⟩:=by
 have w:=sp_wit8 v 23 (by omega) (by omega)
 have g0:=within_ge v 23 (by omega)
 have g1:=within_lt v 23 (by omega)
 obtain ⟨n,hn⟩:∃ n:Nat,within v 23 = n:=⟨(within v 23).toNat,by omega⟩
 rw [hn] at w g0 g1
 have hw:=WtC_of hc (List.replicate n 0) c.stacks c.main
 have h1:=sp_chk _ hw
 have h8:=sp_ck8 _ hw
 generalize chkM _ = b at *
 simp only [encC] at h1 h8
 have e:encI (List.replicate n 0) = List.replicate n [.int .i64 0]:=by simp [encI]
 rw [e] at h1 h8
 have hcl:=closedLL_rep n [.int .i64 0] rfl
 simp [-W4_k6,cksH,encCL,h4,h12]
 refine scall_pure w (by simp) (by simp) ?_
 simp [-W4_k6,h4,h12]
 rw [decide_eq_true (by omega),decide_eq_true (by show n ≤ 9223372036854775807; omega)]
 simp [-W4_k6,h4,h12]
 simp [h12]
 refine scall0_pure h1 (by simp) (by simp [hcl]) ?_
 simp [h12]
 refine scall0_pure h8 (by simp) (by simp [hcl]) ?_
 simp [retW_eq]
theorem cks_b21 {c:Cor} (hc:CorOk c) (b5 b6:Blk) (v12 v68:Nat) (T:List (Nat × AV)) (VS:Nat → Nat) (h12:Am.look T 12 = .ref 12 v12 (.p 0)) :
  W4_b21 (retK Tryz.prog [.tmp 10] (.bool true)) ⟨Am.look T,hls (cksH b5 b6 c v12 v68) VS,noG⟩:=by
 have hw:WtC ⟨c.vars,c.stacks,[],c.main⟩:=fun t ht=>by simp at ht
 have h1:=sp_chk _ hw
 have h8:=sp_ck8 _ hw
 generalize chkM _ = b at *
 simp only [encC] at h1 h8
 simp [-W4_k6,cksH,encCL,h12]
 simp [h12]
 refine scall0_pure h1 (by simp) (by simp) ?_
 simp [h12]
 refine scall0_pure h8 (by simp) (by simp) ?_
 simp [retW_eq]
theorem WtC_set {c:Cor} (hc:CorOk c) (k:Nat) (x:Tm) (hx:x.wt ≤ 50000000):WtC ⟨c.vars,c.stacks,c.procs.set k x,c.main⟩:=fun t ht=>by
 rcases List.mem_or_eq_of_mem_set ht with h | rfl
 ·exact WtC_of hc [] 0 0 t h
 ·exact ⟨Tm.lok_of_wt _ (by omega),by omega⟩
theorem cks_b16 {c:Cor} (hc:CorOk c) (at_ v:Int) (b5 b6:Blk) (v12 v68:Nat) (T:List (Nat × AV)) (VS:Nat → Nat) (h3:Am.look T 3 = .int .i64 at_) (h4:Am.look T 4 = .int .i64 v) (h12:Am.look T 12 = .ref 12 v12 (.p 0)) :
  W4_b16 (retK Tryz.prog [.tmp 10] (.bool true)) ⟨Am.look T,hls (cksH b5 b6 c v12 v68) VS,noG⟩:=by
 have hp:=(chk_ok hc.chk).procs
 have w:=sp_wit8 at_ c.procs.length (by omega) (by omega)
 have g0:=within_ge at_ c.procs.length (by omega)
 have g1:=within_lt at_ c.procs.length (by omega)
 obtain ⟨k,hk⟩:∃ n:Nat,within at_ c.procs.length = n:=⟨(within at_ c.procs.length).toNat,by omega⟩
 rw [hk] at w g0 g1
 have hkl:k < c.procs.length:=by omega
 obtain ⟨q,hq⟩:∃ q,IntKind.wrap .i64 (v.tdiv 8) = q:=⟨_,rfl⟩
 have hwt:=(hc.wt _ (List.getElem_mem hkl)).2
 obtain ⟨x,hx,hs⟩:=sp_spo c.procs[k] v at_ q (by omega)
 have h6:=cks_k6 (WtC_set hc k x (by omega)) b5 b6 v12
 simp only [cksH,encCL] at h6
 simp [-W4_k6,cksH,encCL,h3,h4,h12]
 refine scall0_pure w (by simp) (by simp) ?_
 simp [-W4_k6,h3,h4,h12,hkl]
 refine scall0_pure w (by simp) (by simp) ?_
 simp [-W4_k6,h3,h4,h12,hkl,hq]
 refine scall0_pure hs (by simp) (by simp) ?_
 simp [-W4_k6,h3,h4,h12,hkl,hq]
 rw [← List.map_set]
 exact h6 _ _ VS (by simp [h12])
def zT9:List AV:=[.int .i64 0,.int .i64 0,.int .i64 0,.str ⟨#[]⟩,.int .i64 0,.int .i64 0,.str ⟨#[]⟩,.sl [],.sl []]
def wT9:List AV:=[.int .i64 14,.int .i64 0,.int .i64 (-1),.str ⟨#[112,97,121]⟩,.int .i64 0,.int .i64 0,.str ⟨#[]⟩,.nils,.nils]
theorem cks_b17 {c:Cor} (hc:CorOk c) (b5 b6:Blk) (v12 v68:Nat) (T:List (Nat × AV)) (VS:Nat → Nat) (h12:Am.look T 12 = .ref 12 v12 (.p 0)) :
  W4_b17 (retK Tryz.prog [.tmp 10] (.bool true)) ⟨Am.look T,hls (cksH b5 b6 c v12 v68) VS,noG⟩:=by
 have hp:=(chk_ok hc.chk).procs
 have hkl:0 < c.procs.length:=by omega
 have h6:=cks_k6n (WtC_set hc 0 ⟨14,0,-1,⟨#[112,97,121]⟩,.zero,[]⟩ (by decide +kernel)) ((c.procs.map encT).set 0 wT9) (by
  rw [List.map_set,List.map_set,List.map_map]
  congr 1
  exact List.map_congr_left fun t _=>nrmL_encT t) (closedLL_set (closedLL_map encT_closed _) _ _ rfl) b5 b6 v12
 simp only [encCL] at h6
 simp [-W4_k6,cksH,encCL,h12,hkl]
 exact h6 _ _ VS (by simp [h12])
theorem cks_b23 {c:Cor} (hc:CorOk c) (v:Int) (b5 b6:Blk) (v12 v68:Nat) (T:List (Nat × AV)) (VS:Nat → Nat) (h4:Am.look T 4 = .int .i64 v) (h12:Am.look T 12 = .ref 12 v12 (.p 0)) (h74:Am.look T 74 = .int .i64 5) :
  W4_b23 (retK Tryz.prog [.tmp 10] (.bool true)) ⟨Am.look T,hls (cksH b5 b6 c v12 v68) VS,noG⟩:=by
 have hp:=(chk_ok hc.chk).procs
 have w:=sp_wit8 v 3 (by omega) (by omega)
 have g0:=within_ge v 3 (by omega)
 have g1:=within_lt v 3 (by omega)
 simp [-W4_l20,cksH,encCL,h74]
 refine sLoop_intro (α:=Nat × Nat) (fun y=>c.procs.length + y.1 ≤ 22) (fun y=>22 - (c.procs.length + y.1)) (fun _=>[(4,.int .i64 v),(12,.ref 12 v12 (.p 0))])
  (fun y=>[(5,b5),(6,b6),(12,.box v12 29 (encCL c 68 y.2)),(68,.row y.2 35 9 (c.procs.map encT ++ List.replicate y.1 zT9))]) (0,v68) (by simp; omega) (by simp [h4,h12]) (by simp [encCL]) ?_
 rintro L ⟨y,v68⟩ vt hy hL
 simp only at hy hL ⊢
 have hw:WtC ⟨c.vars,c.stacks,c.procs ++ List.replicate y .skip,c.main⟩:=fun t ht=>by
  rcases List.mem_append.1 ht with h | h
  ·exact WtC_of hc [] 0 0 t h
  ·rw [(List.mem_replicate.1 h).2]; exact ⟨Tm.lok_of_wt _ (by decide +kernel),by decide +kernel⟩
 have h6:=cks_k6n hw (c.procs.map encT ++ List.replicate y zT9) (by
  rw [List.map_append,List.map_append,List.map_map,List.map_replicate,List.map_replicate]
  congr 1
  exact List.map_congr_left fun t _=>nrmL_encT t) (by rw [closedLL_append,closedLL_map encT_closed,closedLL_rep _ _ rfl]; rfl) b5 b6 v12
 simp only [encCL] at h6 hL ⊢
 generalize within v 3 = k at *
 have hwr:IntKind.wrap .i64 (19 + k) = 19 + k:=wrap64 (by omega) (by omega)
 by_cases h:(c.procs.length:Int) + y < 19 + k
 ·simp [-W4_k6,-W4_b18]
  refine scall0_pure w (by simp) (by simp) ?_
  simp [-W4_k6,-W4_b18,h,hwr]
  simp [-W4_k6]
  rw [decide_eq_true (by omega)]
  simp [-W4_k6]
  refine hL _ _ _ (y + 1,v68 + 1) (by simp only; omega) (by simp only; omega) (by simp) ?_
  simp [List.replicate_succ',zT9]
 ·simp [-W4_k6,-W4_b18]
  refine scall0_pure w (by simp) (by simp) ?_
  simp [-W4_k6,-W4_b18,h,hwr]
  exact h6 _ _ vt (by simp)
theorem encT_g7 (t:Tm) (h:7 < (encT t).length):(encT t)[7] = .sl (t.e.l.map encE):=by simp only [encT_eq]; rfl
theorem cks_go (x:Shp) (raw:Cor) (wh at_ v:Int) (hfew:few3 x.bs = true) (hl:x.bs.length ≤ maxLen) (h60:¬ (60:Int) < raw.vars.length) (h30:¬ (30:Int) < raw.procs.length) (hr:raw.vars.length ≤ maxLen ∧ raw.procs.length ≤ maxLen) :
  Am.Spec Tryz.prog 4 [.agg (encShp x),.agg (encC raw),.int .i64 wh,.int .i64 at_,.int .i64 v] (.bool true):=by
 have hml:maxLen = 9223372036854775807:=rfl
 have hf1:=sp_few x hl
 rw [hfew] at hf1
 have hc1:=sp_cor x.v x.s x.bs (fewB_of hfew)
 have hc:=coreM_ok x.v x.bs (fewB_of hfew)
 simp only [encShp,encSh] at hf1 hc1 ⊢
 generalize coreM x.v x.bs = c at *
 have hchk:=sp_chkC hc
 have hcp:=(chk_ok hc.chk).procs
 have w7:=sp_wit8 wh 7 (by omega) (by omega)
 have w70:=within_ge wh 7 (by omega)
 have w71:=within_lt wh 7 (by omega)
 refine W4_S (by simp) ?_
 intro vs
 simp
 refine scall_pure sp_kno8 (by simp) (by simp) ?_
 simp
 refine scall_pure hf1 (by simp) (by simp) ?_
 simp [-W4_l50,h60,h30]
 refine sLoop_intro (fun i=>i ≤ raw.procs.length ∧ ∀ j,(h:j < raw.procs.length) → j < i → raw.procs[j].l = [] ∧ raw.procs[j].e.l = []) (fun i=>raw.procs.length - i)
  (fun i=>[(2,.int .i64 wh),(3,.int .i64 at_),(4,.int .i64 v),(5,.ref 5 (vs 5 + 1) (.p 0)),(6,.ref 6 (vs 6 + 1) (.p 0)),(11,.int .i64 (i:Nat))])
  (fun _=>[(5,.box (vs 5 + 1) 24 [.int .i64 x.v,.int .i64 x.s,.sl (x.bs.map encR3)]),(6,.box (vs 6 + 1) 29 (encC raw))]) 0 ⟨by simp,by simp⟩ (by simp) (by simp) ?_
 rintro L i vt ⟨hi,hj⟩ hL
 by_cases h:i < raw.procs.length
 ·have h':(i:Int) < raw.procs.length:=by omega
  by_cases f2:raw.procs[i].l = []
  ·by_cases f1:raw.procs[i].e.l = []
   ·simp [-W4_k37,h,h',f1,f2,encT_g7]
    rw [wrap64 (by omega) (by omega)]
    refine hL _ _ _ (i + 1) ⟨h,fun j hj2 hlt=>?_⟩ (by omega) (by simp) (by simp)
    by_cases e:j = i
    ·subst e; exact ⟨f2,f1⟩
    ·exact hj j hj2 (by omega)
   ·have:0 < raw.procs[i].e.l.length:=List.length_pos_iff.2 f1
    simp [-W4_k37,h,h',f2,this,encT_g7,retW_eq]
  ·have:0 < raw.procs[i].l.length:=List.length_pos_iff.2 f2
   simp [-W4_k37,h,h',this,retW_eq]
 ·have h':¬ (i:Int) < raw.procs.length:=by omega
  have hwr:WtC raw:=fun t ht=>by
   obtain ⟨j,hj2,rfl⟩:=List.getElem_of_mem ht
   obtain ⟨e1,e2⟩:=hj j hj2 (by omega)
   have e3:=raw.procs[j].wt_eq
   have e4:=raw.procs[j].e.wt_eq
   rw [e1] at e3
   rw [e2] at e4
   simp only [Tm.wts,Ex.wts] at e3 e4
   exact ⟨Tm.lok_of_wt _ (by omega),by omega⟩
  have hr1:=sp_chk raw hwr
  have hr2:=sp_ck8 raw hwr
  generalize chkM raw = br at *
  simp [-W4_k37,h,h']
  simp
  refine scall_pure hc1 (by simp) (by simp) ?_
  simp
  refine scall0_pure hchk (by simp) (by simp) ?_
  simp
  refine scall0_pure hr1 (by simp) (by simp) ?_
  simp
  refine scall0_pure hr2 (by simp) (by simp) ?_
  simp [-W4_k6,-W4_b8,-W4_b27]
  rw [decide_eq_true (by omega)]
  simp [-W4_k6,-W4_b8,-W4_b27]
  refine scall_pure w7 (by simp) (by simp) ?_
  have b8:=fun T=>cks_b8 hc v (.box (vs 5 + 1) 24 [.int .i64 x.v,.int .i64 x.s,.sl (x.bs.map encR3)]) (.box (vs 6 + 1) 29 (encC raw)) (vt 12 + 1) (vt 68 + 1 + 1) T vt
  have b10:=fun T=>cks_b10 hc v (.box (vs 5 + 1) 24 [.int .i64 x.v,.int .i64 x.s,.sl (x.bs.map encR3)]) (.box (vs 6 + 1) 29 (encC raw)) (vt 12 + 1) (vt 68 + 1 + 1) T vt
  have b12:=fun T=>cks_b12 hc v (.box (vs 5 + 1) 24 [.int .i64 x.v,.int .i64 x.s,.sl (x.bs.map encR3)]) (.box (vs 6 + 1) 29 (encC raw)) (vt 12 + 1) (vt 68 + 1 + 1) T vt
  have b16:=fun T=>cks_b16 hc at_ v (.box (vs 5 + 1) 24 [.int .i64 x.v,.int .i64 x.s,.sl (x.bs.map encR3)]) (.box (vs 6 + 1) 29 (encC raw)) (vt 12 + 1) (vt 68 + 1 + 1) T vt
  have b17:=fun T=>cks_b17 hc (.box (vs 5 + 1) 24 [.int .i64 x.v,.int .i64 x.s,.sl (x.bs.map encR3)]) (.box (vs 6 + 1) 29 (encC raw)) (vt 12 + 1) (vt 68 + 1 + 1) T vt
  have b23:=fun T=>cks_b23 hc v (.box (vs 5 + 1) 24 [.int .i64 x.v,.int .i64 x.s,.sl (x.bs.map encR3)]) (.box (vs 6 + 1) 29 (encC raw)) (vt 12 + 1) (vt 68 + 1 + 1) T vt
  have b21:=fun T=>cks_b21 hc (.box (vs 5 + 1) 24 [.int .i64 x.v,.int .i64 x.s,.sl (x.bs.map encR3)]) (.box (vs 6 + 1) 29 (encC raw)) (vt 12 + 1) (vt 68 + 1 + 1) T vt
  simp only [cksH,encCL] at b8 b10 b12 b16 b17 b23 b21
  clear w7
  generalize within wh 7 = k at *
  have cs:k = 0 ∨ k = 1 ∨ k = 2 ∨ k = 3 ∨ k = 4 ∨ k = 5 ∨ k = 6:=by omega
  rcases cs with rfl | rfl | rfl | rfl | rfl | rfl | rfl
  ·simp [-W4_k6,-W4_b8,-W4_b27]
   exact b8 _ (by simp) (by simp)
  ·simp [-W4_k6,-W4_b8,-W4_b10]
   exact b10 _ (by simp) (by simp)
  ·simp [-W4_k6,-W4_b8,-W4_b10,-W4_b12]
   exact b12 _ (by simp) (by simp)
  ·simp [-W4_k6,-W4_b8,-W4_b10,-W4_b12,-W4_b16]
   exact b16 _ (by simp) (by simp) (by simp)
  ·simp [-W4_k6,-W4_b8,-W4_b10,-W4_b12,-W4_b16,-W4_b17]
   exact b17 _ (by simp)
  ·simp [-W4_k6,-W4_b8,-W4_b10,-W4_b12,-W4_b16,-W4_b17,-W4_b23]
   exact b23 _ (by simp) (by simp) (by simp)
  ·simp [-W4_k6,-W4_b8,-W4_b10,-W4_b12,-W4_b16,-W4_b17,-W4_b21]
   exact b21 _ (by simp)
theorem sp_cks (x:Shp) (raw:Cor) (wh at_ v:Int) (hl:x.bs.length ≤ maxLen) (hr:raw.vars.length ≤ maxLen ∧ raw.procs.length ≤ maxLen) :
  Am.Spec Tryz.prog 4 [.agg (encShp x),.agg (encC raw),.int .i64 wh,.int .i64 at_,.int .i64 v] (.bool true):=by
 have hf1:=sp_few x hl
 by_cases h60:(60:Int) < raw.vars.length
 ·generalize few3 x.bs = b at *
  simp only [encShp,encSh] at hf1 ⊢
  refine W4_S (by simp) ?_
  intro vs
  simp
  refine scall_pure sp_kno8 (by simp) (by simp) ?_
  simp
  refine scall_pure hf1 (by simp) (by simp) ?_
  cases b
  ·simp [retW_eq]
  ·simp [h60,retW_eq]
 by_cases h30:(30:Int) < raw.procs.length
 ·generalize few3 x.bs = b at *
  simp only [encShp,encSh] at hf1 ⊢
  refine W4_S (by simp) ?_
  intro vs
  simp
  refine scall_pure sp_kno8 (by simp) (by simp) ?_
  simp
  refine scall_pure hf1 (by simp) (by simp) ?_
  cases b
  ·simp [retW_eq]
  ·simp [h60,h30,retW_eq]
 cases hfew:few3 x.bs
 ·rw [hfew] at hf1
  simp only [encShp,encSh] at hf1 ⊢
  refine W4_S (by simp) ?_
  intro vs
  simp
  refine scall_pure sp_kno8 (by simp) (by simp) ?_
  simp
  refine scall_pure hf1 (by simp) (by simp) ?_
  simp [retW_eq]
 ·exact cks_go x raw wh at_ v hfew hl h60 h30 hr
end Go.Proofs.YtnngddgaobhkiaaGreat
namespace Go.Proofs.YtnngddgaobhkiaaGreat
open Go Go.Am Go.RowKit Go.ChangeShapes Go.WideShapes Go.ChangeAt
theorem ulCo:Tryz.prog.underlying 29 = some (.struct (structOf Tryz.prog 29)):=by kernel_rfl
theorem rd_Co (W:World):∀ n,RdN Tryz.prog W n 29 encC fun x=>x.vars.length ≤ maxLen ∧ x.procs.length ≤ maxLen
 | 0=>.zero
 | n + 1=>fun m hm H enc cs x hx=>by
  have i3:=rd_Tmr W n
  have ii:=RdN.int (W:=W) ul3 n
  obtain ⟨xs,k,hk,rfl,hl,hlen,hf⟩:=DataW.trod_struct ulCo hx
  have hl:cs.length = 4:=hl.trans (by kernel_rfl)
  obtain ⟨a0,p0,h0⟩:=RdN.field hf hlen 0 25 0 1 (by kernel_rfl) (by kernel_rfl) ((ii.slice ulIs (fun a=>(show ([AV.int .i64 a]:List AV).length = 1 from rfl).trans (by kernel_rfl)) (by decide +kernel) (by simp)).mono (by omega)) (by omega)
  obtain ⟨a1,-,h1⟩:=RdN.field hf hlen 1 3 1 1 (by kernel_rfl) (by kernel_rfl) ii (by omega)
  obtain ⟨a2,p2,h2⟩:=RdN.field hf hlen 2 27 2 1 (by kernel_rfl) (by kernel_rfl) ((i3.slice ulTms (fun a=>(encT_len a).trans (by kernel_rfl)) (by decide +kernel) encT_cell).mono (by omega)) (by omega)
  obtain ⟨a3,-,h3⟩:=RdN.field hf hlen 3 3 3 1 (by kernel_rfl) (by kernel_rfl) ii (by omega)
  obtain ⟨c0,c1,c2,c3,rfl⟩:∃ c0 c1 c2 c3,cs = [c0,c1,c2,c3]:=by
   rcases cs with _ | ⟨c0,_ | ⟨c1,_ | ⟨c2,_ | ⟨c3,_ | ⟨c4,cs⟩⟩⟩⟩⟩ <;> simp at hl
   exact ⟨_,_,_,_,rfl⟩
  refine ⟨⟨a0,a1,a2,a3⟩,⟨p0.1,p2.1⟩,?_⟩
  exact RL.app h0 (RL.app h1 (RL.app h2 h3))
theorem rdv_Co:RdV Tryz.prog 29 (fun r:Cor=>.agg (encC r)) fun r=>r.vars.length ≤ maxLen ∧ r.procs.length ≤ maxLen:=.struct ulCo fun W n=>rd_Co W n
end Go.Proofs.YtnngddgaobhkiaaGreat
