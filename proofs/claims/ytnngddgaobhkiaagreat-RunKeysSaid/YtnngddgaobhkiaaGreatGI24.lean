import Derived.Test.YtnngddgaobhkiaaGreatGH20
import Derived.Test.YtnngddgaobhkiaaGreatGD23
set_option linter.unusedVariables false
set_option linter.unusedSimpArgs false
namespace Go.Proofs.YtnngddgaobhkiaaGreat
open Go Go.Am Go.RowKit
attribute [local simp] W7 W7_rs W7_b1 W7_b2 W7_b6 W7_b7 W7_b8 W7_b9 W7_b29 W7_b33 W7_b34 W7_b42 W7_b45 W7_b51 W7_b53 W7_k3 W7_k4 W7_k32 W7_l43 W7_l48
/-! ### Keys that are asked -/
theorem fewB_of {bs:List Rw3} (h:few3 bs = true):FewB bs:=by
 unfold few3 at h
 rw [Bool.and_eq_true] at h
 have hs:=of_decide_eq_true h.2
 refine ⟨fun x hx=>?_⟩
 have key:∀ l:List Rw3,(∀ y ∈ l,1 ≤ y.sz 0) → x ∈ l → x.sz 0 ≤ (l.map fun y=>y.sz 0).sum:=fun l=>by
  induction l with
  | nil=>intro _ h; simp at h
  | cons y l ih=>
   intro hp hx
   have hy:=hp y (by simp)
   have nn:∀ l:List Rw3,(∀ y ∈ l,1 ≤ y.sz 0) → 0 ≤ (l.map fun y=>y.sz 0).sum:=fun l=>by
    induction l with
    | nil=>intro _; simp
    | cons z l ih=>intro h; have:=ih fun y hy=>h y (by simp [hy]); have:=h z (by simp); simp only [List.map_cons,List.sum_cons]; omega
   have hn:=nn l fun z hz=>hp z (by simp [hz])
   simp only [List.map_cons,List.sum_cons]
   rcases List.mem_cons.1 hx with rfl | hx
   ·omega
   ·have:=ih (fun z hz=>hp z (by simp [hz])) hx; omega
 have:=key bs (fun y _=>(y.sz_le 0).1) hx
 omega
@[simp] theorem setC_0 (c:Cor) (a b d e:AV):setL [a,b,d,e] 0 (encC c) = encC c:=rfl
@[simp] theorem rd_Call (c:Cor):readA (encC c) 0 4 true = some (.agg (encC c)):=rfl
@[simp] theorem encC_cell (c:Cor):∀ a ∈ encC c,a.cell = true:=by simp [encC]
@[simp] theorem encC_okAll (c:Cor):(encC c).all AV.cell = true:=rfl
@[simp] theorem pur0_C (H:Heap) (c:Cor):(encC c).map (pur0 H) = encC c:=rfl
@[simp] theorem frz0_C (H:Heap) (c:Cor):(encC c).foldl frz0 H = H:=rfl
theorem sp_few (x:Shp) (h:x.bs.length ≤ maxLen):Am.Spec Tryz.prog 12 [.agg (encShp x)] (.bool (few3 x.bs)):=sp_fw3 _ _ x.bs h (by simp [closed]) (by simp [closed])
theorem key_go (x:Shp) (ns:List Int) (hfew:few3 x.bs = true) (hl:x.bs.length ≤ maxLen) (hn:ns.length ≤ maxLen):Am.Spec Tryz.prog 7 [.agg (encShp x),.sl (encI ns)] (.bool true):=by
 have hml:maxLen = 9223372036854775807:=rfl
 have hf1:=sp_few x hl
 rw [hfew] at hf1
 have hc1:=sp_cor x.v x.s x.bs (fewB_of hfew)
 have hc:=coreM_ok x.v x.bs (fewB_of hfew)
 have hb:=sp_begC hc
 have hbk:=beg_key hc
 have hok:=beg_ok hc
 have hb0:(begM (coreM x.v x.bs)).key = 0:=rfl
 simp only [encShp,encSh] at hf1 hc1 ⊢
 generalize coreM x.v x.bs = c at *
 have hd:=fun (f:Cfg) (hf:OkC c f) (k:Int)=>sp_doC hc hf k
 have htl:=fun (f:Cfg) (hf:OkC c f) (k:Int)=>sp_tellC hc hf k 1
 generalize begM c = f0 at *
 refine W7_S (by simp) ?_
 intro vs
 simp
 refine scall_pure sp_kno8 (by simp) (by simp) ?_
 simp
 refine scall_pure hf1 (by simp) (by simp) ?_
 simp
 refine scall_pure hc1 (by simp) (by simp) ?_
 simp
 refine scall_pure hb (by simp) (by simp) ?_
 simp [-W7_l48]
 refine sLoop_intro (α:=Nat × Cfg) (fun y=>y.1 ≤ 40 ∧ OkC c y.2 ∧ keyT y.2.key y.2.t = true) (fun y=>40 - y.1)
  (fun y=>[(1,.sl (encI ns)),(5,.ref 5 (vs 5 + 1) (.p 0)),(6,.ref 6 (vs 6 + 1) (.p 0)),(7,.int .i64 y.2.key),(8,.int .i64 (y.1:Nat))])
  (fun y=>[(5,.box (vs 5 + 1) 29 (encC c)),(6,.box (vs 6 + 1) 38 (encF y.2))])
  (0,f0) ⟨by simp,hok,by rw [hb0]; exact hbk⟩ (by simp [hb0]) (by simp) ?_
 rintro L ⟨i,f⟩ vt ⟨hi,hf,hk⟩ hL
 simp only at hi hf hk hL ⊢
 by_cases h1:i < ns.length
 ·have h1':(i:Int) < ns.length:=by omega
  by_cases h2:i < 40
  ·have h2':(i:Int) < 40:=by omega
   have hok:=hf.enbWt
   have hw:=sp_w5 f.t hok.2 hok.1
   have hin:=fun w=>waits_in f.t hf.t hk w
   have htold:=fun w=>waits_told hf w 1
   have hwl:=f.t.waits_len
   simp [-W7_l43,h1,h1',h2,h2']
   refine scall_pure hw (by simp) (by simp) ?_
   generalize hws:f.t.waits = ws at *
   simp [-W7_l43]
   refine sLoop_intro (fun k:Nat=>k ≤ ws.length) (fun k=>ws.length - k)
    (fun k=>[(1,.sl (encI ns)),(5,.ref 5 (vs 5 + 1) (.p 0)),(6,.ref 6 (vs 6 + 1) (.p 0)),(7,.int .i64 f.key),(8,.int .i64 (i:Nat)),(9,.sl (encI ws)),(10,.int .i64 (k:Nat))])
    (fun k=>[(5,.box (vs 5 + 1) 29 (encC c)),(6,.box (vs 6 + 1) 38 (encF f))])
    0 (by simp) (by simp) (by simp) ?_
   rintro L1 k vu hkk hL1
   by_cases g:k < ws.length
   ·have g':(k:Int) < ws.length:=by omega
    obtain ⟨g1,g2⟩:=hin _ (List.getElem_mem g)
    have g1':¬ ws[k] < 0:=by omega
    have g2':¬ f.key ≤ ws[k]:=by omega
    simp [g,g',g1',g2']
    rw [wrap64 (by omega) (by omega)]
    exact hL1 _ _ _ (k + 1) g (by omega) (by simp) (by simp)
   ·obtain rfl:k = ws.length:=by omega
    have hwit:=sp_wit8 ns[i] 3 (by omega) (by omega)
    have hd:=hd f hf (within ns[i] 3)
    have hdk:=doM_key hc.env hf hk (within ns[i] 3)
    have hdo:=doM_ok hc.env hf (within ns[i] 3)
    generalize within ns[i] 3 = pk at *
    generalize doM c.procs f pk = d at *
    simp only [didR] at hd
    simp [h1,h1']
    refine scall0_pure hwit (by simp) (by simp) ?_
    simp
    refine scall0_pure hd (by simp) (by simp) ?_
    by_cases he:d.e = 0
    ·have hdk:=hdk he
     have hdo:OkC c d.f:=hdo he
     cases hdi:d.is
     ·have hno:=hdk.no hdi
      simp [he,hdi,hno,encEv]
      rw [wrap64 (by omega) (by omega)]
      exact hL _ _ _ (i + 1,d.f) ⟨h2,hdo,hdk.t⟩ (by simp only; omega) (by simp [hno]) (by simp)
     ·obtain ⟨hy1,hy2⟩:=hdk.yes hdi
      have hfk:=hf.key
      have hfs:=hf.steps
      have hwk:IntKind.wrap .i64 (f.key + 1) = f.key + 1:=wrap64 (by omega) (by omega)
      simp [he,hdi,hy1,hy2,hwk,encEv]
      rw [wrap64 (by omega) (by omega)]
      exact hL _ _ _ (i + 1,d.f) ⟨h2,hdo,hdk.t⟩ (by simp only; omega) (by simp [hy2]) (by simp)
    ·by_cases hw0:ws = []
     ·simp [he,hw0,encEv]
      rw [wrap64 (by omega) (by omega)]
      exact hL _ _ _ (i + 1,f) ⟨h2,hf,hk⟩ (by simp only; omega) (by simp) (by simp)
     ·have hp0:0 < ws.length:=List.length_pos_iff.2 hw0
      have hp0':(0:Int) < ws.length:=by omega
      have htl:=htl f hf ws[0]
      have hti:=htold _ (List.getElem_mem hp0)
      have htk:=tellM_key hf hk ws[0] 1 hti
      have hto:OkC c (tellM f ws[0] 1).f:=tellM_ok hf ws[0] 1 rfl hti
      generalize tellM f ws[0] 1 = tl at *
      simp only [toldR] at htl
      simp [he,hw0,hp0,hp0',encEv]
      refine scall0_pure htl (by simp) (by simp) ?_
      simp
      rw [wrap64 (by omega) (by omega)]
      exact hL _ _ _ (i + 1,tl.f) ⟨h2,hto,htk.1⟩ (by simp only; omega) (by simp [htk.2]) (by simp)
  ·have h2':¬ (i:Int) < 40:=by omega
   simp [h1,h1',h2,h2',retW_eq]
 ·have h1':¬ (i:Int) < ns.length:=by omega
  simp [h1,h1',retW_eq]
theorem sp_key8 (x:Shp) (ns:List Int) (hl:x.bs.length ≤ maxLen) (hn:ns.length ≤ maxLen):Am.Spec Tryz.prog 7 [.agg (encShp x),.sl (encI ns)] (.bool true):=by
 cases hfew:few3 x.bs
 ·have hf1:=sp_few x hl
  rw [hfew] at hf1
  simp only [encShp,encSh] at hf1 ⊢
  refine W7_S (by simp) ?_
  intro vs
  simp
  refine scall_pure sp_kno8 (by simp) (by simp) ?_
  simp
  refine scall_pure hf1 (by simp) (by simp) ?_
  simp [retW_eq]
 ·exact key_go x ns hfew hl hn
end Go.Proofs.YtnngddgaobhkiaaGreat
