import Derived.Test.YtnngddgaobhkiaaGreatGD10
set_option linter.unusedVariables false
set_option linter.unusedSimpArgs false
namespace Go.Proofs.YtnngddgaobhkiaaGreat
open Go Go.Am Go.RowKit
attribute [local simp] W68 W68_rs W68_k1 W68_k5 W68_k24 W68_b3 W68_b7 W68_b8 W68_b11 W68_b13 W68_b16 W68_b18 W68_b20 W68_b21 W68_b22 W68_b23 W68_b25 W68_b26 W68_b27 W68_b28 W68_l4
def eC (z:Bool) (e:Ex):List AV:=if z then [.int .i64 0,.int .i64 0,.str ⟨#[]⟩,.nils] else encE e
@[simp] theorem eC_len (z:Bool) (e:Ex):(eC z e).length = 4:=by cases z <;> simp [eC]
@[simp] theorem eC_cell (z:Bool) (e:Ex):(∀ c ∈ eC z e,c.cell = true) ↔ True:=by cases z <;> simp [eC]; exact encE_cell e
@[simp] theorem eC_frz (z:Bool) (e:Ex) (H:Heap):(eC z e).foldl frz0 H = H:=by cases z <;> simp [eC]
theorem eC_pur (z:Bool) (e:Ex) (H:Heap) (h:z = true → e = .zero):(eC z e).map (pur0 H) = encE e:=by
 cases z
 ·simp [eC]
 ·rw [h rfl]; simp [eC,Ex.zero,encE_mk]
theorem eC_four (z:Bool) (e:Ex):∃ a b c d,eC z e = [a,b,c,d]:=by
 cases z
 ·exact ⟨_,_,_,_,encE_eq e⟩
 ·exact ⟨_,_,_,_,rfl⟩
def tmc (t:Tm) (z:Bool) (lv:AV):List AV:=.int .i64 t.kind :: .int .i64 t.a :: .int .i64 t.b :: .str t.name :: (eC z t.e ++ [lv])
theorem encT_ap (t:Tm):encT t = .int .i64 t.kind :: .int .i64 t.a :: .int .i64 t.b :: .str t.name :: (encE t.e ++ [.sl (t.l.map encT)]):=by cases t; simp [encT,encTs_map]
@[simp] theorem tmc_len (t:Tm) (z:Bool) (lv:AV):(tmc t z lv).length = 9:=by simp [tmc]
@[simp] theorem rd_tmc8 (t:Tm) (z:Bool) (lv:AV):readA (tmc t z lv) 8 1 false = some lv:=by
 obtain ⟨a,b,c,d,h⟩:=eC_four z t.e
 rw [tmc,h]; rfl
@[simp] theorem set_tmc8 (t:Tm) (z:Bool) (lv x:AV):setL (tmc t z lv) 8 [x] = tmc t z x:=by
 obtain ⟨a,b,c,d,h⟩:=eC_four z t.e
 rw [tmc,tmc,h]; rfl
@[simp] theorem tmc_cell (t:Tm) (z:Bool) (lv:AV):(∀ c ∈ tmc t z lv,c.cell = true) ↔ lv.cell = true:=by
 have:=(eC_cell z t.e).2 trivial
 obtain ⟨a,b,c,d,h⟩:=eC_four z t.e
 rw [h] at this
 rw [tmc,h]
 simp at this ⊢
 simp [this]
def isZ (k:Int):Bool:=!(decide (k = 2) || decide (k = 9))
def lprH (V S D:List ByteArray) (x:Pr) (v3 v4 v5:Nat) (i w:Nat):List (Nat × Blk):=
 (3,.box v3 80 (encPr x)) :: (4,.box v4 35 [.int .i64 0,.int .i64 0,.int .i64 0,.str ⟨#[]⟩,.int .i64 0,.int .i64 0,.str ⟨#[]⟩,.nils,.nils]) ::
  if i = 0 then [(5,.box v5 35 (tmc (lowP0 V S D x.kind x.name x.to x.e []) (isZ x.kind) .nils))]
  else [(5,.box v5 35 (tmc (lowP0 V S D x.kind x.name x.to x.e []) (isZ x.kind) (.ref 114 w .o))),(114,.row w 35 9 ((x.l.take i).map fun y=>encT (lowP V S D y)))]
theorem badPs_mem {V S D:List ByteArray}:∀ {l:List Pr},badPs V S D l = false → ∀ x ∈ l,badP V S D x = false
 | y :: l,h,x,hx=>by
  simp only [badPs,Bool.or_eq_false_iff] at h
  rcases List.mem_cons.1 hx with rfl | hx
  ·exact h.1
  ·exact badPs_mem h.2 x hx
theorem lowP0_l (V S D:List ByteArray) (k:Int) (s t:ByteArray) (e:Ex) (l:List Tm):encT (lowP0 V S D k s t e l) = .int .i64 (lowP0 V S D k s t e []).kind :: .int .i64 (lowP0 V S D k s t e []).a :: .int .i64 (lowP0 V S D k s t e []).b ::
  .str (lowP0 V S D k s t e []).name :: (encE (lowP0 V S D k s t e []).e ++ [.sl (l.map encT)]):=by
 rw [encT_ap]
 unfold lowP0
 repeat' split
 all_goals rfl
theorem lowP0_z (V S D:List ByteArray) (k:Int) (s t:ByteArray) (e:Ex) (h:isZ k = true):(lowP0 V S D k s t e []).e = .zero:=by
 simp [isZ] at h
 unfold lowP0
 repeat' split
 all_goals first | rfl | (exfalso; omega)
theorem sp_lpr_loop (x:Pr) (V S D:List ByteArray) (b:Bool) (hlen:x.l.length ≤ 137438953472) (ih:∀ y ∈ x.l,Am.Spec Tryz.prog 68 [.elt (lwC V S D b) 0,.agg (encPr y)] (.agg (encT (lowP V S D y))))
  (v3 v4 v5:Nat) (T:List (Nat × AV)) (HL:List (Nat × Blk)) (VS:Nat → Nat)
  (hT:Am.subT T [(0,.elt (lwC V S D b) 0),(3,.ref 3 v3 (.p 0)),(4,.ref 4 v4 (.p 0)),(5,.ref 5 v5 (.p 0)),(6,.int .i64 0)]) (hH:subA HL (lprH V S D x v3 v4 v5 0 0)) :
  @sLoop ⟨Am.look T,hls HL VS,noG⟩ ⟨fun L0 s=>W68_l4 (retK Tryz.prog [.cell 4 35] (.agg (encT (lowP V S D x)))) L0 s⟩:=by
 refine sLoop_intro (fun a:Nat × Nat=>a.1 ≤ x.l.length) (fun a=>x.l.length - a.1) (fun a=>[(0,.elt (lwC V S D b) 0),(3,.ref 3 v3 (.p 0)),(4,.ref 4 v4 (.p 0)),(5,.ref 5 v5 (.p 0)),(6,.int .i64 (a.1:Nat))])
  (fun a=>lprH V S D x v3 v4 v5 a.1 a.2) (0,0) (by simp) (by simpa using hT) (by simpa using hH) ?_
 rintro L ⟨i,w⟩ vs hi hL
 simp only at hi hL ⊢
 simp [lprH]
 refine sIf_dec (fun h=>?_) (fun h=>?_)
 ·have hx:=ih x.l[i] (List.getElem_mem h)
  by_cases h0:i = 0
  ·subst h0
   simp [h] at hx ⊢
   refine scall0_pure hx (by simp) (by simp) ?_
   simp
   rw [wrap64 (by omega) (by omega)]
   refine hL _ _ _ (1,vs 114 + 1) (by simp; omega) (by simp; omega) (by simp) ?_
   have ht:x.l.take 1 = [x.l[0]]:=by simpa using List.take_succ_eq_append_getElem h
   simp [lprH,ht]
  ·simp [h,h0]
   refine scall0_pure hx (by simp) (by simp) ?_
   have hl:min i x.l.length = i:=by omega
   simp [hl]
   rw [decide_eq_true (by omega)]
   simp
   rw [wrap64 (by omega) (by omega)]
   refine hL _ _ _ (i + 1,w + 1) (by simp; omega) (by simp; omega) (by simp) ?_
   have ht:=take_map_succ (fun y=>encT (lowP V S D y)) x.l i h
   simp [lprH,ht]
 ·have e:i = x.l.length:=by omega
  subst e
  have hlw:=lowP_eq V S D x
  have q3:=lowP0_l V S D x.kind x.name x.to x.e (x.l.map (lowP V S D))
  rw [← hlw] at q3
  have q4:=fun H=>eC_pur (isZ x.kind) (lowP0 V S D x.kind x.name x.to x.e []).e H (lowP0_z V S D x.kind x.name x.to x.e)
  have ht:(x.l.map fun y=>encT (lowP V S D y)).take x.l.length = x.l.map fun y=>encT (lowP V S D y):=List.take_of_length_le (by simp)
  rw [q3]
  by_cases h0:x.l = []
  ·simp [h0,retW_eq,tmc,q4]
  ·simp [h0,retW_eq,Function.comp_def,ht,tmc,q4]
theorem sp_lpr (x:Pr) (V S D:List ByteArray) (b:Bool) (hw:x.wt ≤ 137438953472) (hV:V.length ≤ 1000) (hS:S.length ≤ 1000) (hD:D.length ≤ 1000) (hb:badP V S D x = false) :
  Am.Spec Tryz.prog 68 [.elt (lwC V S D b) 0,.agg (encPr x)] (.agg (encT (lowP V S D x))):=by
 have hlen:=Pr.wts_len x.l
 have hwt:=x.wt_eq
 rw [badP_eq] at hb
 simp only [Bool.or_eq_false_iff] at hb
 obtain ⟨hb1,hb2⟩:=hb
 have fin:=sp_lpr_loop x V S D b (by omega) (fun y hy=>sp_lpr y V S D b (by have:=Pr.wts_mem hy; omega) hV hS hD (badPs_mem hb2 y hy))
 have cs:x.kind = 1 ∨ x.kind = 2 ∨ (x.kind = 3 ∨ x.kind = 4 ∨ x.kind = 5) ∨ x.kind = 6 ∨ x.kind = 9 ∨ x.kind = 13 ∨ (x.kind ≠ 1 ∧ x.kind ≠ 2 ∧ ¬ (x.kind = 3 ∨ x.kind = 4 ∨ x.kind = 5) ∧ x.kind ≠ 6 ∧ x.kind ≠ 9 ∧ x.kind ≠ 13):=by omega
 refine W68_S (by simp) ?_
 intro vs
 simp
 rcases cs with k | k | k | k | k | k | ⟨k1,k2,k3,k6,k9,k13⟩
 ·simp [k]
  by_cases ht:x.to = ⟨#[]⟩
  ·simp [ht,-W68_l4]
   exact fin (vs 3 + 1) (vs 4 + 1) (vs 5 + 1) _ _ _ (by simp [lwC]) (by simp [lprH,k,lowP0,tmc,isZ,eC,ht])
  ·simp [badP0,k,ht] at hb1
   simp [ht,lwC]
   refine scall0_pure (sp_att V S D V b x.to (by omega) (by omega)) (by simp [lwC]) (by simp) ?_
   simp [-W68_l4]
   exact fin (vs 3 + 1) (vs 4 + 1) (vs 5 + 1) _ _ _ (by simp [lwC]) (by simp [lprH,k,lowP0,tmc,isZ,eC,ht])
 ·simp [badP0,k] at hb1
  simp [k,lwC]
  refine scall0_pure (sp_att V S D V b x.to (by omega) (by omega)) (by simp [lwC]) (by simp) ?_
  simp [-W68_l4]
  refine scall0_pure (sp_lex x.e V S D b (by omega) hV hb1.2) (by simp [lwC]) (by simp) ?_
  simp [-W68_l4]
  exact fin (vs 3 + 1) (vs 4 + 1) (vs 5 + 1) _ _ _ (by simp [lwC]) (by simp [lprH,k,lowP0,tmc,isZ,eC,k])
 ·rcases k with k | k | k
  ·simp [badP0,k] at hb1
   simp [k,lwC]
   refine scall0_pure (sp_att V S D S b x.name (by omega) (by omega)) (by simp [lwC]) (by simp) ?_
   simp [-W68_l4]
   exact fin (vs 3 + 1) (vs 4 + 1) (vs 5 + 1) _ _ _ (by simp [lwC]) (by simp [lprH,k,lowP0,tmc,isZ,eC,k])
  ·simp [badP0,k] at hb1
   simp [k,lwC]
   refine scall0_pure (sp_att V S D S b x.name (by omega) (by omega)) (by simp [lwC]) (by simp) ?_
   simp [-W68_l4]
   exact fin (vs 3 + 1) (vs 4 + 1) (vs 5 + 1) _ _ _ (by simp [lwC]) (by simp [lprH,k,lowP0,tmc,isZ,eC,k])
  ·simp [badP0,k] at hb1
   simp [k,lwC]
   refine scall0_pure (sp_att V S D S b x.name (by omega) (by omega)) (by simp [lwC]) (by simp) ?_
   simp [-W68_l4]
   exact fin (vs 3 + 1) (vs 4 + 1) (vs 5 + 1) _ _ _ (by simp [lwC]) (by simp [lprH,k,lowP0,tmc,isZ,eC,k])
 ·simp [badP0,k] at hb1
  simp [k,lwC]
  refine scall0_pure (sp_att V S D S b x.name (by omega) (by omega)) (by simp [lwC]) (by simp) ?_
  simp [-W68_l4]
  refine scall0_pure (sp_att V S D S b x.to (by omega) (by omega)) (by simp [lwC]) (by simp) ?_
  simp [-W68_l4]
  exact fin (vs 3 + 1) (vs 4 + 1) (vs 5 + 1) _ _ _ (by simp [lwC]) (by simp [lprH,k,lowP0,tmc,isZ,eC,k])
 ·simp [badP0,k] at hb1
  simp [k]
  refine scall_pure (sp_lex x.e V S D b (by omega) hV hb1) (by simp) (by simp) ?_
  simp [-W68_l4]
  exact fin (vs 3 + 1) (vs 4 + 1) (vs 5 + 1) _ _ _ (by simp [lwC]) (by simp [lprH,k,lowP0,tmc,isZ,eC,k])
 ·simp [badP0,k] at hb1
  simp [k,lwC]
  refine scall0_pure (sp_att V S D D b x.name (by omega) (by omega)) (by simp [lwC]) (by simp) ?_
  simp [-W68_l4]
  exact fin (vs 3 + 1) (vs 4 + 1) (vs 5 + 1) _ _ _ (by simp [lwC]) (by simp [lprH,k,lowP0,tmc,isZ,eC,k])
 ·simp [k1,k2,k6,k9,k13,show ¬ x.kind = 3 by omega,show ¬ x.kind = 4 by omega,show ¬ x.kind = 5 by omega,-W68_l4]
  exact fin (vs 3 + 1) (vs 4 + 1) (vs 5 + 1) _ _ _ (by simp) (by simp [lprH,k1,k2,k3,k6,k9,k13,lowP0,tmc,isZ,eC])
termination_by SizeOf.sizeOf x
decreasing_by exact Pr.lt_of_mem hy
end Go.Proofs.YtnngddgaobhkiaaGreat
namespace Go.Proofs.YtnngddgaobhkiaaGreat
open Go Go.Am Go.RowKit
attribute [local simp] W69 W69_rs W69_k1 W69_k6 W69_k7 W69_k8 W69_b2 W69_b3 W69_b4 W69_b25 W69_b27 W69_b29 W69_l5 W69_l26 W69_l28 W69_l30
theorem sp_rnd (p:Prog) (hv:p.vars.length ≤ 1000) (hn:p.procs.length = 5) (hok:∀ d ∈ p.procs,d.body.okS = true ∧ d.body.wt ≤ 137438953472):Am.Spec Tryz.prog 69 [.agg (encProg p)] (.bool p.round):=by
 have hfl:p.fronts.length = 5:=by simp [Prog.fronts,hn]
 have hM:okM p.fronts:=by
  refine ⟨hfl,fun q hq=>?_⟩
  rw [List.getD_eq_getElem?_getD,List.getElem?_eq_getElem (by omega)]
  simp [Prog.fronts,Pr.front_len,hn]
 refine W69_S (by simp) ?_
 intro vs
 simp
 refine scall_heap [] [(36,36),(1000,1000),(1001,1001),(1002,1002),(1003,1003),(1004,1004)] (hs_fro p hv hn hok) (by simp) (by simp) (by simp) ?_
 rintro r l' VS' ⟨w,l,hf,hr,hl'⟩
 obtain ⟨⟨a,ra⟩,⟨b,rb'⟩,⟨c,rc⟩,⟨d,rd⟩,⟨e,re⟩,rfl⟩:∃ x0 x1 x2 x3 x4,l = [x0,x1,x2,x3,x4]:=by
  have:=congrArg List.length hf
  rw [hfl] at this
  rcases l with _ | ⟨x0,_ | ⟨x1,_ | ⟨x2,_ | ⟨x3,_ | ⟨x4,_ | ⟨x5,l⟩⟩⟩⟩⟩⟩ <;> simp at this
  exact ⟨_,_,_,_,_,rfl⟩
 rw [hr,hl']
 refine ⟨by simp [grid,gb,gr],?_⟩
 have hpr:p.round = diagF (rdK 5 5 p.fronts) 5:=by unfold Prog.round; rw [hn]
 rw [hpr]
 simp at hf
 simp [-W69_l30,grid,gb,gr]
 refine sLoop_intro (fun k=>k ≤ 5) (fun k=>5 - k) (fun k=>[(3,.ref 36 w .o),(4,.int .i64 5),(5,.int .i64 (k:Nat))]) (fun k=>rndH (vs 1 + 1) w p ⟨a,b,c,d,e⟩ (rdK 5 k p.fronts)) 0 (by simp) (by simp) (by simp [rndH,rdK,← hf]) ?_
 intro L k vt hk hL
 by_cases h:k < 5
 ·have h':(k:Int) < 5:=by omega
  have hm:=okM_rdK hM 5 (by omega) k
  have hL3:=fun T H vs=>hL T H vs (k + 1) h (by omega)
  rw [show rdK 5 (k + 1) p.fronts = rdI 5 k 5 (rdK 5 k p.fronts) from rfl] at hL3
  generalize rdK 5 k p.fronts = M' at *
  simp [-W69_l28,h']
  exact rnd_i (vs 1 + 1) w p ⟨a,b,c,d,e⟩ M' hm k h _ L hL3 _ _ _ (by simp) (by simp [rndH])
 ·have e:k = 5:=by omega
  subst e
  have hm:=okM_rdK hM 5 (by omega) 5
  generalize rdK 5 5 p.fronts = M' at *
  simp [-W69_l5]
  exact rnd_end (vs 1 + 1) w p ⟨a,b,c,d,e⟩ M' hm _ _ _ (by simp) (by simp [rndH])
end Go.Proofs.YtnngddgaobhkiaaGreat
namespace Go.Proofs.YtnngddgaobhkiaaGreat
open Go Go.Am Go.RowKit
attribute [local simp] W30 W30_rs W30_b1 W30_b2 W30_b3 W30_b4 W30_b5 W30_b6 W30_b8 W30_b9 W30_b12 W30_b15 W30_b18 W30_b26 W30_k10 W30_k14 W30_l13 W30_l16
def pvs (p:Prog):List Int:=p.vars.map (·.2)
def lowTs (v1 v2 v6 v7:Nat):List (Nat × AV):=[(1,.ref 1 v1 (.p 0)),(2,.ref 2 v2 (.p 0)),(6,.ref 49 v6 (.p 0)),(7,.ref 7 v7 (.p 0))]
@[simp] theorem encI_nil:encI [] = []:=rfl
theorem encI_ne {l:List Int} (h:l ≠ []):encI l ≠ []:=by simpa [encI] using h
def lowHv (p:Prog) (v1 v2 v6 v7:Nat) (V:List Int) (w:Nat):List (Nat × Blk):=
 [(1,.box v1 76 (encProg p)),(2,.box v2 29 [.nils,.int .i64 0,.nils,.int .i64 0]),(49,.box v6 118 (lwC p.V p.stacks p.D false)),
  (7,.box v7 29 [rv 72 w (encI V),.int .i64 (p.stacks.length:Nat),.nils,.int .i64 0])] ++ rb 72 w 3 1 (encI V)
def ppr (p:Prog):List Tm:=p.procs.map fun d=>lowP p.V p.stacks p.D d.body
def lowHp (p:Prog) (v1 v2 v6 v7 w w2 j:Nat):List (Nat × Blk):=
 [(1,.box v1 76 (encProg p)),(2,.box v2 29 [.nils,.int .i64 0,.nils,.int .i64 0]),(49,if j = 0 then .box v6 118 (lwC p.V p.stacks p.D false) else .fbox v6 (lwC p.V p.stacks p.D false)),
  (7,.box v7 29 [.ref 72 w .o,.int .i64 (p.stacks.length:Nat),rv 92 w2 (((ppr p).take j).map encT),.int .i64 0]),(72,.row w 3 1 (encI (pvs p)))] ++ rb 92 w2 35 9 (((ppr p).take j).map encT)
theorem low_procs (p:Prog) (hv:p.vars.length ≤ 20) (hn:p.procs.length = 5) (hok:∀ d ∈ p.procs,d.body.okS = true ∧ d.body.wt ≤ 137438953472) (hs:p.stacks.length ≤ 10)
  (hb:∀ d ∈ p.procs,badP p.V p.stacks p.D d.body = false) (hm:idxB p.D ⟨#[109,97,105,110]⟩ = 0) (v1 v2 v6 v7 w:Nat) (T:List (Nat × AV)) (HL:List (Nat × Blk)) (VS:Nat → Nat)
  (hT:Am.subT T (lowTs v1 v2 v6 v7 ++ [(9,.int .i64 0)])) (hH:subA HL (lowHp p v1 v2 v6 v7 w 0 0)) :
  @sLoop ⟨Am.look T,hls HL VS,noG⟩ ⟨fun L0 s=>W30_l13 (retK Tryz.prog [.cell 2 29,.tmp 3] (.tup [.agg (encC (if p.round then .zero else p.core)),.int .i64 (if p.round then 7 else 0)])) L0 s⟩:=by
 have lV:p.V.length = p.vars.length:=by simp [Prog.V]
 have lD:p.D.length = 5:=by simp [Prog.D,hn]
 have lp:(ppr p).length = 5:=by simp [ppr,hn]
 refine sLoop_intro (fun a:Nat × Nat=>a.1 ≤ p.procs.length) (fun a=>p.procs.length - a.1) (fun a=>lowTs v1 v2 v6 v7 ++ [(9,.int .i64 (a.1:Nat))])
  (fun a=>lowHp p v1 v2 v6 v7 w a.2 a.1) (0,0) (by simp) (by simpa using hT) (by simpa using hH) ?_
 clear hT hH
 rintro L ⟨i,w2⟩ vt hi hL
 simp only at hi hL ⊢
 by_cases h:i < p.procs.length
 ·have h':(i:Int) < p.procs.length:=by omega
  have ht:(ppr p).take (i + 1) = (ppr p).take i ++ [lowP p.V p.stacks p.D p.procs[i].body]:=take_map_succ (fun d:Dfn=>lowP p.V p.stacks p.D d.body) p.procs i h
  have hspec:=sp_lpr p.procs[i].body p.V p.stacks p.D false (hok _ (List.getElem_mem h)).2 (by omega) (by omega) (by omega) (hb _ (List.getElem_mem h))
  by_cases h0:i = 0
  ·subst h0
   simp [lowTs,lowHp,h,h',encProg,lwC]
   refine scall0_pureB hspec (by simp [lwC]) (by simp) ?_
   simp [encProg,lwC]
   rw [wrap64 (by omega) (by omega)]
   refine hL _ _ _ (1,vt 92 + 1) (by simp; omega) (by simp; omega) ?_ ?_
   ·simp [lowTs]
   ·show subA _ (lowHp p _ _ _ _ _ _ (0 + 1)); unfold lowHp; rw [ht]; simp [encProg,lwC,rb,rv,encI]
  ·have hne:((ppr p).take i).map encT ≠ []:=by
    intro e
    have:=congrArg List.length e
    rw [List.length_map,List.length_take,List.length_nil,lp] at this
    omega
   rw [List.map_take] at hne
   have hmin:min i (ppr p).length = i:=by omega
   simp [lowTs,lowHp,h,h',h0,encProg,lwC,rv_ne hne,rb_ne hne]
   refine scall0_pureB hspec (by simp [lwC]) (by simp) ?_
   simp [encProg,lwC]
   rw [hmin,decide_eq_true (by omega)]
   simp
   rw [wrap64 (by omega) (by omega)]
   refine hL _ _ _ (i + 1,w2 + 1) (by simp; omega) (by simp; omega) ?_ ?_
   ·simp [lowTs]
   ·show subA _ (lowHp p _ _ _ _ _ _ (i + 1)); unfold lowHp; rw [ht]; simp [encProg,lwC,rb,rv,encI]
 ·have h':¬ (i:Int) < p.procs.length:=by omega
  have e:(ppr p).take i = (ppr p):=List.take_of_length_le (by omega)
  have h0:i ≠ 0:=by omega
  have hne:(ppr p).map encT ≠ []:=by
   intro e
   have:=congrArg List.length e
   rw [List.length_map,List.length_nil,lp] at this
   omega
  simp [h,h',h0,lowTs,lowHp,encProg,lwC,e,rv_ne hne,rb_ne hne]
  refine scall_pure (sp_rnd p (by omega) hn hok) (by simp [encProg]) (by simp [encProg]) ?_
  cases hr:p.round
  ·simp [retW_eq,encC,Prog.core,ppr,pvs,hm]
  ·simp [retW_eq,encC,Cor.zero]
theorem sp_low (p:Prog) (hv:p.vars.length ≤ 20) (hv0:p.vars ≠ []) (hs:p.stacks.length ≤ 10) (hn:p.procs.length = 5) (hok:∀ d ∈ p.procs,d.body.okS = true ∧ d.body.wt ≤ 137438953472)
  (t1:twB p.V = false) (t2:twB p.stacks = false) (t3:twB p.D = false) (hb:∀ d ∈ p.procs,badP p.V p.stacks p.D d.body = false) (hm:idxB p.D ⟨#[109,97,105,110]⟩ = 0) :
  Am.Spec Tryz.prog 30 [.agg (encProg p)] (.tup [.agg (encC (if p.round then .zero else p.core)),.int .i64 (if p.round then 7 else 0)]):=by
 have lV:p.V.length = p.vars.length:=by simp [Prog.V]
 have lv:(pvs p).length = p.vars.length:=by simp [pvs]
 have lD:p.D.length = 5:=by simp [Prog.D,hn]
 have e1:¬ (20:Int) < p.vars.length:=by omega
 have e2:¬ (10:Int) < p.stacks.length:=by omega
 have e3:¬ (20:Int) < p.procs.length:=by omega
 refine W30_S (by simp) ?_
 intro vs
 simp [encProg,e1,e2,e3]
 refine scall_pure (sp_nms p (by omega) (by omega)) (by simp [encProg]) (by simp [encProg]) ?_
 simp [encProg,e1,e2,e3]
 refine scall_pure (sp_twc p.V (by omega)) (by simp) (by simp) ?_
 simp [encProg,t1]
 refine scall_pure (sp_twc p.stacks (by omega)) (by simp) (by simp) ?_
 simp [encProg,t2]
 refine scall_pure (sp_twc p.D (by omega)) (by simp) (by simp) ?_
 simp [encProg,t3]
 refine scall0_pure (sp_fnd p.D ⟨#[109,97,105,110]⟩ (by omega)) (by simp) (by simp) ?_
 simp [encProg,hm]
 refine sLoop_intro (fun a:Nat × Nat=>a.1 ≤ p.vars.length) (fun a=>p.vars.length - a.1) (fun a=>lowTs (vs 1 + 1) (vs 2 + 1) (vs 49 + 1) (vs 7 + 1) ++ [(8,.int .i64 (a.1:Nat))])
  (fun a=>lowHv p (vs 1 + 1) (vs 2 + 1) (vs 49 + 1) (vs 7 + 1) ((pvs p).take a.1) a.2) (0,0) (by simp) (by simp [lowTs]) (by simp [lowHv,encProg,lwC]) ?_
 rintro L ⟨i,w⟩ vt hi hL
 simp only at hi hL ⊢
 by_cases h:i < p.vars.length
 ·have h':(i:Int) < p.vars.length:=by omega
  have ht:(pvs p).take (i + 1) = (pvs p).take i ++ [p.vars[i].2]:=take_map_succ (fun x:ByteArray × Int=>x.2) p.vars i h
  by_cases h0:i = 0
  ·subst h0
   simp [lowTs,lowHv,h,h',encProg,lwC]
   rw [wrap64 (by omega) (by omega)]
   refine hL _ _ _ (1,vt 72 + 1) (by simp; omega) (by simp; omega) ?_ ?_
   ·simp [lowTs]
   ·show subA _ (lowHv p _ _ _ _ ((pvs p).take (0 + 1)) _); rw [ht]; simp [lowHv,encProg,lwC,rb,rv,encI]
  ·have hne:(pvs p).take i ≠ []:=by
    intro e
    have:=congrArg List.length e
    rw [List.length_take,List.length_nil,lv] at this
    omega
   have hmin:min i (pvs p).length = i:=by omega
   simp [lowTs,lowHv,h,h',encProg,lwC,rv_ne (encI_ne hne),rb_ne (encI_ne hne)]
   rw [hmin,decide_eq_true (by omega)]
   simp
   rw [wrap64 (by omega) (by omega)]
   refine hL _ _ _ (i + 1,w + 1) (by simp; omega) (by simp; omega) ?_ ?_
   ·simp [lowTs]
   ·show subA _ (lowHv p _ _ _ _ ((pvs p).take (i + 1)) _); rw [ht]; simp [lowHv,encProg,lwC,rb,rv,encI]
 ·have h':¬ (i:Int) < p.vars.length:=by omega
  have e:(pvs p).take i = (pvs p):=List.take_of_length_le (by omega)
  rw [e]
  have hne:pvs p ≠ []:=fun e=>by have:=congrArg List.length e; rw [lv] at this; exact hv0 (List.eq_nil_of_length_eq_zero (by simpa using this))
  simp [h,h',lowTs,lowHv,encProg,lwC,rv_ne (encI_ne hne),rb_ne (encI_ne hne),-W30_l13]
  exact low_procs p hv hn hok hs hb hm (vs 1 + 1) (vs 2 + 1) (vs 49 + 1) (vs 7 + 1) w _ _ _ (by simp [lowTs]) (by simp [lowHp,encProg,lwC])
end Go.Proofs.YtnngddgaobhkiaaGreat
